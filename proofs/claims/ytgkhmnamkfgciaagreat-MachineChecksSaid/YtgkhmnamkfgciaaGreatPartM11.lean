/- Contracts of the program, part 11. -/
import Derived.Deep.AppendLies
import Derived.Deep.DeepMust
import Derived.OwnWalk
import Derived.Laws.AppendOwn
import Derived.ProofKit
import Derived.OpenShut
import Derived.Deep.Slices
import Derived.ChangeOld
import Derived.SizedLaws
import Derived.WalkKit
import Derived.WalkSpells
import Derived.WalkLawsBesides
import Derived.Lib.Hide
import Derived.Deep.QuietTactic
import Derived.BigQuiet
import Derived.Below
import Derived.Deep.Draws
import Derived.StillTailTactics
import Derived.Laws.Cells
import Derived.Laws.IdiomCopy
import Derived.Test.YtgkhmnamkfgciaaGreatRows
import Derived.Lib.Walk
import Derived.Laws.EntriesVeiled
import Derived.Maps.Own
import Derived.Maps.Views
import Derived.Deep.Upon
import Derived.OneCell
import Derived.OrdersHeld
import Derived.Deep.RegionHeld3
import Derived.IntWalk
import Derived.Lib.Bytealg
import Derived.Lib.SliceRun
import Derived.Deep.RegionLaw
import Derived.Lib.AppendZerosOnto
import Derived.Lib.Overlaps
import Derived.Shelf.SlSortCmp.WholeK
import Derived.Laws.StructEq
import Derived.DeepKeys3
import Derived.ChangeKeys
import Derived.WideKeyEntry
import Derived.Test.YtgkhmnamkfgciaaGreatPartM1
import Derived.Test.YtgkhmnamkfgciaaGreatPartM2
import Derived.Test.YtgkhmnamkfgciaaGreatPartM3
import Derived.Test.YtgkhmnamkfgciaaGreatPartM4
import Derived.Test.YtgkhmnamkfgciaaGreatPartM5
import Derived.Test.YtgkhmnamkfgciaaGreatPartM6
import Derived.Test.YtgkhmnamkfgciaaGreatPartM7
import Derived.Test.YtgkhmnamkfgciaaGreatPartM8
import Derived.Test.YtgkhmnamkfgciaaGreatPartM9
import Derived.Test.YtgkhmnamkfgciaaGreatPartM10
namespace Go.Proofs.YtgkhmnamkfgciaaGreat
open Go.RowKit Go.Deep
set_option maxRecDepth 100000
set_option linter.unusedVariables false
theorem RowAt.up {w : World} {b : Nat} {xs : List Value} {o : Obj} (h : RowAt w b xs) : RowAt (w.alloc o) b xs := h.aft ((Aft.refl _).alloc o)
theorem box_at {w W : World} {c : List Value} {t : TypeId} {b : Nat} (h : Aft (w.alloc (.cells c.toArray t)) W) (hb : b = w.heap.size) : RowAt W b c := hb ▸ box_row2 h
theorem rowF5 {w : World} {p : Nat} {a b c d e : Value} (h : RowAt w p [a, b, c, d, e]) : w.cell? ⟨p, 0, none⟩ = some a ∧ w.cell? ⟨p, 1, none⟩ = some b ∧ w.cell? ⟨p, 2, none⟩ = some c ∧ w.cell? ⟨p, 3, none⟩ = some d ∧ w.cell? ⟨p, 4, none⟩ = some e ∧ p < w.heap.size := ⟨h.cell (j := 0) rfl, h.cell (j := 1) rfl, h.cell (j := 2) rfl, h.cell (j := 3) rfl, h.cell (j := 4) rfl, h.1⟩
theorem rowF6 {w : World} {p : Nat} {a b c d e f : Value} (h : RowAt w p [a, b, c, d, e, f]) : w.cell? ⟨p, 0, none⟩ = some a ∧ w.cell? ⟨p, 1, none⟩ = some b ∧ w.cell? ⟨p, 2, none⟩ = some c ∧ w.cell? ⟨p, 3, none⟩ = some d ∧ w.cell? ⟨p, 4, none⟩ = some e ∧ w.cell? ⟨p, 5, none⟩ = some f ∧ p < w.heap.size := ⟨h.cell (j := 0) rfl, h.cell (j := 1) rfl, h.cell (j := 2) rfl, h.cell (j := 3) rfl, h.cell (j := 4) rfl, h.cell (j := 5) rfl, h.1⟩
theorem rowF7 {w : World} {p : Nat} {a b c d e f g : Value} (h : RowAt w p [a, b, c, d, e, f, g]) : w.cell? ⟨p, 0, none⟩ = some a ∧ w.cell? ⟨p, 1, none⟩ = some b ∧ w.cell? ⟨p, 2, none⟩ = some c ∧ w.cell? ⟨p, 3, none⟩ = some d ∧ w.cell? ⟨p, 4, none⟩ = some e ∧ w.cell? ⟨p, 5, none⟩ = some f ∧ w.cell? ⟨p, 6, none⟩ = some g ∧ p < w.heap.size := ⟨h.cell (j := 0) rfl, h.cell (j := 1) rfl, h.cell (j := 2) rfl, h.cell (j := 3) rfl, h.cell (j := 4) rfl, h.cell (j := 5) rfl, h.cell (j := 6) rfl, h.1⟩
structure CatAt (w : World) (c : Cat) (As : Option Addr) (caps : Nat) (At : Option Addr) (capt : Nat) (An : Option Addr) (capn : Nat) (Am : Option Addr) (capm : Nat) (Ag : Option Addr) (capg : Nat) : Prop where
  sch : SlAt w 2 SchR As caps c.objs.schemas
  tab : SlAt w 5 TabR At capt c.objs.tables
  nam : SlAt w 1 StrR An capn c.rols.names
  mem : SlAt w 2 MbrR Am capm c.rols.members
  gra : SlAt w 6 GraR Ag capg c.grants
theorem CatAt.aft {w w' : World} {c : Cat} {As : Option Addr} {caps : Nat} {At : Option Addr} {capt : Nat} {An : Option Addr} {capn : Nat} {Am : Option Addr} {capm : Nat} {Ag : Option Addr} {capg : Nat} (h : CatAt w c As caps At capt An capn Am capm Ag capg) (a : Aft w w') : CatAt w' c As caps At capt An capn Am capm Ag capg :=
  ⟨schs_aft a h.sch, tabs_aft a h.tab, strs_aft a h.nam, mbrs_aft a h.mem, gras_aft a h.gra⟩
theorem tabF_none {o : Objs} {s n : ByteArray} (h : tabAt o.tables s n < 0) : tabF o s n = zeroT := by unfold tabF; rw [if_pos h]
theorem tabF_some {o : Objs} {s n : ByteArray} {q : Nat} (hi : tabAt o.tables s n = q) (hq : q < o.tables.length) : tabF o s n = o.tables[q] := by
  unfold tabF
  rw [if_neg (by omega), hi]
  simp [List.getElem?_eq_getElem hq]
def TabP (w : World) (o : Objs) (s n : ByteArray) (e : Ending) (w' : World) : Prop :=
  ∃ (A2 : Option Addr) (c2 : Nat) (A3 : Option Addr) (c3 : Nat), e = .returned (.tuple #[.agg #[.string (tabF o s n).schema, .string (tabF o s n).name, .string (tabF o s n).owner, .slice A2 (tabF o s n).cols.length c2, .slice A3 (tabF o s n).rules.length c3], .bool (decide (0 ≤ tabAt o.tables s n))]) ∧ Aft w w'
set_option maxHeartbeats 1000000 in
theorem table1 (schema name owner : ByteArray) (A0 : Option Addr) (n0 c0 : Nat) (A1 : Option Addr) (n1 c1 : Nat) (s n : ByteArray) (b1 b2 : Nat) (w : World) (hb1 : b1 < w.heap.size) (hb2 : b2 < w.heap.size) (hc1 : w.cell? ⟨b1, 0, none⟩ = some (.string s)) (hc2 : w.cell? ⟨b2, 0, none⟩ = some (.string n)) :
    Calls Tryz.prog 128 #[.agg #[.string schema, .string name, .string owner, .slice A0 n0 c0, .slice A1 n1 c1], .pointer (some ⟨b1, 0, none⟩), .pointer (some ⟨b2, 0, none⟩)] w fun e w' => e = .returned (.bool (eqS schema s && eqS name n)) ∧ Aft w w' := by
  cases h1 : eqS schema s
  · have h1' : (schema.toList == s.toList) = false := h1
    clear h1
    go_enter Tryz.func128, Tryz.ntmps128
    go_wp2_with fail
    go_ret
    exact ⟨rfl, (Aft.refl _).alloc _⟩
  · have h1' : (schema.toList == s.toList) = true := h1
    clear h1
    go_enter Tryz.func128, Tryz.ntmps128
    go_wp2_with fail
    go_ret
    exact ⟨rfl, (Aft.refl _).alloc _⟩
set_option maxHeartbeats 4000000 in
theorem tableG (c : Cat) (As : Option Addr) (caps : Nat) (At : Option Addr) (capt : Nat) (An : Option Addr) (capn : Nat) (Am : Option Addr) (capm : Nat) (Ag : Option Addr) (capg : Nat) (s n : ByteArray) (w : World) (htab : SlAt w 5 TabR At capt c.objs.tables) :
    Calls Tryz.prog 73 #[.agg #[.int .i64 c.epoch, .int .i64 c.version, .slice As c.objs.schemas.length caps, .slice At c.objs.tables.length capt, .slice An c.rols.names.length capn, .slice Am c.rols.members.length capm, .slice Ag c.grants.length capg], .string s, .string n] w (TabP w c.objs s n) := by
  have hlen2 := htab.len
  have hent := enters (P := Tryz.prog) Tryz.func128 (by kernel_rfl) rfl
  obtain ⟨W, hW⟩ : ∃ W, W = (((w.alloc (.cells #[.int .i64 c.epoch, .int .i64 c.version, .slice As c.objs.schemas.length caps, .slice At c.objs.tables.length capt, .slice An c.rols.names.length capn, .slice Am c.rols.members.length capm, .slice Ag c.grants.length capg] 32)).alloc (.cells #[.string s] 9)).alloc (.cells #[.string n] 9)).alloc (.cells #[.string ⟨#[]⟩, .string ⟨#[]⟩, .string ⟨#[]⟩, .slice none 0 0, .slice none 0 0] 86) := ⟨_, rfl⟩
  have aW : Aft w W := by rw [hW]; exact ((((Aft.refl w).alloc _).alloc _).alloc _).alloc _
  have r0 : RowAt W (w.heap.size) [.int .i64 c.epoch, .int .i64 c.version, .slice As c.objs.schemas.length caps, .slice At c.objs.tables.length capt, .slice An c.rols.names.length capn, .slice Am c.rols.members.length capm, .slice Ag c.grants.length capg] := by rw [hW]; exact RowAt.up (RowAt.up (RowAt.up (box_at (Aft.refl _) (by simp))))
  have r1 : RowAt W (w.heap.size + 1) [.string s] := by rw [hW]; exact RowAt.up (RowAt.up (box_at (Aft.refl _) (by simp)))
  have r2 : RowAt W (w.heap.size + 1 + 1) [.string n] := by rw [hW]; exact RowAt.up (box_at (Aft.refl _) (by simp))
  have r3 : RowAt W (w.heap.size + 1 + 1 + 1) [.string ⟨#[]⟩, .string ⟨#[]⟩, .string ⟨#[]⟩, .slice none 0 0, .slice none 0 0] := by rw [hW]; exact box_at (Aft.refl _) (by simp)
  obtain ⟨i, hi⟩ : ∃ i, tabAt c.objs.tables s n = i := ⟨_, rfl⟩
  have hir : -1 ≤ i ∧ i < c.objs.tables.length := by rw [← hi]; exact idxP_range _ _
  have CI := Lib.hid (show ∀ w', Aft W w' → Calls Tryz.prog 127 #[.slice At c.objs.tables.length capt, .func (.func 128) #[] #[.pointer (some ⟨w.heap.size + 1, 0, none⟩), .pointer (some ⟨w.heap.size + 1 + 1, 0, none⟩)]] w' fun e w'' => e = .returned (.int .i64 i) ∧ Aft w' w'' from
    fun w' a => (idxTab At capt c.objs.tables 128 #[.pointer (some ⟨w.heap.size + 1, 0, none⟩), .pointer (some ⟨w.heap.size + 1 + 1, 0, none⟩)] (fun t => eqS t.schema s && eqS t.name n) w' (tabs_aft (aW.trans a) htab) hent (fun w'' b j hj e1 he => by
      obtain ⟨A2, cap2, A3, cap3, rfl, _⟩ := he
      have p1 := r1.aft (a.trans b)
      have p2 := r2.aft (a.trans b)
      exact table1 _ _ _ A2 _ cap2 A3 _ cap3 s n _ _ w'' p1.1 p2.1 (p1.cell (j := 0) rfl) (p2.cell (j := 0) rfl))).mono fun e w'' ⟨he, hw⟩ => ⟨he.trans (by rw [← hi]; rfl), hw⟩)
  have HI := Lib.hid hi
  have HT := Lib.hid htab
  have HAW := Lib.hid aW
  have HR0 := Lib.hid r0
  have HR3 := Lib.hid r3
  clear hi htab r0 r1 r2 r3 aW
  go_enter Tryz.func73, Tryz.ntmps73
  go_wp2_with fail
  rw [← hW]
  clear hW
  refine (CI.out W (Aft.refl W)).mono ?_
  rintro e w1 ⟨rfl, a1⟩
  have b3 := HR3.out.aft a1
  have d0 := b3.cell (j := 0) rfl
  have d1 := b3.cell (j := 1) rfl
  have d2 := b3.cell (j := 2) rfl
  have d3 := b3.cell (j := 3) rfl
  have d4 := b3.cell (j := 4) rfl
  have f0 := b3.2.2 0 (by simp)
  have f1 := b3.2.2 1 (by simp)
  have f2 := b3.2.2 2 (by simp)
  have f3 := b3.2.2 3 (by simp)
  have f4 := b3.2.2 4 (by simp)
  have z3 := b3.1
  have b0 := HR0.out.aft a1
  have c3 := b0.cell (j := 3) rfl
  have z0 := b0.1
  have HA1 := Lib.hid (HAW.out.trans a1)
  have HB3 := Lib.hid b3
  clear a1 b3 b0 CI
  by_cases h0 : 0 ≤ i
  · obtain ⟨q, rfl⟩ := Int.eq_ofNat_of_zero_le h0
    have hq : q < c.objs.tables.length := by omega
    obtain ⟨b, off, A2, cap2, A3, cap3, rfl, hb, t0, t1, t2, t3, t4, hcols, hruls, hss⟩ := tab_at (tabs_aft HA1.out HT.out) hq
    have HE := Lib.hid (tabF_some HI.out hq)
    obtain ⟨p, hp⟩ : ∃ p, c.objs.tables[q] = p := ⟨_, rfl⟩
    rw [hp] at t0 t1 t2 t3 t4 HE
    clear hp hcols hruls hss h0 hir
    go_wp2_with fail
    refine bodyPost_ret (results_cell_tmp (v := .agg #[.string p.schema, .string p.name, .string p.owner, .slice A2 p.cols.length cap2, .slice A3 p.rules.length cap3]) rfl _ rfl ?hl) rfl ?_
    case hl => exact lvTab_row (setT_row HB3.out rfl _ _ _ _ _)
    exact ⟨A2, cap2, A3, cap3, by rw [HE.out, HI.out]; simp, (setT_kb _ _ _ _ _ _ _).to_aft HA1.out (fun g hg e => by omega)⟩
  · have HE := Lib.hid (tabF_none (o := c.objs) (s := s) (n := n) (by rw [HI.out]; omega))
    have HD := Lib.hid (show decide (0 ≤ i) = false from decide_eq_false h0)
    have h0' : i < 0 := by omega
    clear h0 hir
    go_wp2_with fail
    refine bodyPost_ret (results_cell_tmp (v := .agg #[.string ⟨#[]⟩, .string ⟨#[]⟩, .string ⟨#[]⟩, .slice none 0 0, .slice none 0 0]) rfl _ rfl ?hl) rfl ?_
    case hl => exact lvTab_row (setT_row HB3.out rfl _ _ _ _ _)
    exact ⟨none, 0, none, 0, by rw [HE.out, HI.out, HD.out]; rfl, (setT_kb _ _ _ _ _ _ _).to_aft HA1.out (fun g hg e => by omega)⟩
set_option maxHeartbeats 1000000 in
theorem owners1 (An : Option Addr) (capn : Nat) (names : List ByteArray) (v0 v1 : Value) (owner : ByteArray) (v3 v4 : Value) (b0 : Nat) (w : World) (hb0 : b0 < w.heap.size) (hc0 : w.cell? ⟨b0, 4, none⟩ = some (.slice An names.length capn)) (hn : SlAt w 1 StrR An capn names) (s0 s1 : ByteArray) (A2 : Option Addr) (n2 c2 : Nat) (A3 : Option Addr) (n3 c3 : Nat) (e0 : v0 = .string s0) (e1 : v1 = .string s1) (e3 : v3 = .slice A2 n2 c2) (e4 : v4 = .slice A3 n3 c3) :
    Calls Tryz.prog 261 #[.agg #[v0, v1, .string owner, v3, v4], .pointer (some ⟨b0, 0, none⟩)] w fun e w' => e = .returned (.bool (!inB names owner)) ∧ Aft w w' := by
  subst e0 e1 e3 e4
  obtain ⟨i, hi⟩ : ∃ i, inB names owner = i := ⟨_, rfl⟩
  have C := Lib.hid (show ∀ w', Aft w w' → Calls Tryz.prog 54 #[.slice An names.length capn, .string owner] w' fun e w'' => e = .returned (.bool i) ∧ w' = w'' from fun w' a => hi ▸ scont8 An capn names owner w' (strs_aft a hn))
  rw [hi]
  clear hi hn
  go_enter Tryz.func261, Tryz.ntmps261
  go_wp2_with fail
  refine (C.out _ ((Aft.refl w).alloc _)).mono ?_
  rintro e w1 ⟨rfl, rfl⟩
  go_wp2_with fail
  go_ret
  exact ⟨rfl, (Aft.refl _).alloc _⟩
set_option maxHeartbeats 4000000 in
theorem ownersG (c : Cat) (As : Option Addr) (caps : Nat) (At : Option Addr) (capt : Nat) (An : Option Addr) (capn : Nat) (Am : Option Addr) (capm : Nat) (Ag : Option Addr) (capg : Nat) (w : World) (H : CatAt w c As caps At capt An capn Am capm Ag capg) :
    Calls Tryz.prog 170 #[.agg #[.int .i64 c.epoch, .int .i64 c.version, .slice As c.objs.schemas.length caps, .slice At c.objs.tables.length capt, .slice An c.rols.names.length capn, .slice Am c.rols.members.length capm, .slice Ag c.grants.length capg]] w fun e w' => e = .returned (.bool (ownersB c)) ∧ Aft w w' := by
  have hlen := H.sch.len
  have hent := enters (P := Tryz.prog) Tryz.func261 (by kernel_rfl) rfl
  obtain ⟨W, hW⟩ : ∃ W, W = w.alloc (.cells #[.int .i64 c.epoch, .int .i64 c.version, .slice As c.objs.schemas.length caps, .slice At c.objs.tables.length capt, .slice An c.rols.names.length capn, .slice Am c.rols.members.length capm, .slice Ag c.grants.length capg] 32) := ⟨_, rfl⟩
  have aW : Aft w W := by rw [hW]; exact (Aft.refl w).alloc _
  have r0 : RowAt W (w.heap.size) [.int .i64 c.epoch, .int .i64 c.version, .slice As c.objs.schemas.length caps, .slice At c.objs.tables.length capt, .slice An c.rols.names.length capn, .slice Am c.rols.members.length capm, .slice Ag c.grants.length capg] := by rw [hW]; exact box_at (Aft.refl _) (by simp)
  have HN := Lib.hid (show ∀ w', Aft W w' → ∀ s, Calls Tryz.prog 54 #[.slice An c.rols.names.length capn, .string s] w' fun e w'' => e = .returned (.bool (inB c.rols.names s)) ∧ w' = w'' from fun w' a s => scont8 An capn c.rols.names s w' (strs_aft (aW.trans a) H.nam))
  obtain ⟨q, hq⟩ : ∃ q, c.objs.tables.any (fun t => !inB c.rols.names t.owner) = q := ⟨_, rfl⟩
  have CT := Lib.hid (show ∀ w', Aft W w' → Calls Tryz.prog 153 #[.slice At c.objs.tables.length capt, .func (.func 261) #[] #[.pointer (some ⟨w.heap.size, 0, none⟩)]] w' fun e w'' => e = .returned (.bool q) ∧ Aft w' w'' from
    fun w' a => (contTab At capt c.objs.tables 261 #[.pointer (some ⟨w.heap.size, 0, none⟩)] (fun t => !inB c.rols.names t.owner) w' (tabs_aft (aW.trans a) H.tab) hent (fun w'' b j hj e1 he => by
      obtain ⟨A2, cap2, A3, cap3, rfl, _⟩ := he
      have p0 := r0.aft (a.trans b)
      exact owners1 An capn c.rols.names _ _ _ _ _ _ w'' p0.1 (p0.cell (j := 4) rfl) (strs_aft ((aW.trans a).trans b) H.nam) _ _ _ _ _ _ _ _ rfl rfl rfl rfl)).mono fun e w'' ⟨he, hw⟩ => ⟨he.trans (by rw [hq]), hw⟩)
  have HO := Lib.hid (show ownersB c = (c.objs.schemas.all (fun s => inB c.rols.names s.owner) && !q) from by
    unfold ownersB
    rw [← hq, List.all_eq_not_any_not (l := c.objs.tables)])
  have HS := Lib.hid H.sch
  have HAW := Lib.hid aW
  have HR0 := Lib.hid r0
  clear H hq r0 aW
  go_enter Tryz.func170, Tryz.ntmps170
  go_wp2_with fail
  rw [← hW]
  go_loopw [9] (fun i wr => ∃ k : Nat, k ≤ c.objs.schemas.length ∧ i = .int .i64 k ∧ Aft W wr ∧ ∀ j, j < k → ∀ (hj : j < c.objs.schemas.length), inB c.rols.names c.objs.schemas[j].owner = true) (fun i _ => c.objs.schemas.length - (intOf i).toNat)
  case atStart => exact ⟨0, Nat.zero_le _, rfl, Aft.refl _, fun j hj => absurd hj (Nat.not_lt_zero j)⟩
  case round =>
    clear hW
    obtain ⟨k, hk, rfl, ha, hp⟩ := hrel
    have HA := Lib.hid ha
    have HP := Lib.hid hp
    have p0 := HR0.out.aft ha
    have c3 := p0.cell (j := 3) rfl
    have c4 := p0.cell (j := 4) rfl
    have z0 := p0.1
    clear ha hp p0
    by_cases hlt : k < c.objs.schemas.length
    · obtain ⟨b, off, rfl, hb, t0, t1, s0, s1⟩ := sch_at (schs_aft (HAW.out.trans HA.out) HS.out) hlt
      obtain ⟨p, hpp⟩ : ∃ p, c.objs.schemas[k] = p := ⟨_, rfl⟩
      rw [hpp] at t0 t1 s0 s1
      have aX : Aft wr (wr.alloc (.cells #[.string p.name, .string p.owner] 96)) := (Aft.refl _).alloc _
      have C := Lib.hid (HN.out _ (HA.out.trans aX) p.owner)
      have HAX := Lib.hid (HA.out.trans aX)
      obtain ⟨i, hi⟩ : ∃ i, inB c.rols.names p.owner = i := ⟨_, rfl⟩
      rw [hi] at C
      have HI := Lib.hid (show inB c.rols.names c.objs.schemas[k].owner = i by rw [hpp]; exact hi)
      clear hi hpp aX
      cases i
      · have HF := Lib.hid (show ownersB c = false by rw [HO.out, all_false _ _ k hlt HI.out]; rfl)
        go_wp2_with fail
        refine C.out.mono ?_
        rintro e w1 ⟨rfl, rfl⟩
        go_wp2_with fail
        go_ret
        exact ⟨by rw [HF.out]; rfl, HAW.out.trans HAX.out⟩
      · go_wp2_with fail
        refine C.out.mono ?_
        rintro e w1 ⟨rfl, rfl⟩
        go_wp2_with fail
        go_roundw
        case rel => exact ⟨k + 1, by omega, by go_num, HAX.out, ext_lt (p := fun j => ∀ (hj : j < c.objs.schemas.length), inB c.rols.names c.objs.schemas[j].owner = true) HP.out (fun _ => HI.out)⟩
        case measure => simp [intOf]; omega
    · have HF := Lib.hid (show ownersB c = !q by rw [HO.out, all_true _ _ fun j hj => HP.out j (by omega) hj]; rfl)
      have C := Lib.hid (CT.out wr HA.out)
      go_wp2_with fail
      refine C.out.mono ?_
      rintro e w1 ⟨rfl, a1⟩
      have HA1 := Lib.hid (HAW.out.trans (HA.out.trans a1))
      clear a1
      go_wp2_with fail
      go_ret
      exact ⟨by rw [HF.out]; rfl, HA1.out⟩
end Go.Proofs.YtgkhmnamkfgciaaGreat

namespace Go.Proofs.YtgkhmnamkfgciaaGreat
open Go.RowKit Go.Deep
set_option maxRecDepth 100000
set_option linter.unusedVariables false
theorem boss1 (name owner s : ByteArray) (b1 : Nat) (w : World) (hb1 : b1 < w.heap.size) (hc1 : w.cell? ⟨b1, 0, none⟩ = some (.string s)) :
    Calls Tryz.prog 133 #[.agg #[.string name, .string owner], .pointer (some ⟨b1, 0, none⟩)] w fun e w' => e = .returned (.bool (eqS name s)) ∧ Aft w w' := by
  go_enter Tryz.func133, Tryz.ntmps133
  go_wp2_with fail
  go_ret
  exact ⟨rfl, (Aft.refl _).alloc _⟩
theorem root_list : bRoot.toList = [114, 111, 111, 116] := by first | rfl | kernel_rfl | decide
theorem root_eq (r : ByteArray) : eqS r bRoot = (r.toList == [114, 111, 111, 116]) := by unfold eqS; rw [root_list]
set_option maxHeartbeats 2000000 in
theorem boss2 (r to over : ByteArray) (b0 b1 b2 : Nat) (As : Option Addr) (n caps : Nat) (q : Nat) (w : World) (h0 : b0 < w.heap.size) (h1 : b1 < w.heap.size) (h2 : b2 < w.heap.size) (hc0 : w.cell? ⟨b0, 2, none⟩ = some (.slice As n caps)) (hc1 : w.cell? ⟨b1, 2, none⟩ = some (.string to)) (hc2 : w.cell? ⟨b2, 0, none⟩ = some (.int .i64 q))
    (hq : q < n) (hn : n * 16 ≤ 140737488351232) (hA : ∃ b off, As = some ⟨b, off, none⟩ ∧ b < w.heap.size ∧ w.cell? ⟨b, off + q * 2 + 1, none⟩ = some (.string over)) :
    Calls Tryz.prog 135 #[.string r, .pointer (some ⟨b1, 0, none⟩), .pointer (some ⟨b0, 0, none⟩), .pointer (some ⟨b2, 0, none⟩)] w fun e w' => e = .returned (.bool (eqS r bRoot || eqS r to || eqS r over)) ∧ Aft w w' := by
  obtain ⟨b, off, rfl, hb, hc⟩ := hA
  rw [root_eq]
  cases e1 : (r.toList == [114, 111, 111, 116])
  · cases e2 : eqS r to
    · have e2' : (r.toList == to.toList) = false := e2
      clear e2
      go_enter Tryz.func135, Tryz.ntmps135
      go_wp2_with fail
      go_ret
      exact ⟨rfl, Aft.refl _⟩
    · have e2' : (r.toList == to.toList) = true := e2
      clear e2
      go_enter Tryz.func135, Tryz.ntmps135
      go_wp2_with fail
      go_ret
      exact ⟨rfl, Aft.refl _⟩
  · go_enter Tryz.func135, Tryz.ntmps135
    go_wp2_with fail
    go_ret
    exact ⟨rfl, Aft.refl _⟩
theorem overB_some {o : Objs} {s : ByteArray} {q : Nat} (hi : schAt o.schemas s = q) (hq : q < o.schemas.length) : overB o s = o.schemas[q].owner := by
  unfold overB
  rw [if_neg (by omega), hi]
  simp [List.getElem?_eq_getElem hq]
set_option maxHeartbeats 4000000 in
theorem bossG (c : Cat) (As : Option Addr) (caps : Nat) (At : Option Addr) (capt : Nat) (An : Option Addr) (capn : Nat) (Am : Option Addr) (capm : Nat) (Ag : Option Addr) (capg : Nat) (is : List ByteArray) (Ai : Option Addr) (capi : Nat) (ts tn to : ByteArray) (A2 : Option Addr) (n2 c2 : Nat) (A3 : Option Addr) (n3 c3 : Nat) (t : Tab) (ht : t.schema = ts ∧ t.owner = to) (w : World) (H : CatAt w c As caps At capt An capn Am capm Ag capg) (his : SlAt w 1 StrR Ai capi is) (hsc : 0 ≤ schAt c.objs.schemas ts) :
    Calls Tryz.prog 77 #[.agg #[.int .i64 c.epoch, .int .i64 c.version, .slice As c.objs.schemas.length caps, .slice At c.objs.tables.length capt, .slice An c.rols.names.length capn, .slice Am c.rols.members.length capm, .slice Ag c.grants.length capg], .slice Ai is.length capi, .agg #[.string ts, .string tn, .string to, .slice A2 n2 c2, .slice A3 n3 c3]] w fun e w' => e = .returned (.bool (bossB c.objs is t)) ∧ Aft w w' := by
  have hlen := H.sch.len
  have hent1 := enters (P := Tryz.prog) Tryz.func133 (by kernel_rfl) rfl
  have hent2 := enters (P := Tryz.prog) Tryz.func135 (by kernel_rfl) rfl
  obtain ⟨W, hW⟩ : ∃ W, W = (w.alloc (.cells #[.int .i64 c.epoch, .int .i64 c.version, .slice As c.objs.schemas.length caps, .slice At c.objs.tables.length capt, .slice An c.rols.names.length capn, .slice Am c.rols.members.length capm, .slice Ag c.grants.length capg] 32)).alloc (.cells #[.string ts, .string tn, .string to, .slice A2 n2 c2, .slice A3 n3 c3] 86) := ⟨_, rfl⟩
  have aW : Aft w W := by rw [hW]; exact ((Aft.refl w).alloc _).alloc _
  have r0 : RowAt W (w.heap.size) [.int .i64 c.epoch, .int .i64 c.version, .slice As c.objs.schemas.length caps, .slice At c.objs.tables.length capt, .slice An c.rols.names.length capn, .slice Am c.rols.members.length capm, .slice Ag c.grants.length capg] := by rw [hW]; exact RowAt.up (box_at (Aft.refl _) (by simp))
  have r1 : RowAt W (w.heap.size + 1) [.string ts, .string tn, .string to, .slice A2 n2 c2, .slice A3 n3 c3] := by rw [hW]; exact box_at (Aft.refl _) (by simp)
  obtain ⟨q, hq⟩ := Int.eq_ofNat_of_zero_le hsc
  have hir : -1 ≤ schAt c.objs.schemas ts ∧ schAt c.objs.schemas ts < c.objs.schemas.length := idxP_range _ _
  have hql : q < c.objs.schemas.length := by omega
  have HB := Lib.hid (show bossB c.objs is t = is.any (fun r => eqS r bRoot || eqS r to || eqS r c.objs.schemas[q].owner) from by
    unfold bossB
    rw [ht.1, ht.2, overB_some hq hql])
  have CI := Lib.hid (show ∀ w', Aft W w' → Calls Tryz.prog 86 #[.slice As c.objs.schemas.length caps, .func (.func 133) #[] #[.pointer (some ⟨w.heap.size + 1, 0, none⟩)]] w' fun e w'' => e = .returned (.int .i64 q) ∧ Aft w' w'' from
    fun w' a => (idxSch As caps c.objs.schemas 133 #[.pointer (some ⟨w.heap.size + 1, 0, none⟩)] (fun s => eqS s.name ts) w' (schs_aft (aW.trans a) H.sch) hent1 (fun w'' b j hj => by
      have p1 := r1.aft (a.trans b)
      exact boss1 _ _ _ _ w'' p1.1 (p1.cell (j := 0) rfl))).mono fun e w'' ⟨he, hw⟩ => ⟨he.trans (by rw [← hq]; rfl), hw⟩)
  obtain ⟨v, hv⟩ : ∃ v, is.any (fun r => eqS r bRoot || eqS r to || eqS r c.objs.schemas[q].owner) = v := ⟨_, rfl⟩
  have CC := Lib.hid (show ∀ b2 w', Aft W w' → w'.cell? ⟨b2, 0, none⟩ = some (.int .i64 q) → Calls Tryz.prog 134 #[.slice Ai is.length capi, .func (.func 135) #[] #[.pointer (some ⟨w.heap.size + 1, 0, none⟩), .pointer (some ⟨w.heap.size, 0, none⟩), .pointer (some ⟨b2, 0, none⟩)]] w' fun e w'' => e = .returned (.bool v) ∧ Aft w' w'' from
    fun b2 w' a hb2 => (contStr Ai capi is 135 #[.pointer (some ⟨w.heap.size + 1, 0, none⟩), .pointer (some ⟨w.heap.size, 0, none⟩), .pointer (some ⟨b2, 0, none⟩)] (fun r => eqS r bRoot || eqS r to || eqS r c.objs.schemas[q].owner) w' (strs_aft (aW.trans a) his) hent2 (fun w'' b j hj => by
      have p0 := r0.aft (a.trans b)
      have p1 := r1.aft (a.trans b)
      have z2 : b2 < w'.heap.size := World.block_lt_of_cell? w' ⟨b2, 0, none⟩ hb2
      have c2 : w''.cell? ⟨b2, 0, none⟩ = some (.int .i64 q) := (Below.cell b (p := ⟨b2, 0, none⟩) z2).trans hb2
      obtain ⟨bs, off, hA, hbs, _, t1, _, _⟩ := sch_at (schs_aft ((aW.trans a).trans b) H.sch) hql
      exact boss2 _ to c.objs.schemas[q].owner w.heap.size _ b2 As _ caps q w'' p0.1 p1.1 (Nat.lt_of_lt_of_le z2 b.size) (p0.cell (j := 2) rfl) (p1.cell (j := 2) rfl) c2 hql (by have := H.sch.2.1; unfold Small at this; omega) ⟨bs, off, hA, hbs, t1⟩)).mono fun e w'' ⟨he, hw⟩ => ⟨he.trans (by rw [hv]), hw⟩)
  rw [hv] at HB
  have HAW := Lib.hid aW
  have HR0 := Lib.hid r0
  clear hv hq hir hsc H his ht r0 r1 aW
  go_enter Tryz.func77, Tryz.ntmps77
  go_wp2_with fail
  rw [← hW]
  clear hW
  refine (CI.out W (Aft.refl W)).mono ?_
  rintro e w1 ⟨rfl, a1⟩
  have HA1 := Lib.hid a1
  have C2 := Lib.hid (CC.out w1.heap.size (w1.alloc (.cells #[.int .i64 q] 3)) (a1.alloc _) (by simp))
  clear a1
  go_wp2_with fail
  refine C2.out.mono ?_
  rintro e w2 ⟨rfl, a2⟩
  have HA2 := Lib.hid ((HAW.out.trans HA1.out).trans (((Aft.refl w1).alloc _).trans a2))
  clear a2
  go_wp2_with fail
  go_ret
  exact ⟨by rw [HB.out]; rfl, HA2.out⟩
set_option maxHeartbeats 4000000 in
theorem given1 (g : Gra) (ts tn : ByteArray) (A2 : Option Addr) (n2 c2 : Nat) (A3 : Option Addr) (n3 c3 : Nat) (rt : Int) (op : Bool) (is : List ByteArray) (Ai : Option Addr) (capi : Nat) (bi b1 b2 b3 : Nat) (w : World) (hbi : bi < w.heap.size) (h1 : b1 < w.heap.size) (h2 : b2 < w.heap.size) (h3 : b3 < w.heap.size) (hci : w.cell? ⟨bi, 0, none⟩ = some (.slice Ai is.length capi)) (hc1 : w.cell? ⟨b1, 0, none⟩ = some (.string ts)) (hc1' : w.cell? ⟨b1, 1, none⟩ = some (.string tn)) (hc2 : w.cell? ⟨b2, 0, none⟩ = some (.int .i64 rt)) (hc3 : w.cell? ⟨b3, 0, none⟩ = some (.bool op)) (his : SlAt w 1 StrR Ai capi is) :
    Calls Tryz.prog 137 #[.agg #[.string g.schema, .string g.table, .int .i64 g.right, .string g.giver, .string g.to, .bool g.opt], .pointer (some ⟨b1, 0, none⟩), .pointer (some ⟨b2, 0, none⟩), .pointer (some ⟨b3, 0, none⟩), .pointer (some ⟨bi, 0, none⟩)] w fun e w' => e = .returned (.bool (eqS g.schema ts && eqS g.table tn && (g.right == rt) && (g.opt || !op) && inB is g.to)) ∧ Aft w w' := by
  obtain ⟨i, hi⟩ : ∃ i, inB is g.to = i := ⟨_, rfl⟩
  have C := Lib.hid (show ∀ w', Aft w w' → Calls Tryz.prog 54 #[.slice Ai is.length capi, .string g.to] w' fun e w'' => e = .returned (.bool i) ∧ w' = w'' from fun w' a => hi ▸ scont8 Ai capi is g.to w' (strs_aft a his))
  rw [hi]
  clear hi his
  obtain ⟨gs, gt, gr, gg, gto, go⟩ := g
  dsimp only at C ⊢
  cases e1 : eqS gs ts
  · have e1' : (gs.toList == ts.toList) = false := e1
    clear e1
    go_enter Tryz.func137, Tryz.ntmps137
    go_wp2_with fail
    go_ret
    exact ⟨rfl, (Aft.refl _).alloc _⟩
  have e1' : (gs.toList == ts.toList) = true := e1
  clear e1
  cases e2 : eqS gt tn
  · have e2' : (gt.toList == tn.toList) = false := e2
    clear e2
    go_enter Tryz.func137, Tryz.ntmps137
    go_wp2_with fail
    go_ret
    exact ⟨rfl, (Aft.refl _).alloc _⟩
  have e2' : (gt.toList == tn.toList) = true := e2
  clear e2
  cases e3 : (gr == rt)
  · go_enter Tryz.func137, Tryz.ntmps137
    go_wp2_with fail
    go_ret
    exact ⟨rfl, (Aft.refl _).alloc _⟩
  cases go <;> cases op
  all_goals
    go_enter Tryz.func137, Tryz.ntmps137
    go_wp2_with (go_at_call 54; refine (C.out _ ((Aft.refl w).alloc _)).mono ?_; rintro e w1 ⟨rfl, rfl⟩)
    go_ret
    exact ⟨rfl, (Aft.refl _).alloc _⟩
set_option maxHeartbeats 4000000 in
theorem givenG (l : List Gra) (Ag : Option Addr) (capg : Nat) (is : List ByteArray) (Ai : Option Addr) (capi : Nat) (ts tn to : ByteArray) (A2 : Option Addr) (n2 c2 : Nat) (A3 : Option Addr) (n3 c3 : Nat) (rt : Int) (op : Bool) (w : World) (hl : SlAt w 6 GraR Ag capg l) (his : SlAt w 1 StrR Ai capi is) :
    Calls Tryz.prog 78 #[.slice Ag l.length capg, .slice Ai is.length capi, .agg #[.string ts, .string tn, .string to, .slice A2 n2 c2, .slice A3 n3 c3], .int .i64 rt, .bool op] w fun e w' => e = .returned (.bool (givesB l is ts tn rt op)) ∧ Aft w w' := by
  have hent := enters (P := Tryz.prog) Tryz.func137 (by kernel_rfl) rfl
  obtain ⟨W, hW⟩ : ∃ W, W = (((w.alloc (.cells #[.slice Ai is.length capi] 26)).alloc (.cells #[.string ts, .string tn, .string to, .slice A2 n2 c2, .slice A3 n3 c3] 86)).alloc (.cells #[.int .i64 rt] 43)).alloc (.cells #[.bool op] 4) := ⟨_, rfl⟩
  have aW : Aft w W := by rw [hW]; exact ((((Aft.refl w).alloc _).alloc _).alloc _).alloc _
  have r0 : RowAt W (w.heap.size) [.slice Ai is.length capi] := by rw [hW]; exact RowAt.up (RowAt.up (RowAt.up (box_at (Aft.refl _) (by simp))))
  have r1 : RowAt W (w.heap.size + 1) [.string ts, .string tn, .string to, .slice A2 n2 c2, .slice A3 n3 c3] := by rw [hW]; exact RowAt.up (RowAt.up (box_at (Aft.refl _) (by simp)))
  have r2 : RowAt W (w.heap.size + 1 + 1) [.int .i64 rt] := by rw [hW]; exact RowAt.up (box_at (Aft.refl _) (by simp))
  have r3 : RowAt W (w.heap.size + 1 + 1 + 1) [.bool op] := by rw [hW]; exact box_at (Aft.refl _) (by simp)
  obtain ⟨v, hv⟩ : ∃ v, givesB l is ts tn rt op = v := ⟨_, rfl⟩
  have C := Lib.hid ((contGra Ag capg l 137 #[.pointer (some ⟨w.heap.size + 1, 0, none⟩), .pointer (some ⟨w.heap.size + 1 + 1, 0, none⟩), .pointer (some ⟨w.heap.size + 1 + 1 + 1, 0, none⟩), .pointer (some ⟨w.heap.size, 0, none⟩)] (fun g => eqS g.schema ts && eqS g.table tn && (g.right == rt) && (g.opt || !op) && inB is g.to) W (gras_aft aW hl) hent (fun w'' b j hj => by
      have p0 := r0.aft b
      have p1 := r1.aft b
      have p2 := r2.aft b
      have p3 := r3.aft b
      exact given1 l[j] ts tn A2 n2 c2 A3 n3 c3 rt op is Ai capi _ _ _ _ w'' p0.1 p1.1 p2.1 p3.1 (p0.cell (j := 0) rfl) (p1.cell (j := 0) rfl) (p1.cell (j := 1) rfl) (p2.cell (j := 0) rfl) (p3.cell (j := 0) rfl) (strs_aft (aW.trans b) his))).mono (R' := fun e w'' => e = .returned (.bool v) ∧ Aft W w'') fun e w'' ⟨he, hw⟩ => ⟨he.trans (by rw [← hv]; rfl), hw⟩)
  rw [hv]
  have HAW := Lib.hid aW
  clear hv hl his r0 r1 r2 r3 aW
  go_enter Tryz.func78, Tryz.ntmps78
  go_wp2_with fail
  rw [← hW]
  clear hW
  refine C.out.mono ?_
  rintro e w1 ⟨rfl, a1⟩
  have HA1 := Lib.hid (HAW.out.trans a1)
  clear a1
  go_wp2_with fail
  go_ret
  exact ⟨rfl, HA1.out⟩
end Go.Proofs.YtgkhmnamkfgciaaGreat

namespace Go.Proofs.YtgkhmnamkfgciaaGreat
open Go.RowKit Go.Deep
set_option maxRecDepth 100000
set_option linter.unusedVariables false
theorem standsB_len (c : Cat) (h : ¬ c.grants.length ≤ 64) : standsB c = false := by unfold standsB; rw [decide_eq_false h]; rfl
theorem standsB_gra (c : Cat) (k : Nat) (hk : k < c.grants.length) (h : graOk c c.grants[k] = false) : standsB c = false := by
  unfold standsB; rw [all_false _ _ k hk h]; simp
theorem standsB_ris (c : Cat) (k : Nat) (hk : k < c.grants.length) (h0 : 0 < k) (h : 0 ≤ cmpG (c.grants[k - 1]'(by omega)) c.grants[k]) : standsB c = false := by
  have h1 : k - 1 + 1 < c.grants.length := by omega
  have e : (c.grants[k - 1 + 1]'h1) = c.grants[k] := by congr 1; omega
  unfold standsB
  rw [risesB_false _ _ (k - 1) h1 (by rw [e]; exact h)]
  simp
/-- the state of the loop: the catalog's box, the last five's, the blocks -/
structure StS (w : World) (B3 : Nat) (l0 : List Value) (p : Gra) (wr : World) : Prop where
  aft : Aft w wr
  box : RowAt wr w.heap.size l0
  last : RowAt wr B3 [.string p.schema, .string p.table, .int .i64 p.right, .string p.giver, .string p.to]
theorem StS.to {w : World} {B3 : Nat} {l0 : List Value} {p : Gra} {wr w' : World} (h : StS w B3 l0 p wr) (a : Aft wr w') : StS w B3 l0 p w' := ⟨h.aft.trans a, h.box.aft a, h.last.aft a⟩
theorem fiveE_cmp (a b : Gra) : fiveE b a = true ↔ cmpG a b = 0 := by rw [cmpG_zero, fiveE_comm]
set_option maxHeartbeats 16000000 in
theorem standsG (c : Cat) (As : Option Addr) (caps : Nat) (At : Option Addr) (capt : Nat) (An : Option Addr) (capn : Nat) (Am : Option Addr) (capm : Nat) (Ag : Option Addr) (capg : Nat) (w : World) (H : CatAt w c As caps At capt An capn Am capm Ag capg) :
    Calls Tryz.prog 107 #[.agg #[.int .i64 c.epoch, .int .i64 c.version, .slice As c.objs.schemas.length caps, .slice At c.objs.tables.length capt, .slice An c.rols.names.length capn, .slice Am c.rols.members.length capm, .slice Ag c.grants.length capg]] w fun e w' => e = .returned (.bool (standsB c)) ∧ Aft w w' := by
  have hlen := H.gra.len
  obtain ⟨W, hW⟩ : ∃ W, W = w.alloc (.cells #[.int .i64 c.epoch, .int .i64 c.version, .slice As c.objs.schemas.length caps, .slice At c.objs.tables.length capt, .slice An c.rols.names.length capn, .slice Am c.rols.members.length capm, .slice Ag c.grants.length capg] 32) := ⟨_, rfl⟩
  have aW : Aft w W := by rw [hW]; exact (Aft.refl w).alloc _
  have r0 : RowAt W (w.heap.size) [.int .i64 c.epoch, .int .i64 c.version, .slice As c.objs.schemas.length caps, .slice At c.objs.tables.length capt, .slice An c.rols.names.length capn, .slice Am c.rols.members.length capm, .slice Ag c.grants.length capg] := by rw [hW]; exact box_at (Aft.refl _) (by simp)
  obtain ⟨ck, hck⟩ : ∃ b, checkO c.objs = b := ⟨_, rfl⟩
  obtain ⟨rk, hrk⟩ : ∃ b, rightR c.rols = b := ⟨_, rfl⟩
  obtain ⟨ro, hro⟩ : ∃ b, inB c.rols.names bRoot = b := ⟨_, rfl⟩
  obtain ⟨ow, how⟩ : ∃ b, ownersB c = b := ⟨_, rfl⟩
  have HS := Lib.hid (show standsB c = (decide (c.grants.length ≤ 64) && ck && rk && ro && ow && (c.grants.all (graOk c) && risesB cmpG c.grants)) by unfold standsB; rw [hck, hrk, hro, how])
  have C1 := Lib.hid (show ∀ w', Aft W w' → Calls Tryz.prog 87 #[.agg #[.slice As c.objs.schemas.length caps, .slice At c.objs.tables.length capt]] w' fun e w'' => e = .returned (.int .i64 (if ck = true then 0 else 63)) ∧ Aft w' w'' from fun w' a => (check_any c.objs As caps At capt w' (schs_aft (aW.trans a) H.sch) (tabs_aft (aW.trans a) H.tab)).mono fun e w'' ⟨he, hw⟩ => ⟨he.trans (by unfold checkE; rw [hck]), hw⟩)
  have C2 := Lib.hid (show ∀ w', Aft W w' → Calls Tryz.prog 169 #[.agg #[.slice An c.rols.names.length capn, .slice Am c.rols.members.length capm]] w' fun e w'' => e = .returned (.int .i64 (if rk = true then 0 else 1)) ∧ Aft w' w'' from fun w' a => hrk ▸ check8 c.rols An capn Am capm w' (strs_aft (aW.trans a) H.nam) (mbrs_aft (aW.trans a) H.mem))
  have C3 := Lib.hid (show ∀ w', Aft W w' → Calls Tryz.prog 54 #[.slice An c.rols.names.length capn, .string ⟨#[114, 111, 111, 116]⟩] w' fun e w'' => e = .returned (.bool ro) ∧ w' = w'' from fun w' a => hro ▸ scont8 An capn c.rols.names bRoot w' (strs_aft (aW.trans a) H.nam))
  have C4 := Lib.hid (show ∀ w', Aft W w' → Calls Tryz.prog 170 #[.agg #[.int .i64 c.epoch, .int .i64 c.version, .slice As c.objs.schemas.length caps, .slice At c.objs.tables.length capt, .slice An c.rols.names.length capn, .slice Am c.rols.members.length capm, .slice Ag c.grants.length capg]] w' fun e w'' => e = .returned (.bool ow) ∧ Aft w' w'' from fun w' a => how ▸ ownersG c As caps At capt An capn Am capm Ag capg w' (H.aft (aW.trans a)))
  have CN := Lib.hid (show ∀ w', Aft w w' → ∀ s, Calls Tryz.prog 54 #[.slice An c.rols.names.length capn, .string s] w' fun e w'' => e = .returned (.bool (inB c.rols.names s)) ∧ w' = w'' from fun w' a s => scont8 An capn c.rols.names s w' (strs_aft a H.nam))
  have CT := Lib.hid (show ∀ w', Aft w w' → ∀ s n, Calls Tryz.prog 73 #[.agg #[.int .i64 c.epoch, .int .i64 c.version, .slice As c.objs.schemas.length caps, .slice At c.objs.tables.length capt, .slice An c.rols.names.length capn, .slice Am c.rols.members.length capm, .slice Ag c.grants.length capg], .string s, .string n] w' (TabP w' c.objs s n) from fun w' a s n => tableG c As caps At capt An capn Am capm Ag capg s n w' (tabs_aft a H.tab))
  have HH := Lib.hid H
  have HAW := Lib.hid aW
  have HR0 := Lib.hid r0
  clear hck hrk hro how H aW r0
  go_enter Tryz.func107, Tryz.ntmps107
  by_cases m64 : c.grants.length ≤ 64
  case neg =>
    have m64' : (64 : Int) < (c.grants.length : Int) := by omega
    have HF := Lib.hid (standsB_len c m64)
    go_wp2_with fail
    go_ret
    exact ⟨by rw [HF.out]; rfl, (Aft.refl _).alloc _⟩
  have m64' : ¬ (64 : Int) < (c.grants.length : Int) := by omega
  go_wp2_with fail
  rw [← hW]
  refine (C1.out W (Aft.refl W)).mono ?_
  rintro e w1 ⟨rfl, a1⟩
  clear hW
  have H1 := Lib.hid a1
  have p0 := HR0.out.aft a1
  have x2 := p0.cell (j := 2) rfl
  have x3 := p0.cell (j := 3) rfl
  have x4 := p0.cell (j := 4) rfl
  have x5 := p0.cell (j := 5) rfl
  have x6 := p0.cell (j := 6) rfl
  have x0 := p0.cell (j := 0) rfl
  have x1 := p0.cell (j := 1) rfl
  have xz := p0.1
  clear a1 p0
  cases ck
  case false =>
    have HF := Lib.hid (show standsB c = false by rw [HS.out]; simp)
    go_wp2_with fail
    go_ret
    exact ⟨by rw [HF.out]; rfl, HAW.out.trans H1.out⟩
  go_wp2_with fail
  refine (C2.out w1 H1.out).mono ?_
  rintro e w2 ⟨rfl, a2⟩
  clear x0 x1 x2 x3 x4 x5 x6 xz
  have H2 := Lib.hid (H1.out.trans a2)
  have p0 := HR0.out.aft (H1.out.trans a2)
  have x2 := p0.cell (j := 2) rfl
  have x3 := p0.cell (j := 3) rfl
  have x4 := p0.cell (j := 4) rfl
  have x5 := p0.cell (j := 5) rfl
  have x6 := p0.cell (j := 6) rfl
  have x0 := p0.cell (j := 0) rfl
  have x1 := p0.cell (j := 1) rfl
  have xz := p0.1
  clear a2 p0 H1
  cases rk
  case false =>
    have HF := Lib.hid (show standsB c = false by rw [HS.out]; simp)
    go_wp2_with fail
    go_ret
    exact ⟨by rw [HF.out]; rfl, HAW.out.trans H2.out⟩
  go_wp2_with fail
  refine (C3.out w2 H2.out).mono ?_
  rintro e w3 ⟨rfl, rfl⟩
  cases ro
  case false =>
    have HF := Lib.hid (show standsB c = false by rw [HS.out]; simp)
    go_wp2_with fail
    go_ret
    exact ⟨by rw [HF.out]; rfl, HAW.out.trans H2.out⟩
  go_wp2_with fail
  refine (C4.out w2 H2.out).mono ?_
  rintro e w4 ⟨rfl, a4⟩
  clear x0 x1 x2 x3 x4 x5 x6 xz
  have H4 := Lib.hid (H2.out.trans a4)
  have p0 := HR0.out.aft (H2.out.trans a4)
  have x6 := p0.cell (j := 6) rfl
  have xz := p0.1
  clear a4 p0 H2
  cases ow
  case false =>
    have HF := Lib.hid (show standsB c = false by rw [HS.out]; simp)
    go_wp2_with fail
    go_ret
    exact ⟨by rw [HF.out]; rfl, HAW.out.trans H4.out⟩
  obtain ⟨B3, hB3⟩ : ∃ B, B = w4.heap.size := ⟨_, rfl⟩
  have zB : w.heap.size + 1 ≤ B3 := by have := HR0.out.1; have := (HAW.out.trans H4.out).size; have := H4.out.size; omega
  have S0 := Lib.hid (show StS w B3 [.int .i64 c.epoch, .int .i64 c.version, .slice As c.objs.schemas.length caps, .slice At c.objs.tables.length capt, .slice An c.rols.names.length capn, .slice Am c.rols.members.length capm, .slice Ag c.grants.length capg] ⟨⟨#[]⟩, ⟨#[]⟩, 0, ⟨#[]⟩, ⟨#[]⟩, false⟩ (w4.alloc (.cells #[.string ⟨#[]⟩, .string ⟨#[]⟩, .int .i64 0, .string ⟨#[]⟩, .string ⟨#[]⟩] 151)) from by
    have a := (Aft.refl w4).alloc (.cells #[.string ⟨#[]⟩, .string ⟨#[]⟩, .int .i64 0, .string ⟨#[]⟩, .string ⟨#[]⟩] 151)
    exact ⟨(HAW.out.trans H4.out).trans a, (HR0.out.aft H4.out).aft a, by rw [hB3]; exact box_row2 (c := [.string ⟨#[]⟩, .string ⟨#[]⟩, .int .i64 0, .string ⟨#[]⟩, .string ⟨#[]⟩]) (Aft.refl _)⟩)
  go_wp2_with fail
  rw [← hB3]
  go_loopw [39] (fun i wr => ∃ (k : Nat) (p : Gra), k ≤ c.grants.length ∧ i = .int .i64 k ∧ StS w B3 [.int .i64 c.epoch, .int .i64 c.version, .slice As c.objs.schemas.length caps, .slice At c.objs.tables.length capt, .slice An c.rols.names.length capn, .slice Am c.rols.members.length capm, .slice Ag c.grants.length capg] p wr ∧ (0 < k → ∀ (h : k - 1 < c.grants.length), fkey p = fkey c.grants[k - 1]) ∧ ∀ j, j < k → ∀ (hj : j < c.grants.length), graOk c c.grants[j] = true ∧ (0 < j → cmpG (c.grants[j - 1]'(by omega)) c.grants[j] < 0)) (fun i _ => c.grants.length - (intOf i).toNat)
  case atStart => exact ⟨0, _, Nat.zero_le _, rfl, S0.out, fun h => absurd h (by omega), fun j hj => absurd hj (Nat.not_lt_zero j)⟩
  case round =>
    clear x6 xz S0 hB3
    obtain ⟨k, p, hk, rfl, hs, hp, hall⟩ := hrel
    have HP := Lib.hid hp
    have HALL := Lib.hid hall
    have SR := Lib.hid hs
    by_cases hlt : k < c.grants.length
    case neg =>
      clear hp hall hs
      have HF := Lib.hid (show standsB c = true by
        rw [HS.out, decide_eq_true m64, all_true _ _ fun j hj => (HALL.out j (by omega) hj).1, rises_pred cmpG c.grants fun j h1 hj => (HALL.out j (by omega) hj).2 (by omega)]; rfl)
      go_wp2_with fail
      go_ret
      exact ⟨by rw [HF.out]; rfl, SR.out.aft⟩
    obtain ⟨b, off, rfl, hb, t0, t1, t2, t3, t4, t5, sg⟩ := gra_at (gras_aft hs.aft HH.out.gra) hlt
    obtain ⟨g, hg⟩ : ∃ g, c.grants[k] = g := ⟨_, rfl⟩
    rw [hg] at t0 t1 t2 t3 t4 t5 sg
    have p0 := hs.box
    obtain ⟨x0, x1, x2, x3, x4, x5, x6, xz⟩ := rowF7 p0
    obtain ⟨G, hG⟩ : ∃ V, V = wr.alloc (.cells #[.string g.schema, .string g.table, .int .i64 g.right, .string g.giver, .string g.to, .bool g.opt] 106) := ⟨_, rfl⟩
    have aG : Aft wr G := by rw [hG]; exact (Aft.refl wr).alloc _
    have SG := Lib.hid (hs.to aG)
    have RG := Lib.hid (show RowAt G wr.heap.size [.string g.schema, .string g.table, .int .i64 g.right, .string g.giver, .string g.to, .bool g.opt] by rw [hG]; exact box_row2 (Aft.refl _))
    have C := Lib.hid (CT.out G (hs.aft.trans aG) g.schema g.table)
    have HG := Lib.hid hg
    have HOKE := Lib.hid (show graOk c c.grants[k] = (decide (0 ≤ tabAt c.objs.tables g.schema g.table) && kindB g.right && !eqS g.giver g.to && inB c.rols.names g.giver && inB c.rols.names g.to) by rw [hg]; rfl)
    clear hp hall hs hg aG p0 sg
    go_wp2_with fail
    rw [← hG]
    clear hG
    refine C.out.mono ?_
    rintro e w5 ⟨A2, c2, A3, c3, rfl, a5⟩
    generalize tabF c.objs g.schema g.table = T
    obtain ⟨tb, htb⟩ : ∃ tb, decide (0 ≤ tabAt c.objs.tables g.schema g.table) = tb := ⟨_, rfl⟩
    obtain ⟨kb, hkb⟩ : ∃ kb, kindB g.right = kb := ⟨_, rfl⟩
    obtain ⟨eb, heb⟩ : ∃ eb, eqS g.giver g.to = eb := ⟨_, rfl⟩
    obtain ⟨i1, hi1⟩ : ∃ i, inB c.rols.names g.giver = i := ⟨_, rfl⟩
    obtain ⟨i2, hi2⟩ : ∃ i, inB c.rols.names g.to = i := ⟨_, rfl⟩
    rw [htb, hkb, heb, hi1, hi2] at HOKE
    rw [htb]
    have K1 := Lib.hid (show ∀ w', Calls Tryz.prog 75 #[.int .i64 g.right] w' fun e w'' => e = .returned (.bool kb) ∧ w' = w'' from fun w' => hkb ▸ kindG g.right w')
    obtain ⟨X, hX⟩ : ∃ V, V = w5.alloc (.cells #[.string T.schema, .string T.name, .string T.owner, .slice A2 T.cols.length c2, .slice A3 T.rules.length c3] 86) := ⟨_, rfl⟩
    have aX : Aft w5 X := by rw [hX]; exact (Aft.refl w5).alloc _
    have SW := Lib.hid (SG.out.to (a5.trans aX))
    have N1 := Lib.hid (show Calls Tryz.prog 54 #[.slice An c.rols.names.length capn, .string g.giver] X fun e w'' => e = .returned (.bool i1) ∧ X = w'' from hi1 ▸ CN.out X SW.out.aft g.giver)
    have N2 := Lib.hid (show Calls Tryz.prog 54 #[.slice An c.rols.names.length capn, .string g.to] X fun e w'' => e = .returned (.bool i2) ∧ X = w'' from hi2 ▸ CN.out X SW.out.aft g.to)
    have RX := RG.out.aft (a5.trans aX)
    clear t0 t1 t2 t3 t4 t5 x0 x1 x2 x3 x4 x5 x6 xz hb
    obtain ⟨e0, e1, e2, e3, e4, e5, ez⟩ := rowF6 RX
    have p0 := SW.out.box
    have x4 := p0.cell (j := 4) rfl
    have x6 := p0.cell (j := 6) rfl
    have xz := p0.1
    have y0 := (RG.out.aft a5).cell (j := 0) rfl
    have y2 := (RG.out.aft a5).cell (j := 2) rfl
    have y3 := (RG.out.aft a5).cell (j := 3) rfl
    have y4 := (RG.out.aft a5).cell (j := 4) rfl
    have yz := (RG.out.aft a5).1
    have q0 := (SG.out.to a5).box
    have v4 := q0.cell (j := 4) rfl
    have vz := q0.1
    clear aX RX p0 q0 htb hkb hi1 hi2 a5
    have heb' : (g.giver.toList == g.to.toList) = eb := heb
    clear heb
    cases tb
    case false =>
      have HF := Lib.hid (standsB_gra c k hlt (by rw [HOKE.out]; rfl))
      go_wp2_with fail
      go_ret
      exact ⟨by rw [HF.out]; rfl, by rw [← hX]; exact SW.out.aft⟩
    cases kb
    case false =>
      have HF := Lib.hid (standsB_gra c k hlt (by rw [HOKE.out]; rfl))
      go_wp2_with fail
      refine (K1.out _).mono ?_
      rintro e w6 ⟨rfl, rfl⟩
      go_wp2_with fail
      go_ret
      exact ⟨by rw [HF.out]; rfl, by rw [← hX]; exact SW.out.aft⟩
    cases eb
    case true =>
      have HF := Lib.hid (standsB_gra c k hlt (by rw [HOKE.out]; rfl))
      go_wp2_with fail
      refine (K1.out _).mono ?_
      rintro e w6 ⟨rfl, rfl⟩
      go_wp2_with fail
      go_ret
      exact ⟨by rw [HF.out]; rfl, by rw [← hX]; exact SW.out.aft⟩
    go_wp2_with fail
    refine (K1.out _).mono ?_
    rintro e w6 ⟨rfl, rfl⟩
    clear y0 y2 y3 y4 yz v4 vz
    rw [← hX]
    clear hX
    go_wp2_with fail
    refine N1.out.mono ?_
    rintro e w6 ⟨rfl, rfl⟩
    cases i1
    case false =>
      have HF := Lib.hid (standsB_gra c k hlt (by rw [HOKE.out]; rfl))
      go_wp2_with fail
      go_ret
      exact ⟨by rw [HF.out]; rfl, SW.out.aft⟩
    go_wp2_with fail
    refine N2.out.mono ?_
    rintro e w6 ⟨rfl, rfl⟩
    cases i2
    case false =>
      have HF := Lib.hid (standsB_gra c k hlt (by rw [HOKE.out]; rfl))
      go_wp2_with fail
      go_ret
      exact ⟨by rw [HF.out]; rfl, SW.out.aft⟩
    have HOK := Lib.hid (show graOk c c.grants[k] = true by rw [HOKE.out]; rfl)
    go_wp2_with fail
    by_cases h0 : 0 < k
    case neg =>
      have w5 : decide ((0 : Int) < (k : Int)) = false := decide_eq_false (by omega)
      have w6 : ¬ (0 : Int) < (k : Int) := by omega
      have CO := Lib.hid True.intro
      have CR := Lib.hid True.intro
      refine wp_region_lat (by kernel_rfl) (by kernel_rfl) ?_
      repeat (go_big_quiet_step ((first | (go_at_call 108; exact Calls.lat_of (CO.out _)) | (go_at_call 110; exact Calls.lat_of (CR.out _)))))
      refine wpQuiet_nil ?_
      intro _ hw'
      obtain ⟨x, hw''⟩ := hw'
      subst hw''
      go_wp2_with fail
      refine (ofG g _).mono ?_
      rintro e w7 ⟨rfl, a7⟩
      have S7 := Lib.hid (SW.out.to (((Aft.refl _).lat x).trans a7))
      have r7 := S7.out.last
      have d0 := r7.cell (j := 0) rfl
      have d1 := r7.cell (j := 1) rfl
      have d2 := r7.cell (j := 2) rfl
      have d3 := r7.cell (j := 3) rfl
      have d4 := r7.cell (j := 4) rfl
      have f0 := r7.2.2 0 (by simp)
      have f1 := r7.2.2 1 (by simp)
      have f2 := r7.2.2 2 (by simp)
      have f3 := r7.2.2 3 (by simp)
      have f4 := r7.2.2 4 (by simp)
      have z7 := r7.1
      clear a7 r7
      go_wp2_with fail
      go_roundw
      case rel =>
        refine ⟨k + 1, g, by omega, by go_num, ⟨(setT_kb _ _ _ _ _ _ _).to_aft S7.out.aft (fun _ _ e => by omega), (setT_kb _ _ _ _ _ _ _).row S7.out.box (by omega), setT_row S7.out.last rfl _ _ _ _ _⟩, fun _ h => by rw [← HG.out]; rfl, ext_lt (p := fun j => ∀ (hj : j < c.grants.length), graOk c c.grants[j] = true ∧ (0 < j → cmpG (c.grants[j - 1]'(by omega)) c.grants[j] < 0)) HALL.out (fun _ => ⟨HOK.out, fun h => absurd h h0⟩)⟩
      case measure => simp [intOf]; omega
    have w5 : decide ((0 : Int) < (k : Int)) = true := decide_eq_true (by omega)
    have w6 : (0 : Int) < (k : Int) := by omega
    have hk1 : k - 1 < c.grants.length := by omega
    obtain ⟨b', off', hA', hb', s0, s1, s2, s3, s4, s5, _⟩ := gra_at (gras_aft SW.out.aft HH.out.gra) hk1
    simp only [Option.some.injEq, Addr.mk.injEq, and_true] at hA'
    obtain ⟨rfl, rfl⟩ := hA'
    obtain ⟨p', hpp'⟩ : ∃ p', (c.grants[k - 1]'(by omega)) = p' := ⟨_, rfl⟩
    rw [hpp'] at s0 s1 s2 s3 s4 s5
    have HPP := Lib.hid hpp'
    have HPE := Lib.hid (show fkey p = fkey p' by rw [← hpp']; exact HP.out h0 hk1)
    have v1 : IntKind.i64.wrap ((k : Int) - 1) = (k : Int) - 1 := IntWalk.i64_in _ (by omega)
    have v2 : (0 : Int) ≤ (k : Int) - 1 := by omega
    have v3 : ((k : Int) - 1).toNat = k - 1 := by omega
    have v4 : (k : Int) - 1 < (c.grants.length : Int) := by omega
    have r7 := SW.out.last
    have d0 := r7.cell (j := 0) rfl
    have d1 := r7.cell (j := 1) rfl
    have d2 := r7.cell (j := 2) rfl
    have d3 := r7.cell (j := 3) rfl
    have d4 := r7.cell (j := 4) rfl
    have z7 := r7.1
    have CO := Lib.hid (show ∀ x : Lat X, Calls Tryz.prog 108 #[.agg #[.string g.schema, .string g.table, .int .i64 g.right, .string g.giver, .string g.to, .bool g.opt]] (lat X x) fun e w'' => e = .returned (.agg #[.string g.schema, .string g.table, .int .i64 g.right, .string g.giver, .string g.to]) ∧ Aft (lat X x) w'' from fun x => ofG g _)
    obtain ⟨z, hz⟩ : ∃ z, cmpG p' g = z := ⟨_, rfl⟩
    have CR := Lib.hid (show ∀ x : Lat X, Calls Tryz.prog 110 #[.agg #[.string p'.schema, .string p'.table, .int .i64 p'.right, .string p'.giver, .string p'.to, .bool p'.opt], .agg #[.string g.schema, .string g.table, .int .i64 g.right, .string g.giver, .string g.to, .bool g.opt]] (lat X x) fun e w'' => e = .returned (.int .i64 z) ∧ Aft (lat X x) w'' from fun x => hz ▸ orderG p' g _)
    obtain ⟨fb, hfb⟩ : ∃ fb, five5 g.schema g.table g.right g.giver g.to p.schema p.table p.right p.giver p.to = fb := ⟨_, rfl⟩
    have HFB := Lib.hid (show (cmpG p' g = 0) ↔ fb = true from by
      rw [← hfb, five5_is, fiveE_iff, HPE.out, ← fiveE_iff, fiveE_cmp])
    have HZ := Lib.hid hz
    clear r7 hpp' hz
    cases fb
    case true =>
      have HF := Lib.hid (standsB_ris c k hlt h0 (by rw [HPP.out, HG.out, HFB.out.2 rfl]; exact Int.le_refl _))
      refine wp_region_lat (by kernel_rfl) (by kernel_rfl) ?_
      repeat (go_big_quiet_step (first | (go_at_call 108; exact Calls.lat_of (CO.out _)) | (go_at_call 110; exact Calls.lat_of (CR.out _))))
      refine wpQuiet_nil ?_
      intro _ hw'
      obtain ⟨x, hw''⟩ := hw'
      subst hw''
      go_wp2_with fail
      go_ret
      exact ⟨by rw [HF.out]; rfl, (SW.out.to ((Aft.refl _).lat x)).aft⟩
    have hz0 : z ≠ 0 := fun e => by have := HFB.out.1 (HZ.out.trans e); cases this
    by_cases hzp : (0 : Int) < z
    · have HF := Lib.hid (standsB_ris c k hlt h0 (by rw [HPP.out, HG.out, HZ.out]; omega))
      clear hz0
      refine wp_region_lat (by kernel_rfl) (by kernel_rfl) ?_
      repeat (go_big_quiet_step (first | (go_at_call 108; exact Calls.lat_of (CO.out _)) | (go_at_call 110; exact Calls.lat_of (CR.out _))))
      refine wpQuiet_nil ?_
      intro _ hw'
      obtain ⟨x, hw''⟩ := hw'
      subst hw''
      go_wp2_with fail
      go_ret
      exact ⟨by rw [HF.out]; rfl, (SW.out.to ((Aft.refl _).lat x)).aft⟩
    · have HLT := Lib.hid (show cmpG (c.grants[k - 1]'(by omega)) c.grants[k] < 0 by rw [HPP.out, HG.out, HZ.out]; omega)
      clear hz0
      refine wp_region_lat (by kernel_rfl) (by kernel_rfl) ?_
      repeat (go_big_quiet_step (first | (go_at_call 108; exact Calls.lat_of (CO.out _)) | (go_at_call 110; exact Calls.lat_of (CR.out _))))
      refine wpQuiet_nil ?_
      intro _ hw'
      obtain ⟨x, hw''⟩ := hw'
      subst hw''
      go_wp2_with fail
      refine (ofG g _).mono ?_
      rintro e w7 ⟨rfl, a7⟩
      have S7 := Lib.hid (SW.out.to (((Aft.refl _).lat x).trans a7))
      have r7 := S7.out.last
      have d0 := r7.cell (j := 0) rfl
      have d1 := r7.cell (j := 1) rfl
      have d2 := r7.cell (j := 2) rfl
      have d3 := r7.cell (j := 3) rfl
      have d4 := r7.cell (j := 4) rfl
      have f0 := r7.2.2 0 (by simp)
      have f1 := r7.2.2 1 (by simp)
      have f2 := r7.2.2 2 (by simp)
      have f3 := r7.2.2 3 (by simp)
      have f4 := r7.2.2 4 (by simp)
      have z7 := r7.1
      clear a7 r7
      go_wp2_with fail
      go_roundw
      case rel =>
        refine ⟨k + 1, g, by omega, by go_num, ⟨(setT_kb _ _ _ _ _ _ _).to_aft S7.out.aft (fun _ _ e => by omega), (setT_kb _ _ _ _ _ _ _).row S7.out.box (by omega), setT_row S7.out.last rfl _ _ _ _ _⟩, fun _ h => by rw [← HG.out]; rfl, ext_lt (p := fun j => ∀ (hj : j < c.grants.length), graOk c c.grants[j] = true ∧ (0 < j → cmpG (c.grants[j - 1]'(by omega)) c.grants[j] < 0)) HALL.out (fun _ => ⟨HOK.out, fun _ => HLT.out⟩)⟩
      case measure => simp [intOf]; omega
end Go.Proofs.YtgkhmnamkfgciaaGreat

namespace Go.Proofs.YtgkhmnamkfgciaaGreat
open Go.RowKit
set_option linter.unusedVariables false
/-- a grant is laid among others -/
def laid (l : List Gra) (g : Gra) : List Gra := if inG l g then l.map (fun y => if fiveE y g then { y with opt := y.opt || g.opt } else y) else insAt l (posB cmpG l g) g
noncomputable def mayR (c : Cat) (role s n : ByteArray) (r : Int) : Bool := wholeB c && (decide (0 ≤ tabAt c.objs.tables s n) && inB c.rols.names role) && kindB r && (bossB c.objs (allL c.rols role) (tabF c.objs s n) || givesB c.grants (allL c.rols role) s n r false)
theorem rises_pairG {l : List Gra} : risesB cmpG l = true ↔ l.Pairwise fun a b => cmpG a b < 0 := by
  constructor
  · exact fun h => List.pairwise_iff_getElem.2 fun i j hi hj hij => rises_lt ordG.lt h i j hi hj hij
  · exact fun h => (risesB_iff _ _).2 fun k hk => List.pairwise_iff_getElem.1 h k (k + 1) (by omega) hk (by omega)
theorem stands_iff {c : Cat} : standsB c = true ↔ c.grants.length ≤ 64 ∧ (checkO c.objs = true ∧ rightR c.rols = true ∧ inB c.rols.names bRoot = true ∧ ownersB c = true) ∧ (∀ g ∈ c.grants, graOk c g = true) ∧ risesB cmpG c.grants = true := by
  unfold standsB
  simp only [Bool.and_eq_true, decide_eq_true_eq, List.all_eq_true]
  exact ⟨fun h => ⟨h.1.1.1.1.1, ⟨h.1.1.1.1.2, h.1.1.1.2, h.1.1.2, h.1.2⟩, h.2⟩, fun h => ⟨⟨⟨⟨⟨h.1, h.2.1.1⟩, h.2.1.2.1⟩, h.2.1.2.2.1⟩, h.2.1.2.2.2⟩, h.2.2⟩⟩
theorem whole_iff {c : Cat} : wholeB c = true ↔ standsB c = true ∧ ∀ g ∈ c.grants, Held c g := by
  unfold wholeB
  rw [Bool.and_eq_true, beq_iff_eq]
  constructor
  · rintro ⟨h1, h2⟩
    refine ⟨h1, fun g hg => ?_⟩
    unfold holdL at h2
    rw [if_pos h1, List.length_filter_eq_length_iff] at h2
    exact heldB_iff.1 (h2 g hg)
  · rintro ⟨h1, h2⟩
    refine ⟨h1, ?_⟩
    unfold holdL
    rw [if_pos h1, List.length_filter_eq_length_iff]
    exact fun g hg => heldB_iff.2 (h2 g hg)
theorem held_map {c c' : Cat} (ho : c'.objs = c.objs) (hr : c'.rols = c.rols) (f : Gra → Gra) (hf : ∀ x ∈ c.grants, f x ∈ c'.grants ∧ fkey (f x) = fkey x ∧ (x.opt = true → (f x).opt = true)) : ∀ g, Held c g → Held c' (f g) := by
  intro g hg
  induction hg with
  | mk g l hg hl hj ih =>
    obtain ⟨h1, h2, h3⟩ := hf g hg
    refine .mk (f g) (l.map f) h1 (fun x hx => ?_) ?_
    · obtain ⟨y, hy, rfl⟩ := List.mem_map.1 hx
      exact ih y hy
    · unfold fkey at h2
      simp only [Prod.mk.injEq] at h2
      obtain ⟨e1, e2, e3, e4, e5⟩ := h2
      unfold justB at hj ⊢
      rw [ho, hr, e4, e1, e2, e3]
      rw [Bool.or_eq_true] at hj ⊢
      refine hj.imp id fun hj => ?_
      unfold givesB at hj ⊢
      rw [List.any_eq_true] at hj ⊢
      obtain ⟨x, hx, hx2⟩ := hj
      obtain ⟨k1, k2, k3⟩ := hf x (hl x hx).mem
      unfold fkey at k2
      simp only [Prod.mk.injEq] at k2
      obtain ⟨d1, d2, d3, d4, d5⟩ := k2
      refine ⟨f x, List.mem_map.2 ⟨x, hx, rfl⟩, ?_⟩
      rw [d1, d2, d3, d5]
      simp only [Bool.and_eq_true, Bool.not_true, Bool.or_false] at hx2 ⊢
      exact ⟨⟨hx2.1.1, k3 hx2.1.2⟩, hx2.2⟩
theorem cmpG_keys {a b x y : Gra} (h1 : fkey a = fkey x) (h2 : fkey b = fkey y) : cmpG a b = cmpG x y := by
  unfold fkey at h1 h2
  simp only [Prod.mk.injEq] at h1 h2
  obtain ⟨a1, a2, a3, a4, a5⟩ := h1
  obtain ⟨b1, b2, b3, b4, b5⟩ := h2
  unfold cmpG
  rw [a1, a2, a3, a4, a5, b1, b2, b3, b4, b5]
theorem graOk_key {c c' : Cat} (ho : c'.objs = c.objs) (hr : c'.rols = c.rols) {a b : Gra} (h : fkey a = fkey b) : graOk c' a = graOk c b := by
  unfold fkey at h
  simp only [Prod.mk.injEq] at h
  obtain ⟨a1, a2, a3, a4, a5⟩ := h
  unfold graOk
  rw [ho, hr, a1, a2, a3, a4, a5]
/-- the change that laying makes of the grants that were there -/
def layF (g y : Gra) : Gra := if fiveE y g then { y with opt := y.opt || g.opt } else y
theorem layF_key (g y : Gra) : fkey (layF g y) = fkey y := by unfold layF; split <;> rfl
theorem layF_opt (g y : Gra) (h : y.opt = true) : (layF g y).opt = true := by unfold layF; split <;> simp [h]
theorem inG_false {l : List Gra} {g : Gra} (h : inG l g = false) : ∀ y ∈ l, fiveE y g = false := by
  unfold inG at h
  rw [List.any_eq_false] at h
  exact fun y hy => by simpa using h y hy
theorem laid_new {l : List Gra} {g : Gra} (h : inG l g = false) : laid l g = insAt l (posB cmpG l g) g := by unfold laid; rw [h]; rfl
theorem laid_old {l : List Gra} {g : Gra} (h : inG l g = true) : laid l g = l.map (layF g) := by unfold laid; rw [h]; rfl
theorem laid_was (l : List Gra) (g x : Gra) (hx : x ∈ l) : layF g x ∈ laid l g := by
  cases h : inG l g
  · rw [laid_new h]
    have : layF g x = x := by unfold layF; rw [inG_false h x hx]; rfl
    rw [this]
    exact mem_insAt.2 (.inr hx)
  · rw [laid_old h]; exact List.mem_map.2 ⟨x, hx, rfl⟩
theorem laid_mem {l : List Gra} {g x : Gra} (h : x ∈ laid l g) : fkey x = fkey g ∨ ∃ y ∈ l, x = layF g y := by
  cases hi : inG l g
  · rw [laid_new hi] at h
    rcases mem_insAt.1 h with e | e
    · exact .inl (by rw [e])
    · exact .inr ⟨x, e, by unfold layF; rw [inG_false hi x e]; rfl⟩
  · rw [laid_old hi] at h
    obtain ⟨y, hy, e⟩ := List.mem_map.1 h
    exact .inr ⟨y, hy, e.symm⟩
theorem laid_rises {l : List Gra} {g : Gra} (hr : risesB cmpG l = true) : risesB cmpG (laid l g) = true := by
  cases hi : inG l g
  · rw [laid_new hi]
    refine rises_ins' ordG.lt ordG.anti hr fun y hy e => ?_
    have := inG_false hi y hy
    rw [(cmpG_zero _ _).1 e] at this; cases this
  · rw [laid_old hi]
    refine rises_pairG.2 (List.pairwise_map.2 ((rises_pairG.1 hr).imp fun {a b} h => ?_))
    rw [cmpG_keys (layF_key g a) (layF_key g b)]; exact h
theorem laid_len {l : List Gra} {g : Gra} (h : l.length ≤ 64) (hn : ¬ (64 ≤ l.length ∧ inG l g = false)) : (laid l g).length ≤ 64 := by
  cases hi : inG l g
  · rw [laid_new hi, insAt_len _ _ _ (posB_le _ _ _)]
    have : ¬ 64 ≤ l.length := fun h => hn ⟨h, hi⟩
    omega
  · rw [laid_old hi]; simpa using h
/-- giving went well -/
structure Gave (c : Cat) (g : Gra) (x : Cat) : Prop where
  whole : wholeB c = true
  ok : graOk c g = true
  just : justB c c.grants g = true
  room : ¬ (64 ≤ c.grants.length ∧ inG c.grants g = false)
  is : x = { c with grants := laid c.grants g }
theorem Gave.wholeX {c : Cat} {g : Gra} {x : Cat} (h : Gave c g x) : wholeB x = true := by
  obtain ⟨h1, h2⟩ := whole_iff.1 h.whole
  obtain ⟨k1, k2, k3, k4⟩ := stands_iff.1 h1
  have hx := h.is
  have ho : x.objs = c.objs := by rw [hx]
  have hr : x.rols = c.rols := by rw [hx]
  have hg : x.grants = laid c.grants g := by rw [hx]
  have hm : ∀ y ∈ c.grants, Held x (layF g y) := fun y hy => held_map ho hr (layF g) (fun z hz => ⟨by rw [hg]; exact laid_was _ _ _ hz, layF_key _ _, layF_opt _ _⟩) y (h2 y hy)
  refine whole_iff.2 ⟨stands_iff.2 ⟨by rw [hg]; exact laid_len k1 h.room, by rw [hx]; exact k2, fun y hy => ?_, by rw [hg]; exact laid_rises k4⟩, fun y hy => ?_⟩
  · rw [hg] at hy
    rcases laid_mem hy with e | ⟨z, hz, e⟩
    · rw [graOk_key ho hr e]; exact h.ok
    · rw [graOk_key ho hr (show fkey y = fkey z by rw [e]; exact layF_key _ _)]; exact k3 z hz
  · rw [hg] at hy
    rcases laid_mem hy with e | ⟨z, hz, e⟩
    · refine .mk y (c.grants.map (layF g)) (by rw [hg]; exact hy) (fun v hv => ?_) ?_
      · obtain ⟨u, hu, rfl⟩ := List.mem_map.1 hv
        exact hm u hu
      · have hj := h.just
        unfold fkey at e
        simp only [Prod.mk.injEq] at e
        obtain ⟨e1, e2, e3, e4, e5⟩ := e
        unfold justB at hj ⊢
        rw [ho, hr, e4, e1, e2, e3]
        rw [Bool.or_eq_true] at hj ⊢
        refine hj.imp id fun hj => ?_
        unfold givesB at hj ⊢
        rw [List.any_eq_true] at hj ⊢
        obtain ⟨u, hu, hu2⟩ := hj
        refine ⟨layF g u, List.mem_map.2 ⟨u, hu, rfl⟩, ?_⟩
        have k := layF_key g u
        unfold fkey at k
        simp only [Prod.mk.injEq] at k
        obtain ⟨d1, d2, d3, d4, d5⟩ := k
        rw [d1, d2, d3, d5]
        simp only [Bool.and_eq_true, Bool.not_true, Bool.or_false] at hu2 ⊢
        exact ⟨⟨hu2.1.1, layF_opt g u hu2.1.2⟩, hu2.2⟩
    · rw [e]; exact hm z hz
theorem ok_parts {c : Cat} {g : Gra} (h : graOk c g = true) : 0 ≤ tabAt c.objs.tables g.schema g.table ∧ kindB g.right = true ∧ eqS g.giver g.to = false ∧ inB c.rols.names g.giver = true ∧ inB c.rols.names g.to = true := by
  unfold graOk at h
  simp only [Bool.and_eq_true, decide_eq_true_eq, Bool.not_eq_true'] at h
  exact ⟨h.1.1.1.1, h.1.1.1.2, h.1.1.2, h.1.2, h.2⟩
/-- what is given takes nothing from anybody -/
theorem Gave.more {c : Cat} {g : Gra} {x : Cat} (h : Gave c g x) {role s n : ByteArray} {r : Int} (hm : mayR c role s n r = true) : mayR x role s n r = true := by
  have ho : x.objs = c.objs := by rw [h.is]
  have hr : x.rols = c.rols := by rw [h.is]
  unfold mayR at hm ⊢
  rw [h.wholeX, ho, hr]
  rw [h.whole] at hm
  simp only [Bool.and_eq_true, Bool.or_eq_true] at hm ⊢
  refine ⟨hm.1, hm.2.imp id fun hg => ?_⟩
  unfold givesB at hg ⊢
  rw [List.any_eq_true] at hg ⊢
  obtain ⟨u, hu, hu2⟩ := hg
  refine ⟨layF g u, by rw [h.is]; exact laid_was _ _ _ hu, ?_⟩
  have k := layF_key g u
  unfold fkey at k
  simp only [Prod.mk.injEq] at k
  obtain ⟨d1, d2, d3, d4, d5⟩ := k
  rw [d1, d2, d3, d5]
  simp only [Bool.and_eq_true, Bool.not_false, Bool.or_true] at hu2 ⊢
  exact hu2
end Go.Proofs.YtgkhmnamkfgciaaGreat

namespace Go.Proofs.YtgkhmnamkfgciaaGreat
open Go.RowKit Go.Deep
set_option maxRecDepth 100000
set_option linter.unusedVariables false
section
variable {P : Program} {k : TypeId} {w w' : World} {b n : Nat} {z : Value} {f : List UInt8 → Value}
theorem MapF.lookK {t e : TypeId} (h : MapF P k w b n z f) (K : Maps.Keyed P k) (ht : P.underlying t = some (.map k e)) (hz : (zeroValue e).run P w = .ok z w) (key : Value) (s : List UInt8) (hs : keyOf P k key = some (.string s)) :
    (Instr.lookup t (.map (some b)) key false).run P w = .ok (f s) w := by
  obtain ⟨D, hD, ho, hf⟩ := h
  obtain ⟨v, ps, hrun, hv⟩ := ho.lookup K ht hz (zd := .held z) (zp := []) rfl hs
  rw [hf] at hv
  unfold heldR at hv
  simp only [Option.some.injEq, Prod.mk.injEq, DataW.held.injEq] at hv
  rw [hrun, hv.1]
theorem MapF.putK {t e : TypeId} (h : MapF P k w b n z f) (K : Maps.Keyed P k) (ht : P.underlying t = some (.map k e)) (hn : n < maxLen) (key : Value) (s : List UInt8) (hs : keyOf P k key = some (.string s)) (v : Value) :
    ∃ w', (Instr.mapUpdate t (.map (some b)) key v).run P w = .ok () w' ∧ MapF P k w' b (n + 1) z (fun x => if x = s then v else f x) ∧ w.grownBy w' (some b) := by
  obtain ⟨D, hD, ho, hf⟩ := h
  obtain ⟨w', hrun, h1, h2⟩ := ho.update K ht hn hs (val := v) (d := .held v) (ps := []) rfl
  refine ⟨w', hrun, ⟨D.put (.string s) (.held v), hD.put _ _, h1, fun x => ?_⟩, h2⟩
  show _ = DataW.held (if x = s then v else f x)
  by_cases e : x = s
  · subst e
    rw [if_pos rfl]
    exact Maps.atKey_put_same hD (by trivial) _ _
  · rw [if_neg e, Maps.atKey_put_other (by intro e2; exact e (Lit.string.inj e2))]
    exact hf x
end
/-- the five of a grant, as a key and as bytes -/
def fiveV (g : Gra) : Value := .agg #[.string g.schema, .string g.table, .int .i64 g.right, .string g.giver, .string g.to]
def fiveL (g : Gra) : List Lit := [.string g.schema.data.toList, .string g.table.data.toList, .int .i64 g.right, .string g.giver.data.toList, .string g.to.data.toList]
def fiveS (g : Gra) : List UInt8 := keyBytes (fiveL g)
theorem five_keyed : Maps.Keyed Tryz.prog 151 := Maps.Keyed.of_law (deep_law (m := 3) (by decide) (by kernel_rfl) (by kernel_rfl) (by kernel_rfl))
theorem lits_str {P : Program} {t : TypeId} (h : P.underlying t = some .string) (d : Nat) (s : ByteArray) (hs : s.size ≤ maxLen) : P.keyLits (d + 1) t [.string s] = some [.string s.data.toList] := by simp [Program.keyLits, h, hs]
theorem lits_int {P : Program} {t : TypeId} {q : IntKind} (h : P.underlying t = some (.int q)) (d : Nat) (n : Int) (hn : (Lit.int q n).wf = true) : P.keyLits (d + 1) t [.int q n] = some [.int q n] := by simp [Program.keyLits, h, hn]
theorem five_lits (g : Gra) (h : SmG g) (d : Nat) : Tryz.prog.keyLits (d + 2) 151 [.string g.schema, .string g.table, .int .i64 g.right, .string g.giver, .string g.to] = some (fiveL g) := by
  have e1 := fun s hs => lits_str Tryz.underlying9 d s hs
  have e2 := lits_int Tryz.underlying43 d g.right h.2.2.2.2
  have k1 : Tryz.prog.cellsOf 151 = 5 := by kernel_rfl
  have k2 : Tryz.prog.cellsOf 9 = 1 := by kernel_rfl
  have k3 : Tryz.prog.cellsOf 43 = 1 := by kernel_rfl
  unfold Program.keyLits
  simp only [Tryz.underlying151]
  simp [k1, k2, k3, e1 _ h.1.max, e1 _ h.2.1.max, e1 _ h.2.2.1.max, e1 _ h.2.2.2.1.max, e2, fiveL]
theorem five_key (g : Gra) (h : SmG g) : keyOf Tryz.prog 151 (fiveV g) = some (.string (fiveS g)) := by
  obtain ⟨d, hd⟩ : ∃ d, Tryz.prog.types.size + 1 = d + 2 := ⟨Tryz.prog.types.size - 1, by kernel_rfl⟩
  have k : (Tryz.prog.keyType 151 && (fiveV g).formed Tryz.prog 151) = true := by
    rw [Bool.and_eq_true]; exact ⟨by kernel_rfl, by unfold fiveV; kernel_rfl⟩
  have e := five_lits g h d
  unfold keyOf
  rw [Tryz.underlying151, hd]
  simp only [k, if_true]
  unfold fiveV
  simp only [Value.cells]
  rw [e]
  rfl
theorem fiveS_inj (g h : Gra) (hg : SmG g) (hh : SmG h) : fiveS g = fiveS h ↔ fkey g = fkey h := by
  constructor
  · intro e
    have := keyBytes_inj (l := fiveL g) (l' := fiveL h) (by simp [fiveL, Alike, Lit.sameKind]) (fun a ha => ?_) (fun a ha => ?_) e
    · unfold fiveL at this
      simp only [List.cons.injEq, Lit.string.injEq, Lit.int.injEq, and_true, true_and] at this
      obtain ⟨e1, e2, e3, e4, e5⟩ := this
      unfold fkey
      rw [txt_inj e1, txt_inj e2, e3, txt_inj e4, txt_inj e5]
    · simp only [fiveL, List.mem_cons, List.not_mem_nil, or_false] at ha
      rcases ha with rfl | rfl | rfl | rfl | rfl
      · simpa [Lit.keyWf] using hg.1.max
      · simpa [Lit.keyWf] using hg.2.1.max
      · exact hg.2.2.2.2
      · simpa [Lit.keyWf] using hg.2.2.1.max
      · simpa [Lit.keyWf] using hg.2.2.2.1.max
    · simp only [fiveL, List.mem_cons, List.not_mem_nil, or_false] at ha
      rcases ha with rfl | rfl | rfl | rfl | rfl
      · simpa [Lit.keyWf] using hh.1.max
      · simpa [Lit.keyWf] using hh.2.1.max
      · exact hh.2.2.2.2
      · simpa [Lit.keyWf] using hh.2.2.1.max
      · simpa [Lit.keyWf] using hh.2.2.2.1.max
  · intro e
    unfold fkey at e
    simp only [Prod.mk.injEq] at e
    obtain ⟨e1, e2, e3, e4, e5⟩ := e
    unfold fiveS fiveL
    rw [e1, e2, e3, e4, e5]
end Go.Proofs.YtgkhmnamkfgciaaGreat

namespace Go.Proofs.YtgkhmnamkfgciaaGreat
open Go.RowKit Go.Deep Go.WideElems Go.ChangeMaps
set_option maxRecDepth 100000
set_option linter.unusedVariables false
section
variable {P : Program} {k : TypeId} {w w' : World} {b n : Nat} {z : Value} {f : List UInt8 → Value}
theorem set_same {b : Nat} {o : Obj} (hb : w.heap[b]? = some o) : setBlock w b o = w := by
  obtain ⟨h1, h2⟩ := Array.getElem?_eq_some_iff.1 hb
  unfold setBlock
  have : w.heap.setIfInBounds b o = w.heap := by
    apply Array.ext
    · simp
    · intro i hi1 hi2
      rw [Array.getElem_setIfInBounds hi2]
      split
      · rename_i e; subst e; exact h2.symm
      · rfl
  rw [this]
/-- behind the entry a look-up sees what it saw -/
theorem entry_look {t e : TypeId} (K : WideMaps.KeyLaw P k) (ht : P.underlying t = some (.map k e)) (hz : ∀ u : World, (zeroValue e).run P u = .ok z u) {es : Array MapEntry} {clock : Nat} (hb : w.heap[b]? = some (.map es clock)) (F : Fit P k heldR es clock) {key : Value} {kl : Lit} (hkey : keyOf P k key = some kl) {v : Value} {w1 : World}
    (hE : (Instr.mapEntry t (.map (some b)) key).run P w = .ok v w1) : ∃ v0, (Instr.lookup t (.map (some b)) key false).run P w = .ok v0 w ∧ (Instr.lookup t (.map (some b)) key false).run P w1 = .ok v0 w1 := by
  have look : ∀ (u : World) (l : Array MapEntry) (c : Nat), u.heap[b]? = some (.map l c) → ∀ a, (Instr.findKey k key l.toList).run P u = .ok a u → (Instr.lookup t (.map (some b)) key false).run P u = .ok (match a with | some (_, y) => y | none => z) u := fun u l c hu a ha => by
    cases a with
    | none => simp [Instr.lookup, run_underlying ht, MapKept.run_getObj_map hu, K.check u _ hkey, ha, hz, Result.andThen]
    | some q => obtain ⟨j, y⟩ := q; simp [Instr.lookup, run_underlying ht, MapKept.run_getObj_map hu, K.check u _ hkey, ha, Result.andThen]
  rcases K.find w hkey es.toList F.keys with ⟨h1, h2⟩ | ⟨j, e0, h1, h2, h3⟩
  · have e1 : w1 = setBlock w b (.map (es.push ⟨key, z, clock⟩) (clock + 1)) := by
      simp [Instr.mapEntry, run_underlying ht, MapKept.run_getObj_map hb, K.check w false hkey, h1, hz, MapKept.run_setObj_map _ hb, Result.andThen] at hE
      rw [← hE.2]; rfl
    have hb1 : w1.heap[b]? = some (.map (es.push ⟨key, z, clock⟩) (clock + 1)) := by rw [e1]; exact heap_setBlock_same hb _
    refine ⟨z, look w es clock hb none h1, ?_⟩
    have hk1 : ∀ x ∈ (es.push ⟨key, z, clock⟩).toList, ∃ l, keyOf P k x.key = some l := fun x hx => by
      rw [Array.toList_push, List.mem_append, List.mem_singleton] at hx
      rcases hx with hx | rfl
      · exact F.keys x hx
      · exact ⟨_, hkey⟩
    rcases K.find w1 hkey _ hk1 with ⟨g1, g2⟩ | ⟨j', e', g1, g2, g3⟩
    · exact absurd rfl (g2 ⟨key, z, clock⟩ (by simp))
    · have hm : e' ∈ (es.push ⟨key, z, clock⟩).toList := List.mem_of_getElem? g2
      rw [Array.toList_push, List.mem_append, List.mem_singleton] at hm
      rcases hm with hm | hm
      · exact absurd g3 (h2 e' hm)
      · have := look w1 _ _ hb1 _ g1
        rw [hm] at this
        exact this
  · have hj : es[j]? = some e0 := by simpa using h2
    have hsame : es.modify j (fun e => { e with key := key }) = es := by
      apply Array.ext'
      rw [Array.toList_modify, modify_eq_set _ _ _ _ h2]
      have : ({ e0 with key := key } : MapEntry) = e0 := by rw [← h3]
      rw [this]
      exact set_self _ _ _ h2
    have e1 : w1 = w := by
      simp [Instr.mapEntry, run_underlying ht, MapKept.run_getObj_map hb, K.check w false hkey, h1, hj, h3, K.stays w hkey, hsame, MapKept.run_setObj_map _ hb, Result.andThen] at hE
      rw [← hE.2]
      exact set_same hb
    subst e1
    exact ⟨_, look _ es clock hb _ h1, look _ es clock hb _ h1⟩
theorem MapF.entry {t e : TypeId} (h : MapF P k w b n z f) (K : WideMaps.KeyLaw P k) (ht : P.underlying t = some (.map k e)) (hz : ∀ u : World, (zeroValue e).run P u = .ok z u) (hn : n < maxLen) (key : Value) (s : List UInt8) (hs : keyOf P k key = some (.string s)) (v : Value) :
    ∃ v0 st w1 w2, (Instr.mapEntry t (.map (some b)) key).run P w = .ok (.tuple #[v0, goInt st]) w1 ∧ w.grownBy w1 (some b) ∧ (Instr.lookup t (.map (some b)) key false).run P w1 = .ok (f s) w1 ∧
      (Instr.entryStore t (.map (some b)) (goInt st) v).run P w1 = .ok () w2 ∧ MapF P k w2 b (n + 1) z (fun x => if x = s then v else f x) ∧ w.grownBy w2 (some b) := by
  have hl := h.lookK (Maps.Keyed.of_law K) ht (hz w) key s hs
  obtain ⟨w', hrun, hM, hg⟩ := h.putK (Maps.Keyed.of_law K) ht hn key s hs v
  obtain ⟨D, hD, ho, hf⟩ := h
  obtain ⟨es, clock, hb, F, hsz, he⟩ := ho
  obtain ⟨v0, st, es1, clock1, hE, _, hS⟩ := entry_then_store K ht hz hb F hs
  have hb1 : (setBlock w b (.map es1 clock1)).heap[b]? = some (.map es1 clock1) := heap_setBlock_same hb _
  obtain ⟨es', clock', hSt, hUp⟩ := hS (setBlock w b (.map es1 clock1)) v hb1
  have e2 : setBlock (setBlock w b (.map es1 clock1)) b (.map es' clock') = setBlock w b (.map es' clock') := by
    unfold setBlock
    simp
  have e3 : w' = setBlock w b (.map es' clock') := by
    rw [hrun] at hUp
    simpa using hUp
  obtain ⟨u0, k1, k2⟩ := entry_look K ht hz hb F hs hE
  have e4 : u0 = f s := by rw [hl] at k1; simpa using k1.symm
  subst e4
  refine ⟨v0, st, _, _, hE, ?_, k2, hSt, ?_, ?_⟩
  · exact ⟨rfl, rfl, rfl, by simp [setBlock], fun i _ hi => heap_setBlock_other hb _ (fun e => hi (by rw [e]))⟩
  · rw [e2, ← e3]; exact hM
  · rw [e2, ← e3]; exact hg
end
theorem five_law : WideMaps.KeyLaw Tryz.prog 151 := deep_law (m := 3) (by decide) (by kernel_rfl) (by kernel_rfl) (by kernel_rfl)
end Go.Proofs.YtgkhmnamkfgciaaGreat

namespace Go.Proofs.YtgkhmnamkfgciaaGreat
open Go.RowKit Go.Deep
set_option maxRecDepth 100000
set_option linter.unusedVariables false
theorem info2Gra : (Tryz.prog.info? 106).map (fun i => (i.zero, i.size, i.bytes)) = some (some (.agg #[.string ByteArray.empty, .string ByteArray.empty, .int .i64 0, .string ByteArray.empty, .string ByteArray.empty, .bool false]), 6, 80) := by kernel_rfl
theorem app_gra {ops : Array Oper} {rest : List Oper} {o : Oper} {a : Act} {w : World} {Q : Exit → Act → World → Prop} (hgd : o.guard = none) (s x : Operand)
    (ho : o.op = .call { callee := .builtin .append, args := #[s, x], argTypes := #[30, 30] }) (base : Nat) (v : Value) (n : Nat) (xs : List Value) (hs : a.eval s = v) (hown : w.ownsRow base 106 6 v n xs)
    (b : Nat) (y : Gra) (hx : a.eval x = .slice (some ⟨b, 0, none⟩) 1 1) (hb : w.heap[b]? = some (.cells #[.string y.schema, .string y.table, .int .i64 y.right, .string y.giver, .string y.to, .bool y.opt] 106)) (hn : n ≤ 1000000) (hbase : base ≤ w.heap.size)
    (h : ∀ g cap w', w'.ownsRow base 106 6 (.slice (some ⟨g, 0, none⟩) (n + 1) cap) (n + 1) (xs ++ graC y) → w.grownBy w' v.ownBlock → (v.ownBlock = some g ∨ g = w.heap.size) → wpList Tryz.prog ops Q rest (a.put o.dst (.slice (some ⟨g, 0, none⟩) (n + 1) cap)) w') : wpList Tryz.prog ops Q (o :: rest) a w := by
  obtain ⟨i0, hi0, hz0, hz1, hz2⟩ := info_parts info2Gra
  exact wpList_append_lies w hgd s x 30 ho base 106 i0 _ 6 80 Tryz.underlying30 hi0 hz0 hz1 hz2 rfl (by decide) v n xs hs hown ⟨b, 0, none⟩ 1 1 [.string y.schema, .string y.table, .int .i64 y.right, .string y.giver, .string y.to, .bool y.opt] hx rfl (World.news_of_block (cs := #[.string y.schema, .string y.table, .int .i64 y.right, .string y.giver, .string y.to, .bool y.opt]) (t := 106) (fr := (0, 0)) hb) (by simp [Value.oneCell']) (by omega) (by unfold maxLen; omega) (by omega) hbase _ rfl fun g cap w' h1 h2 h3 _ => h g cap w' h1 h2 h3
/-- a row that grows from a world on -/
def GrG (X wr : World) (h : Hd) (l : List Gra) : Prop := Aft X wr ∧ wr.ownsRow X.heap.size 106 6 h.v l.length (l.flatMap graC)
theorem GrG.start (X : World) : GrG X X ⟨none, 0, 0⟩ [] := ⟨Aft.refl X, own_nil _ _ _ _⟩
theorem GrG.aft {X wr w' : World} {h : Hd} {l : List Gra} (g : GrG X wr h l) (a : Aft wr w') : GrG X w' h l := ⟨g.1.trans a, own_aft g.2 a⟩
theorem GrG.own {X wr : World} {h : Hd} {l : List Gra} (g : GrG X wr h l) : wr.ownsRow X.heap.size 106 6 (.slice h.a l.length h.c) l.length (l.flatMap graC) := by
  have := g.2
  rw [own_slice this] at this
  exact this
theorem GrG.sl {X wr : World} {h : Hd} {l : List Gra} (g : GrG X wr h l) (hs : ∀ x ∈ l, SmG x) (hl : l.length ≤ 1000000) : SlAt wr 6 GraR h.a h.c l := own_slf graC g.2 (fun x hx => ⟨rfl, rfl, hs x hx⟩) (by unfold Small; omega)
theorem GrG.grow {X wr w4 w5 : World} {h : Hd} {l : List Gra} {y : Gra} {gg cap : Nat} (g : GrG X wr h l) (a4 : Aft wr w4) (ho : w5.ownsRow X.heap.size 106 6 (.slice (some ⟨gg, 0, none⟩) (l.length + 1) cap) (l.length + 1) (l.flatMap graC ++ graC y)) (hg : w4.grownBy w5 (Value.slice h.a l.length h.c).ownBlock) :
    GrG X w5 ⟨some ⟨gg, 0, none⟩, l.length + 1, cap⟩ (l ++ [y]) :=
  ⟨aft_grown (own_aft g.own a4) (g.1.trans a4) hg, by rw [List.length_append, List.flatMap_append, List.flatMap_cons, List.flatMap_nil, List.append_nil]; exact ho⟩
end Go.Proofs.YtgkhmnamkfgciaaGreat

