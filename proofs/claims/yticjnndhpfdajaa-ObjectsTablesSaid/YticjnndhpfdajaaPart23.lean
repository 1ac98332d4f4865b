/- Contracts of the program, part 23. -/
import Derived.Test.YticjnndhpfdajaaPart8
import Derived.Test.YticjnndhpfdajaaPart22
import Derived.Test.YticjnndhpfdajaaPart21
import Derived.Test.YticjnndhpfdajaaPart7
/- law07's told: what came out is the same as what is wanted, and may be written over; what was handed in stays. -/
namespace Go.Proofs.Yticjnndhpfdajaa
open Go.RowKit
set_option maxRecDepth 100000
set_option linter.unusedVariables false
section
variable {w : World} {B B' g n c i : Nat} {hs : Hd} {L : Lay}
theorem Sh.tcell (s : Sh w B B' hs ⟨some ⟨g, 0, none⟩, n, c⟩ L) (hi : i < n) : w.cell? ⟨g, i * 5 + 3, none⟩ = some (L.col i).v ∧ w.cell? ⟨g, i * 5 + 4, none⟩ = some (L.rul i).v ∧ Blk w B B' g 29 (n * 5) := by
  obtain ⟨g', hg, hb, hc⟩ := s.tab.2.1 (by show 0 < n; omega)
  simp only [Option.some.injEq, Addr.mk.injEq, and_true] at hg
  subst hg
  exact ⟨(hc i hi).1, (hc i hi).2, hb⟩
theorem Sh.ahead {A : Option Addr} (s : Sh w B B' hs ⟨A, n, c⟩ L) (hn : 0 < n) : ∃ g, A = some ⟨g, 0, none⟩ := by
  obtain ⟨g, hg, _⟩ := s.tab.2.1 hn; exact ⟨g, hg⟩
theorem Sh.shead {A : Option Addr} {ht : Hd} (s : Sh w B B' ⟨A, n, c⟩ ht L) (hn : 0 < n) : ∃ g, A = some ⟨g, 0, none⟩ ∧ Blk w B B' g 51 (n * 2) := s.sch.2 hn
theorem Sh.colv {A D : Option Addr} {nc cc : Nat} (s : Sh w B B' hs ⟨A, n, c⟩ L) (hi : i < n) (hL : L.col i = ⟨D, nc, cc⟩) : nc * 16 ≤ 140737488351232 ∧ (0 < nc → ∃ g, D = some ⟨g, 0, none⟩ ∧ Blk w B B' g 68 (nc * 3)) := by
  have := (s.tab.2.2 i hi).1; rw [hL] at this; exact this
theorem Sh.rulv {A D : Option Addr} {nc cc : Nat} (s : Sh w B B' hs ⟨A, n, c⟩ L) (hi : i < n) (hL : L.rul i = ⟨D, nc, cc⟩) : nc * 16 ≤ 140737488351232 ∧ (0 < nc → ∃ g, D = some ⟨g, 0, none⟩ ∧ Blk w B B' g 42 (nc * 8) ∧ ∀ j, j < nc → w.cell? ⟨g, j * 8 + 2, none⟩ = some (L.nam i j).v) ∧ ∀ j, j < nc → ShV w B B' 9 1 (L.nam i j) := by
  have := (s.tab.2.2 i hi).2; rw [hL] at this; exact this
end
set_option maxHeartbeats 8000000 in
theorem told_any (X o : Objs) (A : Option Addr) (cap : Nat) (A2 : Option Addr) (cap2 : Nat) (D : Option Addr) (capD : Nat) (D2 : Option Addr) (capD2 : Nat) (E : Option Addr) (capE : Nat) (E2 : Option Addr) (capE2 : Nat) (F : Option Addr) (capF : Nat) (F2 : Option Addr) (capF2 : Nat) (e : Int) (W0 w : World) (B B' : Nat) (L : Lay)
    (hB : W0.heap.size ≤ B) (hB' : B' ≤ w.heap.size) (a0 : Aft W0 w) (g1 : SlAt w 2 SchR A cap X.schemas) (g2 : SlAt w 5 TabR A2 cap2 X.tables) (d1 : SlAt w 2 SchR D capD X.schemas) (d2 : SlAt w 5 TabR D2 capD2 X.tables)
    (o1 : SlAt W0 2 SchR E capE o.schemas) (o2 : SlAt W0 5 TabR E2 capE2 o.tables) (f1 : SlAt W0 2 SchR F capF o.schemas) (f2 : SlAt W0 5 TabR F2 capF2 o.tables) (sh : Sh w B B' ⟨A, X.schemas.length, cap⟩ ⟨A2, X.tables.length, cap2⟩ L) :
    Calls Try.prog 11 #[.agg #[.slice A X.schemas.length cap, .slice A2 X.tables.length cap2], .int .i64 e, .agg #[.slice D X.schemas.length capD, .slice D2 X.tables.length capD2], .int .i64 e, .agg #[.slice E o.schemas.length capE, .slice E2 o.tables.length capE2], .agg #[.slice F o.schemas.length capF, .slice F2 o.tables.length capF2]] w
      fun e' w' => e' = .returned (.bool true) ∧ Kp B B' w w' := by
  have hlen := g1.len
  have hlen2 := g2.len
  have Cs := Lib.hid (show ∀ w', Aft w w' → _ from fun w' a => sameO_any X A cap A2 cap2 D capD D2 capD2 w' (schs_aft a g1) (tabs_aft a g2) (schs_aft a d1) (tabs_aft a d2))
  have Co := Lib.hid (show ∀ w', Aft W0 w' → _ from fun w' a => sameO_any o E capE E2 capE2 F capF F2 capF2 w' (schs_aft a o1) (tabs_aft a o2) (schs_aft a f1) (tabs_aft a f2))
  have HA0 := Lib.hid a0
  have HSH := Lib.hid sh
  obtain ⟨n0, hn0⟩ : ∃ n, n = w.heap.size := ⟨_, rfl⟩
  obtain ⟨W, hW⟩ : ∃ W, W = (((w.alloc (.cells #[.slice A X.schemas.length cap, .slice A2 X.tables.length cap2] 25)).alloc (.cells #[.slice D X.schemas.length capD, .slice D2 X.tables.length capD2] 25)).alloc (.cells #[.slice E o.schemas.length capE, .slice E2 o.tables.length capE2] 25)).alloc (.cells #[.slice F o.schemas.length capF, .slice F2 o.tables.length capF2] 25) := ⟨_, rfl⟩
  have aW : Aft w W := by rw [hW]; exact ((((Aft.refl w).alloc _).alloc _).alloc _).alloc _
  have bg0 : W.cell? ⟨w.heap.size, 0, none⟩ = some (.slice A X.schemas.length cap) := by
    rw [hW]; (repeat (refine (World.cell?_alloc_past _ _ _ (by first | (simp; done) | (simp; omega))).trans ?_)); exact World.cell?_alloc_at _ _ _ _ (by simp)
  have bg1 : W.cell? ⟨w.heap.size, 1, none⟩ = some (.slice A2 X.tables.length cap2) := by
    rw [hW]; (repeat (refine (World.cell?_alloc_past _ _ _ (by first | (simp; done) | (simp; omega))).trans ?_)); exact World.cell?_alloc_at _ _ _ _ (by simp)
  have bo0 : W.cell? ⟨w.heap.size + 1 + 1, 0, none⟩ = some (.slice E o.schemas.length capE) := by
    rw [hW]; (repeat (refine (World.cell?_alloc_past _ _ _ (by first | (simp; done) | (simp; omega))).trans ?_)); exact World.cell?_alloc_at _ _ _ _ (by simp)
  have bo1 : W.cell? ⟨w.heap.size + 1 + 1, 1, none⟩ = some (.slice E2 o.tables.length capE2) := by
    rw [hW]; (repeat (refine (World.cell?_alloc_past _ _ _ (by first | (simp; done) | (simp; omega))).trans ?_)); exact World.cell?_alloc_at _ _ _ _ (by simp)
  have bf0 : W.cell? ⟨w.heap.size + 1 + 1 + 1, 0, none⟩ = some (.slice F o.schemas.length capF) := by
    rw [hW]; (repeat (refine (World.cell?_alloc_past _ _ _ (by first | (simp; done) | (simp; omega))).trans ?_)); exact World.cell?_alloc_at _ _ _ _ (by simp)
  have bf1 : W.cell? ⟨w.heap.size + 1 + 1 + 1, 1, none⟩ = some (.slice F2 o.tables.length capF2) := by
    rw [hW]; (repeat (refine (World.cell?_alloc_past _ _ _ (by first | (simp; done) | (simp; omega))).trans ?_)); exact World.cell?_alloc_at _ _ _ _ (by simp)
  have bd0 : W.cell? ⟨w.heap.size + 1, 0, none⟩ = some (.slice D X.schemas.length capD) := by
    rw [hW]; (repeat (refine (World.cell?_alloc_past _ _ _ (by first | (simp; done) | (simp; omega))).trans ?_)); exact World.cell?_alloc_at _ _ _ _ (by simp)
  have bd1 : W.cell? ⟨w.heap.size + 1, 1, none⟩ = some (.slice D2 X.tables.length capD2) := by
    rw [hW]; (repeat (refine (World.cell?_alloc_past _ _ _ (by first | (simp; done) | (simp; omega))).trans ?_)); exact World.cell?_alloc_at _ _ _ _ (by simp)
  have l1 : w.heap.size < w.heap.size + 1 := by omega
  have l2 : w.heap.size < w.heap.size + 1 + 1 := by omega
  have l3 : w.heap.size < w.heap.size + 1 + 1 + 1 := by omega
  have l4 : w.heap.size < w.heap.size + 1 + 1 + 1 + 1 := by omega
  clear g1 g2 d1 d2 o1 o2 f1 f2 sh a0
  go_enter Try.func11, Try.ntmps11
  go_wp2_with fail
  rw [← hW]
  refine (Cs.out W aW).mono ?_
  rintro e' w1 ⟨rfl, a1⟩
  have HKW := Lib.hid (show Kp B B' w W from Kp.of_aft aW)
  have HK1 := Lib.hid (show Kp B B' W w1 from Kp.of_aft a1)
  have HS1 := Lib.hid (HSH.out.aft (aW.trans a1))
  rw [← hn0] at bg0 bg1 bo0 bo1 bf0 bf1 hB' ⊢
  have HG := Lib.hid (show ∀ v : World, Kp B B' W v → v.cell? ⟨n0, 0, none⟩ = some (.slice A X.schemas.length cap) ∧ v.cell? ⟨n0, 1, none⟩ = some (.slice A2 X.tables.length cap2) ∧ v.cell? ⟨n0 + 1 + 1, 0, none⟩ = some (.slice E o.schemas.length capE) ∧ v.cell? ⟨n0 + 1 + 1, 1, none⟩ = some (.slice E2 o.tables.length capE2) ∧ v.cell? ⟨n0 + 1 + 1 + 1, 0, none⟩ = some (.slice F o.schemas.length capF) ∧ v.cell? ⟨n0 + 1 + 1 + 1, 1, none⟩ = some (.slice F2 o.tables.length capF2) from
    fun v k => ⟨k.cell bg0 (.inr hB'), k.cell bg1 (.inr hB'), k.cell bo0 (.inr (by show B' ≤ n0 + 1 + 1; omega)), k.cell bo1 (.inr (by show B' ≤ n0 + 1 + 1; omega)), k.cell bf0 (.inr (by show B' ≤ n0 + 1 + 1 + 1; omega)), k.cell bf1 (.inr (by show B' ≤ n0 + 1 + 1 + 1; omega))⟩)
  clear bg0 bg1 bo0 bo1 bf0 bf1 bd0 bd1 a1 aW hW Cs hn0 l1 l2 l3 l4
  go_wp2_with fail
  go_loopw [14] (fun i wrr => ∃ k : Nat, k ≤ X.tables.length ∧ i = .int .i64 k ∧ Kp B B' W wrr ∧ Sh wrr B B' ⟨A, X.schemas.length, cap⟩ ⟨A2, X.tables.length, cap2⟩ L) (fun i _ => X.tables.length - (intOf i).toNat)
  case atStart => exact ⟨0, Nat.zero_le _, rfl, HK1.out, HS1.out⟩
  case round =>
    clear HK1 HS1
    obtain ⟨k, hk, rfl, hkp, hsh⟩ := hrel
    obtain ⟨x0, x1, x2, x3, x4, x5⟩ := HG.out _ hkp
    have lx : n0 < wr.heap.size := World.block_lt_of_cell? _ _ x0
    have HK := Lib.hid hkp
    have HS := Lib.hid hsh
    by_cases hlt : k < X.tables.length
    · obtain ⟨g, hg⟩ := hsh.ahead (by omega)
      subst hg
      obtain ⟨t3, t4, tb⟩ := hsh.tcell hlt
      obtain ⟨hc, hcc⟩ : ∃ h, L.col k = h := ⟨_, rfl⟩
      obtain ⟨Ac, nc, cc⟩ := hc
      obtain ⟨hr, hrr⟩ : ∃ h, L.rul k = h := ⟨_, rfl⟩
      obtain ⟨Ar, nr, cr⟩ := hr
      have HCC := Lib.hid hcc
      have HRR := Lib.hid hrr
      have bc := (hsh.colv hlt hcc).1
      have br := (hsh.rulv hlt hrr).1
      have HT := Lib.hid (show ∀ v : World, Sh v B B' ⟨A, X.schemas.length, cap⟩ ⟨some ⟨g, 0, none⟩, X.tables.length, cap2⟩ L → v.cell? ⟨g, k * 5 + 3, none⟩ = some (.slice Ac nc cc) ∧ v.cell? ⟨g, k * 5 + 4, none⟩ = some (.slice Ar nr cr) ∧ Blk v B B' g 29 (X.tables.length * 5) from fun v s => by
        obtain ⟨q3, q4, q5⟩ := s.tcell hlt
        rw [hcc] at q3; rw [hrr] at q4
        exact ⟨q3, q4, q5⟩)
      clear t3 t4 tb hcc hrr hkp hsh
      obtain ⟨t3, t4, tb⟩ := HT.out _ HS.out
      have lt := tb.lt
      go_wp2_with fail
      go_loopw [15] (fun i wrr => ∃ m : Nat, m ≤ nc ∧ i = .int .i64 m ∧ Kp B B' W wrr ∧ Sh wrr B B' ⟨A, X.schemas.length, cap⟩ ⟨some ⟨g, 0, none⟩, X.tables.length, cap2⟩ L) (fun i _ => nc - (intOf i).toNat)
      case atStart => exact ⟨0, Nat.zero_le _, rfl, HK.out, HS.out⟩
      case round =>
        clear x0 x1 x2 x3 x4 x5 lx t3 t4 tb lt HK HS
        obtain ⟨m, hm, rfl, hkp, hsh⟩ := hrel
        obtain ⟨x0, x1, x2, x3, x4, x5⟩ := HG.out _ hkp
        have lx : n0 < wr.heap.size := World.block_lt_of_cell? _ _ x0
        obtain ⟨t3, t4, tb⟩ := HT.out _ hsh
        have lt := tb.lt
        have HK := Lib.hid hkp
        have HS := Lib.hid hsh
        by_cases hlt2 : m < nc
        · obtain ⟨gc, hgc, bk⟩ := (hsh.colv hlt HCC.out).2 (by omega)
          subst hgc
          obtain ⟨u, hu⟩ := bk.cell (j := m * 3) (by omega)
          have fu := bk.free (m * 3)
          have lu := bk.lt
          have HN := Lib.hid (hsh.set (bk.ok (m * 3) (fun h => by cases h) (fun h => by cases h)) (.string ⟨#[111, 118, 101, 114]⟩))
          have HN2 := Lib.hid (hkp.set ⟨gc, m * 3, none⟩ (.string ⟨#[111, 118, 101, 114]⟩) bk.1 bk.2.1)
          clear hkp hsh
          go_wp2_with fail
          go_roundw
          case rel => exact ⟨m + 1, by omega, by go_num, HN2.out, HN.out⟩
          case measure => simp [intOf]; omega
        clear hkp hsh
        go_wp2_with fail
        go_loopw [16] (fun i wrr => ∃ m : Nat, m ≤ nr ∧ i = .int .i64 m ∧ Kp B B' W wrr ∧ Sh wrr B B' ⟨A, X.schemas.length, cap⟩ ⟨some ⟨g, 0, none⟩, X.tables.length, cap2⟩ L) (fun i _ => nr - (intOf i).toNat)
        case atStart => exact ⟨0, Nat.zero_le _, rfl, HK.out, HS.out⟩
        case round =>
          clear x0 x1 x2 x3 x4 x5 lx t3 t4 tb lt HK HS
          obtain ⟨m2, hm2, rfl, hkp, hsh⟩ := hrel
          obtain ⟨x0, x1, x2, x3, x4, x5⟩ := HG.out _ hkp
          have lx : n0 < wr.heap.size := World.block_lt_of_cell? _ _ x0
          obtain ⟨t3, t4, tb⟩ := HT.out _ hsh
          have lt := tb.lt
          have HK := Lib.hid hkp
          have HS := Lib.hid hsh
          by_cases hlt3 : m2 < nr
          · obtain ⟨gr, hgr, bk, hnm⟩ := (hsh.rulv hlt HRR.out).2.1 (by omega)
            subst hgr
            obtain ⟨hn, hnn⟩ : ∃ h, L.nam k m2 = h := ⟨_, rfl⟩
            obtain ⟨An, nn, cn⟩ := hn
            have bn := ((hsh.rulv hlt HRR.out).2.2 m2 hlt3).1
            rw [hnn] at bn
            have bn' : nn * 16 ≤ 140737488351232 := bn
            have HR := Lib.hid (show ∀ v : World, Sh v B B' ⟨A, X.schemas.length, cap⟩ ⟨some ⟨g, 0, none⟩, X.tables.length, cap2⟩ L → v.cell? ⟨gr, m2 * 8 + 2, none⟩ = some (.slice An nn cn) ∧ Blk v B B' gr 42 (nr * 8) ∧ (0 < nn → ∃ gn, An = some ⟨gn, 0, none⟩ ∧ Blk v B B' gn 9 (nn * 1)) from fun v s => by
              obtain ⟨gr', h1, h2, h3⟩ := (s.rulv hlt HRR.out).2.1 (by omega)
              simp only [Option.some.injEq, Addr.mk.injEq, and_true] at h1
              subst h1
              have h4 := (s.rulv hlt HRR.out).2.2 m2 hlt3
              have h5 := h3 m2 hlt3
              rw [hnn] at h4 h5
              exact ⟨h5, h2, h4.2⟩)
            clear bk hnm hnn bn hkp hsh
            obtain ⟨r2, rb, _⟩ := HR.out _ HS.out
            have lr := rb.lt
            go_wp2_with fail
            go_loopw [17] (fun i wrr => ∃ q : Nat, q ≤ nn ∧ i = .int .i64 q ∧ Kp B B' W wrr ∧ Sh wrr B B' ⟨A, X.schemas.length, cap⟩ ⟨some ⟨g, 0, none⟩, X.tables.length, cap2⟩ L) (fun i _ => nn - (intOf i).toNat)
            case atStart => exact ⟨0, Nat.zero_le _, rfl, HK.out, HS.out⟩
            case round =>
              clear x0 x1 x2 x3 x4 x5 lx t3 t4 tb lt HK HS r2 rb lr
              obtain ⟨q, hq, rfl, hkp, hsh⟩ := hrel
              obtain ⟨x0, x1, x2, x3, x4, x5⟩ := HG.out _ hkp
              have lx : n0 < wr.heap.size := World.block_lt_of_cell? _ _ x0
              obtain ⟨t3, t4, tb⟩ := HT.out _ hsh
              have lt := tb.lt
              obtain ⟨r2, rb, rn⟩ := HR.out _ hsh
              have lr := rb.lt
              have HK := Lib.hid hkp
              have HS := Lib.hid hsh
              by_cases hlt4 : q < nn
              · obtain ⟨gn, hgn, bk⟩ := rn (by omega)
                subst hgn
                obtain ⟨u, hu⟩ := bk.cell (j := q) (by omega)
                have fu := bk.free q
                have lu := bk.lt
                have HN := Lib.hid (hsh.set (bk.ok q (fun h => by cases h) (fun h => by cases h)) (.string ⟨#[111, 118, 101, 114]⟩))
                have HN2 := Lib.hid (hkp.set ⟨gn, q, none⟩ (.string ⟨#[111, 118, 101, 114]⟩) bk.1 bk.2.1)
                clear hkp hsh rn
                go_wp2_with fail
                go_roundw
                case rel => exact ⟨q + 1, by omega, by go_num, HN2.out, HN.out⟩
                case measure => simp [intOf]; omega
              · obtain ⟨u, hu⟩ := rb.cell (j := m2 * 8) (by omega)
                have fu := rb.free (m2 * 8)
                have HN := Lib.hid (hsh.set (rb.ok (m2 * 8) (fun _ => by omega) (fun h => by cases h)) (.string ⟨#[111, 118, 101, 114]⟩))
                have HN2 := Lib.hid (hkp.set ⟨gr, m2 * 8, none⟩ (.string ⟨#[111, 118, 101, 114]⟩) rb.1 rb.2.1)
                clear hkp hsh rn
                go_wp2_with fail
                go_roundw
                case rel => exact ⟨m2 + 1, by omega, by go_num, HN2.out, HN.out⟩
                case measure => simp [intOf]; omega
          · obtain ⟨u, hu⟩ := tb.cell (j := k * 5 + 1) (by omega)
            have fu := tb.free (k * 5 + 1)
            have HN := Lib.hid (hsh.set (tb.ok (k * 5 + 1) (fun h => by cases h) (fun _ => by omega)) (.string ⟨#[111, 118, 101, 114]⟩))
            have HN2 := Lib.hid (hkp.set ⟨g, k * 5 + 1, none⟩ (.string ⟨#[111, 118, 101, 114]⟩) tb.1 tb.2.1)
            clear hkp hsh
            go_wp2_with fail
            go_roundw
            case rel => exact ⟨k + 1, by omega, by go_num, HN2.out, HN.out⟩
            case measure => simp [intOf]; omega
    clear hkp hsh
    go_wp2_with fail
    go_loopw [18] (fun i wrr => ∃ m : Nat, m ≤ X.schemas.length ∧ i = .int .i64 m ∧ Kp B B' W wrr ∧ Sh wrr B B' ⟨A, X.schemas.length, cap⟩ ⟨A2, X.tables.length, cap2⟩ L) (fun i _ => X.schemas.length - (intOf i).toNat)
    case atStart => exact ⟨0, Nat.zero_le _, rfl, HK.out, HS.out⟩
    case round =>
      clear x0 x1 x2 x3 x4 x5 lx HK HS
      obtain ⟨m, hm, rfl, hkp, hsh⟩ := hrel
      obtain ⟨x0, x1, x2, x3, x4, x5⟩ := HG.out _ hkp
      have lx : n0 < wr.heap.size := World.block_lt_of_cell? _ _ x0
      have HK := Lib.hid hkp
      by_cases hlt2 : m < X.schemas.length
      · obtain ⟨gs, hgs, bk⟩ := hsh.shead (by omega)
        subst hgs
        obtain ⟨u, hu⟩ := bk.cell (j := m * 2) (by omega)
        have fu := bk.free (m * 2)
        have lu := bk.lt
        have HN := Lib.hid (hsh.set (bk.ok (m * 2) (fun h => by cases h) (fun h => by cases h)) (.string ⟨#[111, 118, 101, 114]⟩))
        have HN2 := Lib.hid (hkp.set ⟨gs, m * 2, none⟩ (.string ⟨#[111, 118, 101, 114]⟩) bk.1 bk.2.1)
        clear hkp hsh
        go_wp2_with fail
        go_roundw
        case rel => exact ⟨m + 1, by omega, by go_num, HN2.out, HN.out⟩
        case measure => simp [intOf]; omega
      · have Ce := Lib.hid (Co.out wr ((HKW.out.trans hkp).to_aft HA0.out hB))
        have lx2 : n0 + 1 + 1 < wr.heap.size := World.block_lt_of_cell? _ _ x2
        have lx3 : n0 + 1 + 1 + 1 < wr.heap.size := World.block_lt_of_cell? _ _ x4
        clear hkp hsh
        go_wp2_with fail
        refine Ce.out.mono ?_
        rintro e' w9 ⟨rfl, a9⟩
        have HK9 := Lib.hid ((HKW.out.trans HK.out).aft a9)
        clear a9
        go_wp2_with fail
        go_ret
        exact ⟨rfl, HK9.out⟩
end Go.Proofs.Yticjnndhpfdajaa
/- law07's large: it says yes or no; and the document's O. -/
namespace Go.Proofs.Yticjnndhpfdajaa
open Go.RowKit
set_option maxRecDepth 100000
set_option linter.unusedVariables false
def AnyBool (w : World) (e : Ending) (w' : World) : Prop := ∃ b : Bool, e = .returned (.bool b) ∧ Aft w w'
set_option maxHeartbeats 4000000 in
theorem large_any (o : Objs) (As : Option Addr) (caps : Nat) (At : Option Addr) (capt : Nat) (w : World) (hsch : SlAt w 2 SchR As caps o.schemas) (htab : SlAt w 5 TabR At capt o.tables) :
    Calls Try.prog 4 #[.agg #[.slice As o.schemas.length caps, .slice At o.tables.length capt]] w
      (AnyBool w) := by
  have hlen := hsch.len
  have hlen2 := htab.len
  go_enter Try.func4, Try.ntmps4
  go_wp2_with fail
  go_loopw [3, 4] (fun n i wr => ∃ (k : Nat) (z : Int), k ≤ o.tables.length ∧ n = .int .i64 z ∧ i = .int .i64 k ∧ Aft (w.alloc (.cells #[.slice As o.schemas.length caps, .slice At o.tables.length capt] 25)) wr) (fun _ i _ => o.tables.length - (intOf i).toNat)
  case atStart => exact ⟨0, _, Nat.zero_le _, rfl, rfl, Aft.refl _⟩
  case round =>
    obtain ⟨k, z, hk, rfl, rfl, ha⟩ := hrel
    obtain ⟨hbox, hfr, hz, hzk, HA⟩ := aft_box ha
    have HAB := Lib.hid ha
    clear ha
    by_cases hlt : k < o.tables.length
    · by_cases hz0 : z ≤ 3000
      · obtain ⟨b, off, B2, capB2, B3, capB3, rfl, hb, c0, c1, c2, c3, c4, hcols, hrules, hss⟩ := tab_at (tabs_aft HA.out htab) hlt
        obtain ⟨t, ht0⟩ : ∃ t, o.tables[k] = t := ⟨_, rfl⟩
        rw [ht0] at c0 c1 c2 c3 c4 hcols hrules
        clear ht0 hss
        have hl3 := hrules.len
        go_wp2_with fail
        go_loop [3, 6] (fun n i => ∃ (m : Nat) (z : Int), m ≤ t.rules.length ∧ n = .int .i64 z ∧ i = .int .i64 m) (fun _ i => t.rules.length - (intOf i).toNat)
        case atStart => exact ⟨0, _, Nat.zero_le _, rfl, rfl⟩
        case round =>
          obtain ⟨m, z2, hm, rfl, rfl⟩ := hrel
          by_cases hlt2 : m < t.rules.length
          · by_cases hz2 : z2 ≤ 3000
            · obtain ⟨b3, off3, D2, capD2, rfl, hb3, e0, e1, e2, e3, e4, e5, e6, e7, hcs, hss3⟩ := rul_at hrules hlt2
              go_wp2_with fail
              go_round
              case rel => exact ⟨m + 1, _, by omega, rfl, by go_num⟩
              case measure => simp [intOf]; omega
            · go_wp2_with fail
              go_roundw
              case rel => exact ⟨k + 1, _, by omega, rfl, by go_num, HAB.out.alloc _⟩
              case measure => simp [intOf]; omega
          · go_wp2_with fail
            go_roundw
            case rel => exact ⟨k + 1, _, by omega, rfl, by go_num, HAB.out.alloc _⟩
            case measure => simp [intOf]; omega
      · go_wp2_with fail
        go_ret
        exact ⟨_, rfl, HA.out⟩
    · go_wp2_with fail
      go_ret
      exact ⟨_, rfl, HA.out⟩
def oneO : Objs := ⟨[⟨⟨#[115]⟩, ⟨#[111]⟩⟩], [⟨⟨#[115]⟩, ⟨#[116]⟩, ⟨#[111]⟩, [⟨⟨#[120]⟩, 2, false⟩, ⟨⟨#[121]⟩, 3, true⟩], [⟨⟨#[107]⟩, 2, [⟨#[120]⟩], 0, 0, ByteArray.empty, ByteArray.empty, ByteArray.empty⟩]⟩]⟩
theorem oneO_ok : checkO oneO = true := by decide +kernel
theorem oneO_no : checkO ⟨[], oneO.tables⟩ = false := by decide +kernel
def OnePost (w : World) (e : Ending) (w' : World) : Prop := ∃ As caps At capt, e = .returned (.agg #[.slice As 1 caps, .slice At 1 capt]) ∧ Aft w w' ∧ SlAt w' 2 SchR As caps oneO.schemas ∧ SlAt w' 5 TabR At capt oneO.tables
set_option maxHeartbeats 4000000 in
theorem one_any (w : World) :
    Calls Try.prog 35 #[] w (OnePost w) := by
  have l1 : w.heap.size < w.heap.size + 1 := by omega
  have l2 : w.heap.size < w.heap.size + 1 + 1 := by omega
  have l3 : w.heap.size < w.heap.size + 1 + 1 + 1 := by omega
  have l4 : w.heap.size < w.heap.size + 1 + 1 + 1 + 1 := by omega
  have l5 : w.heap.size < w.heap.size + 1 + 1 + 1 + 1 + 1 := by omega
  have l6 : w.heap.size < w.heap.size + 1 + 1 + 1 + 1 + 1 + 1 := by omega
  have l7 : w.heap.size < w.heap.size + 1 + 1 + 1 + 1 + 1 + 1 + 1 := by omega
  have l8 : w.heap.size < w.heap.size + 1 + 1 + 1 + 1 + 1 + 1 + 1 + 1 := by omega
  go_enter Try.func35, Try.ntmps35
  go_wp2_with fail
  (try simp only [Exit.inBlock, Exit.then])
  refine bodyPost_ret (results_cell (v := .agg #[.slice (some ⟨w.heap.size + 1 + 1 + 1 + 1 + 1 + 1, 0, none⟩) 1 1, .slice (some ⟨w.heap.size + 1 + 1 + 1 + 1 + 1 + 1 + 1, 0, none⟩) 1 1]) rfl _ rfl ?hl) rfl ?_
  case hl => exact lvObj_box ((((((((Aft.refl _).alloc _).alloc _).alloc _).alloc _).alloc _).alloc _).alloc _)
  refine ⟨_, _, _, _, rfl, ((((((((Aft.refl _).alloc _).alloc _).alloc _).alloc _).alloc _).alloc _).alloc _).alloc _, ?s, ?t⟩
  case s => exact slAt_one _ [.string ⟨#[115]⟩, .string ⟨#[111]⟩] #[.string ⟨#[115]⟩, .string ⟨#[111]⟩] (by first | (simp; done) | (simp; omega)) (by intro o; (repeat (refine (World.cell?_alloc_past _ _ _ (by first | (simp; done) | (simp; omega))).trans ?_)); exact World.cell?_alloc_at _ _ _ _ (by simp)) rfl rfl ⟨rfl, by unfold Small; decide, by unfold Small; decide⟩ (by omega)
  case t =>
    refine slAt_one _ [.string ⟨#[115]⟩, .string ⟨#[116]⟩, .string ⟨#[111]⟩, .slice (some ⟨w.heap.size + 1 + 1 + 1, 0, none⟩) 2 2, .slice (some ⟨w.heap.size + 1 + 1 + 1 + 1, 0, none⟩) 1 1] #[.string ⟨#[115]⟩, .string ⟨#[116]⟩, .string ⟨#[111]⟩, .slice (some ⟨w.heap.size + 1 + 1 + 1, 0, none⟩) 2 2, .slice (some ⟨w.heap.size + 1 + 1 + 1 + 1, 0, none⟩) 1 1] (by first | (simp; done) | (simp; omega)) (by intro o; (repeat (refine (World.cell?_alloc_past _ _ _ (by first | (simp; done) | (simp; omega))).trans ?_)); exact World.cell?_alloc_at _ _ _ _ (by simp)) rfl rfl ⟨_, _, _, _, rfl, ?c, ?r, by unfold Small; decide, by unfold Small; decide, by unfold Small; decide⟩ (by omega)
    case c => exact slAt_box _ (fun c => [.string c.name, .int .i64 c.kind, .bool c.null]) #[.string ⟨#[120]⟩, .int .i64 2, .bool false, .string ⟨#[121]⟩, .int .i64 3, .bool true] (by first | (simp; done) | (simp; omega)) (by intro o; (repeat (refine (World.cell?_alloc_past _ _ _ (by first | (simp; done) | (simp; omega))).trans ?_)); exact World.cell?_alloc_at _ _ _ _ (by simp)) rfl (fun _ => rfl) (by intro x hx; refine ⟨rfl, ?_⟩; simp [oneO] at hx; rcases hx with rfl | rfl <;> (unfold Small; decide)) (by unfold Small; decide) (by decide)
    case r =>
      refine slAt_one _ [.string ⟨#[107]⟩, .int .i64 2, .slice (some ⟨w.heap.size + 1, 0, none⟩) 1 1, .int .i64 0, .int .i64 0, .string ⟨#[]⟩, .string ⟨#[]⟩, .string ⟨#[]⟩] #[.string ⟨#[107]⟩, .int .i64 2, .slice (some ⟨w.heap.size + 1, 0, none⟩) 1 1, .int .i64 0, .int .i64 0, .string ⟨#[]⟩, .string ⟨#[]⟩, .string ⟨#[]⟩] (by first | (simp; done) | (simp; omega)) (by intro o; (repeat (refine (World.cell?_alloc_past _ _ _ (by first | (simp; done) | (simp; omega))).trans ?_)); exact World.cell?_alloc_at _ _ _ _ (by simp)) rfl rfl ⟨_, _, rfl, ?n, by unfold Small; decide, by unfold Small; decide, by unfold Small; decide, by unfold Small; decide⟩ (by omega)
      case n => exact slAt_one _ [.string ⟨#[120]⟩] #[.string ⟨#[120]⟩] (by first | (simp; done) | (simp; omega)) (by intro o; (repeat (refine (World.cell?_alloc_past _ _ _ (by first | (simp; done) | (simp; omega))).trans ?_)); exact World.cell?_alloc_at _ _ _ _ (by simp)) rfl rfl ⟨rfl, by unfold Small; decide⟩ (by omega)
end Go.Proofs.Yticjnndhpfdajaa
