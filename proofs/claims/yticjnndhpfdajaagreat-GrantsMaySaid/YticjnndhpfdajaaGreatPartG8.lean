/- Contracts of the program, part 8. -/
import Derived.Test.YticjnndhpfdajaaGreatPartG7
import Derived.Lib.Walk
import Derived.Test.YticjnndhpfdajaaGreatPartG2
import Derived.Test.YticjnndhpfdajaaGreatPartG6
/- slices.CompactFunc at texts and at members: it is shorter just if two neighbours are alike. -/
namespace Go.Proofs.YticjnndhpfdajaaGreat
open Go.RowKit Go.Deep
set_option maxRecDepth 100000
set_option linter.unusedVariables false
def NoTwin {α : Type} (q : α → α → Bool) (l : List α) : Prop := ∀ k (h : k + 1 < l.length), q l[k + 1] (l[k]'(by omega)) = false
def CompP {α : Type} (q : α → α → Bool) (l : List α) (v : Value) (w : World) (e : Ending) (w' : World) : Prop :=
  ∃ A m c, e = .returned (.slice A m c) ∧ (m = l.length ↔ NoTwin q l) ∧ Kb (InV v) w w'
structure CompI {α : Type} (ty : TypeId) (size : Nat) (cells : α → List Value) (sm : α → Prop) (w wr : World) (B g cap n : Nat) (l : List α) : Prop where
  own : wr.ownsRow B ty size (.slice (some ⟨g, 0, none⟩) n cap) n (l.flatMap cells)
  len : l.length = n
  sm : ∀ x ∈ l, sm x
  kb : Kb (fun k => k = g) w wr
theorem CompI.aft {α : Type} {ty : TypeId} {size : Nat} {cells : α → List Value} {sm : α → Prop} {w wr wr' : World} {B g cap n : Nat} {l : List α} (h : CompI ty size cells sm w wr B g cap n l) (a : Aft wr wr') : CompI ty size cells sm w wr' B g cap n l := ⟨own_aft h.own a, h.len, h.sm, h.kb.trans (Kb.of_aft a)⟩
theorem compS_set {w wr : World} {B g cap n m i : Nat} {l : List ByteArray} (h : CompI 9 1 nameC (fun x : ByteArray => Small x.size) w wr B g cap n l) (hm : m < l.length) (hi : i < l.length) : CompI 9 1 nameC (fun x : ByteArray => Small x.size) w (wr.setCell ⟨g, m * 1, none⟩ (.string (l[i]))) B g cap n (l.set m l[i]) := by
  refine ⟨?_, by rw [List.length_set]; exact h.len, fun x hx => ?_, ?_⟩
  · have h1 := own_set h.own (g := g) rfl (m * 1) (.string l[i])
    rwa [← Nat.add_zero (m * 1), flatMap_set (f := nameC) (fun _ => rfl) l m 0 hm (by decide) (.string l[i]) l[i] rfl, Nat.add_zero] at h1
  · rcases List.mem_or_eq_of_mem_set hx with h1 | h1
    · exact h.sm x h1
    · subst h1; exact h.sm _ (List.getElem_mem hi)
  · exact h.kb.trans (Kb.set _ _ _ _)
theorem compS_sl {w wr : World} {B g cap n : Nat} {l : List ByteArray} (h : CompI 9 1 nameC (fun x : ByteArray => Small x.size) w wr B g cap n l) (hs : Small (n * 16)) : SlAt wr 1 StrR (some ⟨g, 0, none⟩) cap l := by
  have ho := h.own
  have hl := h.len
  subst hl
  exact own_slf (h := ⟨some ⟨g, 0, none⟩, l.length, cap⟩) nameC ho (fun x hx => ⟨rfl, rfl, h.sm x hx⟩) hs
set_option maxHeartbeats 8000000 in
theorem compS (v : Value) (l : List ByteArray) (g : FuncId) (caps : Array Value) (q : ByteArray → ByteArray → Bool) (B : Nat) (w : World) (ho : w.ownsRow B 9 1 v l.length (l.flatMap nameC)) (hs : Small (l.length * 16)) (hcap : ∀ A n c, v = .slice A n c → c ≤ 9223372036854775807) (sm : ∀ x ∈ l, (fun x : ByteArray => Small x.size) x) (hent : ∀ (args : Array Value) (w : World), (callFunc g args).run Tryz.prog w = .ok (.enter g args) w)
    (hq : ∀ w', Kb (InV v) w w' → ∀ x y : ByteArray, Calls Tryz.prog g (#[.string (x), .string (y)] ++ caps) w' fun e w'' => e = .returned (.bool (q x y)) ∧ Aft w' w'') :
    Calls Tryz.prog 258 #[v, .func (.func g) #[] caps] w (CompP q l v w) := by
  have hlen : l.length * 16 ≤ 140737488351232 := hs
  by_cases h2 : l.length < 2
  · obtain ⟨A, cap, hv⟩ := own_lit ho
    subst hv
    have HT := Lib.hid (show NoTwin q l from fun k h => by omega)
    have hi2 : (l.length : Int) < 2 := by omega
    go_enter Tryz.func258, Tryz.ntmps258
    go_wp2_with fail
    go_ret
    exact ⟨_, _, _, rfl, ⟨fun _ => HT.out, fun _ => rfl⟩, Kb.refl _ _⟩
  · obtain ⟨g0, cap, hv, hgB, hnc, hr⟩ := own_rowAt ho (by omega)
    subst hv
    have hcap := hcap _ _ _ rfl
    have hI : CompI 9 1 nameC (fun x : ByteArray => Small x.size) w w B g0 cap l.length l := ⟨ho, rfl, sm, Kb.refl _ _⟩
    have kin : ∀ w1 w2 : World, Kb (fun k => k = g0) w1 w2 → Kb (InV (.slice (some ⟨g0, 0, none⟩) l.length cap)) w1 w2 := fun w1 w2 k => k.mono fun g _ e => by subst e; rfl
    have HQ := Lib.hid (show ∀ w', Kb (fun k => k = g0) w w' → _ from fun w' k => hq w' (kin _ _ k))
    have HI := Lib.hid hI
    have hsl := compS_sl hI hs
    have hi2 : ¬ (l.length : Int) < 2 := by omega
    have HSL := Lib.hid hsl
    clear hq hI ho hr sm
    go_enter Tryz.func258, Tryz.ntmps258
    go_wp2_with fail
    go_loopw [5] (fun i wr => ∃ k : Nat, 0 < k ∧ k ≤ l.length ∧ i = .int .i64 k ∧ Aft w wr ∧ ∀ j, j + 1 < k → ∀ (hj : j + 1 < l.length), q l[j + 1] (l[j]'(by omega)) = false) (fun i _ => l.length - (intOf i).toNat)
    case atStart => exact ⟨1, by omega, by omega, rfl, Aft.refl _, fun j hj h => by omega⟩
    case round =>
      obtain ⟨k, hk0, hk, rfl, ha, hp⟩ := hrel
      have HA := Lib.hid ha
      have HP := Lib.hid hp; clear hp
      by_cases hlt : k < l.length
      · obtain ⟨k, rfl⟩ : ∃ k', k = k' + 1 := ⟨k - 1, by omega⟩
        have hsl2 := HSL.out.aft ha fun _ _ h => h
        have hk1 : k < l.length := by omega
        obtain ⟨b, off, hA0, hb, c0, hs⟩ := str_at hsl2 hk1
        obtain ⟨b', off', hA', hb', d0, hs'⟩ := str_at hsl2 hlt
        simp only [Option.some.injEq, Addr.mk.injEq, and_true] at hA0 hA'
        obtain ⟨rfl, rfl⟩ := hA0
        obtain ⟨rfl, rfl⟩ := hA'
        simp only [Nat.zero_add] at c0 d0
        obtain ⟨r, hr⟩ : ∃ r, q l[k + 1] (l[k]'(by omega)) = r := ⟨_, rfl⟩
        have Cc := Lib.hid (show ∀ x : Lat wr, _ from fun x => hr ▸ HQ.out (lat wr x) (Kb.of_aft (HA.out.lat x)) l[k + 1] (l[k]'(by omega)))
        have HR := Lib.hid hr
        clear ha hsl hsl2 hr
        have w1 : IntKind.i64.wrap (((k + 1 : Nat) : Int) - 1) = (k : Int) := by rw [show ((k + 1 : Nat) : Int) - 1 = (k : Int) from by omega]; exact IntWalk.i64_in _ (by omega)
        have w5 : IntKind.i64.wrap ((k : Int) + 1 - 1) = (k : Int) := by rw [show (k : Int) + 1 - 1 = (k : Int) from by omega]; exact IntWalk.i64_in _ (by omega)
        have w2 : (0 : Int) ≤ (k : Int) + 1 := by omega
        have w3 : ((k : Int) + 1).toNat = k + 1 := by omega
        have w4 : (k : Int) + 1 < (l.length : Int) := by omega
        cases r
        · go_wp2_with fail
          refine wp_region_lat (by kernel_rfl) (by kernel_rfl) ?_
          repeat (go_big_quiet_step ((exact Calls.lat_of (Cc.out _))))
          refine wpQuiet_nil ?_
          intro _ hw'
          obtain ⟨x, hw''⟩ := hw'
          subst hw''
          clear w1 w2 w3 w4 w5
          go_wp2_with fail
          go_roundw
          case rel =>
            refine ⟨k + 1 + 1, by omega, by omega, by go_num, HA.out.lat x, fun j hj hj2 => ?_⟩
            rcases Nat.lt_or_ge j k with h1 | h1
            · exact HP.out j (by omega) hj2
            · have : j = k := by omega
              subst this
              exact HR.out
          case measure => simp [intOf]; omega
        · have hck : ¬ cap = k + 1 := by omega
          go_wp2_with fail
          refine wp_region_lat (by kernel_rfl) (by kernel_rfl) ?_
          repeat (go_big_quiet_step ((exact Calls.lat_of (Cc.out _))))
          refine wpQuiet_nil ?_
          intro _ hw'
          obtain ⟨x, hw''⟩ := hw'
          subst hw''
          clear w1 w2 w3 w4 w5
          go_wp2_with fail
          obtain ⟨n2, hn2⟩ : ∃ n2, l.length - (k + 1) = n2 := ⟨_, rfl⟩
          rw [hn2]
          have HN := Lib.hid (And.intro hn2 (And.intro hlt (And.intro hnc hcap)))
          have HI2 := Lib.hid (HI.out.aft (HA.out.lat x))
          clear hn2 c0 d0 hs hs'
          go_loopw [5, 7] (fun u5 u7 wr2 => ∃ (m k2 : Nat) (l' : List ByteArray), 0 < k2 ∧ k2 ≤ n2 ∧ m < k + 1 + k2 ∧ u5 = .int .i64 m ∧ u7 = .int .i64 k2 ∧ CompI 9 1 nameC (fun x : ByteArray => Small x.size) w wr2 B g0 cap l.length l') (fun _ u7 _ => n2 - (intOf u7).toNat)
          case atStart => exact ⟨k + 1, 1, l, by omega, by have := HN.out.1; omega, by omega, rfl, rfl, HI2.out⟩
          case round =>
            obtain ⟨m, k2, l', hk20, hk2, hm, rfl, rfl, hI⟩ := hrel
            have hn2 := HN.out.1
            have hml : m < l.length := by omega
            have HJ := Lib.hid hI
            have hll := hI.len
            by_cases hlt2 : k2 < n2
            · obtain ⟨k3, rfl⟩ : ∃ k', k2 = k' + 1 := ⟨k2 - 1, by omega⟩
              have hsl3 := compS_sl hI hs
              have hi1 : k + 1 + (k3 + 1) < l'.length := by omega
              have hi0 : k + 1 + k3 < l'.length := by omega
              obtain ⟨b, off, hA0, hb0, c0, hs⟩ := str_at hsl3 hi0
              obtain ⟨b', off', hA', hb1, d0, hs'⟩ := str_at hsl3 hi1
              simp only [Option.some.injEq, Addr.mk.injEq, and_true] at hA0 hA'
              obtain ⟨rfl, rfl⟩ := hA0
              obtain ⟨rfl, rfl⟩ := hA'
              simp only [Nat.zero_add] at c0 d0
              obtain ⟨x1, hx1⟩ : ∃ x1, l'[k + 1 + (k3 + 1)] = x1 := ⟨_, rfl⟩
              obtain ⟨x0, hx0⟩ : ∃ x0, l'[k + 1 + k3] = x0 := ⟨_, rfl⟩
              rw [hx0] at c0 hs
              rw [hx1] at d0 hs'
              obtain ⟨r, hr⟩ : ∃ r, q x1 x0 = r := ⟨_, rfl⟩
              have Cc2 := Lib.hid (show ∀ y : Lat wr, _ from fun y => hr ▸ HQ.out (lat wr y) (hI.kb.trans (Kb.of_aft ((Aft.refl wr).lat y))) x1 x0)
              have HX := Lib.hid hx1
              have w1 : IntKind.i64.wrap (((k3 + 1 : Nat) : Int) - 1) = (k3 : Int) := by rw [show ((k3 + 1 : Nat) : Int) - 1 = (k3 : Int) from by omega]; exact IntWalk.i64_in _ (by omega)
              have w5 : IntKind.i64.wrap ((k3 : Int) + 1 - 1) = (k3 : Int) := by rw [show (k3 : Int) + 1 - 1 = (k3 : Int) from by omega]; exact IntWalk.i64_in _ (by omega)
              have w2 : (0 : Int) ≤ (k3 : Int) + 1 := by omega
              have w3 : ((k3 : Int) + 1).toNat = k3 + 1 := by omega
              have w4 : (k3 : Int) + 1 < (n2 : Int) := by omega
              have w6 : (k3 : Int) < (n2 : Int) := by omega
              clear hI hsl3 hr hx0 hx1 hn2
              go_wp2_with fail
              refine wp_region_lat (by kernel_rfl) (by kernel_rfl) ?_
              repeat (go_big_quiet_step ((exact Calls.lat_of (Cc2.out _))))
              refine wpQuiet_nil ?_
              intro _ hw'
              obtain ⟨y, hw''⟩ := hw'
              subst hw''
              clear w1 w5
              cases r
              · obtain ⟨F, hF⟩ : ∃ F, F = lat wr y := ⟨_, rfl⟩
                have HJF := Lib.hid (show CompI 9 1 nameC (fun x : ByteArray => Small x.size) w F B g0 cap l.length l' from hF ▸ HJ.out.aft ((Aft.refl wr).lat y))
                obtain ⟨_, _, hv1, _, _, hrF⟩ := own_rowAt HJF.out.own (by omega)
                simp only [Value.slice.injEq, true_and, Option.some.injEq, Addr.mk.injEq, and_true] at hv1
                obtain ⟨rfl, rfl⟩ := hv1
                have hfl : (l'.flatMap nameC).length = l.length * 1 := by rw [flatMap_len (size := 1) (fun _ => rfl), hll]
                obtain ⟨u0, z0⟩ : ∃ u, F.cell? ⟨g0, m, none⟩ = some u := ⟨_, by rw [hrF.2.1 m (by rw [hfl]; omega), List.getElem?_eq_getElem (by rw [hfl]; omega)]⟩
                have z1 : F.frozen? ⟨g0, m, none⟩ = false := hrF.2.2 m (by rw [hfl]; omega)
                have z2 : g0 < F.heap.size := hrF.1
                have z3 : F.cell? ⟨g0, k + 1 + (k3 + 1), none⟩ = some (.string x1) := by rw [hF]; exact ((Aft.refl wr).lat y).cell_kept d0
                rw [← hF]
                clear hF
                clear hrF hfl
                have HNEW := Lib.hid (show CompI 9 1 nameC (fun x : ByteArray => Small x.size) w (F.setCell ⟨g0, m, none⟩ (.string (x1))) B g0 cap l.length (l'.set m l'[k + 1 + (k3 + 1)]) from by
                  have := compS_set HJF.out (m := m) (i := k + 1 + (k3 + 1)) (by omega) hi1
                  rw [HX.out] at this ⊢
                  simpa using this)
                clear w2 w3 w4 w6
                go_wp2_with fail
                go_roundw
                case rel => exact ⟨m + 1, k3 + 1 + 1, _, by omega, by omega, by omega, by go_num, by go_num, HNEW.out⟩
                case measure => simp [intOf]; omega
              · clear w2 w3 w4 w6
                go_wp2_with fail
                go_roundw
                case rel => exact ⟨m, k3 + 1 + 1, l', by omega, by omega, by omega, rfl, by go_num, HJ.out.aft ((Aft.refl wr).lat y)⟩
                case measure => simp [intOf]; omega
            · have hcm : ¬ cap = m := by omega
              obtain ⟨_, _, hv1, _, _, hrF⟩ := own_rowAt hI.own (by omega)
              simp only [Value.slice.injEq, true_and, Option.some.injEq, Addr.mk.injEq, and_true] at hv1
              obtain ⟨rfl, rfl⟩ := hv1
              have hfl : (l'.flatMap nameC).length = l.length * 1 := by rw [flatMap_len (size := 1) (fun _ => rfl), hll]
              have hzr : ∀ w : World, (zeroValue 9).run Tryz.prog w = .ok (.string ByteArray.empty) w := fun w => by kernel_rfl
              obtain ⟨n3, hn3⟩ : ∃ n3, l.length - m = n3 := ⟨_, rfl⟩
              have hcl : ∀ ty, (Builtin.clear_ #[27] ty #[.slice (some ⟨g0, m * 1, none⟩) n3 (cap - m)]).run Tryz.prog wr = .ok (.tuple #[]) (wr.setCells g0 (m * 1) (Builtin.zeroCells (.string ByteArray.empty : Value).cells n3).toList) := fun ty => by
                refine run_clear_n wr _ _ ty _ Tryz.underlying27 hzr (by intro u hu; have hu : u ∈ ([.string ByteArray.empty] : List Value) := hu; simp only [List.mem_cons, List.not_mem_nil, or_false] at hu; subst hu; rfl) g0 (m * 1) (cap - m) n3 (by omega) (fun j hj => ?_) (fun j hj => ?_)
                · have hj' : j < n3 * 1 := hj
                  have hl : m * 1 + j < (l'.flatMap nameC).length := by rw [hfl]; omega
                  rw [hrF.2.1 _ hl, List.getElem?_eq_getElem hl]; rfl
                · have hj' : j < n3 * 1 := hj
                  exact hrF.2.2 _ (by rw [hfl]; omega)
              obtain ⟨Z, hZ⟩ : ∃ Z, Z = wr.setCells g0 (m * 1) (Builtin.zeroCells (.string ByteArray.empty : Value).cells n3).toList := ⟨_, rfl⟩
              have HZ := Lib.hid (show Kb (fun k => k = g0) w Z from hZ ▸ hI.kb.trans (kb_setCells g0 _ _ _))
              rw [← hZ, ← hn3] at hcl
              simp only [Nat.mul_one] at hcl
              have HF := Lib.hid (show ¬ m = l.length ∧ ¬ NoTwin q l from ⟨by omega, fun h => by have := h k HN.out.2.1; rw [HR.out] at this; cases this⟩)
              have HKIN := Lib.hid kin
              have k3 : (m : Int) ≤ (l.length : Int) := by omega
              have k5 : (l.length : Int) ≤ (cap : Int) := by omega
              have k6 : (m : Int) ≤ (cap : Int) := by omega
              clear hI hrF hfl hzr hZ hn3 hn2 kin
              go_wp2_with fail
              go_ret
              exact ⟨_, _, _, rfl, ⟨fun h => absurd h HF.out.1, fun h => absurd h HF.out.2⟩, HKIN.out _ _ HZ.out⟩
      · have HT := Lib.hid (show NoTwin q l from fun j hj => HP.out j (by omega) hj)
        clear ha
        go_wp2_with fail
        go_ret
        exact ⟨_, _, _, rfl, ⟨fun _ => HT.out, fun _ => rfl⟩, Kb.of_aft HA.out⟩
theorem compM_set {w wr : World} {B g cap n m i : Nat} {l : List Mbr} (h : CompI 185 2 mbrC (fun x : Mbr => Small x.role.size ∧ Small x.of.size) w wr B g cap n l) (hm : m < l.length) (hi : i < l.length) : CompI 185 2 mbrC (fun x : Mbr => Small x.role.size ∧ Small x.of.size) w ((wr.setCell ⟨g, m * 2, none⟩ (.string (l[i]).role)).setCell ⟨g, m * 2 + 1, none⟩ (.string (l[i]).of)) B g cap n (l.set m l[i]) := by
  refine ⟨?_, by rw [List.length_set]; exact h.len, fun x hx => ?_, ?_⟩
  · have h1 := own_set (own_set h.own (g := g) rfl (m * 2) (.string l[i].role)) (g := g) rfl (m * 2 + 1) (.string l[i].of)
    rw [show (l.flatMap mbrC).set (m * 2) (.string l[i].role) = (l.set m ⟨l[i].role, l[m].of⟩).flatMap mbrC from flatMap_set (f := mbrC) (size := 2) (fun _ => rfl) l m 0 hm (by decide) (.string l[i].role) ⟨l[i].role, l[m].of⟩ rfl,
      flatMap_set (f := mbrC) (size := 2) (fun _ => rfl) (l.set m ⟨l[i].role, l[m].of⟩) m 1 (by simpa using hm) (by decide) (.string l[i].of) l[i] (by simp [mbrC])] at h1
    simpa using h1
  · rcases List.mem_or_eq_of_mem_set hx with h1 | h1
    · exact h.sm x h1
    · subst h1; exact h.sm _ (List.getElem_mem hi)
  · exact h.kb.trans ((Kb.set _ _ _ _).trans (Kb.set _ _ _ _))
theorem compM_sl {w wr : World} {B g cap n : Nat} {l : List Mbr} (h : CompI 185 2 mbrC (fun x : Mbr => Small x.role.size ∧ Small x.of.size) w wr B g cap n l) (hs : Small (n * 16)) : SlAt wr 2 MbrR (some ⟨g, 0, none⟩) cap l := by
  have ho := h.own
  have hl := h.len
  subst hl
  exact own_slf (h := ⟨some ⟨g, 0, none⟩, l.length, cap⟩) mbrC ho (fun x hx => ⟨rfl, rfl, h.sm x hx⟩) hs
set_option maxHeartbeats 8000000 in
theorem compM (v : Value) (l : List Mbr) (g : FuncId) (caps : Array Value) (q : Mbr → Mbr → Bool) (B : Nat) (w : World) (ho : w.ownsRow B 185 2 v l.length (l.flatMap mbrC)) (hs : Small (l.length * 16)) (hcap : ∀ A n c, v = .slice A n c → c ≤ 9223372036854775807) (sm : ∀ x ∈ l, (fun x : Mbr => Small x.role.size ∧ Small x.of.size) x) (hent : ∀ (args : Array Value) (w : World), (callFunc g args).run Tryz.prog w = .ok (.enter g args) w)
    (hq : ∀ w', Kb (InV v) w w' → ∀ x y : Mbr, Calls Tryz.prog g (#[.agg #[.string (x).role, .string (x).of], .agg #[.string (y).role, .string (y).of]] ++ caps) w' fun e w'' => e = .returned (.bool (q x y)) ∧ Aft w' w'') :
    Calls Tryz.prog 261 #[v, .func (.func g) #[] caps] w (CompP q l v w) := by
  have hlen : l.length * 16 ≤ 140737488351232 := hs
  by_cases h2 : l.length < 2
  · obtain ⟨A, cap, hv⟩ := own_lit ho
    subst hv
    have HT := Lib.hid (show NoTwin q l from fun k h => by omega)
    have hi2 : (l.length : Int) < 2 := by omega
    go_enter Tryz.func261, Tryz.ntmps261
    go_wp2_with fail
    go_ret
    exact ⟨_, _, _, rfl, ⟨fun _ => HT.out, fun _ => rfl⟩, Kb.refl _ _⟩
  · obtain ⟨g0, cap, hv, hgB, hnc, hr⟩ := own_rowAt ho (by omega)
    subst hv
    have hcap := hcap _ _ _ rfl
    have hI : CompI 185 2 mbrC (fun x : Mbr => Small x.role.size ∧ Small x.of.size) w w B g0 cap l.length l := ⟨ho, rfl, sm, Kb.refl _ _⟩
    have kin : ∀ w1 w2 : World, Kb (fun k => k = g0) w1 w2 → Kb (InV (.slice (some ⟨g0, 0, none⟩) l.length cap)) w1 w2 := fun w1 w2 k => k.mono fun g _ e => by subst e; rfl
    have HQ := Lib.hid (show ∀ w', Kb (fun k => k = g0) w w' → _ from fun w' k => hq w' (kin _ _ k))
    have HI := Lib.hid hI
    have hsl := compM_sl hI hs
    have hi2 : ¬ (l.length : Int) < 2 := by omega
    have HSL := Lib.hid hsl
    clear hq hI ho hr sm
    go_enter Tryz.func261, Tryz.ntmps261
    go_wp2_with fail
    go_loopw [5] (fun i wr => ∃ k : Nat, 0 < k ∧ k ≤ l.length ∧ i = .int .i64 k ∧ Aft w wr ∧ ∀ j, j + 1 < k → ∀ (hj : j + 1 < l.length), q l[j + 1] (l[j]'(by omega)) = false) (fun i _ => l.length - (intOf i).toNat)
    case atStart => exact ⟨1, by omega, by omega, rfl, Aft.refl _, fun j hj h => by omega⟩
    case round =>
      obtain ⟨k, hk0, hk, rfl, ha, hp⟩ := hrel
      have HA := Lib.hid ha
      have HP := Lib.hid hp; clear hp
      by_cases hlt : k < l.length
      · obtain ⟨k, rfl⟩ : ∃ k', k = k' + 1 := ⟨k - 1, by omega⟩
        have hsl2 := HSL.out.aft ha fun _ _ h => h
        have hk1 : k < l.length := by omega
        obtain ⟨b, off, hA0, hb, c0, c1, hs, hs2⟩ := mbr_at hsl2 hk1
        obtain ⟨b', off', hA', hb', d0, d1, hs', hs2'⟩ := mbr_at hsl2 hlt
        simp only [Option.some.injEq, Addr.mk.injEq, and_true] at hA0 hA'
        obtain ⟨rfl, rfl⟩ := hA0
        obtain ⟨rfl, rfl⟩ := hA'
        simp only [Nat.zero_add] at c0 c1 d0 d1
        obtain ⟨r, hr⟩ : ∃ r, q l[k + 1] (l[k]'(by omega)) = r := ⟨_, rfl⟩
        have Cc := Lib.hid (show ∀ x : Lat wr, _ from fun x => hr ▸ HQ.out (lat wr x) (Kb.of_aft (HA.out.lat x)) l[k + 1] (l[k]'(by omega)))
        have HR := Lib.hid hr
        clear ha hsl hsl2 hr
        have w1 : IntKind.i64.wrap (((k + 1 : Nat) : Int) - 1) = (k : Int) := by rw [show ((k + 1 : Nat) : Int) - 1 = (k : Int) from by omega]; exact IntWalk.i64_in _ (by omega)
        have w5 : IntKind.i64.wrap ((k : Int) + 1 - 1) = (k : Int) := by rw [show (k : Int) + 1 - 1 = (k : Int) from by omega]; exact IntWalk.i64_in _ (by omega)
        have w2 : (0 : Int) ≤ (k : Int) + 1 := by omega
        have w3 : ((k : Int) + 1).toNat = k + 1 := by omega
        have w4 : (k : Int) + 1 < (l.length : Int) := by omega
        cases r
        · go_wp2_with fail
          refine wp_region_lat (by kernel_rfl) (by kernel_rfl) ?_
          repeat (go_big_quiet_step ((exact Calls.lat_of (Cc.out _))))
          refine wpQuiet_nil ?_
          intro _ hw'
          obtain ⟨x, hw''⟩ := hw'
          subst hw''
          clear w1 w2 w3 w4 w5
          go_wp2_with fail
          go_roundw
          case rel =>
            refine ⟨k + 1 + 1, by omega, by omega, by go_num, HA.out.lat x, fun j hj hj2 => ?_⟩
            rcases Nat.lt_or_ge j k with h1 | h1
            · exact HP.out j (by omega) hj2
            · have : j = k := by omega
              subst this
              exact HR.out
          case measure => simp [intOf]; omega
        · have hck : ¬ cap = k + 1 := by omega
          go_wp2_with fail
          refine wp_region_lat (by kernel_rfl) (by kernel_rfl) ?_
          repeat (go_big_quiet_step ((exact Calls.lat_of (Cc.out _))))
          refine wpQuiet_nil ?_
          intro _ hw'
          obtain ⟨x, hw''⟩ := hw'
          subst hw''
          clear w1 w2 w3 w4 w5
          go_wp2_with fail
          obtain ⟨n2, hn2⟩ : ∃ n2, l.length - (k + 1) = n2 := ⟨_, rfl⟩
          rw [hn2]
          have HN := Lib.hid (And.intro hn2 (And.intro hlt (And.intro hnc hcap)))
          have HI2 := Lib.hid (HI.out.aft (HA.out.lat x))
          clear hn2 c0 c1 d0 d1 hs hs2 hs' hs2'
          go_loopw [5, 7] (fun u5 u7 wr2 => ∃ (m k2 : Nat) (l' : List Mbr), 0 < k2 ∧ k2 ≤ n2 ∧ m < k + 1 + k2 ∧ u5 = .int .i64 m ∧ u7 = .int .i64 k2 ∧ CompI 185 2 mbrC (fun x : Mbr => Small x.role.size ∧ Small x.of.size) w wr2 B g0 cap l.length l') (fun _ u7 _ => n2 - (intOf u7).toNat)
          case atStart => exact ⟨k + 1, 1, l, by omega, by have := HN.out.1; omega, by omega, rfl, rfl, HI2.out⟩
          case round =>
            obtain ⟨m, k2, l', hk20, hk2, hm, rfl, rfl, hI⟩ := hrel
            have hn2 := HN.out.1
            have hml : m < l.length := by omega
            have HJ := Lib.hid hI
            have hll := hI.len
            by_cases hlt2 : k2 < n2
            · obtain ⟨k3, rfl⟩ : ∃ k', k2 = k' + 1 := ⟨k2 - 1, by omega⟩
              have hsl3 := compM_sl hI hs
              have hi1 : k + 1 + (k3 + 1) < l'.length := by omega
              have hi0 : k + 1 + k3 < l'.length := by omega
              obtain ⟨b, off, hA0, hb0, c0, c1, hs, hs2⟩ := mbr_at hsl3 hi0
              obtain ⟨b', off', hA', hb1, d0, d1, hs', hs2'⟩ := mbr_at hsl3 hi1
              simp only [Option.some.injEq, Addr.mk.injEq, and_true] at hA0 hA'
              obtain ⟨rfl, rfl⟩ := hA0
              obtain ⟨rfl, rfl⟩ := hA'
              rw [show 0 + (k + 1 + k3) * 2 = (k + 1) * 2 + k3 * 2 from by omega] at c0 c1
              rw [show 0 + (k + 1 + (k3 + 1)) * 2 = (k + 1) * 2 + (k3 + 1) * 2 from by omega] at d0 d1
              obtain ⟨x1, hx1⟩ : ∃ x1, l'[k + 1 + (k3 + 1)] = x1 := ⟨_, rfl⟩
              obtain ⟨x0, hx0⟩ : ∃ x0, l'[k + 1 + k3] = x0 := ⟨_, rfl⟩
              rw [hx0] at c0 c1 hs hs2
              rw [hx1] at d0 d1 hs' hs2'
              obtain ⟨r, hr⟩ : ∃ r, q x1 x0 = r := ⟨_, rfl⟩
              have Cc2 := Lib.hid (show ∀ y : Lat wr, _ from fun y => hr ▸ HQ.out (lat wr y) (hI.kb.trans (Kb.of_aft ((Aft.refl wr).lat y))) x1 x0)
              have HX := Lib.hid hx1
              have w1 : IntKind.i64.wrap (((k3 + 1 : Nat) : Int) - 1) = (k3 : Int) := by rw [show ((k3 + 1 : Nat) : Int) - 1 = (k3 : Int) from by omega]; exact IntWalk.i64_in _ (by omega)
              have w5 : IntKind.i64.wrap ((k3 : Int) + 1 - 1) = (k3 : Int) := by rw [show (k3 : Int) + 1 - 1 = (k3 : Int) from by omega]; exact IntWalk.i64_in _ (by omega)
              have w2 : (0 : Int) ≤ (k3 : Int) + 1 := by omega
              have w3 : ((k3 : Int) + 1).toNat = k3 + 1 := by omega
              have w4 : (k3 : Int) + 1 < (n2 : Int) := by omega
              have w6 : (k3 : Int) < (n2 : Int) := by omega
              clear hI hsl3 hr hx0 hx1 hn2
              go_wp2_with fail
              refine wp_region_lat (by kernel_rfl) (by kernel_rfl) ?_
              repeat (go_big_quiet_step ((exact Calls.lat_of (Cc2.out _))))
              refine wpQuiet_nil ?_
              intro _ hw'
              obtain ⟨y, hw''⟩ := hw'
              subst hw''
              clear w1 w5
              cases r
              · obtain ⟨F, hF⟩ : ∃ F, F = lat wr y := ⟨_, rfl⟩
                have HJF := Lib.hid (show CompI 185 2 mbrC (fun x : Mbr => Small x.role.size ∧ Small x.of.size) w F B g0 cap l.length l' from hF ▸ HJ.out.aft ((Aft.refl wr).lat y))
                obtain ⟨_, _, hv1, _, _, hrF⟩ := own_rowAt HJF.out.own (by omega)
                simp only [Value.slice.injEq, true_and, Option.some.injEq, Addr.mk.injEq, and_true] at hv1
                obtain ⟨rfl, rfl⟩ := hv1
                have hfl : (l'.flatMap mbrC).length = l.length * 2 := by rw [flatMap_len (size := 2) (fun _ => rfl), hll]
                obtain ⟨u0, z0⟩ : ∃ u, F.cell? ⟨g0, m * 2, none⟩ = some u := ⟨_, by rw [hrF.2.1 (m * 2) (by rw [hfl]; omega), List.getElem?_eq_getElem (by rw [hfl]; omega)]⟩
                obtain ⟨u1, y0⟩ : ∃ u, F.cell? ⟨g0, m * 2 + 1, none⟩ = some u := ⟨_, by rw [hrF.2.1 (m * 2 + 1) (by rw [hfl]; omega), List.getElem?_eq_getElem (by rw [hfl]; omega)]⟩
                have z1 : F.frozen? ⟨g0, m * 2, none⟩ = false := hrF.2.2 (m * 2) (by rw [hfl]; omega)
                have y1 : F.frozen? ⟨g0, m * 2 + 1, none⟩ = false := hrF.2.2 (m * 2 + 1) (by rw [hfl]; omega)
                have z2 : g0 < F.heap.size := hrF.1
                have z3 : F.cell? ⟨g0, (k + 1) * 2 + (k3 + 1) * 2, none⟩ = some (.string x1.role) := by rw [hF]; exact ((Aft.refl wr).lat y).cell_kept d0
                have y3 : F.cell? ⟨g0, (k + 1) * 2 + (k3 + 1) * 2 + 1, none⟩ = some (.string x1.of) := by rw [hF]; exact ((Aft.refl wr).lat y).cell_kept d1
                rw [← hF]
                clear hF
                clear hrF hfl
                have HNEW := Lib.hid (show CompI 185 2 mbrC (fun x : Mbr => Small x.role.size ∧ Small x.of.size) w ((F.setCell ⟨g0, m * 2, none⟩ (.string (x1).role)).setCell ⟨g0, m * 2 + 1, none⟩ (.string (x1).of)) B g0 cap l.length (l'.set m l'[k + 1 + (k3 + 1)]) from by
                  have := compM_set HJF.out (m := m) (i := k + 1 + (k3 + 1)) (by omega) hi1
                  rw [HX.out] at this ⊢
                  simpa using this)
                clear w2 w3 w4 w6
                go_wp2_with fail
                go_roundw
                case rel => exact ⟨m + 1, k3 + 1 + 1, _, by omega, by omega, by omega, by go_num, by go_num, HNEW.out⟩
                case measure => simp [intOf]; omega
              · clear w2 w3 w4 w6
                go_wp2_with fail
                go_roundw
                case rel => exact ⟨m, k3 + 1 + 1, l', by omega, by omega, by omega, rfl, by go_num, HJ.out.aft ((Aft.refl wr).lat y)⟩
                case measure => simp [intOf]; omega
            · have hcm : ¬ cap = m := by omega
              obtain ⟨_, _, hv1, _, _, hrF⟩ := own_rowAt hI.own (by omega)
              simp only [Value.slice.injEq, true_and, Option.some.injEq, Addr.mk.injEq, and_true] at hv1
              obtain ⟨rfl, rfl⟩ := hv1
              have hfl : (l'.flatMap mbrC).length = l.length * 2 := by rw [flatMap_len (size := 2) (fun _ => rfl), hll]
              have hzr : ∀ w : World, (zeroValue 185).run Tryz.prog w = .ok (.agg #[.string ByteArray.empty, .string ByteArray.empty]) w := fun w => by kernel_rfl
              obtain ⟨n3, hn3⟩ : ∃ n3, l.length - m = n3 := ⟨_, rfl⟩
              have hcl : ∀ ty, (Builtin.clear_ #[54] ty #[.slice (some ⟨g0, m * 2, none⟩) n3 (cap - m)]).run Tryz.prog wr = .ok (.tuple #[]) (wr.setCells g0 (m * 2) (Builtin.zeroCells (.agg #[.string ByteArray.empty, .string ByteArray.empty] : Value).cells n3).toList) := fun ty => by
                refine run_clear_n wr _ _ ty _ Tryz.underlying54 hzr (by intro u hu; have hu : u ∈ ([.string ByteArray.empty, .string ByteArray.empty] : List Value) := hu; simp only [List.mem_cons, List.not_mem_nil, or_false] at hu; rcases hu with rfl | rfl <;> rfl) g0 (m * 2) (cap - m) n3 (by omega) (fun j hj => ?_) (fun j hj => ?_)
                · have hj' : j < n3 * 2 := hj
                  have hl : m * 2 + j < (l'.flatMap mbrC).length := by rw [hfl]; omega
                  rw [hrF.2.1 _ hl, List.getElem?_eq_getElem hl]; rfl
                · have hj' : j < n3 * 2 := hj
                  exact hrF.2.2 _ (by rw [hfl]; omega)
              obtain ⟨Z, hZ⟩ : ∃ Z, Z = wr.setCells g0 (m * 2) (Builtin.zeroCells (.agg #[.string ByteArray.empty, .string ByteArray.empty] : Value).cells n3).toList := ⟨_, rfl⟩
              have HZ := Lib.hid (show Kb (fun k => k = g0) w Z from hZ ▸ hI.kb.trans (kb_setCells g0 _ _ _))
              rw [← hZ, ← hn3] at hcl
              skip
              have HF := Lib.hid (show ¬ m = l.length ∧ ¬ NoTwin q l from ⟨by omega, fun h => by have := h k HN.out.2.1; rw [HR.out] at this; cases this⟩)
              have HKIN := Lib.hid kin
              have k3 : (m : Int) ≤ (l.length : Int) := by omega
              have k5 : (l.length : Int) ≤ (cap : Int) := by omega
              have k6 : (m : Int) ≤ (cap : Int) := by omega
              clear hI hrF hfl hzr hZ hn3 hn2 kin
              go_wp2_with fail
              go_ret
              exact ⟨_, _, _, rfl, ⟨fun h => absurd h HF.out.1, fun h => absurd h HF.out.2⟩, HKIN.out _ _ HZ.out⟩
      · have HT := Lib.hid (show NoTwin q l from fun j hj => HP.out j (by omega) hj)
        clear ha
        go_wp2_with fail
        go_ret
        exact ⟨_, _, _, rfl, ⟨fun _ => HT.out, fun _ => rfl⟩, Kb.of_aft HA.out⟩
end Go.Proofs.YticjnndhpfdajaaGreat
/- slices.Clone at Member. -/
namespace Go.Proofs.YticjnndhpfdajaaGreat
open Go.RowKit
set_option maxRecDepth 100000
set_option linter.unusedVariables false
theorem info2Mem : (Tryz.prog.info? 185).map (fun i => (i.zero, i.size, i.bytes)) = some (some (.agg #[.string ByteArray.empty, .string ByteArray.empty]), 2, 32) := by kernel_rfl
set_option maxHeartbeats 2000000 in
theorem clone2Mem (A : Option Addr) (cap : Nat) (l : List Mbr) (w0 w : World) (ha : Aft w0 w) (h : SlAt w0 2 MbrR A cap l) (hb : l.length ≤ 1000000) :
    Calls Tryz.prog 190 #[.slice A l.length cap] w (CloneQ 185 2 MbrR w0 w l) := by
  obtain ⟨i0, hi, hz0, hz1, hz2⟩ := info_parts info2Mem
  have q22 : ∀ (w : World) (a : Option Addr) (n c n' c' : Nat), (binOp .eql 54 (.slice a n c) (.slice none n' c')).run Tryz.prog w = .ok (.bool a.isNone) w := fun w a n c n' c' => Lib.run_eql_slice_nil w _ _ a n c n' c' Tryz.underlying54
  cases A with
  | none =>
    have hl0 : l = [] := by
      cases l with
      | nil => rfl
      | cons x l => obtain ⟨b, off, cs, hA, _⟩ := h.2.2 0 (by simp); cases hA
    subst hl0
    go_enter Tryz.func190, Tryz.ntmps190
    go_wp2_with fail
    go_ret
    exact ⟨_, [], rfl, Aft.refl _, own_nil _ _ _ _, Chunks.nil⟩
  | some ad =>
    have HC : ∃ css, Chunks w0 2 MbrR css l ∧ ∀ p u, css.flatten[p]? = some u → w.cell? (ad.add p) = some u := by
      by_cases h0 : 0 < l.length
      · obtain ⟨b, off, css, hA, hb', hch, hc⟩ := h.css h0 (by decide)
        simp only [Option.some.injEq] at hA
        subst hA
        refine ⟨css, hch, fun p u hp => ?_⟩
        have hlt : p < l.length * 2 := by rw [← hch.len]; exact (List.getElem?_eq_some_iff.1 hp).1
        rw [add_mk]; exact ha.cell_kept ((hc p hlt).trans hp)
      · have hl0 : l = [] := List.eq_nil_of_length_eq_zero (by omega)
        subst hl0
        exact ⟨[], Chunks.nil, fun p u hp => by simp at hp⟩
    obtain ⟨css, hch, hcell⟩ := HC
    have H1 := Lib.hid hcell
    have H2 : Hid (∀ u ∈ css.flatten, u.oneCell' = true) := Lib.hid (by
      intro u hu
      obtain ⟨c, hc, hu⟩ := List.mem_flatten.1 hu
      obtain ⟨i, hi, rfl⟩ := List.getElem_of_mem hc
      have h3 := (hch.2 i hi (by rw [← hch.1]; exact hi)).2
      obtain ⟨hcs, _⟩ := h3
      rw [hcs] at hu
      simp only [List.mem_cons, List.not_mem_nil, or_false] at hu
      rcases hu with rfl | rfl <;> simp [Value.oneCell'])
    have H3 := Lib.hid hch
    have HI := Lib.hid hi
    have HZ0 := Lib.hid hz0
    have HZ1 := Lib.hid hz1
    have HZ2 := Lib.hid hz2
    clear hcell hch hi hz0 hz1 hz2 h ha
    go_enter Tryz.func190, Tryz.ntmps190
    go_wp2_with (at_builtin; refine wpList_append_own _ rfl _ _ 54 rfl w.heap.size 185 i0 (.agg #[.string ByteArray.empty, .string ByteArray.empty]) 2 32 Tryz.underlying54 HI.out HZ0.out HZ1.out HZ2.out rfl (by decide) _ _ _ rfl (World.ownsRow_made w #[] 0 (Nat.le_refl _) (Nat.zero_le _) rfl) ad l.length cap css.flatten rfl ?qc1 ?qc2 ?qc3 ?qc4 ?qc5 ?qc6 ?_)
    case qc1 => exact H3.out.len
    case qc2 =>
      intro j u hj
      exact Lib.cell?_alloc_some _ (H1.out j u hj)
    case qc3 => exact H2.out
    case qc4 => unfold maxLen; omega
    case qc5 => omega
    case qc6 => simp
    intro v' w1 hown hgrow hnil
    have HO := Lib.hid hown
    have HA := Lib.hid (show Aft w w1 from ((Below.refl _ w).alloc (Nat.le_refl _) _).grown hgrow (by simp) (by intro k hk; simp [Value.ownBlock] at hk; omega))
    clear hown hgrow hnil
    go_wp2_with fail
    go_ret
    refine ⟨v', css, rfl, HA.out, ?_, H3.out⟩
    simpa using HO.out
end Go.Proofs.YticjnndhpfdajaaGreat
/- roles.rising: a row rises. -/
namespace Go.Proofs.YticjnndhpfdajaaGreat
open Go.RowKit Go.Deep
set_option maxRecDepth 100000
set_option linter.unusedVariables false
theorem flat_mbrs {w : World} {css : List (List Value)} {l : List Mbr} (h : Chunks w 2 MbrR css l) : css.flatten = l.flatMap mbrC := chunks_flat (fun _ _ h => h.1) h
theorem rises_two {α : Type} {c : α → α → Int} (anti : ∀ a b, c a b = - c b a) (l : List α) : risesB c l = true ↔ Sorted c l ∧ NoTwin (fun a b => decide (c a b = 0)) l := by
  rw [risesB_iff]
  constructor
  · intro h
    refine ⟨fun k hk => ?_, fun k hk => ?_⟩
    · have h1 := h k hk
      have h2 := anti l[k + 1] (l[k]'(by omega))
      omega
    · have h1 := h k hk
      have h2 := anti l[k + 1] (l[k]'(by omega))
      simp only [decide_eq_false_iff_not]
      omega
  · intro ⟨h1, h2⟩ k hk
    have h3 := h1 k hk
    have h4 := h2 k hk
    simp only [decide_eq_false_iff_not] at h4
    have h5 := anti l[k + 1] (l[k]'(by omega))
    omega
theorem own_cap {w : World} {B size n : Nat} {e : TypeId} {v : Value} {xs : List Value} (h : w.ownsRow B e size v n xs) : ∀ A n c, v = .slice A n c → c ≤ 9223372036854775807 := by
  intro A n c hv
  rcases h.2 with ⟨rfl, _⟩ | ⟨g, cap, cur, rfl, _, _, _, hcm, _⟩
  · simp only [Value.slice.injEq] at hv; omega
  · simp only [Value.slice.injEq] at hv
    have : cap ≤ maxLen := hcm
    unfold maxLen at this
    omega
set_option maxHeartbeats 1000000 in
theorem ris1S (x y : ByteArray) (bx : Nat) (g : FuncId) (caps : Array Value) (c : ByteArray → ByteArray → Int) (w : World) (hc : w.cell? ⟨bx, 0, none⟩ = some (.func (.func g) #[] caps)) (hent : ∀ (args : Array Value) (w : World), (callFunc g args).run Tryz.prog w = .ok (.enter g args) w)
    (hp : ∀ w', Aft w w' → Calls Tryz.prog g (#[.string (x), .string (y)] ++ caps) w' fun e w'' => e = .returned (.int .i64 (c x y)) ∧ Aft w' w'') :
    Calls Tryz.prog 259 #[.string (x), .string (y), .pointer (some ⟨bx, 0, none⟩)] w fun e w' => e = .returned (.bool (decide (c x y = 0))) ∧ Aft w w' := by
  have HP := Lib.hid hp
  have hbx : bx < w.heap.size := World.block_lt_of_cell? _ _ hc
  have hbx1 : bx < w.heap.size + 1 := by omega
  clear hp
  go_enter Tryz.func259, Tryz.ntmps259
  go_wp2_with fail
  refine (HP.out _ (Aft.refl w)).mono ?_
  rintro e w1 ⟨rfl, a1⟩
  have HA := Lib.hid ((Aft.refl w).trans a1)
  clear a1
  go_wp2_with fail
  go_ret
  exact ⟨Eq.trans (b := .returned (.bool _)) rfl (ret_of (bool_of (by first | rfl | simp))), HA.out⟩
set_option maxHeartbeats 2000000 in
theorem risingS (A : Option Addr) (cap : Nat) (l : List ByteArray) (g : FuncId) (caps : Array Value) (c : ByteArray → ByteArray → Int) (w : World) (h : SlAt w 1 StrR A cap l) (hb : l.length ≤ 1000000) (anti : ∀ a b, c a b = - c b a) (hent : ∀ (args : Array Value) (w : World), (callFunc g args).run Tryz.prog w = .ok (.enter g args) w)
    (hp : ∀ w' (x y : ByteArray), Aft w w' → Calls Tryz.prog g (#[.string (x), .string (y)] ++ caps) w' fun e w'' => e = .returned (.int .i64 (c x y)) ∧ Aft w' w'') :
    Calls Tryz.prog 227 #[.slice A l.length cap, .func (.func g) #[] caps] w fun e w' => e = .returned (.bool (risesB c l)) ∧ Aft w w' := by
  have hlen := h.len
  obtain ⟨W, hW⟩ : ∃ W, W = w.alloc (.cells #[.func (.func g) #[] caps] 86) := ⟨_, rfl⟩
  have aW : Aft w W := by rw [hW]; exact (Aft.refl w).alloc _
  have zW : W.heap.size = w.heap.size + 1 := by rw [hW]; simp
  have cW : W.cell? ⟨w.heap.size, 0, none⟩ = some (.func (.func g) #[] caps) := by rw [hW]; simp
  have C1 := Lib.hid (sortedS A cap l g caps c W (strs_aft aW h) hent fun w' a i hi => hp w' _ _ (aW.trans a))
  have HH := Lib.hid (And.intro h (And.intro hp (And.intro anti (And.intro aW cW))))
  have hent2 := enters (P := Tryz.prog) Tryz.func259 (by kernel_rfl) rfl
  have hsm := sm_mem h (P := fun x : ByteArray => Small x.size) (fun _ _ h => h.2)
  have HSM := Lib.hid hsm
  clear h hp anti aW hsm
  go_enter Tryz.func227, Tryz.ntmps227
  go_wp2_with fail
  rw [← hW]
  refine C1.out.mono ?_
  rintro e w1 ⟨b, rfl, hb1, a1⟩
  have HB := Lib.hid hb1
  have HA1 := Lib.hid a1
  have cW1 := a1.cell_kept cW
  clear hW hb1
  cases b
  · clear a1 cW1 cW
    go_wp2_with fail
    go_ret
    refine ⟨Eq.trans (b := .returned (.bool _)) rfl (ret_of (bool_of ?_)), HH.out.2.2.2.1.trans HA1.out⟩
    have := rises_two HH.out.2.2.1 l
    have h2 := HB.out
    simp_all
  · have C2 := Lib.hid (clone2Str A cap l w1 w1 (Aft.refl _) (strs_aft (HH.out.2.2.2.1.trans a1) HH.out.1) hb)
    clear a1
    go_wp2_with fail
    refine C2.out.mono ?_
    rintro e w2 ⟨v, css, rfl, a2, ho, hch⟩
    rw [flat_names hch] at ho
    obtain ⟨A2, cap2, hv⟩ := own_lit ho
    subst hv
    have cW2 := a2.cell_kept cW1
    have C3 := Lib.hid (compS (.slice A2 l.length cap2) l 259 #[.pointer (some ⟨w.heap.size, 0, none⟩)] (fun a b => decide (c a b = 0)) w1.heap.size w2 ho HSM.out.1 (own_cap ho) HSM.out.2 hent2 (fun w' kb x y => by
      have hnb : ¬ InV (.slice A2 l.length cap2) w.heap.size := not_in ho (by have := HA1.out.size; omega)
      have ha : Aft w w' := kb.to_aft ((HH.out.2.2.2.1.trans HA1.out).trans a2) (fun g hg => not_in ho (by have := HA1.out.size; omega))
      exact ris1S x y w.heap.size g caps c w' (kb.cell cW2 hnb) hent (fun w'' a => HH.out.2.1 w'' x y (ha.trans a))))
    have HK := Lib.hid (show ∀ w', Kb (InV (.slice A2 l.length cap2)) w2 w' → Aft w w' from fun w' kb => kb.to_aft ((HH.out.2.2.2.1.trans HA1.out).trans a2) (fun g hg => not_in ho (by have := HA1.out.size; omega)))
    clear a2 ho hch
    go_wp2_with fail
    refine C3.out.mono ?_
    rintro e w3 ⟨A3, m, c3, rfl, hm, kb⟩
    have HM := Lib.hid hm
    have HA3 := Lib.hid (HK.out w3 kb)
    clear hm kb
    go_wp2_with fail
    go_ret
    refine ⟨Eq.trans (b := .returned (.bool _)) rfl (ret_of (bool_of ?_)), HA3.out⟩
    have h1 := rises_two HH.out.2.2.1 l
    have h2 := HB.out.1 (by first | trivial | rfl)
    have h3 := HM.out
    by_cases e : m = l.length
    · rw [h1.2 ⟨h2, h3.1 e⟩]
      simp [e]
    · have : risesB c l = false := by
        rw [Bool.eq_false_iff]
        intro h
        exact e (h3.2 (h1.1 h).2)
      rw [this]
      simp; omega
set_option maxHeartbeats 1000000 in
theorem ris1M (x y : Mbr) (bx : Nat) (g : FuncId) (caps : Array Value) (c : Mbr → Mbr → Int) (w : World) (hc : w.cell? ⟨bx, 0, none⟩ = some (.func (.func g) #[] caps)) (hent : ∀ (args : Array Value) (w : World), (callFunc g args).run Tryz.prog w = .ok (.enter g args) w)
    (hp : ∀ w', Aft w w' → Calls Tryz.prog g (#[.agg #[.string (x).role, .string (x).of], .agg #[.string (y).role, .string (y).of]] ++ caps) w' fun e w'' => e = .returned (.int .i64 (c x y)) ∧ Aft w' w'') :
    Calls Tryz.prog 262 #[.agg #[.string (x).role, .string (x).of], .agg #[.string (y).role, .string (y).of], .pointer (some ⟨bx, 0, none⟩)] w fun e w' => e = .returned (.bool (decide (c x y = 0))) ∧ Aft w w' := by
  have HP := Lib.hid hp
  have hbx : bx < w.heap.size := World.block_lt_of_cell? _ _ hc
  have hbx1 : bx < w.heap.size + 1 := by omega
  clear hp
  go_enter Tryz.func262, Tryz.ntmps262
  go_wp2_with fail
  refine (HP.out _ (((Aft.refl w).alloc _).alloc _)).mono ?_
  rintro e w1 ⟨rfl, a1⟩
  have HA := Lib.hid ((((Aft.refl w).alloc _).alloc _).trans a1)
  clear a1
  go_wp2_with fail
  go_ret
  exact ⟨Eq.trans (b := .returned (.bool _)) rfl (ret_of (bool_of (by first | rfl | simp))), HA.out⟩
set_option maxHeartbeats 2000000 in
theorem risingM (A : Option Addr) (cap : Nat) (l : List Mbr) (g : FuncId) (caps : Array Value) (c : Mbr → Mbr → Int) (w : World) (h : SlAt w 2 MbrR A cap l) (hb : l.length ≤ 1000000) (anti : ∀ a b, c a b = - c b a) (hent : ∀ (args : Array Value) (w : World), (callFunc g args).run Tryz.prog w = .ok (.enter g args) w)
    (hp : ∀ w' (x y : Mbr), Aft w w' → Calls Tryz.prog g (#[.agg #[.string (x).role, .string (x).of], .agg #[.string (y).role, .string (y).of]] ++ caps) w' fun e w'' => e = .returned (.int .i64 (c x y)) ∧ Aft w' w'') :
    Calls Tryz.prog 228 #[.slice A l.length cap, .func (.func g) #[] caps] w fun e w' => e = .returned (.bool (risesB c l)) ∧ Aft w w' := by
  have hlen := h.len
  obtain ⟨W, hW⟩ : ∃ W, W = w.alloc (.cells #[.func (.func g) #[] caps] 218) := ⟨_, rfl⟩
  have aW : Aft w W := by rw [hW]; exact (Aft.refl w).alloc _
  have zW : W.heap.size = w.heap.size + 1 := by rw [hW]; simp
  have cW : W.cell? ⟨w.heap.size, 0, none⟩ = some (.func (.func g) #[] caps) := by rw [hW]; simp
  have C1 := Lib.hid (sortedM A cap l g caps c W (mbrs_aft aW h) hent fun w' a i hi => hp w' _ _ (aW.trans a))
  have HH := Lib.hid (And.intro h (And.intro hp (And.intro anti (And.intro aW cW))))
  have hent2 := enters (P := Tryz.prog) Tryz.func262 (by kernel_rfl) rfl
  have hsm := sm_mem h (P := fun x : Mbr => Small x.role.size ∧ Small x.of.size) (fun _ _ h => h.2)
  have HSM := Lib.hid hsm
  clear h hp anti aW hsm
  go_enter Tryz.func228, Tryz.ntmps228
  go_wp2_with fail
  rw [← hW]
  refine C1.out.mono ?_
  rintro e w1 ⟨b, rfl, hb1, a1⟩
  have HB := Lib.hid hb1
  have HA1 := Lib.hid a1
  have cW1 := a1.cell_kept cW
  clear hW hb1
  cases b
  · clear a1 cW1 cW
    go_wp2_with fail
    go_ret
    refine ⟨Eq.trans (b := .returned (.bool _)) rfl (ret_of (bool_of ?_)), HH.out.2.2.2.1.trans HA1.out⟩
    have := rises_two HH.out.2.2.1 l
    have h2 := HB.out
    simp_all
  · have C2 := Lib.hid (clone2Mem A cap l w1 w1 (Aft.refl _) (mbrs_aft (HH.out.2.2.2.1.trans a1) HH.out.1) hb)
    clear a1
    go_wp2_with fail
    refine C2.out.mono ?_
    rintro e w2 ⟨v, css, rfl, a2, ho, hch⟩
    rw [flat_mbrs hch] at ho
    obtain ⟨A2, cap2, hv⟩ := own_lit ho
    subst hv
    have cW2 := a2.cell_kept cW1
    have C3 := Lib.hid (compM (.slice A2 l.length cap2) l 262 #[.pointer (some ⟨w.heap.size, 0, none⟩)] (fun a b => decide (c a b = 0)) w1.heap.size w2 ho HSM.out.1 (own_cap ho) HSM.out.2 hent2 (fun w' kb x y => by
      have hnb : ¬ InV (.slice A2 l.length cap2) w.heap.size := not_in ho (by have := HA1.out.size; omega)
      have ha : Aft w w' := kb.to_aft ((HH.out.2.2.2.1.trans HA1.out).trans a2) (fun g hg => not_in ho (by have := HA1.out.size; omega))
      exact ris1M x y w.heap.size g caps c w' (kb.cell cW2 hnb) hent (fun w'' a => HH.out.2.1 w'' x y (ha.trans a))))
    have HK := Lib.hid (show ∀ w', Kb (InV (.slice A2 l.length cap2)) w2 w' → Aft w w' from fun w' kb => kb.to_aft ((HH.out.2.2.2.1.trans HA1.out).trans a2) (fun g hg => not_in ho (by have := HA1.out.size; omega)))
    clear a2 ho hch
    go_wp2_with fail
    refine C3.out.mono ?_
    rintro e w3 ⟨A3, m, c3, rfl, hm, kb⟩
    have HM := Lib.hid hm
    have HA3 := Lib.hid (HK.out w3 kb)
    clear hm kb
    go_wp2_with fail
    go_ret
    refine ⟨Eq.trans (b := .returned (.bool _)) rfl (ret_of (bool_of ?_)), HA3.out⟩
    have h1 := rises_two HH.out.2.2.1 l
    have h2 := HB.out.1 (by first | trivial | rfl)
    have h3 := HM.out
    by_cases e : m = l.length
    · rw [h1.2 ⟨h2, h3.1 e⟩]
      simp [e]
    · have : risesB c l = false := by
        rw [Bool.eq_false_iff]
        intro h
        exact e (h3.2 (h1.1 h).2)
      rw [this]
      simp; omega
end Go.Proofs.YticjnndhpfdajaaGreat
/- slices.Index at texts; all and none, in plain words. -/
namespace Go.Proofs.YticjnndhpfdajaaGreat
open Go.RowKit
set_option maxRecDepth 100000
set_option linter.unusedVariables false
theorem eqS_comm (a b : ByteArray) : eqS a b = eqS b a := by
  unfold eqS; rw [Bool.eq_iff_iff]; simp; exact eq_comm
theorem eqS_trans {a b c : ByteArray} (h : eqS a b = true) (h2 : eqS b c = true) : eqS a c = true := by
  unfold eqS at *; simp at *; rw [h, h2]
set_option maxHeartbeats 1000000 in
theorem sidx_any (A : Option Addr) (cap : Nat) (l : List ByteArray) (name : ByteArray) (w : World) (h : SlAt w 1 StrR A cap l) :
    Calls Tryz.prog 142 #[.slice A l.length cap, .string name] w fun e w' => e = .returned (.int .i64 (idxP (fun c => eqS c name) l)) ∧ w = w' := by
  have hlen := h.len
  go_enter Tryz.func142, Tryz.ntmps142
  go_wp2_with fail
  go_loop [8] (fun i => ∃ k : Nat, k ≤ l.length ∧ i = .int .i64 k ∧ ∀ j, j < k → ∀ (hj : j < l.length), eqS l[j] name = false) (fun i => l.length - (intOf i).toNat)
  case atStart => exact ⟨0, Nat.zero_le _, rfl, fun j hj => absurd hj (Nat.not_lt_zero j)⟩
  case round =>
    obtain ⟨k, hk, rfl, hp⟩ := hrel
    have HP := Lib.hid hp; clear hp
    by_cases hlt : k < l.length
    · obtain ⟨b, off, rfl, hb, c0, hs⟩ := str_at h hlt
      cases heq : eqS l[k] name
      · have h2 : (name.toList == l[k].toList) = false := (eqS_comm _ _).trans heq
        have HN := Lib.hid (ext_lt (p := fun j => ∀ (hj : j < l.length), eqS l[j] name = false) HP.out (fun _ => heq))
        clear heq
        go_wp2_with fail
        go_round
        case rel => exact ⟨k + 1, by omega, by go_num, HN.out⟩
        case measure => simp [intOf]; omega
      · have h2 : (name.toList == l[k].toList) = true := (eqS_comm _ _).trans heq
        have HQ := Lib.hid heq
        clear heq
        go_wp2_with fail
        go_ret
        have heq := HQ.out
        exact ⟨by rw [idxP_some (fun c => eqS c name) l k hlt heq (fun i hi => HP.out i hi (by omega))]; rfl, rfl⟩
    · go_wp2_with fail
      go_ret
      exact ⟨by rw [idxP_none (fun c => eqS c name) l (fun i hi => HP.out i (by omega) hi)]; rfl, rfl⟩

theorem idxP_at {α : Type} (p : α → Bool) (l : List α) (q : Nat) (hq : q < l.length) (h : idxP p l = q) : p l[q] = true := by
  induction l generalizing q with
  | nil => simp at hq
  | cons x l ih =>
    simp only [idxP] at h
    by_cases hx : p x = true
    · rw [if_pos hx] at h
      have : q = 0 := by omega
      subst this; simpa using hx
    · rw [if_neg hx] at h
      by_cases hy : idxP p l < 0
      · rw [if_pos hy] at h; omega
      · rw [if_neg hy] at h
        cases q with
        | zero => omega
        | succ q => simpa using ih q (by simpa using hq) (by omega)
theorem all_false {α : Type} (p : α → Bool) (l : List α) (k : Nat) (hk : k < l.length) (h : p l[k] = false) : l.all p = false := by
  rw [Bool.eq_false_iff]; intro ha
  have := List.all_eq_true.1 ha l[k] (List.getElem_mem hk)
  rw [h] at this; cases this
theorem all_true {α : Type} (p : α → Bool) (l : List α) (h : ∀ k (hk : k < l.length), p l[k] = true) : l.all p = true := by
  rw [List.all_eq_true]; intro x hx
  obtain ⟨i, hi, rfl⟩ := List.getElem_of_mem hx
  exact h i hi
end Go.Proofs.YticjnndhpfdajaaGreat
