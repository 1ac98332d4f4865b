/- slices.CompactFunc at texts and at members: it is shorter just if two neighbours are alike. -/
import Derived.Test.YtcdhljcpoopfaaaOrd8
import Derived.Test.YtcdhljcpoopfaaaClear
import Derived.Lib.Walk
namespace Go.Proofs.Ytcdhljcpoopfaaa
open Go.RowKit Go.Deep
set_option maxRecDepth 100000
set_option linter.unusedVariables false
def NoTwin {α : Type} (q : α → α → Bool) (l : List α) : Prop := ∀ k (h : k + 1 < l.length), q l[k + 1] (l[k]'(by omega)) = false
def CompP {α : Type} (q : α → α → Bool) (l : List α) (v : Value) (w : World) (e : Ending) (w' : World) : Prop :=
  ∃ A m c, e = .returned (.slice A m c) ∧ (m = l.length ↔ NoTwin q l) ∧ Kb (InV v) w w'
structure CompI {α : Type} (ty : TypeId) (size : Nat) (cells : α → List Value) (sm : α → Prop) (w wr : World) (B g cap n : Nat) (l : List α) : Prop where
  own : wr.ownsRow B ty size (.slice (some ⟨g, 0, none⟩) n cap) n (l.flatMap cells)
  len : l.length = n
  sm : ∀ x ∈ l, sm x
  kb : Kb (fun k => k = g) w wr
theorem CompI.aft {α : Type} {ty : TypeId} {size : Nat} {cells : α → List Value} {sm : α → Prop} {w wr wr' : World} {B g cap n : Nat} {l : List α} (h : CompI ty size cells sm w wr B g cap n l) (a : Aft wr wr') : CompI ty size cells sm w wr' B g cap n l := ⟨own_aft h.own a, h.len, h.sm, h.kb.trans (Kb.of_aft a)⟩
theorem kb_aft {Q : Nat → Prop} {w w1 w2 : World} (k : Kb Q w w1) (a : Aft w1 w2) : Kb Q w w2 := k.trans (Kb.of_aft a)
theorem compS_set {w wr : World} {B g cap n m i : Nat} {l : List ByteArray} (h : CompI 9 1 nameC (fun x : ByteArray => Small x.size) w wr B g cap n l) (hm : m < l.length) (hi : i < l.length) : CompI 9 1 nameC (fun x : ByteArray => Small x.size) w (wr.setCell ⟨g, m * 1, none⟩ (.string (l[i]))) B g cap n (l.set m l[i]) := by
  refine ⟨?_, by rw [List.length_set]; exact h.len, fun x hx => ?_, ?_⟩
  · have h1 := own_set h.own (g := g) rfl (m * 1) (.string l[i])
    rwa [← Nat.add_zero (m * 1), flatMap_set (f := nameC) (fun _ => rfl) l m 0 hm (by decide) (.string l[i]) l[i] rfl, Nat.add_zero] at h1
  · rcases List.mem_or_eq_of_mem_set hx with h1 | h1
    · exact h.sm x h1
    · subst h1; exact h.sm _ (List.getElem_mem hi)
  · exact h.kb.trans (Kb.set _ _ _ _)
theorem compS_sl {w wr : World} {B g cap n : Nat} {l : List ByteArray} (h : CompI 9 1 nameC (fun x : ByteArray => Small x.size) w wr B g cap n l) (hs : Small (n * 16)) : SlAt wr 1 StrR (some ⟨g, 0, none⟩) cap l := by
  have ho := h.own
  have hl := h.len
  subst hl
  exact own_slf (h := ⟨some ⟨g, 0, none⟩, l.length, cap⟩) nameC ho (fun x hx => ⟨rfl, rfl, h.sm x hx⟩) hs
set_option maxHeartbeats 8000000 in
theorem compS (v : Value) (l : List ByteArray) (g : FuncId) (caps : Array Value) (q : ByteArray → ByteArray → Bool) (B : Nat) (w : World) (ho : w.ownsRow B 9 1 v l.length (l.flatMap nameC)) (hs : Small (l.length * 16)) (hcap : ∀ A n c, v = .slice A n c → c ≤ 9223372036854775807) (sm : ∀ x ∈ l, (fun x : ByteArray => Small x.size) x) (hent : ∀ (args : Array Value) (w : World), (callFunc g args).run Try.prog w = .ok (.enter g args) w)
    (hq : ∀ w', Kb (InV v) w w' → ∀ x y : ByteArray, Calls Try.prog g (#[.string (x), .string (y)] ++ caps) w' fun e w'' => e = .returned (.bool (q x y)) ∧ Aft w' w'') :
    Calls Try.prog 142 #[v, .func (.func g) #[] caps] w (CompP q l v w) := by
  have hlen : l.length * 16 ≤ 140737488351232 := hs
  by_cases h2 : l.length < 2
  · obtain ⟨A, cap, hv⟩ := own_lit ho
    subst hv
    have HT := Lib.hid (show NoTwin q l from fun k h => by omega)
    have hi2 : (l.length : Int) < 2 := by omega
    go_enter Try.func142, Try.ntmps142
    go_wp2_with fail
    go_ret
    exact ⟨_, _, _, rfl, ⟨fun _ => HT.out, fun _ => rfl⟩, Kb.refl _ _⟩
  · obtain ⟨g0, cap, hv, hgB, hnc, hr⟩ := own_rowAt ho (by omega)
    subst hv
    have hcap := hcap _ _ _ rfl
    have hI : CompI 9 1 nameC (fun x : ByteArray => Small x.size) w w B g0 cap l.length l := ⟨ho, rfl, sm, Kb.refl _ _⟩
    have kin : ∀ w1 w2 : World, Kb (fun k => k = g0) w1 w2 → Kb (InV (.slice (some ⟨g0, 0, none⟩) l.length cap)) w1 w2 := fun w1 w2 k => k.mono fun g _ e => by subst e; rfl
    have HQ := Lib.hid (show ∀ w', Kb (fun k => k = g0) w w' → _ from fun w' k => hq w' (kin _ _ k))
    have HI := Lib.hid hI
    have hsl := compS_sl hI hs
    have hi2 : ¬ (l.length : Int) < 2 := by omega
    have HSL := Lib.hid hsl
    clear hq hI ho hr sm
    go_enter Try.func142, Try.ntmps142
    go_wp2_with fail
    go_loopw [5] (fun i wr => ∃ k : Nat, 0 < k ∧ k ≤ l.length ∧ i = .int .i64 k ∧ Aft w wr ∧ ∀ j, j + 1 < k → ∀ (hj : j + 1 < l.length), q l[j + 1] (l[j]'(by omega)) = false) (fun i _ => l.length - (intOf i).toNat)
    case atStart => exact ⟨1, by omega, by omega, rfl, Aft.refl _, fun j hj h => by omega⟩
    case round =>
      obtain ⟨k, hk0, hk, rfl, ha, hp⟩ := hrel
      have HA := Lib.hid ha
      have HP := Lib.hid hp; clear hp
      by_cases hlt : k < l.length
      · obtain ⟨k, rfl⟩ : ∃ k', k = k' + 1 := ⟨k - 1, by omega⟩
        have hsl2 := HSL.out.aft ha fun _ _ h => h
        have hk1 : k < l.length := by omega
        obtain ⟨b, off, hA0, hb, c0, hs⟩ := str_at hsl2 hk1
        obtain ⟨b', off', hA', hb', d0, hs'⟩ := str_at hsl2 hlt
        simp only [Option.some.injEq, Addr.mk.injEq, and_true] at hA0 hA'
        obtain ⟨rfl, rfl⟩ := hA0
        obtain ⟨rfl, rfl⟩ := hA'
        simp only [Nat.zero_add] at c0 d0
        obtain ⟨r, hr⟩ : ∃ r, q l[k + 1] (l[k]'(by omega)) = r := ⟨_, rfl⟩
        have Cc := Lib.hid (show ∀ x : Lat wr, _ from fun x => hr ▸ HQ.out (lat wr x) (Kb.of_aft (HA.out.lat x)) l[k + 1] (l[k]'(by omega)))
        have HR := Lib.hid hr
        clear ha hsl hsl2 hr
        have w1 : IntKind.i64.wrap (((k + 1 : Nat) : Int) - 1) = (k : Int) := by rw [show ((k + 1 : Nat) : Int) - 1 = (k : Int) from by omega]; exact IntWalk.i64_in _ (by omega)
        have w5 : IntKind.i64.wrap ((k : Int) + 1 - 1) = (k : Int) := by rw [show (k : Int) + 1 - 1 = (k : Int) from by omega]; exact IntWalk.i64_in _ (by omega)
        have w2 : (0 : Int) ≤ (k : Int) + 1 := by omega
        have w3 : ((k : Int) + 1).toNat = k + 1 := by omega
        have w4 : (k : Int) + 1 < (l.length : Int) := by omega
        cases r
        · go_wp2_with fail
          refine wp_region_lat (by kernel_rfl) (by kernel_rfl) ?_
          repeat (go_big_quiet_step ((exact Calls.lat_of (Cc.out _))))
          refine wpQuiet_nil ?_
          intro _ hw'
          obtain ⟨x, hw''⟩ := hw'
          subst hw''
          clear w1 w2 w3 w4 w5
          go_wp2_with fail
          go_roundw
          case rel =>
            refine ⟨k + 1 + 1, by omega, by omega, by go_num, HA.out.lat x, fun j hj hj2 => ?_⟩
            rcases Nat.lt_or_ge j k with h1 | h1
            · exact HP.out j (by omega) hj2
            · have : j = k := by omega
              subst this
              exact HR.out
          case measure => simp [intOf]; omega
        · have hck : ¬ cap = k + 1 := by omega
          go_wp2_with fail
          refine wp_region_lat (by kernel_rfl) (by kernel_rfl) ?_
          repeat (go_big_quiet_step ((exact Calls.lat_of (Cc.out _))))
          refine wpQuiet_nil ?_
          intro _ hw'
          obtain ⟨x, hw''⟩ := hw'
          subst hw''
          clear w1 w2 w3 w4 w5
          go_wp2_with fail
          obtain ⟨n2, hn2⟩ : ∃ n2, l.length - (k + 1) = n2 := ⟨_, rfl⟩
          rw [hn2]
          have HN := Lib.hid (And.intro hn2 (And.intro hlt (And.intro hnc hcap)))
          have HI2 := Lib.hid (HI.out.aft (HA.out.lat x))
          clear hn2 c0 d0 hs hs'
          go_loopw [5, 7] (fun u5 u7 wr2 => ∃ (m k2 : Nat) (l' : List ByteArray), 0 < k2 ∧ k2 ≤ n2 ∧ m < k + 1 + k2 ∧ u5 = .int .i64 m ∧ u7 = .int .i64 k2 ∧ CompI 9 1 nameC (fun x : ByteArray => Small x.size) w wr2 B g0 cap l.length l') (fun _ u7 _ => n2 - (intOf u7).toNat)
          case atStart => exact ⟨k + 1, 1, l, by omega, by have := HN.out.1; omega, by omega, rfl, rfl, HI2.out⟩
          case round =>
            obtain ⟨m, k2, l', hk20, hk2, hm, rfl, rfl, hI⟩ := hrel
            have hn2 := HN.out.1
            have hml : m < l.length := by omega
            have HJ := Lib.hid hI
            have hll := hI.len
            by_cases hlt2 : k2 < n2
            · obtain ⟨k3, rfl⟩ : ∃ k', k2 = k' + 1 := ⟨k2 - 1, by omega⟩
              have hsl3 := compS_sl hI hs
              have hi1 : k + 1 + (k3 + 1) < l'.length := by omega
              have hi0 : k + 1 + k3 < l'.length := by omega
              obtain ⟨b, off, hA0, hb0, c0, hs⟩ := str_at hsl3 hi0
              obtain ⟨b', off', hA', hb1, d0, hs'⟩ := str_at hsl3 hi1
              simp only [Option.some.injEq, Addr.mk.injEq, and_true] at hA0 hA'
              obtain ⟨rfl, rfl⟩ := hA0
              obtain ⟨rfl, rfl⟩ := hA'
              simp only [Nat.zero_add] at c0 d0
              obtain ⟨x1, hx1⟩ : ∃ x1, l'[k + 1 + (k3 + 1)] = x1 := ⟨_, rfl⟩
              obtain ⟨x0, hx0⟩ : ∃ x0, l'[k + 1 + k3] = x0 := ⟨_, rfl⟩
              rw [hx0] at c0 hs
              rw [hx1] at d0 hs'
              obtain ⟨r, hr⟩ : ∃ r, q x1 x0 = r := ⟨_, rfl⟩
              have Cc2 := Lib.hid (show ∀ y : Lat wr, _ from fun y => hr ▸ HQ.out (lat wr y) (hI.kb.trans (Kb.of_aft ((Aft.refl wr).lat y))) x1 x0)
              have HX := Lib.hid hx1
              have w1 : IntKind.i64.wrap (((k3 + 1 : Nat) : Int) - 1) = (k3 : Int) := by rw [show ((k3 + 1 : Nat) : Int) - 1 = (k3 : Int) from by omega]; exact IntWalk.i64_in _ (by omega)
              have w5 : IntKind.i64.wrap ((k3 : Int) + 1 - 1) = (k3 : Int) := by rw [show (k3 : Int) + 1 - 1 = (k3 : Int) from by omega]; exact IntWalk.i64_in _ (by omega)
              have w2 : (0 : Int) ≤ (k3 : Int) + 1 := by omega
              have w3 : ((k3 : Int) + 1).toNat = k3 + 1 := by omega
              have w4 : (k3 : Int) + 1 < (n2 : Int) := by omega
              have w6 : (k3 : Int) < (n2 : Int) := by omega
              clear hI hsl3 hr hx0 hx1 hn2
              go_wp2_with fail
              refine wp_region_lat (by kernel_rfl) (by kernel_rfl) ?_
              repeat (go_big_quiet_step ((exact Calls.lat_of (Cc2.out _))))
              refine wpQuiet_nil ?_
              intro _ hw'
              obtain ⟨y, hw''⟩ := hw'
              subst hw''
              clear w1 w5
              cases r
              · obtain ⟨F, hF⟩ : ∃ F, F = lat wr y := ⟨_, rfl⟩
                have HJF := Lib.hid (show CompI 9 1 nameC (fun x : ByteArray => Small x.size) w F B g0 cap l.length l' from hF ▸ HJ.out.aft ((Aft.refl wr).lat y))
                obtain ⟨_, _, hv1, _, _, hrF⟩ := own_rowAt HJF.out.own (by omega)
                simp only [Value.slice.injEq, true_and, Option.some.injEq, Addr.mk.injEq, and_true] at hv1
                obtain ⟨rfl, rfl⟩ := hv1
                have hfl : (l'.flatMap nameC).length = l.length * 1 := by rw [flatMap_len (size := 1) (fun _ => rfl), hll]
                obtain ⟨u0, z0⟩ : ∃ u, F.cell? ⟨g0, m, none⟩ = some u := ⟨_, by rw [hrF.2.1 m (by rw [hfl]; omega), List.getElem?_eq_getElem (by rw [hfl]; omega)]⟩
                have z1 : F.frozen? ⟨g0, m, none⟩ = false := hrF.2.2 m (by rw [hfl]; omega)
                have z2 : g0 < F.heap.size := hrF.1
                have z3 : F.cell? ⟨g0, k + 1 + (k3 + 1), none⟩ = some (.string x1) := by rw [hF]; exact ((Aft.refl wr).lat y).cell_kept d0
                rw [← hF]
                clear hF
                clear hrF hfl
                have HNEW := Lib.hid (show CompI 9 1 nameC (fun x : ByteArray => Small x.size) w (F.setCell ⟨g0, m, none⟩ (.string (x1))) B g0 cap l.length (l'.set m l'[k + 1 + (k3 + 1)]) from by
                  have := compS_set HJF.out (m := m) (i := k + 1 + (k3 + 1)) (by omega) hi1
                  rw [HX.out] at this ⊢
                  simpa using this)
                clear w2 w3 w4 w6
                go_wp2_with fail
                go_roundw
                case rel => exact ⟨m + 1, k3 + 1 + 1, _, by omega, by omega, by omega, by go_num, by go_num, HNEW.out⟩
                case measure => simp [intOf]; omega
              · clear w2 w3 w4 w6
                go_wp2_with fail
                go_roundw
                case rel => exact ⟨m, k3 + 1 + 1, l', by omega, by omega, by omega, rfl, by go_num, HJ.out.aft ((Aft.refl wr).lat y)⟩
                case measure => simp [intOf]; omega
            · have hcm : ¬ cap = m := by omega
              obtain ⟨_, _, hv1, _, _, hrF⟩ := own_rowAt hI.own (by omega)
              simp only [Value.slice.injEq, true_and, Option.some.injEq, Addr.mk.injEq, and_true] at hv1
              obtain ⟨rfl, rfl⟩ := hv1
              have hfl : (l'.flatMap nameC).length = l.length * 1 := by rw [flatMap_len (size := 1) (fun _ => rfl), hll]
              have hzr : ∀ w : World, (zeroValue 9).run Try.prog w = .ok (.string ByteArray.empty) w := fun w => by kernel_rfl
              obtain ⟨n3, hn3⟩ : ∃ n3, l.length - m = n3 := ⟨_, rfl⟩
              have hcl : ∀ ty, (Builtin.clear_ #[22] ty #[.slice (some ⟨g0, m * 1, none⟩) n3 (cap - m)]).run Try.prog wr = .ok (.tuple #[]) (wr.setCells g0 (m * 1) (Builtin.zeroCells (.string ByteArray.empty : Value).cells n3).toList) := fun ty => by
                refine run_clear_n wr _ _ ty _ Try.underlying22 hzr (by intro u hu; have hu : u ∈ ([.string ByteArray.empty] : List Value) := hu; simp only [List.mem_cons, List.not_mem_nil, or_false] at hu; subst hu; rfl) g0 (m * 1) (cap - m) n3 (by omega) (fun j hj => ?_) (fun j hj => ?_)
                · have hj' : j < n3 * 1 := hj
                  have hl : m * 1 + j < (l'.flatMap nameC).length := by rw [hfl]; omega
                  rw [hrF.2.1 _ hl, List.getElem?_eq_getElem hl]; rfl
                · have hj' : j < n3 * 1 := hj
                  exact hrF.2.2 _ (by rw [hfl]; omega)
              obtain ⟨Z, hZ⟩ : ∃ Z, Z = wr.setCells g0 (m * 1) (Builtin.zeroCells (.string ByteArray.empty : Value).cells n3).toList := ⟨_, rfl⟩
              have HZ := Lib.hid (show Kb (fun k => k = g0) w Z from hZ ▸ hI.kb.trans (kb_setCells g0 _ _ _))
              rw [← hZ, ← hn3] at hcl
              simp only [Nat.mul_one] at hcl
              have HF := Lib.hid (show ¬ m = l.length ∧ ¬ NoTwin q l from ⟨by omega, fun h => by have := h k HN.out.2.1; rw [HR.out] at this; cases this⟩)
              have HKIN := Lib.hid kin
              have k3 : (m : Int) ≤ (l.length : Int) := by omega
              have k5 : (l.length : Int) ≤ (cap : Int) := by omega
              have k6 : (m : Int) ≤ (cap : Int) := by omega
              clear hI hrF hfl hzr hZ hn3 hn2 kin
              go_wp2_with fail
              go_ret
              exact ⟨_, _, _, rfl, ⟨fun h => absurd h HF.out.1, fun h => absurd h HF.out.2⟩, HKIN.out _ _ HZ.out⟩
      · have HT := Lib.hid (show NoTwin q l from fun j hj => HP.out j (by omega) hj)
        clear ha
        go_wp2_with fail
        go_ret
        exact ⟨_, _, _, rfl, ⟨fun _ => HT.out, fun _ => rfl⟩, Kb.of_aft HA.out⟩
theorem compM_set {w wr : World} {B g cap n m i : Nat} {l : List Mbr} (h : CompI 61 2 mbrC (fun x : Mbr => Small x.role.size ∧ Small x.of.size) w wr B g cap n l) (hm : m < l.length) (hi : i < l.length) : CompI 61 2 mbrC (fun x : Mbr => Small x.role.size ∧ Small x.of.size) w ((wr.setCell ⟨g, m * 2, none⟩ (.string (l[i]).role)).setCell ⟨g, m * 2 + 1, none⟩ (.string (l[i]).of)) B g cap n (l.set m l[i]) := by
  refine ⟨?_, by rw [List.length_set]; exact h.len, fun x hx => ?_, ?_⟩
  · have h1 := own_set (own_set h.own (g := g) rfl (m * 2) (.string l[i].role)) (g := g) rfl (m * 2 + 1) (.string l[i].of)
    rw [show (l.flatMap mbrC).set (m * 2) (.string l[i].role) = (l.set m ⟨l[i].role, l[m].of⟩).flatMap mbrC from flatMap_set (f := mbrC) (size := 2) (fun _ => rfl) l m 0 hm (by decide) (.string l[i].role) ⟨l[i].role, l[m].of⟩ rfl,
      flatMap_set (f := mbrC) (size := 2) (fun _ => rfl) (l.set m ⟨l[i].role, l[m].of⟩) m 1 (by simpa using hm) (by decide) (.string l[i].of) l[i] (by simp [mbrC])] at h1
    simpa using h1
  · rcases List.mem_or_eq_of_mem_set hx with h1 | h1
    · exact h.sm x h1
    · subst h1; exact h.sm _ (List.getElem_mem hi)
  · exact h.kb.trans ((Kb.set _ _ _ _).trans (Kb.set _ _ _ _))
theorem compM_sl {w wr : World} {B g cap n : Nat} {l : List Mbr} (h : CompI 61 2 mbrC (fun x : Mbr => Small x.role.size ∧ Small x.of.size) w wr B g cap n l) (hs : Small (n * 16)) : SlAt wr 2 MbrR (some ⟨g, 0, none⟩) cap l := by
  have ho := h.own
  have hl := h.len
  subst hl
  exact own_slf (h := ⟨some ⟨g, 0, none⟩, l.length, cap⟩) mbrC ho (fun x hx => ⟨rfl, rfl, h.sm x hx⟩) hs
set_option maxHeartbeats 8000000 in
theorem compM (v : Value) (l : List Mbr) (g : FuncId) (caps : Array Value) (q : Mbr → Mbr → Bool) (B : Nat) (w : World) (ho : w.ownsRow B 61 2 v l.length (l.flatMap mbrC)) (hs : Small (l.length * 16)) (hcap : ∀ A n c, v = .slice A n c → c ≤ 9223372036854775807) (sm : ∀ x ∈ l, (fun x : Mbr => Small x.role.size ∧ Small x.of.size) x) (hent : ∀ (args : Array Value) (w : World), (callFunc g args).run Try.prog w = .ok (.enter g args) w)
    (hq : ∀ w', Kb (InV v) w w' → ∀ x y : Mbr, Calls Try.prog g (#[.agg #[.string (x).role, .string (x).of], .agg #[.string (y).role, .string (y).of]] ++ caps) w' fun e w'' => e = .returned (.bool (q x y)) ∧ Aft w' w'') :
    Calls Try.prog 145 #[v, .func (.func g) #[] caps] w (CompP q l v w) := by
  have hlen : l.length * 16 ≤ 140737488351232 := hs
  by_cases h2 : l.length < 2
  · obtain ⟨A, cap, hv⟩ := own_lit ho
    subst hv
    have HT := Lib.hid (show NoTwin q l from fun k h => by omega)
    have hi2 : (l.length : Int) < 2 := by omega
    go_enter Try.func145, Try.ntmps145
    go_wp2_with fail
    go_ret
    exact ⟨_, _, _, rfl, ⟨fun _ => HT.out, fun _ => rfl⟩, Kb.refl _ _⟩
  · obtain ⟨g0, cap, hv, hgB, hnc, hr⟩ := own_rowAt ho (by omega)
    subst hv
    have hcap := hcap _ _ _ rfl
    have hI : CompI 61 2 mbrC (fun x : Mbr => Small x.role.size ∧ Small x.of.size) w w B g0 cap l.length l := ⟨ho, rfl, sm, Kb.refl _ _⟩
    have kin : ∀ w1 w2 : World, Kb (fun k => k = g0) w1 w2 → Kb (InV (.slice (some ⟨g0, 0, none⟩) l.length cap)) w1 w2 := fun w1 w2 k => k.mono fun g _ e => by subst e; rfl
    have HQ := Lib.hid (show ∀ w', Kb (fun k => k = g0) w w' → _ from fun w' k => hq w' (kin _ _ k))
    have HI := Lib.hid hI
    have hsl := compM_sl hI hs
    have hi2 : ¬ (l.length : Int) < 2 := by omega
    have HSL := Lib.hid hsl
    clear hq hI ho hr sm
    go_enter Try.func145, Try.ntmps145
    go_wp2_with fail
    go_loopw [5] (fun i wr => ∃ k : Nat, 0 < k ∧ k ≤ l.length ∧ i = .int .i64 k ∧ Aft w wr ∧ ∀ j, j + 1 < k → ∀ (hj : j + 1 < l.length), q l[j + 1] (l[j]'(by omega)) = false) (fun i _ => l.length - (intOf i).toNat)
    case atStart => exact ⟨1, by omega, by omega, rfl, Aft.refl _, fun j hj h => by omega⟩
    case round =>
      obtain ⟨k, hk0, hk, rfl, ha, hp⟩ := hrel
      have HA := Lib.hid ha
      have HP := Lib.hid hp; clear hp
      by_cases hlt : k < l.length
      · obtain ⟨k, rfl⟩ : ∃ k', k = k' + 1 := ⟨k - 1, by omega⟩
        have hsl2 := HSL.out.aft ha fun _ _ h => h
        have hk1 : k < l.length := by omega
        obtain ⟨b, off, hA0, hb, c0, c1, hs, hs2⟩ := mbr_at hsl2 hk1
        obtain ⟨b', off', hA', hb', d0, d1, hs', hs2'⟩ := mbr_at hsl2 hlt
        simp only [Option.some.injEq, Addr.mk.injEq, and_true] at hA0 hA'
        obtain ⟨rfl, rfl⟩ := hA0
        obtain ⟨rfl, rfl⟩ := hA'
        simp only [Nat.zero_add] at c0 c1 d0 d1
        obtain ⟨r, hr⟩ : ∃ r, q l[k + 1] (l[k]'(by omega)) = r := ⟨_, rfl⟩
        have Cc := Lib.hid (show ∀ x : Lat wr, _ from fun x => hr ▸ HQ.out (lat wr x) (Kb.of_aft (HA.out.lat x)) l[k + 1] (l[k]'(by omega)))
        have HR := Lib.hid hr
        clear ha hsl hsl2 hr
        have w1 : IntKind.i64.wrap (((k + 1 : Nat) : Int) - 1) = (k : Int) := by rw [show ((k + 1 : Nat) : Int) - 1 = (k : Int) from by omega]; exact IntWalk.i64_in _ (by omega)
        have w5 : IntKind.i64.wrap ((k : Int) + 1 - 1) = (k : Int) := by rw [show (k : Int) + 1 - 1 = (k : Int) from by omega]; exact IntWalk.i64_in _ (by omega)
        have w2 : (0 : Int) ≤ (k : Int) + 1 := by omega
        have w3 : ((k : Int) + 1).toNat = k + 1 := by omega
        have w4 : (k : Int) + 1 < (l.length : Int) := by omega
        cases r
        · go_wp2_with fail
          refine wp_region_lat (by kernel_rfl) (by kernel_rfl) ?_
          repeat (go_big_quiet_step ((exact Calls.lat_of (Cc.out _))))
          refine wpQuiet_nil ?_
          intro _ hw'
          obtain ⟨x, hw''⟩ := hw'
          subst hw''
          clear w1 w2 w3 w4 w5
          go_wp2_with fail
          go_roundw
          case rel =>
            refine ⟨k + 1 + 1, by omega, by omega, by go_num, HA.out.lat x, fun j hj hj2 => ?_⟩
            rcases Nat.lt_or_ge j k with h1 | h1
            · exact HP.out j (by omega) hj2
            · have : j = k := by omega
              subst this
              exact HR.out
          case measure => simp [intOf]; omega
        · have hck : ¬ cap = k + 1 := by omega
          go_wp2_with fail
          refine wp_region_lat (by kernel_rfl) (by kernel_rfl) ?_
          repeat (go_big_quiet_step ((exact Calls.lat_of (Cc.out _))))
          refine wpQuiet_nil ?_
          intro _ hw'
          obtain ⟨x, hw''⟩ := hw'
          subst hw''
          clear w1 w2 w3 w4 w5
          go_wp2_with fail
          obtain ⟨n2, hn2⟩ : ∃ n2, l.length - (k + 1) = n2 := ⟨_, rfl⟩
          rw [hn2]
          have HN := Lib.hid (And.intro hn2 (And.intro hlt (And.intro hnc hcap)))
          have HI2 := Lib.hid (HI.out.aft (HA.out.lat x))
          clear hn2 c0 c1 d0 d1 hs hs2 hs' hs2'
          go_loopw [5, 7] (fun u5 u7 wr2 => ∃ (m k2 : Nat) (l' : List Mbr), 0 < k2 ∧ k2 ≤ n2 ∧ m < k + 1 + k2 ∧ u5 = .int .i64 m ∧ u7 = .int .i64 k2 ∧ CompI 61 2 mbrC (fun x : Mbr => Small x.role.size ∧ Small x.of.size) w wr2 B g0 cap l.length l') (fun _ u7 _ => n2 - (intOf u7).toNat)
          case atStart => exact ⟨k + 1, 1, l, by omega, by have := HN.out.1; omega, by omega, rfl, rfl, HI2.out⟩
          case round =>
            obtain ⟨m, k2, l', hk20, hk2, hm, rfl, rfl, hI⟩ := hrel
            have hn2 := HN.out.1
            have hml : m < l.length := by omega
            have HJ := Lib.hid hI
            have hll := hI.len
            by_cases hlt2 : k2 < n2
            · obtain ⟨k3, rfl⟩ : ∃ k', k2 = k' + 1 := ⟨k2 - 1, by omega⟩
              have hsl3 := compM_sl hI hs
              have hi1 : k + 1 + (k3 + 1) < l'.length := by omega
              have hi0 : k + 1 + k3 < l'.length := by omega
              obtain ⟨b, off, hA0, hb0, c0, c1, hs, hs2⟩ := mbr_at hsl3 hi0
              obtain ⟨b', off', hA', hb1, d0, d1, hs', hs2'⟩ := mbr_at hsl3 hi1
              simp only [Option.some.injEq, Addr.mk.injEq, and_true] at hA0 hA'
              obtain ⟨rfl, rfl⟩ := hA0
              obtain ⟨rfl, rfl⟩ := hA'
              rw [show 0 + (k + 1 + k3) * 2 = (k + 1) * 2 + k3 * 2 from by omega] at c0 c1
              rw [show 0 + (k + 1 + (k3 + 1)) * 2 = (k + 1) * 2 + (k3 + 1) * 2 from by omega] at d0 d1
              obtain ⟨x1, hx1⟩ : ∃ x1, l'[k + 1 + (k3 + 1)] = x1 := ⟨_, rfl⟩
              obtain ⟨x0, hx0⟩ : ∃ x0, l'[k + 1 + k3] = x0 := ⟨_, rfl⟩
              rw [hx0] at c0 c1 hs hs2
              rw [hx1] at d0 d1 hs' hs2'
              obtain ⟨r, hr⟩ : ∃ r, q x1 x0 = r := ⟨_, rfl⟩
              have Cc2 := Lib.hid (show ∀ y : Lat wr, _ from fun y => hr ▸ HQ.out (lat wr y) (hI.kb.trans (Kb.of_aft ((Aft.refl wr).lat y))) x1 x0)
              have HX := Lib.hid hx1
              have w1 : IntKind.i64.wrap (((k3 + 1 : Nat) : Int) - 1) = (k3 : Int) := by rw [show ((k3 + 1 : Nat) : Int) - 1 = (k3 : Int) from by omega]; exact IntWalk.i64_in _ (by omega)
              have w5 : IntKind.i64.wrap ((k3 : Int) + 1 - 1) = (k3 : Int) := by rw [show (k3 : Int) + 1 - 1 = (k3 : Int) from by omega]; exact IntWalk.i64_in _ (by omega)
              have w2 : (0 : Int) ≤ (k3 : Int) + 1 := by omega
              have w3 : ((k3 : Int) + 1).toNat = k3 + 1 := by omega
              have w4 : (k3 : Int) + 1 < (n2 : Int) := by omega
              have w6 : (k3 : Int) < (n2 : Int) := by omega
              clear hI hsl3 hr hx0 hx1 hn2
              go_wp2_with fail
              refine wp_region_lat (by kernel_rfl) (by kernel_rfl) ?_
              repeat (go_big_quiet_step ((exact Calls.lat_of (Cc2.out _))))
              refine wpQuiet_nil ?_
              intro _ hw'
              obtain ⟨y, hw''⟩ := hw'
              subst hw''
              clear w1 w5
              cases r
              · obtain ⟨F, hF⟩ : ∃ F, F = lat wr y := ⟨_, rfl⟩
                have HJF := Lib.hid (show CompI 61 2 mbrC (fun x : Mbr => Small x.role.size ∧ Small x.of.size) w F B g0 cap l.length l' from hF ▸ HJ.out.aft ((Aft.refl wr).lat y))
                obtain ⟨_, _, hv1, _, _, hrF⟩ := own_rowAt HJF.out.own (by omega)
                simp only [Value.slice.injEq, true_and, Option.some.injEq, Addr.mk.injEq, and_true] at hv1
                obtain ⟨rfl, rfl⟩ := hv1
                have hfl : (l'.flatMap mbrC).length = l.length * 2 := by rw [flatMap_len (size := 2) (fun _ => rfl), hll]
                obtain ⟨u0, z0⟩ : ∃ u, F.cell? ⟨g0, m * 2, none⟩ = some u := ⟨_, by rw [hrF.2.1 (m * 2) (by rw [hfl]; omega), List.getElem?_eq_getElem (by rw [hfl]; omega)]⟩
                obtain ⟨u1, y0⟩ : ∃ u, F.cell? ⟨g0, m * 2 + 1, none⟩ = some u := ⟨_, by rw [hrF.2.1 (m * 2 + 1) (by rw [hfl]; omega), List.getElem?_eq_getElem (by rw [hfl]; omega)]⟩
                have z1 : F.frozen? ⟨g0, m * 2, none⟩ = false := hrF.2.2 (m * 2) (by rw [hfl]; omega)
                have y1 : F.frozen? ⟨g0, m * 2 + 1, none⟩ = false := hrF.2.2 (m * 2 + 1) (by rw [hfl]; omega)
                have z2 : g0 < F.heap.size := hrF.1
                have z3 : F.cell? ⟨g0, (k + 1) * 2 + (k3 + 1) * 2, none⟩ = some (.string x1.role) := by rw [hF]; exact ((Aft.refl wr).lat y).cell_kept d0
                have y3 : F.cell? ⟨g0, (k + 1) * 2 + (k3 + 1) * 2 + 1, none⟩ = some (.string x1.of) := by rw [hF]; exact ((Aft.refl wr).lat y).cell_kept d1
                rw [← hF]
                clear hF
                clear hrF hfl
                have HNEW := Lib.hid (show CompI 61 2 mbrC (fun x : Mbr => Small x.role.size ∧ Small x.of.size) w ((F.setCell ⟨g0, m * 2, none⟩ (.string (x1).role)).setCell ⟨g0, m * 2 + 1, none⟩ (.string (x1).of)) B g0 cap l.length (l'.set m l'[k + 1 + (k3 + 1)]) from by
                  have := compM_set HJF.out (m := m) (i := k + 1 + (k3 + 1)) (by omega) hi1
                  rw [HX.out] at this ⊢
                  simpa using this)
                clear w2 w3 w4 w6
                go_wp2_with fail
                go_roundw
                case rel => exact ⟨m + 1, k3 + 1 + 1, _, by omega, by omega, by omega, by go_num, by go_num, HNEW.out⟩
                case measure => simp [intOf]; omega
              · clear w2 w3 w4 w6
                go_wp2_with fail
                go_roundw
                case rel => exact ⟨m, k3 + 1 + 1, l', by omega, by omega, by omega, rfl, by go_num, HJ.out.aft ((Aft.refl wr).lat y)⟩
                case measure => simp [intOf]; omega
            · have hcm : ¬ cap = m := by omega
              obtain ⟨_, _, hv1, _, _, hrF⟩ := own_rowAt hI.own (by omega)
              simp only [Value.slice.injEq, true_and, Option.some.injEq, Addr.mk.injEq, and_true] at hv1
              obtain ⟨rfl, rfl⟩ := hv1
              have hfl : (l'.flatMap mbrC).length = l.length * 2 := by rw [flatMap_len (size := 2) (fun _ => rfl), hll]
              have hzr : ∀ w : World, (zeroValue 61).run Try.prog w = .ok (.agg #[.string ByteArray.empty, .string ByteArray.empty]) w := fun w => by kernel_rfl
              obtain ⟨n3, hn3⟩ : ∃ n3, l.length - m = n3 := ⟨_, rfl⟩
              have hcl : ∀ ty, (Builtin.clear_ #[23] ty #[.slice (some ⟨g0, m * 2, none⟩) n3 (cap - m)]).run Try.prog wr = .ok (.tuple #[]) (wr.setCells g0 (m * 2) (Builtin.zeroCells (.agg #[.string ByteArray.empty, .string ByteArray.empty] : Value).cells n3).toList) := fun ty => by
                refine run_clear_n wr _ _ ty _ Try.underlying23 hzr (by intro u hu; have hu : u ∈ ([.string ByteArray.empty, .string ByteArray.empty] : List Value) := hu; simp only [List.mem_cons, List.not_mem_nil, or_false] at hu; rcases hu with rfl | rfl <;> rfl) g0 (m * 2) (cap - m) n3 (by omega) (fun j hj => ?_) (fun j hj => ?_)
                · have hj' : j < n3 * 2 := hj
                  have hl : m * 2 + j < (l'.flatMap mbrC).length := by rw [hfl]; omega
                  rw [hrF.2.1 _ hl, List.getElem?_eq_getElem hl]; rfl
                · have hj' : j < n3 * 2 := hj
                  exact hrF.2.2 _ (by rw [hfl]; omega)
              obtain ⟨Z, hZ⟩ : ∃ Z, Z = wr.setCells g0 (m * 2) (Builtin.zeroCells (.agg #[.string ByteArray.empty, .string ByteArray.empty] : Value).cells n3).toList := ⟨_, rfl⟩
              have HZ := Lib.hid (show Kb (fun k => k = g0) w Z from hZ ▸ hI.kb.trans (kb_setCells g0 _ _ _))
              rw [← hZ, ← hn3] at hcl
              skip
              have HF := Lib.hid (show ¬ m = l.length ∧ ¬ NoTwin q l from ⟨by omega, fun h => by have := h k HN.out.2.1; rw [HR.out] at this; cases this⟩)
              have HKIN := Lib.hid kin
              have k3 : (m : Int) ≤ (l.length : Int) := by omega
              have k5 : (l.length : Int) ≤ (cap : Int) := by omega
              have k6 : (m : Int) ≤ (cap : Int) := by omega
              clear hI hrF hfl hzr hZ hn3 hn2 kin
              go_wp2_with fail
              go_ret
              exact ⟨_, _, _, rfl, ⟨fun h => absurd h HF.out.1, fun h => absurd h HF.out.2⟩, HKIN.out _ _ HZ.out⟩
      · have HT := Lib.hid (show NoTwin q l from fun j hj => HP.out j (by omega) hj)
        clear ha
        go_wp2_with fail
        go_ret
        exact ⟨_, _, _, rfl, ⟨fun _ => HT.out, fun _ => rfl⟩, Kb.of_aft HA.out⟩
end Go.Proofs.Ytcdhljcpoopfaaa
