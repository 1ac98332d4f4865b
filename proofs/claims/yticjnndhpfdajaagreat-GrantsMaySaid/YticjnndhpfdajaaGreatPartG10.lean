/- Contracts of the program, part 10. -/
import Derived.Test.YticjnndhpfdajaaGreatPartG8
import Derived.Test.YticjnndhpfdajaaGreatPartG6
import Derived.Test.YticjnndhpfdajaaGreatPartG9
import Derived.Deep.RegionHeld3
/- slices.IndexFunc and slices.DeleteFunc at texts, whatever the function value. -/
namespace Go.Proofs.YticjnndhpfdajaaGreat
open Go.RowKit Go.Deep
set_option maxRecDepth 100000
set_option linter.unusedVariables false
set_option maxHeartbeats 1000000 in
theorem idxStr (A : Option Addr) (cap : Nat) (l : List ByteArray) (g : FuncId) (caps : Array Value) (p : ByteArray → Bool) (w : World) (h : SlAt w 1 StrR A cap l) (hent : ∀ (args : Array Value) (w : World), (callFunc g args).run Tryz.prog w = .ok (.enter g args) w)
    (hp : ∀ w', Aft w w' → ∀ i (hi : i < l.length), Calls Tryz.prog g (#[.string l[i]] ++ caps) w' fun e w'' => e = .returned (.bool (p l[i])) ∧ Aft w' w'') :
    Calls Tryz.prog 231 #[.slice A l.length cap, .func (.func g) #[] caps] w fun e w' => e = .returned (.int .i64 (idxP p l)) ∧ Aft w w' := by
  have hlen := h.len
  have HC := Lib.hid hp
  clear hp
  go_enter Tryz.func231, Tryz.ntmps231
  go_wp2_with fail
  go_loopw [8] (fun i wr => ∃ k : Nat, k ≤ l.length ∧ i = .int .i64 k ∧ Aft w wr ∧ ∀ j, j < k → ∀ (hj : j < l.length), p l[j] = false) (fun i _ => l.length - (intOf i).toNat)
  case atStart => exact ⟨0, Nat.zero_le _, rfl, Aft.refl _, fun j hj => absurd hj (Nat.not_lt_zero j)⟩
  case round =>
    obtain ⟨k, hk, rfl, ha, hp⟩ := hrel
    have HA := Lib.hid ha
    have HP := Lib.hid hp; clear hp
    by_cases hlt : k < l.length
    · have hsl := strs_aft ha h
      clear ha
      obtain ⟨b, off, rfl, hb, c0, hs⟩ := str_at hsl hlt
      have HK := Lib.hid (HC.out wr HA.out k hlt)
      clear hsl
      obtain ⟨q, hq⟩ : ∃ q, p l[k] = q := ⟨_, rfl⟩
      rw [hq] at HK
      have HQ := Lib.hid hq
      clear hq
      cases q
      · go_wp2_with fail
        refine HK.out.mono ?_
        rintro e w1 ⟨rfl, a1⟩
        have HA1 := Lib.hid (HA.out.trans a1)
        clear a1
        go_wp2_with fail
        go_roundw
        case rel => exact ⟨k + 1, by omega, by go_num, HA1.out, ext_lt (p := fun j => ∀ (hj : j < l.length), p l[j] = false) HP.out (fun _ => HQ.out)⟩
        case measure => simp [intOf]; omega
      · go_wp2_with fail
        refine HK.out.mono ?_
        rintro e w1 ⟨rfl, a1⟩
        have HA1 := Lib.hid (HA.out.trans a1)
        clear a1
        go_wp2_with fail
        go_ret
        exact ⟨by rw [idxP_some p l k hlt HQ.out (fun i hi => HP.out i hi (by omega))]; rfl, HA1.out⟩
    · clear ha
      go_wp2_with fail
      go_ret
      exact ⟨by rw [idxP_none p l (fun i hi => HP.out i (by omega) hi)]; rfl, HA.out⟩
theorem idxP_any8' {α : Type} (p : α → Bool) (l : List α) : decide (0 ≤ idxP p l) = l.any p := by
  induction l with
  | nil => rfl
  | cons x l ih =>
    rw [List.any_cons, ← ih]
    show decide (0 ≤ (if p x then (0 : Int) else if idxP p l < 0 then -1 else idxP p l + 1)) = _
    cases h : p x
    · simp only [Bool.false_or]
      by_cases h2 : idxP p l < 0
      · simp [h2]
      · simp [h2]; omega
    · simp

/-- what is left of l, in the same row -/
def DelFP (l : List ByteArray) (q : ByteArray → Bool) (v : Value) (B : Nat) (w : World) (e : Ending) (w' : World) : Prop :=
  ∃ h : Hd, e = .returned h.v ∧ w'.ownsRow B 9 1 h.v (l.filter fun x => !q x).length ((l.filter fun x => !q x).flatMap nameC) ∧ Kb (InV v) w w' ∧ ∀ g ∈ h.blk, v.ownBlock = some g
theorem filter_all_keep {α : Type} (q : α → Bool) (l : List α) (h : ∀ i (hi : i < l.length), q l[i] = false) : (l.filter fun x => !q x) = l := by
  rw [List.filter_eq_self]
  intro x hx
  obtain ⟨i, hi, rfl⟩ := List.getElem_of_mem hx
  rw [h i hi]; rfl
theorem idxP_neg {α : Type} (p : α → Bool) (l : List α) (h : idxP p l < 0) : ∀ i (hi : i < l.length), p l[i] = false := by
  intro i hi
  have := idxP_any8' p l
  have h0 : decide (0 ≤ idxP p l) = false := decide_eq_false (by omega)
  rw [h0] at this
  rw [Bool.eq_false_iff]
  intro hp
  have h2 : l.any p = true := List.any_eq_true.2 ⟨l[i], List.getElem_mem hi, hp⟩
  rw [h2] at this
  cases this
theorem idxP_first {α : Type} (p : α → Bool) : ∀ (l : List α) (k : Nat), idxP p l = k → ∀ i (hi : i < l.length), i < k → p l[i] = false
  | [], k, h, i, hi, _ => by simp at hi
  | x :: l, k, h, i, hi, hik => by
    have e : idxP p (x :: l) = (if p x then (0 : Int) else if idxP p l < 0 then -1 else idxP p l + 1) := rfl
    rw [e] at h
    cases hx : p x
    · rw [hx] at h
      simp only [Bool.false_eq_true, if_false] at h
      by_cases hn : idxP p l < 0
      · rw [if_pos hn] at h; omega
      · rw [if_neg hn] at h
        cases i with
        | zero => simpa using hx
        | succ i =>
          have := idxP_first p l (k - 1) (by omega) i (by simpa using hi) (by omega)
          simpa using this
    · rw [hx] at h
      simp only [if_true] at h
      omega
/-- the row halfway: i are kept of the first j, from j on it is as it was -/
structure DelI (q : ByteArray → Bool) (l l' : List ByteArray) (i j : Nat) : Prop where
  len : l'.length = l.length
  kept : l'.take i = (l.take j).filter fun x => !q x
  rest : l'.drop j = l.drop j
  ij : i < j
  jl : j ≤ l.length
theorem DelI.start {q : ByteArray → Bool} {l : List ByteArray} {i : Nat} (hi : i < l.length) (hq : q l[i] = true) (hf : ∀ k (hk : k < l.length), k < i → q l[k] = false) : DelI q l l i (i + 1) := by
  refine ⟨rfl, ?_, rfl, by omega, by omega⟩
  rw [List.take_succ_eq_append_getElem hi, List.filter_append, filter_all_keep q (l.take i) (fun k hk => by rw [List.getElem_take]; exact hf k (by rw [List.length_take] at hk; omega) (by rw [List.length_take] at hk; omega))]
  simp [hq]
theorem DelI.get {q : ByteArray → Bool} {l l' : List ByteArray} {i j : Nat} (h : DelI q l l' i j) (hj : j < l.length) : l'[j]'(by rw [h.len]; exact hj) = l[j] := by
  have h1 := congrArg (fun x => x[0]?) h.rest
  simp only [List.getElem?_drop, Nat.add_zero] at h1
  rw [List.getElem?_eq_getElem (by rw [h.len]; exact hj), List.getElem?_eq_getElem hj] at h1
  exact Option.some.inj h1
theorem DelI.skip {q : ByteArray → Bool} {l l' : List ByteArray} {i j : Nat} (h : DelI q l l' i j) (hj : j < l.length) (hq : q l[j] = true) : DelI q l l' i (j + 1) := by
  refine ⟨h.len, ?_, ?_, by have := h.ij; omega, by omega⟩
  · rw [List.take_succ_eq_append_getElem hj, List.filter_append, ← h.kept]
    simp [hq]
  · have := congrArg (List.drop 1) h.rest
    simpa [List.drop_drop] using this
theorem DelI.keep {q : ByteArray → Bool} {l l' : List ByteArray} {i j : Nat} (h : DelI q l l' i j) (hj : j < l.length) (hq : q l[j] = false) : DelI q l (l'.set i l[j]) (i + 1) (j + 1) := by
  have hij := h.ij
  have hl := h.len
  refine ⟨by rw [List.length_set]; exact h.len, ?_, ?_, by omega, by omega⟩
  · rw [List.take_succ_eq_append_getElem hj, List.filter_append, ← h.kept, List.take_succ_eq_append_getElem (by rw [List.length_set]; omega), List.take_set_of_le (Nat.le_refl _)]
    simp [hq]
  · rw [List.drop_set_of_lt (by omega)]
    have := congrArg (List.drop 1) h.rest
    simpa [List.drop_drop] using this
set_option maxHeartbeats 8000000 in
theorem delFS (v : Value) (l : List ByteArray) (g : FuncId) (caps : Array Value) (q : ByteArray → Bool) (B : Nat) (w : World) (ho : w.ownsRow B 9 1 v l.length (l.flatMap nameC)) (hs : Small (l.length * 16)) (hcap : ∀ A n c, v = .slice A n c → c ≤ 9223372036854775807) (sm : ∀ x ∈ l, Small x.size) (hent : ∀ (args : Array Value) (w : World), (callFunc g args).run Tryz.prog w = .ok (.enter g args) w)
    (hq : ∀ w', Kb (InV v) w w' → ∀ x : ByteArray, Small x.size → Calls Tryz.prog g (#[.string x] ++ caps) w' fun e w'' => e = .returned (.bool (q x)) ∧ Aft w' w'') :
    Calls Tryz.prog 175 #[v, .func (.func g) #[] caps] w (DelFP l q v B w) := by
  have hlen : l.length * 16 ≤ 140737488351232 := hs
  obtain ⟨hd, rfl, hdn⟩ := own_head ho
  obtain ⟨A, n, cap⟩ := hd
  have hdn : n = l.length := hdn
  subst hdn
  show Calls Tryz.prog 175 #[.slice A l.length cap, .func (.func g) #[] caps] w (DelFP l q (.slice A l.length cap) B w)
  have hsl : SlAt w 1 StrR A cap l := own_slf (h := ⟨A, l.length, cap⟩) nameC ho (fun x hx => ⟨rfl, rfl, sm x hx⟩) hs
  obtain ⟨k, hk⟩ : ∃ k, idxP q l = k := ⟨_, rfl⟩
  have C := Lib.hid (hk ▸ idxStr A cap l g caps q w hsl hent (fun w' a i hi => hq w' (Kb.of_aft a) l[i] (sm _ (List.getElem_mem hi))))
  have hkr := idxP_range q l
  rw [hk] at hkr
  by_cases hk0 : k < 0
  · have hk1 : k = -1 := by omega
    have HF := Lib.hid (show (l.filter fun x => !q x) = l from filter_all_keep q l (idxP_neg q l (by rw [hk]; exact hk0)))
    subst hk1
    have HO := Lib.hid ho
    clear hk hkr hsl hq sm ho hcap hk0
    go_enter Tryz.func175, Tryz.ntmps175
    go_wp2_with fail
    refine C.out.mono ?_
    rintro e w1 ⟨rfl, a1⟩
    have HA := Lib.hid a1
    clear a1
    go_wp2_with fail
    go_ret
    refine ⟨⟨A, l.length, cap⟩, rfl, ?_, Kb.of_aft HA.out, fun g hg => Hd.mem_blk.1 hg⟩
    rw [HF.out]
    exact own_aft HO.out HA.out
  obtain ⟨i, rfl⟩ : ∃ i : Nat, k = i := ⟨k.toNat, by omega⟩
  have hil : i < l.length := by omega
  have hqi := idxP_at q l i hil hk
  have hst := DelI.start hil hqi (fun j hj hji => idxP_first q l i hk j hj hji)
  obtain ⟨g0, cap', hv, hgB, hnc, hr⟩ := own_rowAt ho (by omega)
  have hv : A = some ⟨g0, 0, none⟩ ∧ cap = cap' := by
    have : Value.slice A l.length cap = Value.slice (some ⟨g0, 0, none⟩) l.length cap' := hv
    simp only [Value.slice.injEq, true_and] at this
    exact this
  obtain ⟨rfl, rfl⟩ := hv
  have hcap := hcap _ _ _ rfl
  have hI : CompI 9 1 nameC (fun x : ByteArray => Small x.size) w w B g0 cap l.length l := ⟨ho, rfl, sm, Kb.refl _ _⟩
  have kin : ∀ w1 w2 : World, Kb (fun k => k = g0) w1 w2 → Kb (InV (.slice (some ⟨g0, 0, none⟩) l.length cap)) w1 w2 := fun w1 w2 k => k.mono fun g _ e => by subst e; rfl
  have HQ := Lib.hid (show ∀ w', Kb (fun k => k = g0) w w' → _ from fun w' k => hq w' (kin _ _ k))
  have HI := Lib.hid hI
  have HST := Lib.hid hst
  have hki : ((i : Int) == -1) = false := by rw [beq_eq_false_iff_ne]; omega
  clear hq hI ho hr sm hk hkr hst hsl hk0 hqi
  go_enter Tryz.func175, Tryz.ntmps175
  go_wp2_with fail
  refine C.out.mono ?_
  rintro e w1 ⟨rfl, a1⟩
  have HA := Lib.hid a1
  clear a1
  go_wp2_with fail
  go_loopw [5, 6] (fun u5 u6 wr => ∃ (m j : Nat) (l' : List ByteArray), u5 = .int .i64 m ∧ u6 = .int .i64 j ∧ DelI q l l' m j ∧ CompI 9 1 nameC (fun x : ByteArray => Small x.size) w wr B g0 cap l.length l') (fun _ u6 _ => l.length - (intOf u6).toNat)
  case atStart => exact ⟨i, i + 1, l, rfl, by go_num, HST.out, HI.out.aft HA.out⟩
  case round =>
    obtain ⟨m, j, l', rfl, rfl, hd, hI⟩ := hrel
    have HD := Lib.hid hd
    have HJ := Lib.hid hI
    have hll := hI.len
    have hmj := hd.ij
    have hjl := hd.jl
    by_cases hlt : j < l.length
    · have hj' : j < l'.length := by omega
      obtain ⟨b, off, hA0, hb0, c0, hs0⟩ := str_at (compS_sl hI hs) hj'
      simp only [Option.some.injEq, Addr.mk.injEq, and_true] at hA0
      obtain ⟨rfl, rfl⟩ := hA0
      have hg := hd.get hlt
      rw [hg] at c0 hs0
      obtain ⟨x, hx⟩ : ∃ x, l[j] = x := ⟨_, rfl⟩
      rw [hx] at c0 hs0
      obtain ⟨r, hr⟩ : ∃ r, q x = r := ⟨_, rfl⟩
      have Cc := Lib.hid (hr ▸ HQ.out wr hI.kb x hs0)
      have HX := Lib.hid hx
      have HR := Lib.hid (show q l[j] = r by rw [hx]; exact hr)
      clear hd hI hx hr hg
      simp only [Nat.zero_add] at c0
      cases r
      · go_wp2_with fail
        refine Cc.out.mono ?_
        rintro e w2 ⟨rfl, a2⟩
        obtain ⟨F, hF⟩ : ∃ F, F = w2 := ⟨_, rfl⟩
        have HJF := Lib.hid (show CompI 9 1 nameC (fun x : ByteArray => Small x.size) w F B g0 cap l.length l' from hF ▸ HJ.out.aft a2)
        subst hF
        clear a2
        obtain ⟨_, _, hv1, _, _, hrF⟩ := own_rowAt HJF.out.own (by omega)
        simp only [Value.slice.injEq, true_and, Option.some.injEq, Addr.mk.injEq, and_true] at hv1
        obtain ⟨rfl, rfl⟩ := hv1
        have hfl : (l'.flatMap nameC).length = l.length * 1 := by rw [flatMap_len (size := 1) (fun _ => rfl), hll]
        obtain ⟨u0, z0⟩ : ∃ u, F.cell? ⟨g0, m, none⟩ = some u := ⟨_, by rw [hrF.2.1 m (by rw [hfl]; omega), List.getElem?_eq_getElem (by rw [hfl]; omega)]⟩
        have z1 : F.frozen? ⟨g0, m, none⟩ = false := hrF.2.2 m (by rw [hfl]; omega)
        have z2 : g0 < F.heap.size := hrF.1
        clear hrF hfl
        have HNEW := Lib.hid (show CompI 9 1 nameC (fun x : ByteArray => Small x.size) w (F.setCell ⟨g0, m, none⟩ (.string x)) B g0 cap l.length (l'.set m l[j]) from by
          have := compS_set HJF.out (m := m) (i := j) (by omega) hj'
          rw [HD.out.get hlt, HX.out] at this
          rw [HX.out]
          simpa using this)
        have HDN := Lib.hid (HD.out.keep hlt HR.out)
        have hml : (m : Int) < (l.length : Int) := by omega
        go_wp2_with fail
        go_roundw
        case rel => exact ⟨m + 1, j + 1, _, by go_num, by go_num, HDN.out, HNEW.out⟩
        case measure => simp [intOf]; omega
      · have HDN := Lib.hid (HD.out.skip hlt HR.out)
        go_wp2_with fail
        refine Cc.out.mono ?_
        rintro e w2 ⟨rfl, a2⟩
        have HJ2 := Lib.hid (HJ.out.aft a2)
        clear a2
        go_wp2_with fail
        go_roundw
        case rel => exact ⟨m, j + 1, l', rfl, by go_num, HDN.out, HJ2.out⟩
        case measure => simp [intOf]; omega
    · have hjj : j = l.length := by omega
      have hcm : ¬ cap = m := by omega
      obtain ⟨_, _, hv1, _, _, hrF⟩ := own_rowAt hI.own (by omega)
      simp only [Value.slice.injEq, true_and, Option.some.injEq, Addr.mk.injEq, and_true] at hv1
      obtain ⟨rfl, rfl⟩ := hv1
      have hfl : (l'.flatMap nameC).length = l.length * 1 := by rw [flatMap_len (size := 1) (fun _ => rfl), hll]
      have hzr : ∀ w : World, (zeroValue 9).run Tryz.prog w = .ok (.string ByteArray.empty) w := fun w => by kernel_rfl
      obtain ⟨n3, hn3⟩ : ∃ n3, l.length - m = n3 := ⟨_, rfl⟩
      have hcl : ∀ ty, (Builtin.clear_ #[27] ty #[.slice (some ⟨g0, m * 1, none⟩) n3 (cap - m)]).run Tryz.prog wr = .ok (.tuple #[]) (wr.setCells g0 (m * 1) (Builtin.zeroCells (.string ByteArray.empty : Value).cells n3).toList) := fun ty => by
        refine run_clear_n wr _ _ ty _ Tryz.underlying27 hzr (by intro u hu; have hu : u ∈ ([.string ByteArray.empty] : List Value) := hu; simp only [List.mem_cons, List.not_mem_nil, or_false] at hu; subst hu; rfl) g0 (m * 1) (cap - m) n3 (by omega) (fun j hj => ?_) (fun j hj => ?_)
        · have hj' : j < n3 * 1 := hj
          have hl : m * 1 + j < (l'.flatMap nameC).length := by rw [hfl]; omega
          rw [hrF.2.1 _ hl, List.getElem?_eq_getElem hl]; rfl
        · have hj' : j < n3 * 1 := hj
          exact hrF.2.2 _ (by rw [hfl]; omega)
      obtain ⟨Z, hZ⟩ : ∃ Z, Z = wr.setCells g0 (m * 1) (Builtin.zeroCells (.string ByteArray.empty : Value).cells n3).toList := ⟨_, rfl⟩
      have HZ := Lib.hid (show Kb (fun k => k = g0) w Z from hZ ▸ hI.kb.trans (kb_setCells g0 _ _ _))
      have HP := Lib.hid (show DelFP l q (.slice (some ⟨g0, 0, none⟩) l.length cap) B w (.returned (.slice (some ⟨g0, 0, none⟩) m cap)) Z from by
        have hm : m = (l.filter fun x => !q x).length := by
          have := congrArg List.length hd.kept
          rw [List.length_take, hjj, List.take_length] at this
          omega
        have hx : l'.take m = l.filter fun x => !q x := by
          have := hd.kept
          rw [hjj, List.take_length] at this
          exact this
        refine ⟨⟨some ⟨g0, 0, none⟩, m, cap⟩, rfl, ?_, kin _ _ HZ.out, fun g hg => Hd.mem_blk.1 hg⟩
        have o1 := own_cut (own_setCells (g := g0) rfl (Builtin.zeroCells (.string ByteArray.empty : Value).cells n3).toList (m * 1) hI.own) (m := m) (by omega)
        rw [← hZ] at o1
        have e : (setL (l'.flatMap nameC) (m * 1) (Builtin.zeroCells (.string ByteArray.empty : Value).cells n3).toList).take (m * 1) = (l.filter fun x => !q x).flatMap nameC := by
          rw [setL_eq _ _ _ (by rw [zeroCells_len, hfl]; show m * 1 + n3 * 1 ≤ _; omega), List.append_assoc, List.take_append_of_le_length (by rw [List.length_take, hfl]; omega), List.take_take, Nat.min_self, flatMap_take (size := 1) (fun _ => rfl), hx]
        rw [e] at o1
        rw [← hm]
        exact o1)
      rw [← hZ, ← hn3] at hcl
      simp only [Nat.mul_one] at hcl
      have k3 : (m : Int) ≤ (l.length : Int) := by omega
      have k5 : (l.length : Int) ≤ (cap : Int) := by omega
      have k6 : (m : Int) ≤ (cap : Int) := by omega
      clear hI hrF hfl hzr hZ hn3 kin hd HD HJ HI HST C hjj
      go_wp2_with fail
      go_ret
      exact HP.out
end Go.Proofs.YticjnndhpfdajaaGreat
/- roles.All and roles.Is: what a role is. -/
namespace Go.Proofs.YticjnndhpfdajaaGreat
open Go.RowKit Go.Deep
set_option maxRecDepth 100000
set_option linter.unusedVariables false
noncomputable def allE (r : Rls) (role : ByteArray) : Int := if rightR r then (if inB r.names role then 0 else 71) else 1
noncomputable def allL (r : Rls) (role : ByteArray) : List ByteArray := if rightR r && inB r.names role then r.names.filter (reachB r.members role) else []
def AllP (r : Rls) (role : ByteArray) (w : World) (e : Ending) (w' : World) : Prop :=
  ∃ h : Hd, e = .returned (.tuple #[h.v, .int .i64 (allE r role)]) ∧ Aft w w' ∧ w'.ownsRow w.heap.size 9 1 h.v (allL r role).length ((allL r role).flatMap nameC)
theorem rightR_len {r : Rls} (h : rightR r = true) : r.names.length ≤ 16 ∧ r.members.length ≤ 256 := by
  unfold rightR at h
  simp only [Bool.and_eq_true, decide_eq_true_eq] at h
  exact ⟨h.1.1.1.1, h.1.1.1.2⟩
theorem allL_mem {r : Rls} {role x : ByteArray} (h : x ∈ allL r role) : x ∈ r.names := by
  unfold allL at h
  split at h
  · exact (List.mem_filter.1 h).1
  · simp at h
theorem allL_len (r : Rls) (role : ByteArray) : (allL r role).length ≤ r.names.length := by
  unfold allL
  split
  · exact List.length_filter_le _ _
  · simp
set_option maxHeartbeats 1000000 in
theorem all1 (x : ByteArray) (bx bf n : Nat) (c : Txt → Nat) (w : World) (hx : x.size ≤ maxLen) (hc : w.cell? ⟨bx, 0, none⟩ = some (.map (some bf))) (M : MapF Tryz.prog 9 w bf n (.int .i64 0) (cntV c)) :
    Calls Tryz.prog 176 (#[.string x] ++ #[.pointer (some ⟨bx, 0, none⟩)]) w fun e w' => e = .returned (.bool (decide (c (txt x) = 0))) ∧ Aft w w' := by
  have LK0 := M.look Tryz.underlying9 Tryz.underlying175 (zero_int w) x hx
  have hz : bx < w.heap.size := World.block_lt_of_cell? w ⟨bx, 0, none⟩ hc
  obtain ⟨k, hk⟩ : ∃ k, c (txt x) = k := ⟨_, rfl⟩
  have LK : (Instr.lookup 175 (.map (some bf)) (.string x) false).run Tryz.prog w = .ok (.int .i64 k) w := by rw [← hk]; exact LK0
  rw [hk]
  clear M hk LK0
  show Calls Tryz.prog 176 #[.string x, .pointer (some ⟨bx, 0, none⟩)] w _
  go_enter Tryz.func176, Tryz.ntmps176
  go_wp2_with fail
  go_ret
  refine ⟨Eq.trans (b := .returned (.bool _)) rfl (ret_of (bool_of ?_)), Aft.refl _⟩
  rw [Bool.eq_iff_iff]
  simp
set_option maxHeartbeats 8000000 in
theorem all8 (r : Rls) (An : Option Addr) (capn : Nat) (Am : Option Addr) (capm : Nat) (role : ByteArray) (w : World) (hn : SlAt w 1 StrR An capn r.names) (hm : SlAt w 2 MbrR Am capm r.members) (hrs : Small role.size) :
    Calls Tryz.prog 116 #[.agg #[.slice An r.names.length capn, .slice Am r.members.length capm], .string role] w (AllP r role w) := by
  have hlen := hn.len
  have l1 : w.heap.size < w.heap.size + 1 := by omega
  obtain ⟨W, hW⟩ : ∃ W, W = w.alloc (.cells #[.slice An r.names.length capn, .slice Am r.members.length capm] 56) := ⟨_, rfl⟩
  have aW : Aft w W := by rw [hW]; exact (Aft.refl w).alloc _
  have r0 : ∀ w', Aft W w' → (w'.cell? ⟨w.heap.size, 0, none⟩ = some (.slice An r.names.length capn) ∧ w'.cell? ⟨w.heap.size, 1, none⟩ = some (.slice Am r.members.length capm) ∧ w.heap.size < w'.heap.size) := fun w' a => by
    rw [hW] at a
    obtain ⟨hb, _, hz, _, _⟩ := aft_box a
    exact ⟨by rw [hb]; rfl, by rw [hb]; rfl, hz.1⟩
  obtain ⟨q, hq⟩ : ∃ q, rightR r = q := ⟨_, rfl⟩
  obtain ⟨i, hi⟩ : ∃ i, inB r.names role = i := ⟨_, rfl⟩
  have C1 := Lib.hid (fun w' (a : Aft w w') => hq ▸ right8 r An capn Am capm w' (strs_aft a hn) (mbrs_aft a hm))
  have C2 := Lib.hid (show ∀ w', Aft w w' → Calls Tryz.prog 95 #[.slice An r.names.length capn, .string role] w' fun e w'' => e = .returned (.bool i) ∧ w' = w'' from fun w' a => hi ▸ scont8 An capn r.names role w' (strs_aft a hn))
  have C3 := Lib.hid (fun w' (a : Aft w w') => seen_in r An capn Am capm role w' (mbrs_aft a hm) hrs)
  have HE := Lib.hid (show allE r role = if q then (if i then 0 else 71) else 1 by unfold allE; rw [hq, hi])
  have HL := Lib.hid (show allL r role = if q && i then r.names.filter (reachB r.members role) else [] by unfold allL; rw [hq, hi])
  have HB := Lib.hid (show q = true → r.names.length ≤ 16 from fun h => (rightR_len (by rw [hq]; exact h)).1)
  have HSM := Lib.hid (sm_names hn)
  have HR0 := Lib.hid r0
  have HAW := Lib.hid aW
  have HN := Lib.hid hn
  clear hq hi r0 aW hn hm
  go_enter Tryz.func116, Tryz.ntmps116
  go_wp2_with fail
  rw [← hW]
  clear hW
  refine (C1.out W HAW.out).mono ?_
  rintro e w1 ⟨rfl, a1⟩
  have HA1 := Lib.hid a1
  obtain ⟨e0, e1, e2⟩ := HR0.out w1 a1
  clear a1
  cases q
  · have HP := Lib.hid (show AllP r role w (.returned (.tuple #[.slice none 0 0, .int .i64 1])) w1 from ⟨⟨none, 0, 0⟩, by rw [HE.out]; rfl, HAW.out.trans HA1.out, by rw [HL.out]; exact own_nil _ _ _ _⟩)
    go_wp2_with fail
    go_ret2
    exact HP.out
  go_wp2_with fail
  refine (C2.out w1 (HAW.out.trans HA1.out)).mono ?_
  rintro e w2 ⟨rfl, rfl⟩
  cases i
  · have HP := Lib.hid (show AllP r role w (.returned (.tuple #[.slice none 0 0, .int .i64 71])) w1 from ⟨⟨none, 0, 0⟩, by rw [HE.out]; rfl, HAW.out.trans HA1.out, by rw [HL.out]; exact own_nil _ _ _ _⟩)
    go_wp2_with fail
    go_ret2
    exact HP.out
  go_wp2_with fail
  refine (C3.out w1 (HAW.out.trans HA1.out)).mono ?_
  rintro e w3 ⟨bf, rfl, a3, c, nc, M, bd, hr⟩
  obtain ⟨X, hX⟩ : ∃ X, X = w3.alloc (.cells #[.map (some bf)] 175) := ⟨_, rfl⟩
  have aX : Aft w3 X := by rw [hX]; exact (Aft.refl w3).alloc _
  have xc : X.cell? ⟨w3.heap.size, 0, none⟩ = some (.map (some bf)) := by rw [hX]; simp
  have aWX := ((HAW.out.trans HA1.out).trans a3).trans aX
  clear e0 e1 e2
  obtain ⟨e0, e1, e2⟩ := HR0.out w3 (HA1.out.trans a3)
  have l3 : w.heap.size < w3.heap.size + 1 := by omega
  have C4 := Lib.hid (clone2Str An capn r.names X X (Aft.refl _) (strs_aft aWX HN.out) (by have := HB.out (by first | trivial | rfl); omega))
  have HM := Lib.hid (And.intro (M.aft aX) (And.intro xc (And.intro aWX (And.intro hr (show w3.heap.size < X.heap.size by rw [hX]; simp)))))
  clear M bd hr aX a3 aWX xc
  go_wp2_with fail
  rw [← hX]
  clear hX
  refine C4.out.mono ?_
  rintro e w4 ⟨v, css, rfl, a4, ho, hch⟩
  rw [flat_names hch] at ho
  obtain ⟨A2, cap2, hv⟩ := own_lit ho
  subst hv
  obtain ⟨M, xc, aWX, hr, hXs⟩ := HM.out
  have hWX := aWX.size
  have hent := enters (P := Tryz.prog) Tryz.func176 (by kernel_rfl) rfl
  have C5 := Lib.hid (delFS (.slice A2 r.names.length cap2) r.names 176 #[.pointer (some ⟨w3.heap.size, 0, none⟩)] (fun x => decide (c (txt x) = 0)) X.heap.size w4 ho HSM.out.1 (own_cap ho) HSM.out.2 hent (fun w' kb x hx => by
    have h1 : ¬ InV (.slice A2 r.names.length cap2) bf := not_in ho M.lt
    have h2 : ¬ InV (.slice A2 r.names.length cap2) w3.heap.size := not_in ho hXs
    exact all1 x w3.heap.size bf nc c w' hx.max (kb.cell (a4.cell_kept xc) h2) ((M.aft a4).kb kb h1)))
  have HK := Lib.hid (show ∀ w', Kb (InV (.slice A2 r.names.length cap2)) w4 w' → Aft w w' from fun w' kb => kb.to_aft (aWX.trans a4) (fun g hg => not_in ho (by omega)))
  have HF := Lib.hid (show (r.names.filter fun x => !decide (c (txt x) = 0)) = allL r role from by
    rw [HL.out]
    simp only [Bool.and_self, if_true]
    refine List.filter_congr fun x _ => ?_
    unfold reachB
    have := hr (txt x)
    by_cases h : Reach r.members (txt role) (txt x)
    · have := this.2 h
      simp [h]; omega
    · have : ¬ 0 < c (txt x) := fun h2 => h (this.1 h2)
      simp [h]; omega)
  have HWX := Lib.hid hWX
  clear M xc aWX hr hXs hWX hent a4 ho hch
  go_wp2_with fail
  refine C5.out.mono ?_
  rintro e w5 ⟨h, rfl, ho, kb, hblk⟩
  rw [HF.out] at ho
  have HP := Lib.hid (show AllP r role w (.returned (.tuple #[h.v, .int .i64 0])) w5 from ⟨h, by rw [HE.out]; rfl, HK.out w5 kb, own_down ho HWX.out⟩)
  clear ho kb hblk
  go_wp2_with fail
  go_ret2
  exact HP.out
end Go.Proofs.YticjnndhpfdajaaGreat
/- The document's Own of roles: the same in memory of its own. -/
namespace Go.Proofs.YticjnndhpfdajaaGreat
open Go.RowKit Go.Deep
set_option maxRecDepth 100000
set_option linter.unusedVariables false
def OwnP8 (r : Rls) (w : World) (e : Ending) (w' : World) : Prop := ∃ hn hm : Hd, e = .returned (.agg #[hn.v, hm.v]) ∧ Aft w w' ∧ RolIn w' w.heap.size hn hm r
theorem oneC_mbr (m : Mbr) : ∀ u ∈ mbrC m, u.oneCell' = true := by intro u hu; simp only [mbrC, List.mem_cons, List.not_mem_nil, or_false] at hu; rcases hu with rfl | rfl <;> simp [Value.oneCell']
theorem nameC_len8 (l : List ByteArray) : (l.flatMap nameC).length = l.length * 1 := flatMap_len (size := 1) (fun _ => rfl) l
theorem mbrC_len8 (l : List Mbr) : (l.flatMap mbrC).length = l.length * 2 := flatMap_len (size := 2) (fun _ => rfl) l
theorem setR_row {w : World} {b : Nat} {xs : List Value} (h : RowAt w b xs) (hl : xs.length = 2) (v0 v1 : Value) : RowAt ((w.setCell ⟨b, 0, none⟩ v0).setCell ⟨b, 1, none⟩ v1) b [v0, v1] := by
  match xs, hl with
  | [x0, x1], _ =>
    have h1 := h.set 0 v0 (by simp)
    have h2 := h1.set 1 v1 (by simp)
    simpa using h2
end Go.Proofs.YticjnndhpfdajaaGreat
/- roles.changed: something is done to right roles in memory of their own. -/
namespace Go.Proofs.YticjnndhpfdajaaGreat
open Go.RowKit Go.Deep
set_option maxRecDepth 100000
set_option linter.unusedVariables false
end Go.Proofs.YticjnndhpfdajaaGreat
