/- Contracts of the program, part 11. -/
import Derived.Test.YticjnndhpfdajaaGreatPart3
import Derived.Test.YticjnndhpfdajaaGreatPart10
import Derived.Test.YticjnndhpfdajaaGreatPart9
/- objects.byName. -/
namespace Go.Proofs.YticjnndhpfdajaaGreat
open Go.RowKit
set_option maxRecDepth 100000
set_option linter.unusedVariables false
theorem aft_two {w w' : World} {a b : Value} {ta tb : TypeId} (h : Aft ((w.alloc (.cells #[a] ta)).alloc (.cells #[b] tb)) w') :
    w'.cell? ⟨w.heap.size, 0, none⟩ = some a ∧ w'.cell? ⟨w.heap.size + 1, 0, none⟩ = some b ∧ w.heap.size < w'.heap.size ∧ w.heap.size + 1 < w'.heap.size := by
  have hz : w.heap.size + 1 < w'.heap.size := by have := h.size; simp at this; omega
  refine ⟨?_, ?_, by omega, hz⟩
  · rw [Below.cell h (p := ⟨w.heap.size, 0, none⟩) (by simp; omega), World.cell?_alloc_past _ _ _ (by simp)]; simp
  · rw [Below.cell h (p := ⟨w.heap.size + 1, 0, none⟩) (by simp), World.cell?_alloc_at _ _ _ _ (by simp)]; rfl
theorem columnName_any (name : ByteArray) (kind : Int) (null : Bool) (w : World) :
    Calls Tryz.prog 84 #[.agg #[.string name, .int .i64 kind, .bool null]] w fun e w' => e = .returned (.string name) ∧ Aft w w' := by
  go_enter Tryz.func84, Tryz.ntmps84
  go_wp2_with fail
  go_ret
  exact ⟨rfl, (Aft.refl _).alloc _⟩
set_option maxHeartbeats 1000000 in
theorem byCol1 (name : ByteArray) (kind : Int) (null : Bool) (s : ByteArray) (b1 b2 : Nat) (w : World) (hb1 : b1 < w.heap.size) (hb2 : b2 < w.heap.size) (hc1 : w.cell? ⟨b1, 0, none⟩ = some (.func (.func 84) #[] #[])) (hc2 : w.cell? ⟨b2, 0, none⟩ = some (.string s)) :
    Calls Tryz.prog 156 #[.agg #[.string name, .int .i64 kind, .bool null], .pointer (some ⟨b1, 0, none⟩), .pointer (some ⟨b2, 0, none⟩)] w fun e w' => e = .returned (.bool (eqS name s)) ∧ Aft w w' := by
  have Cn := Lib.hid (fun w => columnName_any name kind null w)
  go_enter Tryz.func156, Tryz.ntmps156
  go_wp2_with fail
  have f1 : ∀ x : Lat (w.alloc (.cells #[.string name, .int .i64 kind, .bool null] 41)), (lat _ x).cell? ⟨b1, 0, none⟩ = some (.func (.func 84) #[] #[]) := fun x => (cell?_lat _ x b1 0 (by simp; omega)).trans ((World.cell?_alloc_past _ _ _ hb1).trans hc1)
  have f2 : ∀ x : Lat (w.alloc (.cells #[.string name, .int .i64 kind, .bool null] 41)), (lat _ x).cell? ⟨b2, 0, none⟩ = some (.string s) := fun x => (cell?_lat _ x b2 0 (by simp; omega)).trans ((World.cell?_alloc_past _ _ _ hb2).trans hc2)
  have f3 : ∀ x : Lat (w.alloc (.cells #[.string name, .int .i64 kind, .bool null] 41)), ∀ o, (lat _ x).cell? ⟨w.heap.size, o, none⟩ = (#[.string name, .int .i64 kind, .bool null] : Array Value)[o]? := fun x o => (cell?_lat _ x _ o (by simp)).trans (World.cell?_alloc_at _ _ _ _ rfl)
  refine wp_region_lat (by kernel_rfl) (by kernel_rfl) ?_
  repeat (go_big_quiet_step ((first | (go_at_call 84; exact Calls.lat_of (Cn.out _)))))
  refine wpQuiet_nil ?_
  intro _ hw'
  obtain ⟨x, hw''⟩ := hw'
  subst hw''
  clear f1 f2 f3 hc1 hc2
  go_wp2_with fail
  go_ret
  exact ⟨rfl, ((Aft.refl _).alloc _).lat x⟩
set_option maxHeartbeats 1000000 in
theorem byCol (A : Option Addr) (cap : Nat) (l : List Col) (s : ByteArray) (w : World) (h : SlAt w 3 ColR A cap l) :
    Calls Tryz.prog 83 #[.slice A l.length cap, .string s, .func (.func 84) #[] #[]] w fun e w' => e = .returned (.int .i64 (idxP (fun c => eqS c.name s) l)) ∧ Aft w w' := by
  have hent := enters (P := Tryz.prog) Tryz.func156 (by kernel_rfl) rfl
  have C := Lib.hid (idxCol A cap l 156 #[.pointer (some ⟨w.heap.size + 1, 0, none⟩), .pointer (some ⟨w.heap.size, 0, none⟩)] (fun c => eqS c.name s) ((w.alloc (.cells #[.string s] 9)).alloc (.cells #[.func (.func 84) #[] #[]] 102)) (cols_aft (((Aft.refl w).alloc _).alloc _) h) hent (fun w' ha i hi  => by
    obtain ⟨d1, d2, z1, z2⟩ := aft_two ha
    exact byCol1 _ _ _ s (w.heap.size + 1) w.heap.size w' z2 z1 d2 d1))
  go_enter Tryz.func83, Tryz.ntmps83
  go_wp2_with fail
  refine C.out.mono ?_
  rintro e w1 ⟨rfl, a1⟩
  have HA := Lib.hid ((((Aft.refl w).alloc _).alloc _).trans a1)
  clear a1
  go_wp2_with fail
  go_ret
  exact ⟨rfl, HA.out⟩
theorem schemaName_any (name : ByteArray) (owner : ByteArray) (w : World) :
    Calls Tryz.prog 89 #[.agg #[.string name, .string owner]] w fun e w' => e = .returned (.string name) ∧ Aft w w' := by
  go_enter Tryz.func89, Tryz.ntmps89
  go_wp2_with fail
  go_ret
  exact ⟨rfl, (Aft.refl _).alloc _⟩
set_option maxHeartbeats 1000000 in
theorem bySch1 (name : ByteArray) (owner : ByteArray) (s : ByteArray) (b1 b2 : Nat) (w : World) (hb1 : b1 < w.heap.size) (hb2 : b2 < w.heap.size) (hc1 : w.cell? ⟨b1, 0, none⟩ = some (.func (.func 89) #[] #[])) (hc2 : w.cell? ⟨b2, 0, none⟩ = some (.string s)) :
    Calls Tryz.prog 161 #[.agg #[.string name, .string owner], .pointer (some ⟨b1, 0, none⟩), .pointer (some ⟨b2, 0, none⟩)] w fun e w' => e = .returned (.bool (eqS name s)) ∧ Aft w w' := by
  have Cn := Lib.hid (fun w => schemaName_any name owner w)
  go_enter Tryz.func161, Tryz.ntmps161
  go_wp2_with fail
  have f1 : ∀ x : Lat (w.alloc (.cells #[.string name, .string owner] 99)), (lat _ x).cell? ⟨b1, 0, none⟩ = some (.func (.func 89) #[] #[]) := fun x => (cell?_lat _ x b1 0 (by simp; omega)).trans ((World.cell?_alloc_past _ _ _ hb1).trans hc1)
  have f2 : ∀ x : Lat (w.alloc (.cells #[.string name, .string owner] 99)), (lat _ x).cell? ⟨b2, 0, none⟩ = some (.string s) := fun x => (cell?_lat _ x b2 0 (by simp; omega)).trans ((World.cell?_alloc_past _ _ _ hb2).trans hc2)
  have f3 : ∀ x : Lat (w.alloc (.cells #[.string name, .string owner] 99)), ∀ o, (lat _ x).cell? ⟨w.heap.size, o, none⟩ = (#[.string name, .string owner] : Array Value)[o]? := fun x o => (cell?_lat _ x _ o (by simp)).trans (World.cell?_alloc_at _ _ _ _ rfl)
  refine wp_region_lat (by kernel_rfl) (by kernel_rfl) ?_
  repeat (go_big_quiet_step ((first | (go_at_call 89; exact Calls.lat_of (Cn.out _)))))
  refine wpQuiet_nil ?_
  intro _ hw'
  obtain ⟨x, hw''⟩ := hw'
  subst hw''
  clear f1 f2 f3 hc1 hc2
  go_wp2_with fail
  go_ret
  exact ⟨rfl, ((Aft.refl _).alloc _).lat x⟩
set_option maxHeartbeats 1000000 in
theorem bySch (A : Option Addr) (cap : Nat) (l : List Sch) (s : ByteArray) (w : World) (h : SlAt w 2 SchR A cap l) :
    Calls Tryz.prog 88 #[.slice A l.length cap, .string s, .func (.func 89) #[] #[]] w fun e w' => e = .returned (.int .i64 (idxP (fun c => eqS c.name s) l)) ∧ Aft w w' := by
  have hent := enters (P := Tryz.prog) Tryz.func161 (by kernel_rfl) rfl
  have C := Lib.hid (idxSch A cap l 161 #[.pointer (some ⟨w.heap.size + 1, 0, none⟩), .pointer (some ⟨w.heap.size, 0, none⟩)] (fun c => eqS c.name s) ((w.alloc (.cells #[.string s] 9)).alloc (.cells #[.func (.func 89) #[] #[]] 107)) (schs_aft (((Aft.refl w).alloc _).alloc _) h) hent (fun w' ha i hi  => by
    obtain ⟨d1, d2, z1, z2⟩ := aft_two ha
    exact bySch1 _ _ s (w.heap.size + 1) w.heap.size w' z2 z1 d2 d1))
  go_enter Tryz.func88, Tryz.ntmps88
  go_wp2_with fail
  refine C.out.mono ?_
  rintro e w1 ⟨rfl, a1⟩
  have HA := Lib.hid ((((Aft.refl w).alloc _).alloc _).trans a1)
  clear a1
  go_wp2_with fail
  go_ret
  exact ⟨rfl, HA.out⟩
theorem ruleName_any (name : ByteArray) (kind : Int) (A0 : Option Addr) (n0 : Nat) (c0 : Nat) (lo : Int) (hi : Int) (rs : ByteArray) (rt : ByteArray) (rk : ByteArray) (w : World) :
    Calls Tryz.prog 64 #[.agg #[.string name, .int .i64 kind, .slice A0 n0 c0, .int .i64 lo, .int .i64 hi, .string rs, .string rt, .string rk]] w fun e w' => e = .returned (.string name) ∧ Aft w w' := by
  go_enter Tryz.func64, Tryz.ntmps64
  go_wp2_with fail
  go_ret
  exact ⟨rfl, (Aft.refl _).alloc _⟩
set_option maxHeartbeats 1000000 in
theorem byRul1 (name : ByteArray) (kind : Int) (A0 : Option Addr) (n0 : Nat) (c0 : Nat) (lo : Int) (hi : Int) (rs : ByteArray) (rt : ByteArray) (rk : ByteArray) (s : ByteArray) (b1 b2 : Nat) (w : World) (hb1 : b1 < w.heap.size) (hb2 : b2 < w.heap.size) (hc1 : w.cell? ⟨b1, 0, none⟩ = some (.func (.func 64) #[] #[])) (hc2 : w.cell? ⟨b2, 0, none⟩ = some (.string s)) :
    Calls Tryz.prog 144 #[.agg #[.string name, .int .i64 kind, .slice A0 n0 c0, .int .i64 lo, .int .i64 hi, .string rs, .string rt, .string rk], .pointer (some ⟨b1, 0, none⟩), .pointer (some ⟨b2, 0, none⟩)] w fun e w' => e = .returned (.bool (eqS name s)) ∧ Aft w w' := by
  have Cn := Lib.hid (fun w => ruleName_any name kind A0 n0 c0 lo hi rs rt rk w)
  go_enter Tryz.func144, Tryz.ntmps144
  go_wp2_with fail
  have f1 : ∀ x : Lat (w.alloc (.cells #[.string name, .int .i64 kind, .slice A0 n0 c0, .int .i64 lo, .int .i64 hi, .string rs, .string rt, .string rk] 29)), (lat _ x).cell? ⟨b1, 0, none⟩ = some (.func (.func 64) #[] #[]) := fun x => (cell?_lat _ x b1 0 (by simp; omega)).trans ((World.cell?_alloc_past _ _ _ hb1).trans hc1)
  have f2 : ∀ x : Lat (w.alloc (.cells #[.string name, .int .i64 kind, .slice A0 n0 c0, .int .i64 lo, .int .i64 hi, .string rs, .string rt, .string rk] 29)), (lat _ x).cell? ⟨b2, 0, none⟩ = some (.string s) := fun x => (cell?_lat _ x b2 0 (by simp; omega)).trans ((World.cell?_alloc_past _ _ _ hb2).trans hc2)
  have f3 : ∀ x : Lat (w.alloc (.cells #[.string name, .int .i64 kind, .slice A0 n0 c0, .int .i64 lo, .int .i64 hi, .string rs, .string rt, .string rk] 29)), ∀ o, (lat _ x).cell? ⟨w.heap.size, o, none⟩ = (#[.string name, .int .i64 kind, .slice A0 n0 c0, .int .i64 lo, .int .i64 hi, .string rs, .string rt, .string rk] : Array Value)[o]? := fun x o => (cell?_lat _ x _ o (by simp)).trans (World.cell?_alloc_at _ _ _ _ rfl)
  refine wp_region_lat (by kernel_rfl) (by kernel_rfl) ?_
  repeat (go_big_quiet_step ((first | (go_at_call 64; exact Calls.lat_of (Cn.out _)))))
  refine wpQuiet_nil ?_
  intro _ hw'
  obtain ⟨x, hw''⟩ := hw'
  subst hw''
  clear f1 f2 f3 hc1 hc2
  go_wp2_with fail
  go_ret
  exact ⟨rfl, ((Aft.refl _).alloc _).lat x⟩
set_option maxHeartbeats 1000000 in
theorem byRul (A : Option Addr) (cap : Nat) (l : List Rul) (s : ByteArray) (w : World) (h : SlAt w 8 RulR A cap l) :
    Calls Tryz.prog 63 #[.slice A l.length cap, .string s, .func (.func 64) #[] #[]] w fun e w' => e = .returned (.int .i64 (idxP (fun c => eqS c.name s) l)) ∧ Aft w w' := by
  have hent := enters (P := Tryz.prog) Tryz.func144 (by kernel_rfl) rfl
  have C := Lib.hid (idxRul A cap l 144 #[.pointer (some ⟨w.heap.size + 1, 0, none⟩), .pointer (some ⟨w.heap.size, 0, none⟩)] (fun c => eqS c.name s) ((w.alloc (.cells #[.string s] 9)).alloc (.cells #[.func (.func 64) #[] #[]] 82)) (ruls_aft (((Aft.refl w).alloc _).alloc _) h) hent (fun w' ha i hi e1 he => by
    obtain ⟨A2, cap2, rfl, _⟩ := he; obtain ⟨d1, d2, z1, z2⟩ := aft_two ha
    exact byRul1 _ _ _ _ _ _ _ _ _ _ s (w.heap.size + 1) w.heap.size w' z2 z1 d2 d1))
  go_enter Tryz.func63, Tryz.ntmps63
  go_wp2_with fail
  refine C.out.mono ?_
  rintro e w1 ⟨rfl, a1⟩
  have HA := Lib.hid ((((Aft.refl w).alloc _).alloc _).trans a1)
  clear a1
  go_wp2_with fail
  go_ret
  exact ⟨rfl, HA.out⟩
end Go.Proofs.YticjnndhpfdajaaGreat
/- objects.mayColumn, mayColumns. -/
namespace Go.Proofs.YticjnndhpfdajaaGreat
open Go.RowKit
set_option maxRecDepth 100000
set_option linter.unusedVariables false

theorem eqS_refl (s : ByteArray) : eqS s s = true := by simp [eqS]
theorem idxP_hit {α : Type} (p : α → Bool) (l : List α) (k : Nat) (hk : k < l.length) (hp : p l[k] = true) (h : idxP p (l.take k) < 0) : idxP p l = k := by
  refine idxP_some p l k hk hp fun i hi => ?_
  cases hq : p (l[i]'(by omega)) with
  | false => rfl
  | true =>
    exfalso
    have hlen : (l.take k).length = k := by rw [List.length_take]; omega
    clear hp
    have : ∀ (l : List α) (i : Nat) (hi : i < l.length), p l[i] = true → 0 ≤ idxP p l := by
      intro l
      induction l with
      | nil => intro i hi; simp at hi
      | cons x l ih =>
        intro i hi hp
        cases i with
        | zero => simp at hp; simp [idxP, hp]
        | succ i =>
          have := ih i (by simpa using hi) hp
          simp only [idxP]
          split
          · omega
          · split <;> omega
    have := this (l.take k) i (by omega) (by rw [List.getElem_take]; exact hq)
    omega
theorem idxP_miss {α : Type} (p : α → Bool) (l : List α) (k : Nat) (hk : k < l.length) (h : 0 ≤ idxP p (l.take k)) : idxP p l < k ∧ 0 ≤ idxP p l := by
  induction l generalizing k with
  | nil => simp at hk
  | cons x l ih =>
    cases k with
    | zero => simp [idxP] at h
    | succ k =>
      simp only [List.take_succ_cons, idxP] at h ⊢
      by_cases hx : p x = true
      · rw [if_pos hx] at h ⊢; omega
      · rw [if_neg hx] at h ⊢
        by_cases hy : idxP p (l.take k) < 0
        · rw [if_pos hy] at h; omega
        · have := ih k (by simpa using hk) (by omega)
          rw [if_neg (by omega)]
          omega

set_option maxHeartbeats 1000000 in
theorem mayCol_any (name : ByteArray) (kind : Int) (null : Bool) (w : World) (hs : name.size ≤ maxLen) :
    Calls Tryz.prog 82 #[.agg #[.string name, .int .i64 kind, .bool null]] w fun e w' => e = .returned (.bool (colOk ⟨name, kind, null⟩)) ∧ Aft w w' := by
  go_enter Tryz.func82, Tryz.ntmps82
  go_wp2_with (go_at_call 87; refine (name_any _ _ hs).mono ?_; rintro e w' ⟨rfl, rfl⟩)
  all_goals
    go_ret
    refine ⟨Eq.trans (b := .returned (.bool _)) rfl (ret_of (bool_of ?_)), (Aft.refl _).alloc _⟩
    simp_all [colOk]

set_option maxHeartbeats 2000000 in
theorem mayCols_any (A : Option Addr) (cap : Nat) (l : List Col) (w : World) (h : SlAt w 3 ColR A cap l) :
    Calls Tryz.prog 110 #[.slice A l.length cap] w fun e w' => e = .returned (.bool (colsOk l)) ∧ Aft w w' := by
  have hlen := h.len
  by_cases h1 : l.length < 1 ∨ 8 < l.length
  · have H := Lib.hid (show colsOk l = false by unfold colsOk; rcases h1 with h1 | h1 <;> simp <;> intros <;> omega)
    rcases h1 with h1 | h1
    all_goals
      go_enter Tryz.func110, Tryz.ntmps110
      go_wp2_with fail
      go_ret
      exact ⟨by rw [H.out]; rfl, Aft.refl _⟩
  · have g1 : 1 ≤ l.length := by omega
    have g8 : l.length ≤ 8 := by omega
    clear h1
    go_enter Tryz.func110, Tryz.ntmps110
    go_wp2_with fail
    go_loopw [15] (fun i wr => ∃ k : Nat, k ≤ l.length ∧ i = .int .i64 k ∧ Aft w wr ∧ ∀ j, j < k → ∀ (hj : j < l.length), (colOk l[j] && decide (idxP (fun d => eqS d.name l[j].name) (l.take j) < 0)) = true) (fun i _ => l.length - (intOf i).toNat)
    case atStart => exact ⟨0, Nat.zero_le _, rfl, Aft.refl _, fun j hj => absurd hj (Nat.not_lt_zero j)⟩
    case round =>
      obtain ⟨k, hk, rfl, ha, hp⟩ := hrel
      have HA := Lib.hid ha
      have HP := Lib.hid hp; clear hp
      by_cases hlt : k < l.length
      · have hsl := cols_aft ha h
        clear ha
        obtain ⟨b, off, rfl, hb, c0, c1, c2, hs⟩ := col_at hsl hlt
        have Cone := Lib.hid (fun w => mayCol_any l[k].name l[k].kind l[k].null w hs.max)
        obtain ⟨r, hr⟩ : ∃ r, idxP (fun d => eqS d.name l[k].name) l = r := ⟨_, rfl⟩
        have HR := Lib.hid hr
        have Cby := Lib.hid (show ∀ w', Aft wr w' → Calls Tryz.prog 83 #[.slice (some ⟨b, off, none⟩) l.length cap, .string l[k].name, .func (.func 84) #[] #[]] w' fun e w'' => e = .returned (.int .i64 r) ∧ Aft w' w'' from
          fun w' ha' => hr ▸ byCol _ cap l l[k].name w' (cols_aft ha' hsl))
        clear hr hsl
        generalize hcc : colOk ⟨l[k].name, l[k].kind, l[k].null⟩ = cc at Cone
        have HC := Lib.hid hcc
        clear hcc
        cases cc
        · go_wp2_with fail
          refine (Cone.out _).mono ?_
          rintro e w1 ⟨rfl, a1⟩
          obtain ⟨hbox, hfr, hz, hzk, HA1⟩ := aft_box a1
          clear a1
          go_wp2_with fail
          go_ret
          exact ⟨by rw [colsOk_false l k hlt (by rw [show colOk l[k] = false from HC.out]; rfl)]; rfl, HA.out.trans HA1.out⟩
        · by_cases hrk : r = k
          · have e1 : (r != (k : Int)) = false := by simp [hrk]
            have HRK := Lib.hid hrk
            clear hrk
            go_wp2_with fail
            refine (Cone.out _).mono ?_
            rintro e w1 ⟨rfl, a1⟩
            obtain ⟨hbox, hfr, hz, hzk, HA1⟩ := aft_box a1
            clear a1
            go_wp2_with fail
            refine (Cby.out _ HA1.out).mono ?_
            rintro e w2 ⟨rfl, a2⟩
            have HA2 := Lib.hid (HA1.out.trans a2)
            clear a2
            go_wp2_with fail
            go_roundw
            case rel =>
              refine ⟨k + 1, by omega, by go_num, HA.out.trans HA2.out, ext_lt (p := fun j => ∀ (hj : j < l.length), (colOk l[j] && decide (idxP (fun d => eqS d.name l[j].name) (l.take j) < 0)) = true) HP.out (fun _ => ?_)⟩
              rw [show colOk l[k] = true from HC.out, Bool.true_and]
              refine decide_eq_true ?_
              by_cases h0 : idxP (fun d => eqS d.name l[k].name) (l.take k) < 0
              · exact h0
              · have := (idxP_miss (fun d => eqS d.name l[k].name) l k hlt (by omega)).1
                have e1 := HR.out
                have e2 := HRK.out
                omega
            case measure => simp [intOf]; omega
          · have e1 : (r != (k : Int)) = true := by rw [bne_iff_ne]; exact hrk
            have HRK := Lib.hid hrk
            clear hrk
            go_wp2_with fail
            refine (Cone.out _).mono ?_
            rintro e w1 ⟨rfl, a1⟩
            obtain ⟨hbox, hfr, hz, hzk, HA1⟩ := aft_box a1
            clear a1
            go_wp2_with fail
            refine (Cby.out _ HA1.out).mono ?_
            rintro e w2 ⟨rfl, a2⟩
            have HA2 := Lib.hid (HA1.out.trans a2)
            clear a2
            go_wp2_with fail
            go_ret
            have hf : (colOk l[k] && decide (idxP (fun d => eqS d.name l[k].name) (l.take k) < 0)) = false := by
              rw [decide_eq_false, Bool.and_false]
              intro h0
              exact HRK.out ((HR.out.symm.trans (idxP_hit _ l k hlt (eqS_refl _) h0)))
            exact ⟨by rw [colsOk_false l k hlt hf]; rfl, HA.out.trans HA2.out⟩
      · go_wp2_with fail
        go_ret
        exact ⟨by rw [colsOk_true l g1 g8 (fun j hj hj' => HP.out j (by omega) hj')]; rfl, HA.out⟩
end Go.Proofs.YticjnndhpfdajaaGreat
/- slices.Index at texts; a rule's columns, counted. -/
namespace Go.Proofs.YticjnndhpfdajaaGreat
open Go.RowKit
set_option maxRecDepth 100000
set_option linter.unusedVariables false
/-- what is there once only, and is found in l, is not more than l -/
theorem rc_len (l : List Col) (cs : List ByteArray) (h : rcOk l cs = true) : cs.length ≤ l.length := by
  have hk : ∀ k (hk : k < cs.length), 0 ≤ colAt l cs[k] ∧ hasS (cs.take k) cs[k] = false := by
    intro k hk
    have := List.all_eq_true.1 h k (List.mem_range.2 hk)
    rw [List.getElem?_eq_getElem hk] at this
    simpa using this
  clear h
  have inj : ∀ i j (hi : i < cs.length) (hj : j < cs.length), i < j → colAt l cs[i] ≠ colAt l cs[j] := by
    intro i j hi hj hij he
    have h1 := (hk i hi).1
    obtain ⟨q, hq⟩ := Int.eq_ofNat_of_zero_le h1
    have hql : q < l.length := by have := (idxP_range (fun c => eqS c.name cs[i]) l).2; unfold colAt at hq; omega
    have a1 := idxP_at (fun c : Col => eqS c.name cs[i]) l q hql hq
    have a2 := idxP_at (fun c : Col => eqS c.name cs[j]) l q hql (he ▸ hq)
    have e : eqS cs[i] cs[j] = true := eqS_trans ((eqS_comm _ _).trans a1) a2
    have := (hk j hj).2
    unfold hasS at this
    rw [anyP_true (fun c => eqS c cs[j]) (cs.take j) i (by simp; omega) (by simpa using e)] at this
    cases this
  have hnd : ((List.range cs.length).map fun i => (colAt l (cs.getD i ByteArray.empty)).toNat).Nodup := by
    rw [List.nodup_iff_pairwise_ne, List.pairwise_map]
    refine List.Pairwise.imp_of_mem ?_ List.pairwise_lt_range
    intro i j hi hj hij he
    have hi' := List.mem_range.1 hi
    have hj' := List.mem_range.1 hj
    have e1 : cs.getD i ByteArray.empty = cs[i] := by simp [List.getD, List.getElem?_eq_getElem hi']
    have e2 : cs.getD j ByteArray.empty = cs[j] := by simp [List.getD, List.getElem?_eq_getElem hj']
    rw [e1, e2] at he
    have h1 := (hk i hi').1
    have h2 := (hk j hj').1
    exact inj i j hi' hj' hij (by omega)
  have hsub : ∀ u ∈ ((List.range cs.length).map fun i => (colAt l (cs.getD i ByteArray.empty)).toNat), u ∈ List.range l.length := by
    intro u hu
    obtain ⟨i, hi, rfl⟩ := List.mem_map.1 hu
    have hi' := List.mem_range.1 hi
    have e1 : cs.getD i ByteArray.empty = cs[i] := by simp [List.getD, List.getElem?_eq_getElem hi']
    rw [e1]
    have h1 := (hk i hi').1
    have h2 := (idxP_range (fun c => eqS c.name cs[i]) l).2
    unfold colAt at *
    exact List.mem_range.2 (by omega)
  have := hnd.length_le_of_subset hsub
  simpa using this
end Go.Proofs.YticjnndhpfdajaaGreat
