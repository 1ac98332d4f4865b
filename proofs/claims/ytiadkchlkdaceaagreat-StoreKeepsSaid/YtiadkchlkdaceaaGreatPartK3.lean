/- Contracts of the program, part 3. -/
import Derived.ProofKit
import Derived.OpenShut
import Derived.Deep.Slices
import Derived.ChangeOld
import Derived.SizedLaws
import Derived.WalkKit
import Derived.WalkSpells
import Derived.WalkLawsBesides
import Derived.Lib.Hide
import Derived.Deep.QuietTactic
import Derived.BigQuiet
import Derived.Below
import Derived.Deep.Draws
import Derived.StillTailTactics
import Derived.Laws.Cells
import Derived.Laws.IdiomCopy
import Derived.Test.YtiadkchlkdaceaaGreatRows
import Derived.Lib.Bytealg
import Derived.OwnWalk
import Derived.Laws.AppendOwn
import Derived.IntWalk
import Derived.Test.YtiadkchlkdaceaaGreatPartK1
import Derived.Test.YtiadkchlkdaceaaGreatPartK2
namespace Go.Proofs.YtiadkchlkdaceaaGreat
open Go.RowKit
set_option maxRecDepth 100000
set_option linter.unusedVariables false
theorem aft_two {w w' : World} {a b : Value} {ta tb : TypeId} (h : Aft ((w.alloc (.cells #[a] ta)).alloc (.cells #[b] tb)) w') :
    w'.cell? ⟨w.heap.size, 0, none⟩ = some a ∧ w'.cell? ⟨w.heap.size + 1, 0, none⟩ = some b ∧ w.heap.size < w'.heap.size ∧ w.heap.size + 1 < w'.heap.size := by
  have hz : w.heap.size + 1 < w'.heap.size := by have := h.size; simp at this; omega
  refine ⟨?_, ?_, by omega, hz⟩
  · rw [Below.cell h (p := ⟨w.heap.size, 0, none⟩) (by simp; omega), World.cell?_alloc_past _ _ _ (by simp)]; simp
  · rw [Below.cell h (p := ⟨w.heap.size + 1, 0, none⟩) (by simp), World.cell?_alloc_at _ _ _ _ (by simp)]; rfl
theorem columnName_any (name : ByteArray) (kind : Int) (null : Bool) (w : World) :
    Calls Tryz.prog 114 #[.agg #[.string name, .int .i64 kind, .bool null]] w fun e w' => e = .returned (.string name) ∧ Aft w w' := by
  go_enter Tryz.func114, Tryz.ntmps114
  go_wp2_with fail
  go_ret
  exact ⟨rfl, (Aft.refl _).alloc _⟩
set_option maxHeartbeats 1000000 in
theorem byCol1 (name : ByteArray) (kind : Int) (null : Bool) (s : ByteArray) (b1 b2 : Nat) (w : World) (hb1 : b1 < w.heap.size) (hb2 : b2 < w.heap.size) (hc1 : w.cell? ⟨b1, 0, none⟩ = some (.func (.func 114) #[] #[])) (hc2 : w.cell? ⟨b2, 0, none⟩ = some (.string s)) :
    Calls Tryz.prog 131 #[.agg #[.string name, .int .i64 kind, .bool null], .pointer (some ⟨b1, 0, none⟩), .pointer (some ⟨b2, 0, none⟩)] w fun e w' => e = .returned (.bool (eqS name s)) ∧ Aft w w' := by
  have Cn := Lib.hid (fun w => columnName_any name kind null w)
  go_enter Tryz.func131, Tryz.ntmps131
  go_wp2_with fail
  have f1 : ∀ x : Lat (w.alloc (.cells #[.string name, .int .i64 kind, .bool null] 93)), (lat _ x).cell? ⟨b1, 0, none⟩ = some (.func (.func 114) #[] #[]) := fun x => (cell?_lat _ x b1 0 (by simp; omega)).trans ((World.cell?_alloc_past _ _ _ hb1).trans hc1)
  have f2 : ∀ x : Lat (w.alloc (.cells #[.string name, .int .i64 kind, .bool null] 93)), (lat _ x).cell? ⟨b2, 0, none⟩ = some (.string s) := fun x => (cell?_lat _ x b2 0 (by simp; omega)).trans ((World.cell?_alloc_past _ _ _ hb2).trans hc2)
  have f3 : ∀ x : Lat (w.alloc (.cells #[.string name, .int .i64 kind, .bool null] 93)), ∀ o, (lat _ x).cell? ⟨w.heap.size, o, none⟩ = (#[.string name, .int .i64 kind, .bool null] : Array Value)[o]? := fun x o => (cell?_lat _ x _ o (by simp)).trans (World.cell?_alloc_at _ _ _ _ rfl)
  refine wp_region_lat (by kernel_rfl) (by kernel_rfl) ?_
  repeat (go_big_quiet_step ((first | (go_at_call 114; exact Calls.lat_of (Cn.out _)))))
  refine wpQuiet_nil ?_
  intro _ hw'
  obtain ⟨x, hw''⟩ := hw'
  subst hw''
  clear f1 f2 f3 hc1 hc2
  go_wp2_with fail
  go_ret
  exact ⟨rfl, ((Aft.refl _).alloc _).lat x⟩
set_option maxHeartbeats 1000000 in
theorem byCol (A : Option Addr) (cap : Nat) (l : List Col) (s : ByteArray) (w : World) (h : SlAt w 3 ColR A cap l) :
    Calls Tryz.prog 113 #[.slice A l.length cap, .string s, .func (.func 114) #[] #[]] w fun e w' => e = .returned (.int .i64 (idxP (fun c => eqS c.name s) l)) ∧ Aft w w' := by
  have hent := enters (P := Tryz.prog) Tryz.func131 (by kernel_rfl) rfl
  have C := Lib.hid (idxCol A cap l 131 #[.pointer (some ⟨w.heap.size + 1, 0, none⟩), .pointer (some ⟨w.heap.size, 0, none⟩)] (fun c => eqS c.name s) ((w.alloc (.cells #[.string s] 9)).alloc (.cells #[.func (.func 114) #[] #[]] 162)) (cols_aft (((Aft.refl w).alloc _).alloc _) h) hent (fun w' ha i hi  => by
    obtain ⟨d1, d2, z1, z2⟩ := aft_two ha
    exact byCol1 _ _ _ s (w.heap.size + 1) w.heap.size w' z2 z1 d2 d1))
  go_enter Tryz.func113, Tryz.ntmps113
  go_wp2_with fail
  refine C.out.mono ?_
  rintro e w1 ⟨rfl, a1⟩
  have HA := Lib.hid ((((Aft.refl w).alloc _).alloc _).trans a1)
  clear a1
  go_wp2_with fail
  go_ret
  exact ⟨rfl, HA.out⟩
theorem schemaName_any (name : ByteArray) (owner : ByteArray) (w : World) :
    Calls Tryz.prog 88 #[.agg #[.string name, .string owner]] w fun e w' => e = .returned (.string name) ∧ Aft w w' := by
  go_enter Tryz.func88, Tryz.ntmps88
  go_wp2_with fail
  go_ret
  exact ⟨rfl, (Aft.refl _).alloc _⟩
set_option maxHeartbeats 1000000 in
theorem bySch1 (name : ByteArray) (owner : ByteArray) (s : ByteArray) (b1 b2 : Nat) (w : World) (hb1 : b1 < w.heap.size) (hb2 : b2 < w.heap.size) (hc1 : w.cell? ⟨b1, 0, none⟩ = some (.func (.func 88) #[] #[])) (hc2 : w.cell? ⟨b2, 0, none⟩ = some (.string s)) :
    Calls Tryz.prog 116 #[.agg #[.string name, .string owner], .pointer (some ⟨b1, 0, none⟩), .pointer (some ⟨b2, 0, none⟩)] w fun e w' => e = .returned (.bool (eqS name s)) ∧ Aft w w' := by
  have Cn := Lib.hid (fun w => schemaName_any name owner w)
  go_enter Tryz.func116, Tryz.ntmps116
  go_wp2_with fail
  have f1 : ∀ x : Lat (w.alloc (.cells #[.string name, .string owner] 88)), (lat _ x).cell? ⟨b1, 0, none⟩ = some (.func (.func 88) #[] #[]) := fun x => (cell?_lat _ x b1 0 (by simp; omega)).trans ((World.cell?_alloc_past _ _ _ hb1).trans hc1)
  have f2 : ∀ x : Lat (w.alloc (.cells #[.string name, .string owner] 88)), (lat _ x).cell? ⟨b2, 0, none⟩ = some (.string s) := fun x => (cell?_lat _ x b2 0 (by simp; omega)).trans ((World.cell?_alloc_past _ _ _ hb2).trans hc2)
  have f3 : ∀ x : Lat (w.alloc (.cells #[.string name, .string owner] 88)), ∀ o, (lat _ x).cell? ⟨w.heap.size, o, none⟩ = (#[.string name, .string owner] : Array Value)[o]? := fun x o => (cell?_lat _ x _ o (by simp)).trans (World.cell?_alloc_at _ _ _ _ rfl)
  refine wp_region_lat (by kernel_rfl) (by kernel_rfl) ?_
  repeat (go_big_quiet_step ((first | (go_at_call 88; exact Calls.lat_of (Cn.out _)))))
  refine wpQuiet_nil ?_
  intro _ hw'
  obtain ⟨x, hw''⟩ := hw'
  subst hw''
  clear f1 f2 f3 hc1 hc2
  go_wp2_with fail
  go_ret
  exact ⟨rfl, ((Aft.refl _).alloc _).lat x⟩
set_option maxHeartbeats 1000000 in
theorem bySch (A : Option Addr) (cap : Nat) (l : List Sch) (s : ByteArray) (w : World) (h : SlAt w 2 SchR A cap l) :
    Calls Tryz.prog 87 #[.slice A l.length cap, .string s, .func (.func 88) #[] #[]] w fun e w' => e = .returned (.int .i64 (idxP (fun c => eqS c.name s) l)) ∧ Aft w w' := by
  have hent := enters (P := Tryz.prog) Tryz.func116 (by kernel_rfl) rfl
  have C := Lib.hid (idxSch A cap l 116 #[.pointer (some ⟨w.heap.size + 1, 0, none⟩), .pointer (some ⟨w.heap.size, 0, none⟩)] (fun c => eqS c.name s) ((w.alloc (.cells #[.string s] 9)).alloc (.cells #[.func (.func 88) #[] #[]] 143)) (schs_aft (((Aft.refl w).alloc _).alloc _) h) hent (fun w' ha i hi  => by
    obtain ⟨d1, d2, z1, z2⟩ := aft_two ha
    exact bySch1 _ _ s (w.heap.size + 1) w.heap.size w' z2 z1 d2 d1))
  go_enter Tryz.func87, Tryz.ntmps87
  go_wp2_with fail
  refine C.out.mono ?_
  rintro e w1 ⟨rfl, a1⟩
  have HA := Lib.hid ((((Aft.refl w).alloc _).alloc _).trans a1)
  clear a1
  go_wp2_with fail
  go_ret
  exact ⟨rfl, HA.out⟩
theorem ruleName_any (name : ByteArray) (kind : Int) (A0 : Option Addr) (n0 : Nat) (c0 : Nat) (lo : Int) (hi : Int) (rs : ByteArray) (rt : ByteArray) (rk : ByteArray) (w : World) :
    Calls Tryz.prog 119 #[.agg #[.string name, .int .i64 kind, .slice A0 n0 c0, .int .i64 lo, .int .i64 hi, .string rs, .string rt, .string rk]] w fun e w' => e = .returned (.string name) ∧ Aft w w' := by
  go_enter Tryz.func119, Tryz.ntmps119
  go_wp2_with fail
  go_ret
  exact ⟨rfl, (Aft.refl _).alloc _⟩
set_option maxHeartbeats 1000000 in
theorem byRul1 (name : ByteArray) (kind : Int) (A0 : Option Addr) (n0 : Nat) (c0 : Nat) (lo : Int) (hi : Int) (rs : ByteArray) (rt : ByteArray) (rk : ByteArray) (s : ByteArray) (b1 b2 : Nat) (w : World) (hb1 : b1 < w.heap.size) (hb2 : b2 < w.heap.size) (hc1 : w.cell? ⟨b1, 0, none⟩ = some (.func (.func 119) #[] #[])) (hc2 : w.cell? ⟨b2, 0, none⟩ = some (.string s)) :
    Calls Tryz.prog 133 #[.agg #[.string name, .int .i64 kind, .slice A0 n0 c0, .int .i64 lo, .int .i64 hi, .string rs, .string rt, .string rk], .pointer (some ⟨b1, 0, none⟩), .pointer (some ⟨b2, 0, none⟩)] w fun e w' => e = .returned (.bool (eqS name s)) ∧ Aft w w' := by
  have Cn := Lib.hid (fun w => ruleName_any name kind A0 n0 c0 lo hi rs rt rk w)
  go_enter Tryz.func133, Tryz.ntmps133
  go_wp2_with fail
  have f1 : ∀ x : Lat (w.alloc (.cells #[.string name, .int .i64 kind, .slice A0 n0 c0, .int .i64 lo, .int .i64 hi, .string rs, .string rt, .string rk] 108)), (lat _ x).cell? ⟨b1, 0, none⟩ = some (.func (.func 119) #[] #[]) := fun x => (cell?_lat _ x b1 0 (by simp; omega)).trans ((World.cell?_alloc_past _ _ _ hb1).trans hc1)
  have f2 : ∀ x : Lat (w.alloc (.cells #[.string name, .int .i64 kind, .slice A0 n0 c0, .int .i64 lo, .int .i64 hi, .string rs, .string rt, .string rk] 108)), (lat _ x).cell? ⟨b2, 0, none⟩ = some (.string s) := fun x => (cell?_lat _ x b2 0 (by simp; omega)).trans ((World.cell?_alloc_past _ _ _ hb2).trans hc2)
  have f3 : ∀ x : Lat (w.alloc (.cells #[.string name, .int .i64 kind, .slice A0 n0 c0, .int .i64 lo, .int .i64 hi, .string rs, .string rt, .string rk] 108)), ∀ o, (lat _ x).cell? ⟨w.heap.size, o, none⟩ = (#[.string name, .int .i64 kind, .slice A0 n0 c0, .int .i64 lo, .int .i64 hi, .string rs, .string rt, .string rk] : Array Value)[o]? := fun x o => (cell?_lat _ x _ o (by simp)).trans (World.cell?_alloc_at _ _ _ _ rfl)
  refine wp_region_lat (by kernel_rfl) (by kernel_rfl) ?_
  repeat (go_big_quiet_step ((first | (go_at_call 119; exact Calls.lat_of (Cn.out _)))))
  refine wpQuiet_nil ?_
  intro _ hw'
  obtain ⟨x, hw''⟩ := hw'
  subst hw''
  clear f1 f2 f3 hc1 hc2
  go_wp2_with fail
  go_ret
  exact ⟨rfl, ((Aft.refl _).alloc _).lat x⟩
set_option maxHeartbeats 1000000 in
theorem byRul (A : Option Addr) (cap : Nat) (l : List Rul) (s : ByteArray) (w : World) (h : SlAt w 8 RulR A cap l) :
    Calls Tryz.prog 118 #[.slice A l.length cap, .string s, .func (.func 119) #[] #[]] w fun e w' => e = .returned (.int .i64 (idxP (fun c => eqS c.name s) l)) ∧ Aft w w' := by
  have hent := enters (P := Tryz.prog) Tryz.func133 (by kernel_rfl) rfl
  have C := Lib.hid (idxRul A cap l 133 #[.pointer (some ⟨w.heap.size + 1, 0, none⟩), .pointer (some ⟨w.heap.size, 0, none⟩)] (fun c => eqS c.name s) ((w.alloc (.cells #[.string s] 9)).alloc (.cells #[.func (.func 119) #[] #[]] 167)) (ruls_aft (((Aft.refl w).alloc _).alloc _) h) hent (fun w' ha i hi e1 he => by
    obtain ⟨A2, cap2, rfl, _⟩ := he; obtain ⟨d1, d2, z1, z2⟩ := aft_two ha
    exact byRul1 _ _ _ _ _ _ _ _ _ _ s (w.heap.size + 1) w.heap.size w' z2 z1 d2 d1))
  go_enter Tryz.func118, Tryz.ntmps118
  go_wp2_with fail
  refine C.out.mono ?_
  rintro e w1 ⟨rfl, a1⟩
  have HA := Lib.hid ((((Aft.refl w).alloc _).alloc _).trans a1)
  clear a1
  go_wp2_with fail
  go_ret
  exact ⟨rfl, HA.out⟩
end Go.Proofs.YtiadkchlkdaceaaGreat

namespace Go.Proofs.YtiadkchlkdaceaaGreat
open Go.RowKit
set_option maxRecDepth 100000
set_option linter.unusedVariables false

theorem eqS_refl (s : ByteArray) : eqS s s = true := by simp [eqS]
theorem idxP_hit {α : Type} (p : α → Bool) (l : List α) (k : Nat) (hk : k < l.length) (hp : p l[k] = true) (h : idxP p (l.take k) < 0) : idxP p l = k := by
  refine idxP_some p l k hk hp fun i hi => ?_
  cases hq : p (l[i]'(by omega)) with
  | false => rfl
  | true =>
    exfalso
    have hlen : (l.take k).length = k := by rw [List.length_take]; omega
    clear hp
    have : ∀ (l : List α) (i : Nat) (hi : i < l.length), p l[i] = true → 0 ≤ idxP p l := by
      intro l
      induction l with
      | nil => intro i hi; simp at hi
      | cons x l ih =>
        intro i hi hp
        cases i with
        | zero => simp at hp; simp [idxP, hp]
        | succ i =>
          have := ih i (by simpa using hi) hp
          simp only [idxP]
          split
          · omega
          · split <;> omega
    have := this (l.take k) i (by omega) (by rw [List.getElem_take]; exact hq)
    omega
theorem idxP_miss {α : Type} (p : α → Bool) (l : List α) (k : Nat) (hk : k < l.length) (h : 0 ≤ idxP p (l.take k)) : idxP p l < k ∧ 0 ≤ idxP p l := by
  induction l generalizing k with
  | nil => simp at hk
  | cons x l ih =>
    cases k with
    | zero => simp [idxP] at h
    | succ k =>
      simp only [List.take_succ_cons, idxP] at h ⊢
      by_cases hx : p x = true
      · rw [if_pos hx] at h ⊢; omega
      · rw [if_neg hx] at h ⊢
        by_cases hy : idxP p (l.take k) < 0
        · rw [if_pos hy] at h; omega
        · have := ih k (by simpa using hk) (by omega)
          rw [if_neg (by omega)]
          omega

set_option maxHeartbeats 1000000 in
theorem mayCol_any (name : ByteArray) (kind : Int) (null : Bool) (w : World) (hs : name.size ≤ maxLen) :
    Calls Tryz.prog 112 #[.agg #[.string name, .int .i64 kind, .bool null]] w fun e w' => e = .returned (.bool (colOk ⟨name, kind, null⟩)) ∧ Aft w w' := by
  go_enter Tryz.func112, Tryz.ntmps112
  go_wp2_with (go_at_call 56; refine (name_any _ _ hs).mono ?_; rintro e w' ⟨rfl, rfl⟩)
  all_goals
    go_ret
    refine ⟨Eq.trans (b := .returned (.bool _)) rfl (ret_of (bool_of ?_)), (Aft.refl _).alloc _⟩
    simp_all [colOk]

set_option maxHeartbeats 2000000 in
theorem mayCols_any (A : Option Addr) (cap : Nat) (l : List Col) (w : World) (h : SlAt w 3 ColR A cap l) :
    Calls Tryz.prog 86 #[.slice A l.length cap] w fun e w' => e = .returned (.bool (colsOk l)) ∧ Aft w w' := by
  have hlen := h.len
  by_cases h1 : l.length < 1 ∨ 8 < l.length
  · have H := Lib.hid (show colsOk l = false by unfold colsOk; rcases h1 with h1 | h1 <;> simp <;> intros <;> omega)
    rcases h1 with h1 | h1
    all_goals
      go_enter Tryz.func86, Tryz.ntmps86
      go_wp2_with fail
      go_ret
      exact ⟨by rw [H.out]; rfl, Aft.refl _⟩
  · have g1 : 1 ≤ l.length := by omega
    have g8 : l.length ≤ 8 := by omega
    clear h1
    go_enter Tryz.func86, Tryz.ntmps86
    go_wp2_with fail
    go_loopw [15] (fun i wr => ∃ k : Nat, k ≤ l.length ∧ i = .int .i64 k ∧ Aft w wr ∧ ∀ j, j < k → ∀ (hj : j < l.length), (colOk l[j] && decide (idxP (fun d => eqS d.name l[j].name) (l.take j) < 0)) = true) (fun i _ => l.length - (intOf i).toNat)
    case atStart => exact ⟨0, Nat.zero_le _, rfl, Aft.refl _, fun j hj => absurd hj (Nat.not_lt_zero j)⟩
    case round =>
      obtain ⟨k, hk, rfl, ha, hp⟩ := hrel
      have HA := Lib.hid ha
      have HP := Lib.hid hp; clear hp
      by_cases hlt : k < l.length
      · have hsl := cols_aft ha h
        clear ha
        obtain ⟨b, off, rfl, hb, c0, c1, c2, hs⟩ := col_at hsl hlt
        have Cone := Lib.hid (fun w => mayCol_any l[k].name l[k].kind l[k].null w hs.max)
        obtain ⟨r, hr⟩ : ∃ r, idxP (fun d => eqS d.name l[k].name) l = r := ⟨_, rfl⟩
        have HR := Lib.hid hr
        have Cby := Lib.hid (show ∀ w', Aft wr w' → Calls Tryz.prog 113 #[.slice (some ⟨b, off, none⟩) l.length cap, .string l[k].name, .func (.func 114) #[] #[]] w' fun e w'' => e = .returned (.int .i64 r) ∧ Aft w' w'' from
          fun w' ha' => hr ▸ byCol _ cap l l[k].name w' (cols_aft ha' hsl))
        clear hr hsl
        generalize hcc : colOk ⟨l[k].name, l[k].kind, l[k].null⟩ = cc at Cone
        have HC := Lib.hid hcc
        clear hcc
        cases cc
        · go_wp2_with fail
          refine (Cone.out _).mono ?_
          rintro e w1 ⟨rfl, a1⟩
          obtain ⟨hbox, hfr, hz, hzk, HA1⟩ := aft_box a1
          clear a1
          go_wp2_with fail
          go_ret
          exact ⟨by rw [colsOk_false l k hlt (by rw [show colOk l[k] = false from HC.out]; rfl)]; rfl, HA.out.trans HA1.out⟩
        · by_cases hrk : r = k
          · have e1 : (r != (k : Int)) = false := by simp [hrk]
            have HRK := Lib.hid hrk
            clear hrk
            go_wp2_with fail
            refine (Cone.out _).mono ?_
            rintro e w1 ⟨rfl, a1⟩
            obtain ⟨hbox, hfr, hz, hzk, HA1⟩ := aft_box a1
            clear a1
            go_wp2_with fail
            refine (Cby.out _ HA1.out).mono ?_
            rintro e w2 ⟨rfl, a2⟩
            have HA2 := Lib.hid (HA1.out.trans a2)
            clear a2
            go_wp2_with fail
            go_roundw
            case rel =>
              refine ⟨k + 1, by omega, by go_num, HA.out.trans HA2.out, ext_lt (p := fun j => ∀ (hj : j < l.length), (colOk l[j] && decide (idxP (fun d => eqS d.name l[j].name) (l.take j) < 0)) = true) HP.out (fun _ => ?_)⟩
              rw [show colOk l[k] = true from HC.out, Bool.true_and]
              refine decide_eq_true ?_
              by_cases h0 : idxP (fun d => eqS d.name l[k].name) (l.take k) < 0
              · exact h0
              · have := (idxP_miss (fun d => eqS d.name l[k].name) l k hlt (by omega)).1
                have e1 := HR.out
                have e2 := HRK.out
                omega
            case measure => simp [intOf]; omega
          · have e1 : (r != (k : Int)) = true := by rw [bne_iff_ne]; exact hrk
            have HRK := Lib.hid hrk
            clear hrk
            go_wp2_with fail
            refine (Cone.out _).mono ?_
            rintro e w1 ⟨rfl, a1⟩
            obtain ⟨hbox, hfr, hz, hzk, HA1⟩ := aft_box a1
            clear a1
            go_wp2_with fail
            refine (Cby.out _ HA1.out).mono ?_
            rintro e w2 ⟨rfl, a2⟩
            have HA2 := Lib.hid (HA1.out.trans a2)
            clear a2
            go_wp2_with fail
            go_ret
            have hf : (colOk l[k] && decide (idxP (fun d => eqS d.name l[k].name) (l.take k) < 0)) = false := by
              rw [decide_eq_false, Bool.and_false]
              intro h0
              exact HRK.out ((HR.out.symm.trans (idxP_hit _ l k hlt (eqS_refl _) h0)))
            exact ⟨by rw [colsOk_false l k hlt hf]; rfl, HA.out.trans HA2.out⟩
      · go_wp2_with fail
        go_ret
        exact ⟨by rw [colsOk_true l g1 g8 (fun j hj hj' => HP.out j (by omega) hj')]; rfl, HA.out⟩
end Go.Proofs.YtiadkchlkdaceaaGreat

namespace Go.Proofs.YtiadkchlkdaceaaGreat
open Go.RowKit
set_option maxRecDepth 100000
set_option linter.unusedVariables false
/-- what is there once only, and is found in l, is not more than l -/
theorem rc_len (l : List Col) (cs : List ByteArray) (h : rcOk l cs = true) : cs.length ≤ l.length := by
  have hk : ∀ k (hk : k < cs.length), 0 ≤ colAt l cs[k] ∧ hasS (cs.take k) cs[k] = false := by
    intro k hk
    have := List.all_eq_true.1 h k (List.mem_range.2 hk)
    rw [List.getElem?_eq_getElem hk] at this
    simpa using this
  clear h
  have inj : ∀ i j (hi : i < cs.length) (hj : j < cs.length), i < j → colAt l cs[i] ≠ colAt l cs[j] := by
    intro i j hi hj hij he
    have h1 := (hk i hi).1
    obtain ⟨q, hq⟩ := Int.eq_ofNat_of_zero_le h1
    have hql : q < l.length := by have := (idxP_range (fun c => eqS c.name cs[i]) l).2; unfold colAt at hq; omega
    have a1 := idxP_at (fun c : Col => eqS c.name cs[i]) l q hql hq
    have a2 := idxP_at (fun c : Col => eqS c.name cs[j]) l q hql (he ▸ hq)
    have e : eqS cs[i] cs[j] = true := eqS_trans ((eqS_comm _ _).trans a1) a2
    have := (hk j hj).2
    unfold hasS at this
    rw [anyP_true (fun c => eqS c cs[j]) (cs.take j) i (by simp; omega) (by simpa using e)] at this
    cases this
  have hnd : ((List.range cs.length).map fun i => (colAt l (cs.getD i ByteArray.empty)).toNat).Nodup := by
    rw [List.nodup_iff_pairwise_ne, List.pairwise_map]
    refine List.Pairwise.imp_of_mem ?_ List.pairwise_lt_range
    intro i j hi hj hij he
    have hi' := List.mem_range.1 hi
    have hj' := List.mem_range.1 hj
    have e1 : cs.getD i ByteArray.empty = cs[i] := by simp [List.getD, List.getElem?_eq_getElem hi']
    have e2 : cs.getD j ByteArray.empty = cs[j] := by simp [List.getD, List.getElem?_eq_getElem hj']
    rw [e1, e2] at he
    have h1 := (hk i hi').1
    have h2 := (hk j hj').1
    exact inj i j hi' hj' hij (by omega)
  have hsub : ∀ u ∈ ((List.range cs.length).map fun i => (colAt l (cs.getD i ByteArray.empty)).toNat), u ∈ List.range l.length := by
    intro u hu
    obtain ⟨i, hi, rfl⟩ := List.mem_map.1 hu
    have hi' := List.mem_range.1 hi
    have e1 : cs.getD i ByteArray.empty = cs[i] := by simp [List.getD, List.getElem?_eq_getElem hi']
    rw [e1]
    have h1 := (hk i hi').1
    have h2 := (idxP_range (fun c => eqS c.name cs[i]) l).2
    unfold colAt at *
    exact List.mem_range.2 (by omega)
  have := hnd.length_le_of_subset hsub
  simpa using this
end Go.Proofs.YtiadkchlkdaceaaGreat

namespace Go.Proofs.YtiadkchlkdaceaaGreat
open Go.RowKit
set_option maxRecDepth 100000
set_option linter.unusedVariables false
def kindsOf (l : List Col) (cs : List ByteArray) : List Int := cs.filterMap fun s => if 0 ≤ colAt l s then some (kindAt l (colAt l s)) else none
theorem kindsOf_succ (l : List Col) (cs : List ByteArray) (k : Nat) (hk : k < cs.length) : kindsOf l (cs.take (k + 1)) = kindsOf l (cs.take k) ++ if 0 ≤ colAt l cs[k] then [kindAt l (colAt l cs[k])] else [] := by
  unfold kindsOf
  rw [List.take_succ_eq_append_getElem hk, List.filterMap_append]
  by_cases h : 0 ≤ colAt l cs[k] <;> simp [h]
theorem kindsOf_le (l : List Col) (cs : List ByteArray) : (kindsOf l cs).length ≤ cs.length := List.length_filterMap_le _ _
theorem infoVK : (Tryz.prog.info? 35).map (fun i => (i.zero, i.size, i.bytes)) = some (some (.int .i64 0), 1, 8) := by kernel_rfl
def KindsPost (w : World) (ks : List Int) (e : Ending) (w' : World) : Prop := ∃ v, e = .returned v ∧ w'.ownsRow w.heap.size 35 1 v ks.length (ks.map (Value.int .i64)) ∧ Aft w w'
set_option maxHeartbeats 2000000 in
theorem kinds_any (A : Option Addr) (cap : Nat) (l : List Col) (A2 : Option Addr) (cap2 : Nat) (cs : List ByteArray) (w : World) (h : SlAt w 3 ColR A cap l) (h2 : SlAt w 1 StrR A2 cap2 cs) :
    Calls Tryz.prog 120 #[.slice A l.length cap, .slice A2 cs.length cap2] w (KindsPost w (kindsOf l cs)) := by
  have hlen := h.len
  have hlen2 := h2.len
  obtain ⟨i0, hi, hz0, hz1, hz2⟩ := info_parts infoVK
  have HI := Lib.hid hi
  have HZ0 := Lib.hid hz0
  have HZ1 := Lib.hid hz1
  have HZ2 := Lib.hid hz2
  clear hi hz0 hz1 hz2
  go_enter Tryz.func120, Tryz.ntmps120
  go_wp2_with fail
  go_loopw [5, 11] (fun v i wr => ∃ k : Nat, k ≤ cs.length ∧ i = .int .i64 k ∧ Aft w wr ∧ wr.ownsRow w.heap.size 35 1 v (kindsOf l (cs.take k)).length ((kindsOf l (cs.take k)).map (Value.int .i64))) (fun _ i _ => cs.length - (intOf i).toNat)
  case atStart => exact ⟨0, Nat.zero_le _, rfl, Aft.refl _, own_nil _ _ _ _⟩
  case round =>
    rename_i v _
    obtain ⟨k, hk, rfl, ha, hown⟩ := hrel
    have HA := Lib.hid ha
    have HO := Lib.hid hown
    clear hown
    by_cases hlt : k < cs.length
    · have hsl := cols_aft ha h
      have hsl2 := strs_aft ha h2
      clear ha
      obtain ⟨b, off, rfl, hb, c0, hss⟩ := str_at hsl2 hlt
      obtain ⟨i, hi⟩ : ∃ i, colAt l cs[k] = i := ⟨_, rfl⟩
      have Cby := Lib.hid (show Calls Tryz.prog 113 #[.slice A l.length cap, .string cs[k], .func (.func 114) #[] #[]] wr fun e w' => e = .returned (.int .i64 i) ∧ Aft wr w' from
        (byCol A cap l cs[k] wr hsl).mono fun e w' ⟨he, hw⟩ => ⟨he.trans (by rw [← hi]; rfl), hw⟩)
      have HS := Lib.hid (kindsOf_succ l cs k hlt)
      by_cases hi0 : 0 ≤ i
      · obtain ⟨q, hq⟩ := Int.eq_ofNat_of_zero_le hi0
        subst hq
        have hql : q < l.length := by have := (idxP_range (fun c => eqS c.name cs[k]) l).2; unfold colAt at hi; omega
        obtain ⟨b2, off2, rfl, hb2, d0, d1, d2, hss2⟩ := col_at hsl hql
        have HN := Lib.hid (show kindsOf l (cs.take (k + 1)) = kindsOf l (cs.take k) ++ [l[q].kind] by rw [HS.out, hi, if_pos hi0]; simp [kindAt, List.getElem?_eq_getElem hql])
        have hkl := kindsOf_le l (cs.take k)
        have hkl2 : (cs.take k).length ≤ k := List.length_take_le _ _
        clear hi hsl hsl2 HS
        go_wp2_with fail
        refine Cby.out.mono ?_
        rintro e w1 ⟨rfl, a1⟩
        have HA1 := Lib.hid (HA.out.trans a1)
        have HO1 := Lib.hid (own_aft HO.out a1)
        have d1' := (Below.cell a1 (p := ⟨b2, off2 + q * 3 + 1, none⟩) hb2).trans d1
        clear a1 d0 d1 d2 c0
        go_wp2_with (at_builtin; refine wpList_append_own _ rfl (.tmp 20) (.tmp 26) 168 rfl w.heap.size 35 i0 (.int .i64 0) 1 8 Tryz.underlying168 HI.out HZ0.out HZ1.out HZ2.out rfl (by decide) _ _ _ rfl (HO1.out.alloc _) ⟨w1.heap.size, 0, none⟩ 1 1 [.int .i64 l[q].kind] rfl rfl ?c1 ?c2 ?c3 ?c4 ?c5 ?_)
        case c1 => exact cell_one_new _ _ _
        case c2 => simp [Value.oneCell']
        case c3 => unfold maxLen; omega
        case c4 => omega
        case c5 => have := HA1.out.size; simp; omega
        intro v' w2 hown' hgrow _
        have HA2 := Lib.hid (aft_grown (HO1.out.alloc _) (HA1.out.alloc _) hgrow)
        have HO2 := Lib.hid hown'
        clear hown' hgrow
        go_wp2_with fail
        go_roundw
        case rel => exact ⟨k + 1, by omega, by go_num, HA2.out, by rw [HN.out]; simpa using HO2.out⟩
        case measure => simp [intOf]; omega
      · have HN := Lib.hid (show kindsOf l (cs.take (k + 1)) = kindsOf l (cs.take k) by rw [HS.out, hi, if_neg hi0, List.append_nil])
        clear hi hsl hsl2 HS
        go_wp2_with fail
        refine Cby.out.mono ?_
        rintro e w1 ⟨rfl, a1⟩
        have HA1 := Lib.hid (HA.out.trans a1)
        have HO1 := Lib.hid (own_aft HO.out a1)
        clear a1
        go_wp2_with fail
        go_roundw
        case rel => exact ⟨k + 1, by omega, by go_num, HA1.out, by rw [HN.out]; exact HO1.out⟩
        case measure => simp [intOf]; omega
    · clear ha
      go_wp2_with fail
      go_ret
      have e1 : cs.take k = cs := List.take_of_length_le (by omega)
      have ho := HO.out
      rw [e1] at ho
      exact ⟨_, rfl, ho, HA.out⟩
end Go.Proofs.YtiadkchlkdaceaaGreat

namespace Go.Proofs.YtiadkchlkdaceaaGreat
open Go.RowKit
set_option maxRecDepth 100000
set_option linter.unusedVariables false
def tabAt (l : List Tab) (s n : ByteArray) : Int := idxP (fun t => eqS t.schema s && eqS t.name n) l
set_option maxHeartbeats 1000000 in
theorem where1 (schema name owner : ByteArray) (A0 : Option Addr) (n0 c0 : Nat) (A1 : Option Addr) (n1 c1 : Nat) (s n : ByteArray) (b1 b2 : Nat) (w : World) (hb1 : b1 < w.heap.size) (hb2 : b2 < w.heap.size) (hc1 : w.cell? ⟨b1, 0, none⟩ = some (.string s)) (hc2 : w.cell? ⟨b2, 0, none⟩ = some (.string n)) :
    Calls Tryz.prog 94 #[.agg #[.string schema, .string name, .string owner, .slice A0 n0 c0, .slice A1 n1 c1], .pointer (some ⟨b1, 0, none⟩), .pointer (some ⟨b2, 0, none⟩)] w fun e w' => e = .returned (.bool (eqS schema s && eqS name n)) ∧ Aft w w' := by
  cases h1 : eqS schema s
  · have h1' : (schema.toList == s.toList) = false := h1
    clear h1
    go_enter Tryz.func94, Tryz.ntmps94
    go_wp2_with fail
    go_ret
    exact ⟨rfl, (Aft.refl _).alloc _⟩
  · have h1' : (schema.toList == s.toList) = true := h1
    clear h1
    go_enter Tryz.func94, Tryz.ntmps94
    go_wp2_with fail
    go_ret
    exact ⟨rfl, (Aft.refl _).alloc _⟩
theorem aft_three {w w' : World} {c : Array Value} {a b : Value} {t ta tb : TypeId} (h : Aft (((w.alloc (.cells c t)).alloc (.cells #[a] ta)).alloc (.cells #[b] tb)) w') :
    w'.cell? ⟨w.heap.size + 1, 0, none⟩ = some a ∧ w'.cell? ⟨w.heap.size + 1 + 1, 0, none⟩ = some b ∧ w.heap.size + 1 < w'.heap.size ∧ w.heap.size + 1 + 1 < w'.heap.size := by
  have := aft_two (w := w.alloc (.cells c t)) h
  simpa using this
set_option maxHeartbeats 1000000 in
theorem where_any (vs : Value) (A : Option Addr) (cap : Nat) (l : List Tab) (s n : ByteArray) (w : World) (h : SlAt w 5 TabR A cap l) :
    Calls Tryz.prog 59 #[.agg #[vs, .slice A l.length cap], .string s, .string n] w fun e w' => e = .returned (.tuple #[.int .i64 (tabAt l s n), .bool (decide (0 ≤ tabAt l s n))]) ∧ Aft w w' := by
  have hent := enters (P := Tryz.prog) Tryz.func94 (by kernel_rfl) rfl
  obtain ⟨i, hi⟩ : ∃ i, tabAt l s n = i := ⟨_, rfl⟩
  have C := Lib.hid ((idxTab A cap l 94 #[.pointer (some ⟨w.heap.size + 1, 0, none⟩), .pointer (some ⟨w.heap.size + 1 + 1, 0, none⟩)] (fun t => eqS t.schema s && eqS t.name n) (((w.alloc (.cells #[vs, .slice A l.length cap] 29)).alloc (.cells #[.string s] 9)).alloc (.cells #[.string n] 9)) (tabs_aft ((((Aft.refl w).alloc _).alloc _).alloc _) h) hent (fun w' ha j hj e1 he => by
    obtain ⟨A2, cap2, A3, cap3, rfl, _⟩ := he
    obtain ⟨d1, d2, z1, z2⟩ := aft_three ha
    exact where1 _ _ _ A2 _ cap2 A3 _ cap3 s n (w.heap.size + 1) (w.heap.size + 1 + 1) w' z1 z2 d1 d2)).mono (fun e w' ⟨he, hw⟩ => (⟨he.trans (by rw [← hi]; rfl), hw⟩ : e = Ending.returned (Value.int .i64 i) ∧ Aft _ w')))
  rw [hi]
  clear hi
  go_enter Tryz.func59, Tryz.ntmps59
  go_wp2_with fail
  refine C.out.mono ?_
  rintro e w1 ⟨rfl, a1⟩
  have HA := Lib.hid (((((Aft.refl w).alloc _).alloc _).alloc _).trans a1)
  clear a1
  go_wp2_with fail
  go_ret2
  exact ⟨rfl, HA.out⟩
/-- how many tables a schema has -/
def within (l : List Tab) (s : ByteArray) : Nat := (l.filter fun t => eqS t.schema s).length
theorem within_succ (l : List Tab) (s : ByteArray) (k : Nat) (hk : k < l.length) : within (l.take (k + 1)) s = within (l.take k) s + if eqS l[k].schema s = true then 1 else 0 := by
  unfold within
  rw [List.take_succ_eq_append_getElem hk, List.filter_append, List.length_append]
  by_cases h : eqS l[k].schema s = true <;> simp [h]
theorem within_le (l : List Tab) (s : ByteArray) : within l s ≤ l.length := List.length_filter_le _ _
set_option maxHeartbeats 1000000 in
theorem within_any (vs : Value) (A : Option Addr) (cap : Nat) (l : List Tab) (s : ByteArray) (w : World) (h : SlAt w 5 TabR A cap l) :
    Calls Tryz.prog 57 #[.agg #[vs, .slice A l.length cap], .string s] w fun e w' => e = .returned (.int .i64 (within l s)) ∧ Aft w w' := by
  have hlen := h.len
  go_enter Tryz.func57, Tryz.ntmps57
  go_wp2_with fail
  go_loopw [5, 11] (fun n i wr => ∃ k : Nat, k ≤ l.length ∧ i = .int .i64 k ∧ n = .int .i64 (within (l.take k) s) ∧ Aft w wr) (fun _ i _ => l.length - (intOf i).toNat)
  case atStart => exact ⟨0, Nat.zero_le _, rfl, rfl, (Aft.refl _).alloc _⟩
  case round =>
    obtain ⟨k, hk, rfl, rfl, ha⟩ := hrel
    have HA := Lib.hid ha
    have hw := within_le (l.take k) s
    have hw2 : (l.take k).length ≤ k := List.length_take_le _ _
    by_cases hlt : k < l.length
    · have hsl := tabs_aft ha h
      clear ha
      obtain ⟨b, off, A2, cap2, A3, cap3, rfl, hb, c0, c1, c2, c3, c4, hs⟩ := tab_at hsl hlt
      clear hsl hs
      have HS := Lib.hid (within_succ l s k hlt)
      cases heq : eqS l[k].schema s
      · have h2 : (l[k].schema.toList == s.toList) = false := heq
        have HN := Lib.hid (show within (l.take (k + 1)) s = within (l.take k) s by rw [HS.out, heq]; simp)
        clear heq HS
        go_wp2_with fail
        go_roundw
        case rel => exact ⟨k + 1, by omega, by go_num, by rw [HN.out], HA.out.alloc _⟩
        case measure => simp [intOf]; omega
      · have h2 : (l[k].schema.toList == s.toList) = true := heq
        have HN := Lib.hid (show within (l.take (k + 1)) s = within (l.take k) s + 1 by rw [HS.out, heq]; simp)
        clear heq HS
        go_wp2_with fail
        go_roundw
        case rel => exact ⟨k + 1, by omega, by go_num, by rw [HN.out]; go_num, HA.out.alloc _⟩
        case measure => simp [intOf]; omega
    · clear ha
      go_wp2_with fail
      go_ret
      exact ⟨by rw [List.take_of_length_le (by omega)]; rfl, HA.out⟩
end Go.Proofs.YtiadkchlkdaceaaGreat

namespace Go.Proofs.YtiadkchlkdaceaaGreat
open Go.RowKit
set_option maxRecDepth 100000
set_option linter.unusedVariables false
def cmpS (a b : ByteArray) : Int := Lib.compareBytes a.data.toList b.data.toList
set_option maxHeartbeats 400000 in
theorem cmpString (a b : ByteArray) (w : World) :
    Calls Tryz.prog 83 #[.string a, .string b] w fun e w' => e = .returned (.int .i64 (cmpS a b)) ∧ w = w' := by
  go_enter Tryz.func83, Tryz.ntmps83
  go_wp2
  rw [run_callFunc_extern Tryz.func110 (by kernel_rfl) (by kernel_rfl) (by kernel_rfl) (e := Extern.BytealgCompare.compare) (by kernel_rfl), Lib.run_compareString]
  simp only [Result.andThen]
  rw [Oper.upon_value]
  go_wp2
  go_ret
  exact ⟨rfl, rfl⟩
theorem compare_any (a b : ByteArray) (w : World) :
    Calls Tryz.prog 55 #[.string a, .string b] w fun e w' => e = .returned (.int .i64 (cmpS a b)) ∧ w = w' := by
  go_enter Tryz.func55, Tryz.ntmps55
  go_wp2_with (go_at_call 83; refine (cmpString _ _ _).mono ?_; rintro e w' ⟨rfl, rfl⟩)
  go_ret
  exact ⟨rfl, rfl⟩
theorem compare_still (a b : ByteArray) (w : World) :
    Calls Tryz.prog 55 #[.string a, .string b] w fun e w' => e = .returned (.int .i64 (cmpS a b)) ∧ w' = w := (compare_any a b w).mono fun e w' ⟨h1, h2⟩ => ⟨h1, h2.symm⟩
/-- the first that is not 0 -/
def or2 (a b : Int) : Int := if a == 0 then b else a
set_option maxHeartbeats 1000000 in
theorem or_any (a b : Int) (g : Nat) (w : World) (hg : g < w.heap.size) (h0 : w.cell? ⟨g, 0, none⟩ = some (.int .i64 a)) (h1 : w.cell? ⟨g, 1, none⟩ = some (.int .i64 b)) :
    Calls Tryz.prog 82 #[.slice (some ⟨g, 0, none⟩) 2 2] w fun e w' => e = .returned (.int .i64 (or2 a b)) ∧ Aft w w' := by
  cases ha : (a != 0)
  · have ha0 : a = 0 := by simpa using ha
    subst ha0
    have HO := Lib.hid (show or2 0 b = b by simp [or2])
    clear ha
    cases hb : (b != 0)
    · have hb0 : b = 0 := by simpa using hb
      subst hb0
      clear hb
      go_enter Tryz.func82, Tryz.ntmps82
      go_wp2_with fail
      go_loop [8] (fun i => ∃ k : Nat, k ≤ 2 ∧ i = .int .i64 k) (fun i => 2 - (intOf i).toNat)
      case atStart => exact ⟨0, by omega, rfl⟩
      case round =>
        obtain ⟨k, hk, rfl⟩ := hrel
        have hk2 : k = 0 ∨ k = 1 ∨ k = 2 := by omega
        clear hk
        rcases hk2 with rfl | rfl | rfl
        · go_wp2_with fail
          go_round
          case rel => exact ⟨1, by omega, rfl⟩
          case measure => simp [intOf]
        · go_wp2_with fail
          go_round
          case rel => exact ⟨2, by omega, rfl⟩
          case measure => simp [intOf]
        · go_wp2_with fail
          go_ret
          exact ⟨by rw [HO.out]; rfl, Aft.refl _⟩
    · go_enter Tryz.func82, Tryz.ntmps82
      go_wp2_with fail
      go_loop [8] (fun i => ∃ k : Nat, k ≤ 1 ∧ i = .int .i64 k) (fun i => 2 - (intOf i).toNat)
      case atStart => exact ⟨0, by omega, rfl⟩
      case round =>
        obtain ⟨k, hk, rfl⟩ := hrel
        have hk2 : k = 0 ∨ k = 1 := by omega
        clear hk
        rcases hk2 with rfl | rfl
        · go_wp2_with fail
          go_round
          case rel => exact ⟨1, by omega, rfl⟩
          case measure => simp [intOf]
        · go_wp2_with fail
          go_ret
          exact ⟨by rw [HO.out]; rfl, Aft.refl _⟩
  · have HO := Lib.hid (show or2 a b = a by have : ¬ a = 0 := (by simpa using ha); simp [or2, this])
    go_enter Tryz.func82, Tryz.ntmps82
    go_wp2_with fail
    go_loop [8] (fun i => i = .int .i64 0) (fun i => 2 - (intOf i).toNat)
    case atStart => rfl
    case round =>
      subst hrel
      go_wp2_with fail
      go_ret
      exact ⟨by rw [HO.out]; rfl, Aft.refl _⟩
set_option maxHeartbeats 1000000 in
theorem order_any (s1 n1 o1 : ByteArray) (v1 v2 : Value) (s2 n2 o2 : ByteArray) (v3 v4 : Value) (w : World) :
    Calls Tryz.prog 52 #[.agg #[.string s1, .string n1, .string o1, v1, v2], .agg #[.string s2, .string n2, .string o2, v3, v4]] w fun e w' => e = .returned (.int .i64 (or2 (cmpS s1 s2) (cmpS n1 n2))) ∧ Aft w w' := by
  go_enter Tryz.func52, Tryz.ntmps52
  go_wp2_with fail
  refine wp_region_tail 10 (by kernel_rfl) (by kernel_rfl) ?_
  intro w1 a1
  obtain ⟨hb1, hb2, hz, HA⟩ := aft_box2 a1
  clear a1
  simp only [List.take_succ_cons, List.take_zero, List.drop_succ_cons, List.drop_zero]
  repeat still_step
  still_call (compare_still _ _ _)
  repeat still_step
  still_call (compare_still _ _ _)
  refine wpStill_nil ?_
  go_wp2_with fail
  refine (or_any (cmpS s1 s2) (cmpS n1 n2) w1.heap.size _ (by simp) (by simp) (by simp)).mono ?_
  rintro e w2 ⟨rfl, a2⟩
  have HA2 := Lib.hid ((HA.out.alloc _).trans a2)
  clear a2
  go_wp2_with fail
  go_ret
  exact ⟨rfl, HA2.out⟩
end Go.Proofs.YtiadkchlkdaceaaGreat

namespace Go.Proofs.YtiadkchlkdaceaaGreat
open Go.RowKit
set_option maxRecDepth 100000
set_option linter.unusedVariables false
/-- does a row rise? -/
def risesB {α : Type} (c : α → α → Int) : List α → Bool
  | [] => true
  | [_] => true
  | x :: y :: l => decide (c x y < 0) && risesB c (y :: l)
theorem risesB_iff {α : Type} (c : α → α → Int) (l : List α) : risesB c l = true ↔ ∀ k (h : k + 1 < l.length), c (l[k]'(by omega)) l[k + 1] < 0 := by
  induction l with
  | nil => simp [risesB]
  | cons x l ih =>
    cases l with
    | nil => simp [risesB]
    | cons y l =>
      rw [risesB, Bool.and_eq_true, ih, decide_eq_true_eq]
      constructor
      · rintro ⟨h1, h2⟩ k hk
        cases k with
        | zero => exact h1
        | succ k => exact h2 k (by simpa using hk)
      · intro h
        exact ⟨h 0 (by simp), fun k hk => h (k + 1) (by simpa using hk)⟩
theorem risesB_false {α : Type} (c : α → α → Int) (l : List α) (k : Nat) (h : k + 1 < l.length) (hc : 0 ≤ c (l[k]'(by omega)) l[k + 1]) : risesB c l = false := by
  rw [Bool.eq_false_iff]
  intro hr
  have := (risesB_iff c l).1 hr k h
  omega
set_option maxHeartbeats 1000000 in
theorem risesSch (A : Option Addr) (cap : Nat) (l : List Sch) (g : FuncId) (caps : Array Value) (c : Sch → Sch → Int) (w : World) (h : SlAt w 2 SchR A cap l) (hent : ∀ (args : Array Value) (w : World), (callFunc g args).run Tryz.prog w = .ok (.enter g args) w)
    (hp : ∀ w', Aft w w' → ∀ i (hi : i + 1 < l.length), Calls Tryz.prog g (#[.agg #[.string (l[i]'(by omega)).name, .string (l[i]'(by omega)).owner], .agg #[.string l[i + 1].name, .string l[i + 1].owner]] ++ caps) w' fun e w'' => e = .returned (.int .i64 (c (l[i]'(by omega)) l[i + 1])) ∧ Aft w' w'') :
    Calls Tryz.prog 53 #[.slice A l.length cap, .func (.func g) #[] caps] w fun e w' => e = .returned (.bool (risesB c l)) ∧ Aft w w' := by
  have hlen := h.len
  have HC := Lib.hid hp
  clear hp
  by_cases h2 : l.length ≤ 1
  · have HT := Lib.hid (show risesB c l = true from (risesB_iff c l).2 fun k hk => by omega)
    have hi2 : (l.length : Int) ≤ 1 := by omega
    go_enter Tryz.func53, Tryz.ntmps53
    go_wp2_with fail
    all_goals
      go_loop [10] (fun i => i = .int .i64 0) (fun i => 2 - (intOf i).toNat)
      case atStart => rfl
      case round =>
        subst hrel
        go_wp2_with fail
        go_ret
        exact ⟨by rw [HT.out]; rfl, Aft.refl _⟩
  · have hge : 2 ≤ l.length := by omega
    have hi2 : ¬ (l.length : Int) ≤ 1 := by omega
    have hi3 : (0 : Int) ≤ (l.length : Int) - 1 := by omega
    go_enter Tryz.func53, Tryz.ntmps53
    go_wp2_with fail
    go_loopw [10] (fun i wr => ∃ k : Nat, k ≤ l.length - 1 ∧ i = .int .i64 k ∧ Aft w wr ∧ ∀ j, j < k → ∀ (hj : j + 1 < l.length), c (l[j]'(by omega)) l[j + 1] < 0) (fun i _ => l.length - (intOf i).toNat)
    case atStart => exact ⟨0, Nat.zero_le _, rfl, Aft.refl _, fun j hj => absurd hj (Nat.not_lt_zero j)⟩
    case round =>
      obtain ⟨k, hk, rfl, ha, hp⟩ := hrel
      have HA := Lib.hid ha
      have HP := Lib.hid hp; clear hp
      by_cases hlt : k + 1 < l.length
      · have hsl := schs_aft ha h
        have hk1 : k < l.length := by omega
        obtain ⟨b, off, rfl, hb, c0, c1, hs, hs2⟩ := sch_at hsl hk1
        obtain ⟨b', off', hA', hb', d0, d1, hs', hs2'⟩ := sch_at hsl hlt
        simp only [Option.some.injEq, Addr.mk.injEq, and_true] at hA'
        obtain ⟨rfl, rfl⟩ := hA'
        obtain ⟨r, hr⟩ : ∃ r, c (l[k]'(by omega)) l[k + 1] = r := ⟨_, rfl⟩
        have Cc := Lib.hid (show ∀ x : Lat wr, _ from fun x => hr ▸ HC.out (lat wr x) (HA.out.lat x) k hlt)
        have HR := Lib.hid hr
        clear ha hsl hr
        have w1 : IntKind.i64.wrap ((k : Int) + 1) = (k : Int) + 1 := IntWalk.i64_in _ (by omega)
        have w2 : (0 : Int) ≤ (k : Int) + 1 := by omega
        have w3 : ((k : Int) + 1).toNat = k + 1 := by omega
        have w4 : (k : Int) + 1 < (l.length : Int) := by omega
        by_cases hr0 : 0 ≤ r
        · skip
          go_wp2_with fail
          refine wp_region_lat (by kernel_rfl) (by kernel_rfl) ?_
          repeat (go_big_quiet_step ((exact Calls.lat_of (Cc.out _))))
          refine wpQuiet_nil ?_
          intro _ hw'
          obtain ⟨x, hw''⟩ := hw'
          subst hw''
          clear w1 w2 w3 w4
          go_wp2_with fail
          go_ret
          exact ⟨by rw [risesB_false c l k hlt (by rw [HR.out]; exact hr0)]; rfl, HA.out.lat x⟩
        · have hr1 : r < 0 := by omega
          go_wp2_with fail
          refine wp_region_lat (by kernel_rfl) (by kernel_rfl) ?_
          repeat (go_big_quiet_step ((exact Calls.lat_of (Cc.out _))))
          refine wpQuiet_nil ?_
          intro _ hw'
          obtain ⟨x, hw''⟩ := hw'
          subst hw''
          clear w1 w2 w3 w4
          go_wp2_with fail
          go_roundw
          case rel => exact ⟨k + 1, by omega, by go_num, HA.out.lat x, ext_lt (p := fun j => ∀ (hj : j + 1 < l.length), c (l[j]'(by omega)) l[j + 1] < 0) HP.out (fun _ => by rw [HR.out]; exact hr1)⟩
          case measure => simp [intOf]; omega
      · have HT := Lib.hid (show risesB c l = true from (risesB_iff c l).2 fun j hj => HP.out j (by omega) hj)
        have hge2 : ¬ (k : Int) < (l.length : Int) - 1 := by omega
        clear ha
        go_wp2_with fail
        go_ret
        exact ⟨by rw [HT.out]; rfl, HA.out⟩
set_option maxHeartbeats 1000000 in
theorem risesRul (A : Option Addr) (cap : Nat) (l : List Rul) (g : FuncId) (caps : Array Value) (c : Rul → Rul → Int) (w : World) (h : SlAt w 8 RulR A cap l) (hent : ∀ (args : Array Value) (w : World), (callFunc g args).run Tryz.prog w = .ok (.enter g args) w)
    (hp : ∀ w', Aft w w' → ∀ i (hi : i + 1 < l.length) (e1 e2 : List Value), RulR w' e1 (l[i]'(by omega)) → RulR w' e2 l[i + 1] → Calls Tryz.prog g (#[.agg e1.toArray, .agg e2.toArray] ++ caps) w' fun e w'' => e = .returned (.int .i64 (c (l[i]'(by omega)) l[i + 1])) ∧ Aft w' w'') :
    Calls Tryz.prog 91 #[.slice A l.length cap, .func (.func g) #[] caps] w fun e w' => e = .returned (.bool (risesB c l)) ∧ Aft w w' := by
  have hlen := h.len
  have HC := Lib.hid hp
  clear hp
  by_cases h2 : l.length ≤ 1
  · have HT := Lib.hid (show risesB c l = true from (risesB_iff c l).2 fun k hk => by omega)
    have hi2 : (l.length : Int) ≤ 1 := by omega
    go_enter Tryz.func91, Tryz.ntmps91
    go_wp2_with fail
    all_goals
      go_loop [10] (fun i => i = .int .i64 0) (fun i => 2 - (intOf i).toNat)
      case atStart => rfl
      case round =>
        subst hrel
        go_wp2_with fail
        go_ret
        exact ⟨by rw [HT.out]; rfl, Aft.refl _⟩
  · have hge : 2 ≤ l.length := by omega
    have hi2 : ¬ (l.length : Int) ≤ 1 := by omega
    have hi3 : (0 : Int) ≤ (l.length : Int) - 1 := by omega
    go_enter Tryz.func91, Tryz.ntmps91
    go_wp2_with fail
    go_loopw [10] (fun i wr => ∃ k : Nat, k ≤ l.length - 1 ∧ i = .int .i64 k ∧ Aft w wr ∧ ∀ j, j < k → ∀ (hj : j + 1 < l.length), c (l[j]'(by omega)) l[j + 1] < 0) (fun i _ => l.length - (intOf i).toNat)
    case atStart => exact ⟨0, Nat.zero_le _, rfl, Aft.refl _, fun j hj => absurd hj (Nat.not_lt_zero j)⟩
    case round =>
      obtain ⟨k, hk, rfl, ha, hp⟩ := hrel
      have HA := Lib.hid ha
      have HP := Lib.hid hp; clear hp
      by_cases hlt : k + 1 < l.length
      · have hsl := ruls_aft ha h
        have hk1 : k < l.length := by omega
        obtain ⟨b, off, A2, cap2, rfl, hb, c0, c1, c2, c3, c4, c5, c6, c7, hs⟩ := rul_at hsl hk1
        obtain ⟨b', off', A2', cap2', hA', hb', d0, d1, d2, d3, d4, d5, d6, d7, hs'⟩ := rul_at hsl hlt
        simp only [Option.some.injEq, Addr.mk.injEq, and_true] at hA'
        obtain ⟨rfl, rfl⟩ := hA'
        obtain ⟨r, hr⟩ : ∃ r, c (l[k]'(by omega)) l[k + 1] = r := ⟨_, rfl⟩
        have Cc := Lib.hid (show ∀ x : Lat wr, _ from fun x => hr ▸ HC.out (lat wr x) (HA.out.lat x) k hlt _ _ (RulR.aft ((Aft.refl wr).lat x) ⟨A2, cap2, rfl, hs⟩) (RulR.aft ((Aft.refl wr).lat x) ⟨A2', cap2', rfl, hs'⟩))
        have HR := Lib.hid hr
        clear ha hsl hr
        have w1 : IntKind.i64.wrap ((k : Int) + 1) = (k : Int) + 1 := IntWalk.i64_in _ (by omega)
        have w2 : (0 : Int) ≤ (k : Int) + 1 := by omega
        have w3 : ((k : Int) + 1).toNat = k + 1 := by omega
        have w4 : (k : Int) + 1 < (l.length : Int) := by omega
        by_cases hr0 : 0 ≤ r
        · skip
          go_wp2_with fail
          refine wp_region_lat (by kernel_rfl) (by kernel_rfl) ?_
          repeat (go_big_quiet_step ((exact Calls.lat_of (Cc.out _))))
          refine wpQuiet_nil ?_
          intro _ hw'
          obtain ⟨x, hw''⟩ := hw'
          subst hw''
          clear w1 w2 w3 w4
          go_wp2_with fail
          go_ret
          exact ⟨by rw [risesB_false c l k hlt (by rw [HR.out]; exact hr0)]; rfl, HA.out.lat x⟩
        · have hr1 : r < 0 := by omega
          go_wp2_with fail
          refine wp_region_lat (by kernel_rfl) (by kernel_rfl) ?_
          repeat (go_big_quiet_step ((exact Calls.lat_of (Cc.out _))))
          refine wpQuiet_nil ?_
          intro _ hw'
          obtain ⟨x, hw''⟩ := hw'
          subst hw''
          clear w1 w2 w3 w4
          go_wp2_with fail
          go_roundw
          case rel => exact ⟨k + 1, by omega, by go_num, HA.out.lat x, ext_lt (p := fun j => ∀ (hj : j + 1 < l.length), c (l[j]'(by omega)) l[j + 1] < 0) HP.out (fun _ => by rw [HR.out]; exact hr1)⟩
          case measure => simp [intOf]; omega
      · have HT := Lib.hid (show risesB c l = true from (risesB_iff c l).2 fun j hj => HP.out j (by omega) hj)
        have hge2 : ¬ (k : Int) < (l.length : Int) - 1 := by omega
        clear ha
        go_wp2_with fail
        go_ret
        exact ⟨by rw [HT.out]; rfl, HA.out⟩
set_option maxHeartbeats 1000000 in
theorem risesTab (A : Option Addr) (cap : Nat) (l : List Tab) (g : FuncId) (caps : Array Value) (c : Tab → Tab → Int) (w : World) (h : SlAt w 5 TabR A cap l) (hent : ∀ (args : Array Value) (w : World), (callFunc g args).run Tryz.prog w = .ok (.enter g args) w)
    (hp : ∀ w', Aft w w' → ∀ i (hi : i + 1 < l.length) (e1 e2 : List Value), TabR w' e1 (l[i]'(by omega)) → TabR w' e2 l[i + 1] → Calls Tryz.prog g (#[.agg e1.toArray, .agg e2.toArray] ++ caps) w' fun e w'' => e = .returned (.int .i64 (c (l[i]'(by omega)) l[i + 1])) ∧ Aft w' w'') :
    Calls Tryz.prog 51 #[.slice A l.length cap, .func (.func g) #[] caps] w fun e w' => e = .returned (.bool (risesB c l)) ∧ Aft w w' := by
  have hlen := h.len
  have HC := Lib.hid hp
  clear hp
  by_cases h2 : l.length ≤ 1
  · have HT := Lib.hid (show risesB c l = true from (risesB_iff c l).2 fun k hk => by omega)
    have hi2 : (l.length : Int) ≤ 1 := by omega
    go_enter Tryz.func51, Tryz.ntmps51
    go_wp2_with fail
    all_goals
      go_loop [10] (fun i => i = .int .i64 0) (fun i => 2 - (intOf i).toNat)
      case atStart => rfl
      case round =>
        subst hrel
        go_wp2_with fail
        go_ret
        exact ⟨by rw [HT.out]; rfl, Aft.refl _⟩
  · have hge : 2 ≤ l.length := by omega
    have hi2 : ¬ (l.length : Int) ≤ 1 := by omega
    have hi3 : (0 : Int) ≤ (l.length : Int) - 1 := by omega
    go_enter Tryz.func51, Tryz.ntmps51
    go_wp2_with fail
    go_loopw [10] (fun i wr => ∃ k : Nat, k ≤ l.length - 1 ∧ i = .int .i64 k ∧ Aft w wr ∧ ∀ j, j < k → ∀ (hj : j + 1 < l.length), c (l[j]'(by omega)) l[j + 1] < 0) (fun i _ => l.length - (intOf i).toNat)
    case atStart => exact ⟨0, Nat.zero_le _, rfl, Aft.refl _, fun j hj => absurd hj (Nat.not_lt_zero j)⟩
    case round =>
      obtain ⟨k, hk, rfl, ha, hp⟩ := hrel
      have HA := Lib.hid ha
      have HP := Lib.hid hp; clear hp
      by_cases hlt : k + 1 < l.length
      · have hsl := tabs_aft ha h
        have hk1 : k < l.length := by omega
        obtain ⟨b, off, A2, cap2, A3, cap3, rfl, hb, c0, c1, c2, c3, c4, hs⟩ := tab_at hsl hk1
        obtain ⟨b', off', A2', cap2', A3', cap3', hA', hb', d0, d1, d2, d3, d4, hs'⟩ := tab_at hsl hlt
        simp only [Option.some.injEq, Addr.mk.injEq, and_true] at hA'
        obtain ⟨rfl, rfl⟩ := hA'
        obtain ⟨r, hr⟩ : ∃ r, c (l[k]'(by omega)) l[k + 1] = r := ⟨_, rfl⟩
        have Cc := Lib.hid (show ∀ x : Lat wr, _ from fun x => hr ▸ HC.out (lat wr x) (HA.out.lat x) k hlt _ _ (TabR.aft ((Aft.refl wr).lat x) ⟨A2, cap2, A3, cap3, rfl, hs⟩) (TabR.aft ((Aft.refl wr).lat x) ⟨A2', cap2', A3', cap3', rfl, hs'⟩))
        have HR := Lib.hid hr
        clear ha hsl hr
        have w1 : IntKind.i64.wrap ((k : Int) + 1) = (k : Int) + 1 := IntWalk.i64_in _ (by omega)
        have w2 : (0 : Int) ≤ (k : Int) + 1 := by omega
        have w3 : ((k : Int) + 1).toNat = k + 1 := by omega
        have w4 : (k : Int) + 1 < (l.length : Int) := by omega
        by_cases hr0 : 0 ≤ r
        · skip
          go_wp2_with fail
          refine wp_region_lat (by kernel_rfl) (by kernel_rfl) ?_
          repeat (go_big_quiet_step ((exact Calls.lat_of (Cc.out _))))
          refine wpQuiet_nil ?_
          intro _ hw'
          obtain ⟨x, hw''⟩ := hw'
          subst hw''
          clear w1 w2 w3 w4
          go_wp2_with fail
          go_ret
          exact ⟨by rw [risesB_false c l k hlt (by rw [HR.out]; exact hr0)]; rfl, HA.out.lat x⟩
        · have hr1 : r < 0 := by omega
          go_wp2_with fail
          refine wp_region_lat (by kernel_rfl) (by kernel_rfl) ?_
          repeat (go_big_quiet_step ((exact Calls.lat_of (Cc.out _))))
          refine wpQuiet_nil ?_
          intro _ hw'
          obtain ⟨x, hw''⟩ := hw'
          subst hw''
          clear w1 w2 w3 w4
          go_wp2_with fail
          go_roundw
          case rel => exact ⟨k + 1, by omega, by go_num, HA.out.lat x, ext_lt (p := fun j => ∀ (hj : j + 1 < l.length), c (l[j]'(by omega)) l[j + 1] < 0) HP.out (fun _ => by rw [HR.out]; exact hr1)⟩
          case measure => simp [intOf]; omega
      · have HT := Lib.hid (show risesB c l = true from (risesB_iff c l).2 fun j hj => HP.out j (by omega) hj)
        have hge2 : ¬ (k : Int) < (l.length : Int) - 1 := by omega
        clear ha
        go_wp2_with fail
        go_ret
        exact ⟨by rw [HT.out]; rfl, HA.out⟩
end Go.Proofs.YtiadkchlkdaceaaGreat

namespace Go.Proofs.YtiadkchlkdaceaaGreat
open Go.RowKit
set_option linter.unusedVariables false
def ltS (a b : ByteArray) : Bool := Op.bytesLess a.toList b.toList
theorem cmpB_lt : ∀ (a b : List UInt8), decide (Lib.compareBytes a b < 0) = Op.bytesLess a b
  | [], [] => rfl
  | [], _ :: _ => rfl
  | _ :: _, [] => rfl
  | x :: a, y :: b => by
    unfold Lib.compareBytes Op.bytesLess
    by_cases h : x < y
    · simp [h]
    · by_cases h2 : y < x
      · have h3 : ¬ x = y := fun e => by subst e; exact UInt8.lt_irrefl _ h2
        simp [h, h2, h3]
      · have h3 : x = y := UInt8.le_antisymm (UInt8.not_lt.1 h2) (UInt8.not_lt.1 h)
        subst h3
        have := cmpB_lt a b
        simp [UInt8.lt_irrefl, this]
theorem cmpB_eq : ∀ (a b : List UInt8), (Lib.compareBytes a b = 0) ↔ a = b
  | [], [] => by simp [Lib.compareBytes]
  | [], _ :: _ => by simp [Lib.compareBytes]
  | _ :: _, [] => by simp [Lib.compareBytes]
  | x :: a, y :: b => by
    unfold Lib.compareBytes
    by_cases h : x < y
    · have h3 : ¬ x = y := fun e => by subst e; exact UInt8.lt_irrefl _ h
      simp [h, h3]
    · by_cases h2 : y < x
      · have h3 : ¬ x = y := fun e => by subst e; exact UInt8.lt_irrefl _ h2
        simp [h, h2, h3]
      · have h3 : x = y := UInt8.le_antisymm (UInt8.not_lt.1 h2) (UInt8.not_lt.1 h)
        subst h3
        have := cmpB_eq a b
        simp [UInt8.lt_irrefl, this]
theorem cmpB_anti : ∀ (a b : List UInt8), Lib.compareBytes a b = - Lib.compareBytes b a
  | [], [] => rfl
  | [], _ :: _ => rfl
  | _ :: _, [] => rfl
  | x :: a, y :: b => by
    unfold Lib.compareBytes
    by_cases h : x < y
    · have h2 : ¬ y < x := UInt8.lt_asymm h
      simp [h, h2]
    · by_cases h2 : y < x
      · simp [h, h2]
      · simp [h, h2]; exact cmpB_anti a b
theorem cmpB_trans : ∀ (a b c : List UInt8), Lib.compareBytes a b < 0 → Lib.compareBytes b c < 0 → Lib.compareBytes a c < 0
  | [], [], c => fun h => by simp [Lib.compareBytes] at h
  | [], _ :: _, [] => fun _ h => by simp [Lib.compareBytes] at h
  | [], _ :: _, _ :: _ => fun _ _ => by simp [Lib.compareBytes]
  | _ :: _, [], c => fun h => by simp [Lib.compareBytes] at h
  | _ :: _, _ :: _, [] => fun _ h => by simp [Lib.compareBytes] at h
  | x :: a, y :: b, z :: c => by
    unfold Lib.compareBytes
    intro h1 h2
    by_cases xy : x < y
    · by_cases yz : y < z
      · have := UInt8.lt_trans xy yz; simp [this]
      · simp only [yz, if_false] at h2
        by_cases zy : z < y
        · simp [zy] at h2
        · have e : y = z := UInt8.le_antisymm (UInt8.not_lt.1 zy) (UInt8.not_lt.1 yz)
          subst e; simp [xy]
    · simp only [xy, if_false] at h1
      by_cases yx : y < x
      · simp [yx] at h1
      · have e : x = y := UInt8.le_antisymm (UInt8.not_lt.1 yx) (UInt8.not_lt.1 xy)
        subst e
        simp only [yx, if_false] at h1
        by_cases yz : x < z
        · simp [yz]
        · simp only [yz, if_false] at h2 ⊢
          by_cases zy : z < x
          · simp [zy] at h2
          · simp only [zy, if_false] at h2 ⊢
            exact cmpB_trans a b c h1 h2
theorem cmpS_lt (a b : ByteArray) : decide (cmpS a b < 0) = ltS a b := by
  unfold cmpS ltS
  rw [Lib.toList_data, Lib.toList_data]; exact cmpB_lt _ _
theorem cmpS_eq (a b : ByteArray) : (cmpS a b = 0) ↔ eqS a b = true := by
  unfold cmpS eqS
  rw [Lib.toList_data, Lib.toList_data, cmpB_eq]; simp
theorem cmpS_lt_iff (a b : ByteArray) : cmpS a b < 0 ↔ ltS a b = true := by rw [← cmpS_lt]; simp
theorem cmpS_anti (a b : ByteArray) : cmpS a b = - cmpS b a := cmpB_anti _ _
theorem cmpS_trans {a b c : ByteArray} (h1 : cmpS a b < 0) (h2 : cmpS b c < 0) : cmpS a c < 0 := cmpB_trans _ _ _ h1 h2
/-- the order of pairs: less, spelt as the document does -/
theorem or2_lt (a b c d : ByteArray) : decide (or2 (cmpS a b) (cmpS c d) < 0) = (!(!(ltS a b || eqS a b)) && !(eqS a b && !(ltS c d))) := by
  unfold or2
  by_cases h : cmpS a b = 0
  · have he := (cmpS_eq a b).1 h
    have hl : ltS a b = false := by rw [← cmpS_lt, h]; rfl
    simp only [h, beq_self_eq_true, if_true, he, hl]
    rw [← cmpS_lt c d]; simp
  · have he : eqS a b = false := by rw [Bool.eq_false_iff]; intro e; exact h ((cmpS_eq a b).2 e)
    have h' : (cmpS a b == 0) = false := beq_eq_false_iff_ne.2 h
    simp only [h', he]
    rw [← cmpS_lt a b]; simp
end Go.Proofs.YtiadkchlkdaceaaGreat

