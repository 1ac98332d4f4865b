/- Has a row the form of columns? rows.beside, formed, place, Fit$1; the document's Form. -/
import Derived.Test.YtodifdofgjfkiaaVal
import Derived.Test.YtodifdofgjfkiaaBy
namespace Go.Proofs.Ytodifdofgjfkiaa
open Go.RowKit
set_option maxRecDepth 100000
set_option linter.unusedVariables false
theorem Aft.cell_keep {w w' : World} (h : Aft w w') {a : Addr} {v : Value} (hc : w.cell? a = some v) : w'.cell? a = some v := (Below.cell h (World.block_lt_of_cell? w a hc)).trans hc
def besideB (p : Col → Val → Bool) : List Col → List Val → Bool
  | [], [] => true
  | a :: l, b :: m => p a b && besideB p l m
  | _, _ => false
theorem besideB_len (p : Col → Val → Bool) : ∀ (l : List Col) (m : List Val), ¬ l.length = m.length → besideB p l m = false
  | [], [], h => absurd rfl h
  | [], _ :: _, _ => rfl
  | _ :: _, [], _ => rfl
  | a :: l, b :: m, h => by rw [besideB, besideB_len p l m (by simpa using h), Bool.and_false]
theorem besideB_false (p : Col → Val → Bool) : ∀ (l : List Col) (m : List Val) (k : Nat) (h1 : k < l.length) (h2 : k < m.length), p l[k] m[k] = false → besideB p l m = false
  | [], _, _, h, _, _ => by simp at h
  | _ :: _, [], _, _, h, _ => by simp at h
  | a :: l, b :: m, 0, _, _, h => by rw [besideB, show p a b = false from h]; rfl
  | a :: l, b :: m, k + 1, h1, h2, h => by rw [besideB, besideB_false p l m k (by simpa using h1) (by simpa using h2) h, Bool.and_false]
theorem besideB_true (p : Col → Val → Bool) : ∀ (l : List Col) (m : List Val), l.length = m.length → (∀ k (h1 : k < l.length) (h2 : k < m.length), p l[k] m[k] = true) → besideB p l m = true
  | [], [], _, _ => rfl
  | [], _ :: _, h, _ => by simp at h
  | _ :: _, [], h, _ => by simp at h
  | a :: l, b :: m, h, hp => by
    rw [besideB, show p a b = true from hp 0 (by simp) (by simp), besideB_true p l m (by simpa using h) fun k h1 h2 => hp (k + 1) (Nat.succ_lt_succ h1) (Nat.succ_lt_succ h2)]; rfl
theorem besideB_iff (p : Col → Val → Bool) (l : List Col) (m : List Val) : besideB p l m = true ↔ l.length = m.length ∧ ∀ k (h1 : k < l.length) (h2 : k < m.length), p l[k] m[k] = true := by
  constructor
  · intro h
    have hl : l.length = m.length := by
      apply Classical.byContradiction; intro hn
      rw [besideB_len p l m hn] at h; cases h
    refine ⟨hl, fun k h1 h2 => ?_⟩
    cases hk : p l[k] m[k]
    · rw [besideB_false p l m k h1 h2 hk] at h; cases h
    · rfl
  · rintro ⟨h1, h2⟩; exact besideB_true p l m h1 h2
def formB (c : Col) (v : Val) : Bool := mayV v && (v.kind == c.kind || v.kind == 1)
def nullB (c : Col) (v : Val) : Bool := c.null || v.kind != 1
set_option maxHeartbeats 2000000 in
theorem beside_any (A : Option Addr) (cap : Nat) (l : List Col) (A2 : Option Addr) (cap2 : Nat) (m : List Val) (g : FuncId) (caps : Array Value) (p : Col → Val → Bool) (w : World) (h : SlAt w 3 ColR A cap l) (h2 : SlAt w 3 ValR A2 cap2 m)
    (hent : ∀ (args : Array Value) (w : World), (callFunc g args).run Try.prog w = .ok (.enter g args) w)
    (hp : ∀ w', Aft w w' → ∀ i (hi : i < l.length) (hi2 : i < m.length), Calls Try.prog g (#[.agg #[.string l[i].name, .int .i64 l[i].kind, .bool l[i].null], .agg #[.int .i64 m[i].kind, .int .i64 m[i].int, .string m[i].text]] ++ caps) w' fun e w'' => e = .returned (.bool (p l[i] m[i])) ∧ Aft w' w'') :
    Calls Try.prog 105 #[.slice A l.length cap, .slice A2 m.length cap2, .func (.func g) #[] caps] w fun e w' => e = .returned (.bool (besideB p l m)) ∧ Aft w w' := by
  have hlen := h.len
  have hlen2 := h2.len
  have HC := Lib.hid hp
  clear hp
  by_cases hl : l.length = m.length
  · have e1 : ((l.length : Int) != (m.length : Int)) = false := by simp [hl]
    go_enter Try.func105, Try.ntmps105
    go_wp2_with fail
    go_loopw [16] (fun i wr => ∃ k : Nat, k ≤ l.length ∧ i = .int .i64 k ∧ Aft w wr ∧ ∀ j, j < k → ∀ (hj : j < l.length) (hj2 : j < m.length), p l[j] m[j] = true) (fun i _ => l.length - (intOf i).toNat)
    case atStart => exact ⟨0, Nat.zero_le _, rfl, Aft.refl _, fun j hj => absurd hj (Nat.not_lt_zero j)⟩
    case round =>
      obtain ⟨k, hk, rfl, ha, hp⟩ := hrel
      have HA := Lib.hid ha
      have HP := Lib.hid hp; clear hp
      by_cases hlt : k < l.length
      · have hlt2 : k < m.length := by omega
        obtain ⟨b, off, rfl, hb, c0, c1, c2, _⟩ := col_at (cols_aft ha h) hlt
        obtain ⟨b2, off2, rfl, hb2, d0, d1, d2, _⟩ := val_at (vals_aft ha h2) hlt2
        clear ha
        obtain ⟨r, hr⟩ : ∃ r, p l[k] m[k] = r := ⟨_, rfl⟩
        obtain ⟨W, hW⟩ : ∃ W, W = wr.alloc (.cells #[.string l[k].name, .int .i64 l[k].kind, .bool l[k].null] 40) := ⟨_, rfl⟩
        have aW : Aft wr W := by rw [hW]; exact (Aft.refl wr).alloc _
        have hbW : ∀ o, W.cell? ⟨wr.heap.size, o, none⟩ = (#[.string l[k].name, .int .i64 l[k].kind, .bool l[k].null] : Array Value)[o]? := by intro o; rw [hW]; simp
        have hzW : wr.heap.size < W.heap.size := by rw [hW]; simp
        have hbW2 : b2 < W.heap.size := Nat.lt_of_lt_of_le hb2 aW.size
        have d0' := aW.cell_keep d0
        have d1' := aW.cell_keep d1
        have d2' := aW.cell_keep d2
        have HAW := Lib.hid (HA.out.trans aW)
        have HC2 := Lib.hid (fun x : Lat W => HC.out (lat W x) (HAW.out.lat x) k hlt hlt2)
        rw [hr] at HC2
        cases r
        · have HN := Lib.hid (besideB_false p l m k hlt hlt2 hr)
          clear hr
          go_wp2_with fail
          rw [← hW]
          clear hW d0 d1 d2 aW
          refine wp_region_lat (by kernel_rfl) (by kernel_rfl) ?_
          repeat (go_big_quiet_step ((exact Calls.lat_of (HC2.out _))))
          refine wpQuiet_nil ?_
          intro _ hw'
          obtain ⟨x, hw''⟩ := hw'
          subst hw''
          go_wp2_with fail
          go_ret
          exact ⟨by rw [HN.out]; rfl, HAW.out.lat x⟩
        · have HN := Lib.hid (ext_lt (p := fun j => ∀ (hj : j < l.length) (hj2 : j < m.length), p l[j] m[j] = true) HP.out (fun _ _ => hr))
          clear hr
          go_wp2_with fail
          rw [← hW]
          clear hW d0 d1 d2 aW
          refine wp_region_lat (by kernel_rfl) (by kernel_rfl) ?_
          repeat (go_big_quiet_step ((exact Calls.lat_of (HC2.out _))))
          refine wpQuiet_nil ?_
          intro _ hw'
          obtain ⟨x, hw''⟩ := hw'
          subst hw''
          go_wp2_with fail
          go_roundw
          case rel => exact ⟨k + 1, by omega, by go_num, HAW.out.lat x, HN.out⟩
          case measure => simp [intOf]; omega
      · have HN := Lib.hid (besideB_true p l m hl fun j hj hj2 => HP.out j (by omega) hj hj2)
        clear ha
        go_wp2_with fail
        go_ret
        exact ⟨by rw [HN.out]; rfl, HA.out⟩
  · have e1 : ((l.length : Int) != (m.length : Int)) = true := by simp; omega
    have HN := Lib.hid (besideB_len p l m hl)
    go_enter Try.func105, Try.ntmps105
    go_wp2_with fail
    go_ret
    exact ⟨by rw [HN.out]; rfl, Aft.refl _⟩
set_option maxHeartbeats 2000000 in
theorem formed1_any (c : Col) (v : Val) (w : World) (hs : Small v.text.size) :
    Calls Try.prog 143 #[.agg #[.string c.name, .int .i64 c.kind, .bool c.null], .agg #[.int .i64 v.kind, .int .i64 v.int, .string v.text]] w fun e w' => e = .returned (.bool (formB c v)) ∧ Aft w w' := by
  obtain ⟨m, hm⟩ : ∃ m, mayV v = m := ⟨_, rfl⟩
  have C := Lib.hid (show ∀ w', Calls Try.prog 35 #[.agg #[.int .i64 v.kind, .int .i64 v.int, .string v.text]] w' fun e w'' => e = .returned (.bool m) ∧ Aft w' w'' from
    fun w' => (may_any v w' hs).mono fun e w'' ⟨he, hw⟩ => ⟨he.trans (by rw [hm]), hw⟩)
  have HF := Lib.hid (show formB c v = (m && (v.kind == c.kind || v.kind == 1)) by unfold formB; rw [hm])
  clear hm
  go_enter Try.func143, Try.ntmps143
  go_wp2_with fail
  refine (C.out _).mono ?_
  rintro e w1 ⟨rfl, a1⟩
  obtain ⟨hb1, hb2, hz, HA⟩ := aft_box2 a1
  clear a1
  cases m
  · have HF2 := Lib.hid (show formB c v = false by rw [HF.out]; rfl)
    go_wp2_with fail
    go_ret
    exact ⟨by rw [HF2.out]; rfl, HA.out⟩
  · cases h1 : (v.kind == c.kind)
    · have HF2 := Lib.hid (show formB c v = (v.kind == 1) by rw [HF.out, h1]; rfl)
      go_wp2_with fail
      go_ret
      exact ⟨by rw [HF2.out]; rfl, HA.out⟩
    · have HF2 := Lib.hid (show formB c v = true by rw [HF.out, h1]; rfl)
      go_wp2_with fail
      go_ret
      exact ⟨by rw [HF2.out]; rfl, HA.out⟩
set_option maxHeartbeats 2000000 in
theorem fit1_any (c : Col) (v : Val) (w : World) :
    Calls Try.prog 106 #[.agg #[.string c.name, .int .i64 c.kind, .bool c.null], .agg #[.int .i64 v.kind, .int .i64 v.int, .string v.text]] w fun e w' => e = .returned (.bool (nullB c v)) ∧ Aft w w' := by
  obtain ⟨name, kind, null⟩ := c
  cases null
  · have HF := Lib.hid (show nullB ⟨name, kind, false⟩ v = (v.kind != 1) by simp [nullB])
    go_enter Try.func106, Try.ntmps106
    go_wp2_with fail
    go_ret
    exact ⟨by rw [HF.out]; rfl, ((Aft.refl _).alloc _).alloc _⟩
  · have HF := Lib.hid (show nullB ⟨name, kind, true⟩ v = true by simp [nullB])
    go_enter Try.func106, Try.ntmps106
    go_wp2_with fail
    go_ret
    exact ⟨by rw [HF.out]; rfl, ((Aft.refl _).alloc _).alloc _⟩
theorem val_small {w : World} {A : Option Addr} {cap : Nat} {l : List Val} (h : SlAt w 3 ValR A cap l) (i : Nat) (hi : i < l.length) : Small l[i].text.size := by
  obtain ⟨_, _, _, _, _, _, _, hs⟩ := val_at h hi; exact hs
theorem formedC (A : Option Addr) (cap : Nat) (l : List Col) (A2 : Option Addr) (cap2 : Nat) (m : List Val) (w : World) (h : SlAt w 3 ColR A cap l) (h2 : SlAt w 3 ValR A2 cap2 m) :
    Calls Try.prog 105 #[.slice A l.length cap, .slice A2 m.length cap2, .func (.func 143) #[] #[]] w fun e w' => e = .returned (.bool (besideB formB l m)) ∧ Aft w w' :=
  beside_any A cap l A2 cap2 m 143 #[] formB w h h2 (enters (P := Try.prog) Try.func143 (by kernel_rfl) rfl) fun w' ha i hi hi2 => formed1_any _ _ w' (val_small h2 i hi2)
theorem nullC (A : Option Addr) (cap : Nat) (l : List Col) (A2 : Option Addr) (cap2 : Nat) (m : List Val) (w : World) (h : SlAt w 3 ColR A cap l) (h2 : SlAt w 3 ValR A2 cap2 m) :
    Calls Try.prog 105 #[.slice A l.length cap, .slice A2 m.length cap2, .func (.func 106) #[] #[]] w fun e w' => e = .returned (.bool (besideB nullB l m)) ∧ Aft w w' :=
  beside_any A cap l A2 cap2 m 106 #[] nullB w h h2 (enters (P := Try.prog) Try.func106 (by kernel_rfl) rfl) fun w' ha i hi hi2 => fit1_any _ _ w'
theorem formed_any (A : Option Addr) (cap : Nat) (l : List Col) (A2 : Option Addr) (cap2 : Nat) (m : List Val) (w : World) (h : SlAt w 3 ColR A cap l) (h2 : SlAt w 3 ValR A2 cap2 m) :
    Calls Try.prog 100 #[.slice A l.length cap, .slice A2 m.length cap2] w fun e w' => e = .returned (.bool (besideB formB l m)) ∧ Aft w w' := by
  have C := Lib.hid (formedC A cap l A2 cap2 m w h h2)
  go_enter Try.func100, Try.ntmps100
  go_wp2_with fail
  refine C.out.mono ?_
  rintro e w1 ⟨rfl, a1⟩
  have HA := Lib.hid a1
  clear a1
  go_wp2_with fail
  go_ret
  exact ⟨rfl, HA.out⟩
set_option maxHeartbeats 1000000 in
theorem place1_any (name : ByteArray) (kind : Int) (null : Bool) (s : ByteArray) (b1 : Nat) (w : World) (hb1 : b1 < w.heap.size) (hc1 : w.cell? ⟨b1, 0, none⟩ = some (.string s)) :
    Calls Try.prog 144 #[.agg #[.string name, .int .i64 kind, .bool null], .pointer (some ⟨b1, 0, none⟩)] w fun e w' => e = .returned (.bool (eqS name s)) ∧ Aft w w' := by
  go_enter Try.func144, Try.ntmps144
  go_wp2_with fail
  go_ret
  exact ⟨rfl, (Aft.refl _).alloc _⟩
set_option maxHeartbeats 1000000 in
theorem place_any (A : Option Addr) (cap : Nat) (l : List Col) (s : ByteArray) (w : World) (h : SlAt w 3 ColR A cap l) :
    Calls Try.prog 101 #[.slice A l.length cap, .string s] w fun e w' => e = .returned (.int .i64 (colAt l s)) ∧ Aft w w' := by
  have hent := enters (P := Try.prog) Try.func144 (by kernel_rfl) rfl
  have C := Lib.hid (idxCol A cap l 144 #[.pointer (some ⟨w.heap.size, 0, none⟩)] (fun c => eqS c.name s) (w.alloc (.cells #[.string s] 9)) (cols_aft ((Aft.refl w).alloc _) h) hent (fun w' ha i hi => by
    obtain ⟨hb, _, hz, _, _⟩ := aft_box ha
    exact place1_any _ _ _ s w.heap.size w' hz.1 (hb 0)))
  go_enter Try.func101, Try.ntmps101
  go_wp2_with fail
  refine C.out.mono ?_
  rintro e w1 ⟨rfl, a1⟩
  have HA := Lib.hid (((Aft.refl w).alloc _).trans a1)
  clear a1
  go_wp2_with fail
  go_ret
  exact ⟨rfl, HA.out⟩
end Go.Proofs.Ytodifdofgjfkiaa
