/- objects.byName. -/
import Derived.Test.YtcdhljcpoopfaaaIdx
namespace Go.Proofs.Ytcdhljcpoopfaaa
open Go.RowKit
set_option maxRecDepth 100000
set_option linter.unusedVariables false
theorem aft_two {w w' : World} {a b : Value} {ta tb : TypeId} (h : Aft ((w.alloc (.cells #[a] ta)).alloc (.cells #[b] tb)) w') :
    w'.cell? ⟨w.heap.size, 0, none⟩ = some a ∧ w'.cell? ⟨w.heap.size + 1, 0, none⟩ = some b ∧ w.heap.size < w'.heap.size ∧ w.heap.size + 1 < w'.heap.size := by
  have hz : w.heap.size + 1 < w'.heap.size := by have := h.size; simp at this; omega
  refine ⟨?_, ?_, by omega, hz⟩
  · rw [Below.cell h (p := ⟨w.heap.size, 0, none⟩) (by simp; omega), World.cell?_alloc_past _ _ _ (by simp)]; simp
  · rw [Below.cell h (p := ⟨w.heap.size + 1, 0, none⟩) (by simp), World.cell?_alloc_at _ _ _ _ (by simp)]; rfl
theorem columnName_any (name : ByteArray) (kind : Int) (null : Bool) (w : World) :
    Calls Try.prog 134 #[.agg #[.string name, .int .i64 kind, .bool null]] w fun e w' => e = .returned (.string name) ∧ Aft w w' := by
  go_enter Try.func134, Try.ntmps134
  go_wp2_with fail
  go_ret
  exact ⟨rfl, (Aft.refl _).alloc _⟩
set_option maxHeartbeats 1000000 in
theorem byCol1 (name : ByteArray) (kind : Int) (null : Bool) (s : ByteArray) (b1 b2 : Nat) (w : World) (hb1 : b1 < w.heap.size) (hb2 : b2 < w.heap.size) (hc1 : w.cell? ⟨b1, 0, none⟩ = some (.func (.func 134) #[] #[])) (hc2 : w.cell? ⟨b2, 0, none⟩ = some (.string s)) :
    Calls Try.prog 170 #[.agg #[.string name, .int .i64 kind, .bool null], .pointer (some ⟨b1, 0, none⟩), .pointer (some ⟨b2, 0, none⟩)] w fun e w' => e = .returned (.bool (eqS name s)) ∧ Aft w w' := by
  have Cn := Lib.hid (fun w => columnName_any name kind null w)
  go_enter Try.func170, Try.ntmps170
  go_wp2_with fail
  have f1 : ∀ x : Lat (w.alloc (.cells #[.string name, .int .i64 kind, .bool null] 105)), (lat _ x).cell? ⟨b1, 0, none⟩ = some (.func (.func 134) #[] #[]) := fun x => (cell?_lat _ x b1 0 (by simp; omega)).trans ((World.cell?_alloc_past _ _ _ hb1).trans hc1)
  have f2 : ∀ x : Lat (w.alloc (.cells #[.string name, .int .i64 kind, .bool null] 105)), (lat _ x).cell? ⟨b2, 0, none⟩ = some (.string s) := fun x => (cell?_lat _ x b2 0 (by simp; omega)).trans ((World.cell?_alloc_past _ _ _ hb2).trans hc2)
  have f3 : ∀ x : Lat (w.alloc (.cells #[.string name, .int .i64 kind, .bool null] 105)), ∀ o, (lat _ x).cell? ⟨w.heap.size, o, none⟩ = (#[.string name, .int .i64 kind, .bool null] : Array Value)[o]? := fun x o => (cell?_lat _ x _ o (by simp)).trans (World.cell?_alloc_at _ _ _ _ rfl)
  refine wp_region_lat (by kernel_rfl) (by kernel_rfl) ?_
  repeat (go_big_quiet_step ((first | (go_at_call 134; exact Calls.lat_of (Cn.out _)))))
  refine wpQuiet_nil ?_
  intro _ hw'
  obtain ⟨x, hw''⟩ := hw'
  subst hw''
  clear f1 f2 f3 hc1 hc2
  go_wp2_with fail
  go_ret
  exact ⟨rfl, ((Aft.refl _).alloc _).lat x⟩
set_option maxHeartbeats 1000000 in
theorem byCol (A : Option Addr) (cap : Nat) (l : List Col) (s : ByteArray) (w : World) (h : SlAt w 3 ColR A cap l) :
    Calls Try.prog 133 #[.slice A l.length cap, .string s, .func (.func 134) #[] #[]] w fun e w' => e = .returned (.int .i64 (idxP (fun c => eqS c.name s) l)) ∧ Aft w w' := by
  have hent := enters (P := Try.prog) Try.func170 (by kernel_rfl) rfl
  have C := Lib.hid (idxCol A cap l 170 #[.pointer (some ⟨w.heap.size + 1, 0, none⟩), .pointer (some ⟨w.heap.size, 0, none⟩)] (fun c => eqS c.name s) ((w.alloc (.cells #[.string s] 9)).alloc (.cells #[.func (.func 134) #[] #[]] 142)) (cols_aft (((Aft.refl w).alloc _).alloc _) h) hent (fun w' ha i hi  => by
    obtain ⟨d1, d2, z1, z2⟩ := aft_two ha
    exact byCol1 _ _ _ s (w.heap.size + 1) w.heap.size w' z2 z1 d2 d1))
  go_enter Try.func133, Try.ntmps133
  go_wp2_with fail
  refine C.out.mono ?_
  rintro e w1 ⟨rfl, a1⟩
  have HA := Lib.hid ((((Aft.refl w).alloc _).alloc _).trans a1)
  clear a1
  go_wp2_with fail
  go_ret
  exact ⟨rfl, HA.out⟩
theorem schemaName_any (name : ByteArray) (owner : ByteArray) (w : World) :
    Calls Try.prog 79 #[.agg #[.string name, .string owner]] w fun e w' => e = .returned (.string name) ∧ Aft w w' := by
  go_enter Try.func79, Try.ntmps79
  go_wp2_with fail
  go_ret
  exact ⟨rfl, (Aft.refl _).alloc _⟩
set_option maxHeartbeats 1000000 in
theorem bySch1 (name : ByteArray) (owner : ByteArray) (s : ByteArray) (b1 b2 : Nat) (w : World) (hb1 : b1 < w.heap.size) (hb2 : b2 < w.heap.size) (hc1 : w.cell? ⟨b1, 0, none⟩ = some (.func (.func 79) #[] #[])) (hc2 : w.cell? ⟨b2, 0, none⟩ = some (.string s)) :
    Calls Try.prog 123 #[.agg #[.string name, .string owner], .pointer (some ⟨b1, 0, none⟩), .pointer (some ⟨b2, 0, none⟩)] w fun e w' => e = .returned (.bool (eqS name s)) ∧ Aft w w' := by
  have Cn := Lib.hid (fun w => schemaName_any name owner w)
  go_enter Try.func123, Try.ntmps123
  go_wp2_with fail
  have f1 : ∀ x : Lat (w.alloc (.cells #[.string name, .string owner] 92)), (lat _ x).cell? ⟨b1, 0, none⟩ = some (.func (.func 79) #[] #[]) := fun x => (cell?_lat _ x b1 0 (by simp; omega)).trans ((World.cell?_alloc_past _ _ _ hb1).trans hc1)
  have f2 : ∀ x : Lat (w.alloc (.cells #[.string name, .string owner] 92)), (lat _ x).cell? ⟨b2, 0, none⟩ = some (.string s) := fun x => (cell?_lat _ x b2 0 (by simp; omega)).trans ((World.cell?_alloc_past _ _ _ hb2).trans hc2)
  have f3 : ∀ x : Lat (w.alloc (.cells #[.string name, .string owner] 92)), ∀ o, (lat _ x).cell? ⟨w.heap.size, o, none⟩ = (#[.string name, .string owner] : Array Value)[o]? := fun x o => (cell?_lat _ x _ o (by simp)).trans (World.cell?_alloc_at _ _ _ _ rfl)
  refine wp_region_lat (by kernel_rfl) (by kernel_rfl) ?_
  repeat (go_big_quiet_step ((first | (go_at_call 79; exact Calls.lat_of (Cn.out _)))))
  refine wpQuiet_nil ?_
  intro _ hw'
  obtain ⟨x, hw''⟩ := hw'
  subst hw''
  clear f1 f2 f3 hc1 hc2
  go_wp2_with fail
  go_ret
  exact ⟨rfl, ((Aft.refl _).alloc _).lat x⟩
set_option maxHeartbeats 1000000 in
theorem bySch (A : Option Addr) (cap : Nat) (l : List Sch) (s : ByteArray) (w : World) (h : SlAt w 2 SchR A cap l) :
    Calls Try.prog 78 #[.slice A l.length cap, .string s, .func (.func 79) #[] #[]] w fun e w' => e = .returned (.int .i64 (idxP (fun c => eqS c.name s) l)) ∧ Aft w w' := by
  have hent := enters (P := Try.prog) Try.func123 (by kernel_rfl) rfl
  have C := Lib.hid (idxSch A cap l 123 #[.pointer (some ⟨w.heap.size + 1, 0, none⟩), .pointer (some ⟨w.heap.size, 0, none⟩)] (fun c => eqS c.name s) ((w.alloc (.cells #[.string s] 9)).alloc (.cells #[.func (.func 79) #[] #[]] 93)) (schs_aft (((Aft.refl w).alloc _).alloc _) h) hent (fun w' ha i hi  => by
    obtain ⟨d1, d2, z1, z2⟩ := aft_two ha
    exact bySch1 _ _ s (w.heap.size + 1) w.heap.size w' z2 z1 d2 d1))
  go_enter Try.func78, Try.ntmps78
  go_wp2_with fail
  refine C.out.mono ?_
  rintro e w1 ⟨rfl, a1⟩
  have HA := Lib.hid ((((Aft.refl w).alloc _).alloc _).trans a1)
  clear a1
  go_wp2_with fail
  go_ret
  exact ⟨rfl, HA.out⟩
theorem ruleName_any (name : ByteArray) (kind : Int) (A0 : Option Addr) (n0 : Nat) (c0 : Nat) (lo : Int) (hi : Int) (rs : ByteArray) (rt : ByteArray) (rk : ByteArray) (w : World) :
    Calls Try.prog 196 #[.agg #[.string name, .int .i64 kind, .slice A0 n0 c0, .int .i64 lo, .int .i64 hi, .string rs, .string rt, .string rk]] w fun e w' => e = .returned (.string name) ∧ Aft w w' := by
  go_enter Try.func196, Try.ntmps196
  go_wp2_with fail
  go_ret
  exact ⟨rfl, (Aft.refl _).alloc _⟩
set_option maxHeartbeats 1000000 in
theorem byRul1 (name : ByteArray) (kind : Int) (A0 : Option Addr) (n0 : Nat) (c0 : Nat) (lo : Int) (hi : Int) (rs : ByteArray) (rt : ByteArray) (rk : ByteArray) (s : ByteArray) (b1 b2 : Nat) (w : World) (hb1 : b1 < w.heap.size) (hb2 : b2 < w.heap.size) (hc1 : w.cell? ⟨b1, 0, none⟩ = some (.func (.func 196) #[] #[])) (hc2 : w.cell? ⟨b2, 0, none⟩ = some (.string s)) :
    Calls Try.prog 202 #[.agg #[.string name, .int .i64 kind, .slice A0 n0 c0, .int .i64 lo, .int .i64 hi, .string rs, .string rt, .string rk], .pointer (some ⟨b1, 0, none⟩), .pointer (some ⟨b2, 0, none⟩)] w fun e w' => e = .returned (.bool (eqS name s)) ∧ Aft w w' := by
  have Cn := Lib.hid (fun w => ruleName_any name kind A0 n0 c0 lo hi rs rt rk w)
  go_enter Try.func202, Try.ntmps202
  go_wp2_with fail
  have f1 : ∀ x : Lat (w.alloc (.cells #[.string name, .int .i64 kind, .slice A0 n0 c0, .int .i64 lo, .int .i64 hi, .string rs, .string rt, .string rk] 86)), (lat _ x).cell? ⟨b1, 0, none⟩ = some (.func (.func 196) #[] #[]) := fun x => (cell?_lat _ x b1 0 (by simp; omega)).trans ((World.cell?_alloc_past _ _ _ hb1).trans hc1)
  have f2 : ∀ x : Lat (w.alloc (.cells #[.string name, .int .i64 kind, .slice A0 n0 c0, .int .i64 lo, .int .i64 hi, .string rs, .string rt, .string rk] 86)), (lat _ x).cell? ⟨b2, 0, none⟩ = some (.string s) := fun x => (cell?_lat _ x b2 0 (by simp; omega)).trans ((World.cell?_alloc_past _ _ _ hb2).trans hc2)
  have f3 : ∀ x : Lat (w.alloc (.cells #[.string name, .int .i64 kind, .slice A0 n0 c0, .int .i64 lo, .int .i64 hi, .string rs, .string rt, .string rk] 86)), ∀ o, (lat _ x).cell? ⟨w.heap.size, o, none⟩ = (#[.string name, .int .i64 kind, .slice A0 n0 c0, .int .i64 lo, .int .i64 hi, .string rs, .string rt, .string rk] : Array Value)[o]? := fun x o => (cell?_lat _ x _ o (by simp)).trans (World.cell?_alloc_at _ _ _ _ rfl)
  refine wp_region_lat (by kernel_rfl) (by kernel_rfl) ?_
  repeat (go_big_quiet_step ((first | (go_at_call 196; exact Calls.lat_of (Cn.out _)))))
  refine wpQuiet_nil ?_
  intro _ hw'
  obtain ⟨x, hw''⟩ := hw'
  subst hw''
  clear f1 f2 f3 hc1 hc2
  go_wp2_with fail
  go_ret
  exact ⟨rfl, ((Aft.refl _).alloc _).lat x⟩
set_option maxHeartbeats 1000000 in
theorem byRul (A : Option Addr) (cap : Nat) (l : List Rul) (s : ByteArray) (w : World) (h : SlAt w 8 RulR A cap l) :
    Calls Try.prog 195 #[.slice A l.length cap, .string s, .func (.func 196) #[] #[]] w fun e w' => e = .returned (.int .i64 (idxP (fun c => eqS c.name s) l)) ∧ Aft w w' := by
  have hent := enters (P := Try.prog) Try.func202 (by kernel_rfl) rfl
  have C := Lib.hid (idxRul A cap l 202 #[.pointer (some ⟨w.heap.size + 1, 0, none⟩), .pointer (some ⟨w.heap.size, 0, none⟩)] (fun c => eqS c.name s) ((w.alloc (.cells #[.string s] 9)).alloc (.cells #[.func (.func 196) #[] #[]] 188)) (ruls_aft (((Aft.refl w).alloc _).alloc _) h) hent (fun w' ha i hi e1 he => by
    obtain ⟨A2, cap2, rfl, _⟩ := he; obtain ⟨d1, d2, z1, z2⟩ := aft_two ha
    exact byRul1 _ _ _ _ _ _ _ _ _ _ s (w.heap.size + 1) w.heap.size w' z2 z1 d2 d1))
  go_enter Try.func195, Try.ntmps195
  go_wp2_with fail
  refine C.out.mono ?_
  rintro e w1 ⟨rfl, a1⟩
  have HA := Lib.hid ((((Aft.refl w).alloc _).alloc _).trans a1)
  clear a1
  go_wp2_with fail
  go_ret
  exact ⟨rfl, HA.out⟩
end Go.Proofs.Ytcdhljcpoopfaaa
