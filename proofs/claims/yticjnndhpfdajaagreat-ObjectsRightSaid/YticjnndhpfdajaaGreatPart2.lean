/- Contracts of the program, part 2. -/
import Derived.Test.YticjnndhpfdajaaGreatPart1
import Derived.Test.YticjnndhpfdajaaGreatRows
import Derived.WalkKit
import Derived.WalkSpells
import Derived.WalkLawsBesides
import Derived.Lib.Bytealg
import Derived.Lib.Hide
/- Objects as plain data, and how they lie in memory. -/
namespace Go.Proofs.YticjnndhpfdajaaGreat
open Go.RowKit

structure Col where
  name : ByteArray
  kind : Int
  null : Bool
structure Rul where
  name : ByteArray
  kind : Int
  cols : List ByteArray
  low : Int
  high : Int
  schema : ByteArray
  table : ByteArray
  key : ByteArray
structure Tab where
  schema : ByteArray
  name : ByteArray
  owner : ByteArray
  cols : List Col
  rules : List Rul
structure Sch where
  name : ByteArray
  owner : ByteArray
structure Objs where
  schemas : List Sch
  tables : List Tab

/-- two texts are the same, as the model asks it -/
def eqS (a b : ByteArray) : Bool := a.toList == b.toList

def StrR (_ : World) (cs : List Value) (s : ByteArray) : Prop := cs = [.string s] ∧ Small s.size
def ColR (_ : World) (cs : List Value) (c : Col) : Prop := cs = [.string c.name, .int .i64 c.kind, .bool c.null] ∧ Small c.name.size
def SchR (_ : World) (cs : List Value) (s : Sch) : Prop := cs = [.string s.name, .string s.owner] ∧ Small s.name.size ∧ Small s.owner.size
def RulR (w : World) (cs : List Value) (r : Rul) : Prop :=
  ∃ A cap, cs = [.string r.name, .int .i64 r.kind, .slice A r.cols.length cap, .int .i64 r.low, .int .i64 r.high, .string r.schema, .string r.table, .string r.key] ∧
    SlAt w 1 StrR A cap r.cols ∧ Small r.name.size ∧ Small r.schema.size ∧ Small r.table.size ∧ Small r.key.size
def TabR (w : World) (cs : List Value) (t : Tab) : Prop :=
  ∃ A cap A2 cap2, cs = [.string t.schema, .string t.name, .string t.owner, .slice A t.cols.length cap, .slice A2 t.rules.length cap2] ∧
    SlAt w 3 ColR A cap t.cols ∧ SlAt w 8 RulR A2 cap2 t.rules ∧ Small t.schema.size ∧ Small t.name.size ∧ Small t.owner.size
def ObjR (w : World) (cs : List Value) (o : Objs) : Prop :=
  ∃ A cap A2 cap2, cs = [.slice A o.schemas.length cap, .slice A2 o.tables.length cap2] ∧ SlAt w 2 SchR A cap o.schemas ∧ SlAt w 5 TabR A2 cap2 o.tables

section
variable {w w' : World}
theorem StrR.aft {cs : List Value} {s : ByteArray} (h : StrR w cs s) : StrR w' cs s := h
theorem ColR.aft {cs : List Value} {s : Col} (h : ColR w cs s) : ColR w' cs s := h
theorem SchR.aft {cs : List Value} {s : Sch} (h : SchR w cs s) : SchR w' cs s := h
theorem strs_aft {A : Option Addr} {cap : Nat} {l : List ByteArray} (hw : Aft w w') (h : SlAt w 1 StrR A cap l) : SlAt w' 1 StrR A cap l := h.aft hw fun _ _ h => h
theorem cols_aft {A : Option Addr} {cap : Nat} {l : List Col} (hw : Aft w w') (h : SlAt w 3 ColR A cap l) : SlAt w' 3 ColR A cap l := h.aft hw fun _ _ h => h
theorem schs_aft {A : Option Addr} {cap : Nat} {l : List Sch} (hw : Aft w w') (h : SlAt w 2 SchR A cap l) : SlAt w' 2 SchR A cap l := h.aft hw fun _ _ h => h
theorem RulR.aft {cs : List Value} {r : Rul} (hw : Aft w w') (h : RulR w cs r) : RulR w' cs r := by
  obtain ⟨A, cap, e, hs, h1⟩ := h
  exact ⟨A, cap, e, strs_aft hw hs, h1⟩
theorem ruls_aft {A : Option Addr} {cap : Nat} {l : List Rul} (hw : Aft w w') (h : SlAt w 8 RulR A cap l) : SlAt w' 8 RulR A cap l := h.aft hw fun _ _ h => RulR.aft hw h
theorem TabR.aft {cs : List Value} {r : Tab} (hw : Aft w w') (h : TabR w cs r) : TabR w' cs r := by
  obtain ⟨A, cap, A2, cap2, e, hs, hr, h1⟩ := h
  exact ⟨A, cap, A2, cap2, e, cols_aft hw hs, ruls_aft hw hr, h1⟩
theorem tabs_aft {A : Option Addr} {cap : Nat} {l : List Tab} (hw : Aft w w') (h : SlAt w 5 TabR A cap l) : SlAt w' 5 TabR A cap l := h.aft hw fun _ _ h => TabR.aft hw h
theorem ObjR.aft {cs : List Value} {o : Objs} (hw : Aft w w') (h : ObjR w cs o) : ObjR w' cs o := by
  obtain ⟨A, cap, A2, cap2, e, hs, ht⟩ := h
  exact ⟨A, cap, A2, cap2, e, schs_aft hw hs, tabs_aft hw ht⟩

theorem str_at {A : Option Addr} {cap : Nat} {l : List ByteArray} (h : SlAt w 1 StrR A cap l) {k : Nat} (hk : k < l.length) :
    ∃ b off, A = some ⟨b, off, none⟩ ∧ b < w.heap.size ∧ w.cell? ⟨b, off + k, none⟩ = some (.string l[k]) ∧ Small l[k].size := by
  obtain ⟨b, off, cs, hA, hb, hl, ⟨rfl, hs⟩, hc⟩ := h.2.2 k hk
  refine ⟨b, off, hA, hb, ?_, hs⟩
  have := hc 0 (by omega)
  simpa using this
theorem col_at {A : Option Addr} {cap : Nat} {l : List Col} (h : SlAt w 3 ColR A cap l) {k : Nat} (hk : k < l.length) :
    ∃ b off, A = some ⟨b, off, none⟩ ∧ b < w.heap.size ∧ w.cell? ⟨b, off + k * 3, none⟩ = some (.string l[k].name) ∧ w.cell? ⟨b, off + k * 3 + 1, none⟩ = some (.int .i64 l[k].kind) ∧ w.cell? ⟨b, off + k * 3 + 2, none⟩ = some (.bool l[k].null) ∧ Small l[k].name.size := by
  obtain ⟨b, off, cs, hA, hb, hl, ⟨rfl, hs⟩, hc⟩ := h.2.2 k hk
  exact ⟨b, off, hA, hb, by simpa using hc 0 (by omega), by simpa [Nat.add_assoc] using hc 1 (by omega), by simpa [Nat.add_assoc] using hc 2 (by omega), hs⟩
theorem sch_at {A : Option Addr} {cap : Nat} {l : List Sch} (h : SlAt w 2 SchR A cap l) {k : Nat} (hk : k < l.length) :
    ∃ b off, A = some ⟨b, off, none⟩ ∧ b < w.heap.size ∧ w.cell? ⟨b, off + k * 2, none⟩ = some (.string l[k].name) ∧ w.cell? ⟨b, off + k * 2 + 1, none⟩ = some (.string l[k].owner) ∧ Small l[k].name.size ∧ Small l[k].owner.size := by
  obtain ⟨b, off, cs, hA, hb, hl, ⟨rfl, hs, hs2⟩, hc⟩ := h.2.2 k hk
  exact ⟨b, off, hA, hb, by simpa using hc 0 (by omega), by simpa [Nat.add_assoc] using hc 1 (by omega), hs, hs2⟩
theorem rul_at {A : Option Addr} {cap : Nat} {l : List Rul} (h : SlAt w 8 RulR A cap l) {k : Nat} (hk : k < l.length) :
    ∃ b off A2 cap2, A = some ⟨b, off, none⟩ ∧ b < w.heap.size ∧ w.cell? ⟨b, off + k * 8, none⟩ = some (.string l[k].name) ∧ w.cell? ⟨b, off + k * 8 + 1, none⟩ = some (.int .i64 l[k].kind) ∧ w.cell? ⟨b, off + k * 8 + 2, none⟩ = some (.slice A2 l[k].cols.length cap2) ∧
      w.cell? ⟨b, off + k * 8 + 3, none⟩ = some (.int .i64 l[k].low) ∧ w.cell? ⟨b, off + k * 8 + 4, none⟩ = some (.int .i64 l[k].high) ∧ w.cell? ⟨b, off + k * 8 + 5, none⟩ = some (.string l[k].schema) ∧ w.cell? ⟨b, off + k * 8 + 6, none⟩ = some (.string l[k].table) ∧ w.cell? ⟨b, off + k * 8 + 7, none⟩ = some (.string l[k].key) ∧
      SlAt w 1 StrR A2 cap2 l[k].cols ∧ Small l[k].name.size ∧ Small l[k].schema.size ∧ Small l[k].table.size ∧ Small l[k].key.size := by
  obtain ⟨b, off, cs, hA, hb, hl, ⟨A2, cap2, rfl, hr⟩, hc⟩ := h.2.2 k hk
  exact ⟨b, off, A2, cap2, hA, hb, by simpa using hc 0 (by omega), by simpa [Nat.add_assoc] using hc 1 (by omega), by simpa [Nat.add_assoc] using hc 2 (by omega), by simpa [Nat.add_assoc] using hc 3 (by omega), by simpa [Nat.add_assoc] using hc 4 (by omega),
    by simpa [Nat.add_assoc] using hc 5 (by omega), by simpa [Nat.add_assoc] using hc 6 (by omega), by simpa [Nat.add_assoc] using hc 7 (by omega), hr⟩
theorem tab_at {A : Option Addr} {cap : Nat} {l : List Tab} (h : SlAt w 5 TabR A cap l) {k : Nat} (hk : k < l.length) :
    ∃ b off A2 cap2 A3 cap3, A = some ⟨b, off, none⟩ ∧ b < w.heap.size ∧ w.cell? ⟨b, off + k * 5, none⟩ = some (.string l[k].schema) ∧ w.cell? ⟨b, off + k * 5 + 1, none⟩ = some (.string l[k].name) ∧ w.cell? ⟨b, off + k * 5 + 2, none⟩ = some (.string l[k].owner) ∧
      w.cell? ⟨b, off + k * 5 + 3, none⟩ = some (.slice A2 l[k].cols.length cap2) ∧ w.cell? ⟨b, off + k * 5 + 4, none⟩ = some (.slice A3 l[k].rules.length cap3) ∧
      SlAt w 3 ColR A2 cap2 l[k].cols ∧ SlAt w 8 RulR A3 cap3 l[k].rules ∧ Small l[k].schema.size ∧ Small l[k].name.size ∧ Small l[k].owner.size := by
  obtain ⟨b, off, cs, hA, hb, hl, ⟨A2, cap2, A3, cap3, rfl, hr⟩, hc⟩ := h.2.2 k hk
  exact ⟨b, off, A2, cap2, A3, cap3, hA, hb, by simpa using hc 0 (by omega), by simpa [Nat.add_assoc] using hc 1 (by omega), by simpa [Nat.add_assoc] using hc 2 (by omega), by simpa [Nat.add_assoc] using hc 3 (by omega), by simpa [Nat.add_assoc] using hc 4 (by omega), hr⟩
theorem SlAt.len {α : Type} {size : Nat} {R : World → List Value → α → Prop} {A : Option Addr} {cap : Nat} {l : List α} (h : SlAt w size R A cap l) : l.length * 16 ≤ 140737488351232 := h.2.1
end

/-- the first place at which p holds, or -1 -/
def idxP {α : Type} (p : α → Bool) : List α → Int
  | [] => -1
  | x :: l => if p x then 0 else if idxP p l < 0 then -1 else idxP p l + 1
theorem idxP_none {α : Type} (p : α → Bool) (l : List α) (h : ∀ i (hi : i < l.length), p l[i] = false) : idxP p l = -1 := by
  induction l with
  | nil => rfl
  | cons x l ih =>
    have h0 := h 0 (by simp)
    have ih := ih fun i hi => h (i + 1) (Nat.succ_lt_succ hi)
    simp at h0
    simp [idxP, h0, ih]
theorem idxP_some {α : Type} (p : α → Bool) (l : List α) (k : Nat) (hk : k < l.length) (hp : p l[k] = true) (h : ∀ i (hi : i < k), p (l[i]'(by omega)) = false) : idxP p l = k := by
  induction l generalizing k with
  | nil => simp at hk
  | cons x l ih =>
    cases k with
    | zero => simp at hp; simp [idxP, hp]
    | succ k =>
      have h0 := h 0 (by omega)
      simp at h0 hp
      have := ih k (by simpa using hk) hp fun i hi => h (i + 1) (by omega)
      simp [idxP, h0, this]
      omega
theorem idxP_range {α : Type} (p : α → Bool) (l : List α) : -1 ≤ idxP p l ∧ idxP p l < l.length := by
  induction l with
  | nil => simp [idxP]
  | cons x l ih => simp only [idxP, List.length_cons]; (repeat' split) <;> omega
end Go.Proofs.YticjnndhpfdajaaGreat
/- The leaves: what strings.IndexByte and strings.Compare return; the world is as it was. -/
namespace Go.Proofs.YticjnndhpfdajaaGreat
open Go.RowKit
set_option maxRecDepth 100000

set_option maxHeartbeats 400000 in
theorem sliteIndexByte (s : ByteArray) (c : Int) (w : World) :
    Calls Tryz.prog 208 #[.string s, .int .u8 c] w fun e w' => e = .returned (.int .i64 (Lib.indexByte s.data.toList c.toNat.toUInt8)) ∧ w = w' := by
  go_enter Tryz.func208, Tryz.ntmps208
  go_wp2
  rw [run_callFunc_extern Tryz.func250 (by kernel_rfl) (by kernel_rfl) (by kernel_rfl) (e := Extern.BytealgIndexByte.indexByte) (by kernel_rfl), Lib.run_indexByteString]
  simp only [Result.andThen]
  rw [Oper.upon_value]
  go_wp2
  go_ret
  exact ⟨rfl, rfl⟩

set_option maxHeartbeats 400000 in
theorem indexByte (s : ByteArray) (c : Int) (w : World) :
    Calls Tryz.prog 158 #[.string s, .int .u8 c] w fun e w' => e = .returned (.int .i64 (Lib.indexByte s.data.toList c.toNat.toUInt8)) ∧ w = w' := by
  go_enter Tryz.func158, Tryz.ntmps158
  go_wp2_with (go_at_call 208; refine (sliteIndexByte _ _ _).mono ?_; rintro e w' ⟨rfl, rfl⟩)
  go_ret
  exact ⟨rfl, rfl⟩

end Go.Proofs.YticjnndhpfdajaaGreat
/- Plain definitions and laws, of no program: names, letters. -/
namespace Go.Proofs.YticjnndhpfdajaaGreat

def isLet (c : UInt8) : Bool := decide (97 ≤ c) && decide (c ≤ 122)
def isPl (c : UInt8) : Bool := isLet c || (decide (48 ≤ c) && decide (c ≤ 57)) || c == 95
def plB (s : ByteArray) : Bool := s.data.toList.all isPl
/-- a text is a name -/
def nameB (s : ByteArray) : Bool := decide (0 < s.size) && decide (s.size ≤ 16) && isLet (s.data.toList.headD 0) && plB s

def ltIdx (c : UInt8) : Int := Lib.indexByte [97, 98, 99, 100, 101, 102, 103, 104, 105, 106, 107, 108, 109, 110, 111, 112, 113, 114, 115, 116, 117, 118, 119, 120, 121, 122] c
def plIdx (c : UInt8) : Int := Lib.indexByte [97, 98, 99, 100, 101, 102, 103, 104, 105, 106, 107, 108, 109, 110, 111, 112, 113, 114, 115, 116, 117, 118, 119, 120, 121, 122, 48, 49, 50, 51, 52, 53, 54, 55, 56, 57, 95] c
theorem all256 {p : UInt8 → Bool} (h : ∀ n : Fin 256, p (UInt8.ofNat n.val) = true) (c : UInt8) : p c = true := by
  have := h ⟨c.toNat, c.toNat_lt⟩
  simpa using this
theorem ltIdx_neg (c : UInt8) : decide (ltIdx c < 0) = !isLet c := by
  have := all256 (p := fun c => decide (ltIdx c < 0) == !isLet c) (by decide +kernel) c
  simpa using this
theorem plIdx_neg (c : UInt8) : decide (plIdx c < 0) = !isPl c := by
  have := all256 (p := fun c => decide (plIdx c < 0) == !isPl c) (by decide +kernel) c
  simpa using this
theorem ltIdx_iff (c : UInt8) : ltIdx c < 0 ↔ isLet c = false := by
  have := ltIdx_neg c; cases h : isLet c <;> simp_all
theorem plIdx_iff (c : UInt8) : plIdx c < 0 ↔ isPl c = false := by
  have := plIdx_neg c; cases h : isPl c <;> simp_all
theorem isLet_iff (c : UInt8) : isLet c = true ↔ 97 ≤ (c.toNat : Int) ∧ (c.toNat : Int) ≤ 122 := by
  simp [isLet, UInt8.le_iff_toNat_le]; omega
theorem isPl_iff (c : UInt8) : isPl c = true ↔ (97 ≤ (c.toNat : Int) ∧ (c.toNat : Int) ≤ 122) ∨ (48 ≤ (c.toNat : Int) ∧ (c.toNat : Int) ≤ 57) ∨ (c.toNat : Int) = 95 := by
  simp [isPl, isLet, UInt8.le_iff_toNat_le, ← UInt8.toNat_inj]; omega
theorem all_take_succ {α : Type} (p : α → Bool) (l : List α) (k : Nat) (h : k < l.length) : (l.take (k + 1)).all p = ((l.take k).all p && p l[k]) := by
  rw [List.take_succ_eq_append_getElem h]; simp only [List.all_append, List.all_cons, List.all_nil, Bool.and_true]
theorem ba_length (s : ByteArray) : s.data.toList.length = s.size := by simp
theorem ba_get (s : ByteArray) (k : Nat) (h : k < s.size) : s.data.toList[k]'(by simpa using h) = s[k] := rfl
theorem pl_succ (s : ByteArray) (k : Nat) (h : k < s.size) : (s.data.toList.take (k + 1)).all isPl = ((s.data.toList.take k).all isPl && isPl s[k]) := by
  rw [all_take_succ isPl _ k (by simpa using h)]; rfl
theorem pl_false (s : ByteArray) (k : Nat) (h : k < s.size) (hp : isPl s[k] = false) : plB s = false := by
  have : s[k] ∈ s.data.toList := by rw [← ba_get s k h]; exact List.getElem_mem _
  simp only [plB, Bool.eq_false_iff, ne_eq, List.all_eq_true]
  intro hall; have := hall _ this; simp [hp] at this
theorem pl_true (s : ByteArray) (k : Nat) (h : ¬ k < s.size) (hp : (s.data.toList.take k).all isPl = true) : plB s = true := by
  rw [List.take_of_length_le (by rw [ba_length]; omega)] at hp; exact hp
theorem head_get (s : ByteArray) (h : 0 < s.size) : s.data.toList.headD 0 = s[0] := by
  have h1 : s.data.toList ≠ [] := by intro e; have := ba_length s; simp [e] at this; omega
  obtain ⟨a, l, e⟩ := List.exists_cons_of_ne_nil h1
  have : s.data.toList[0]'(by rw [ba_length]; exact h) = s[0] := rfl
  simp only [e, List.headD_cons] at this ⊢
  simpa using this
end Go.Proofs.YticjnndhpfdajaaGreat
