/- Contracts of the program, part 3. -/
import Derived.Test.YticjnndhpfdajaaRows
import Derived.WalkKit
import Derived.WalkSpells
import Derived.WalkLawsBesides
import Derived.Lib.Bytealg
import Derived.Lib.Hide
/- The leaves: what strings.IndexByte and strings.Compare return; the world is as it was. -/
namespace Go.Proofs.Yticjnndhpfdajaa
open Go.RowKit
set_option maxRecDepth 100000

set_option maxHeartbeats 400000 in
theorem sliteIndexByte (s : ByteArray) (c : Int) (w : World) :
    Calls Try.prog 66 #[.string s, .int .u8 c] w fun e w' => e = .returned (.int .i64 (Lib.indexByte s.data.toList c.toNat.toUInt8)) ∧ w = w' := by
  go_enter Try.func66, Try.ntmps66
  go_wp2
  rw [run_callFunc_extern Try.func86 (by kernel_rfl) (by kernel_rfl) (by kernel_rfl) (e := Extern.BytealgIndexByte.indexByte) (by kernel_rfl), Lib.run_indexByteString]
  simp only [Result.andThen]
  rw [Oper.upon_value]
  go_wp2
  go_ret
  exact ⟨rfl, rfl⟩

set_option maxHeartbeats 400000 in
theorem indexByte (s : ByteArray) (c : Int) (w : World) :
    Calls Try.prog 41 #[.string s, .int .u8 c] w fun e w' => e = .returned (.int .i64 (Lib.indexByte s.data.toList c.toNat.toUInt8)) ∧ w = w' := by
  go_enter Try.func41, Try.ntmps41
  go_wp2_with (go_at_call 66; refine (sliteIndexByte _ _ _).mono ?_; rintro e w' ⟨rfl, rfl⟩)
  go_ret
  exact ⟨rfl, rfl⟩

end Go.Proofs.Yticjnndhpfdajaa
/- Plain definitions and laws, of no program: names, letters. -/
namespace Go.Proofs.Yticjnndhpfdajaa

def isLet (c : UInt8) : Bool := decide (97 ≤ c) && decide (c ≤ 122)
def isPl (c : UInt8) : Bool := isLet c || (decide (48 ≤ c) && decide (c ≤ 57)) || c == 95
def plB (s : ByteArray) : Bool := s.data.toList.all isPl
/-- a text is a name -/
def nameB (s : ByteArray) : Bool := decide (0 < s.size) && decide (s.size ≤ 16) && isLet (s.data.toList.headD 0) && plB s

def ltIdx (c : UInt8) : Int := Lib.indexByte [97, 98, 99, 100, 101, 102, 103, 104, 105, 106, 107, 108, 109, 110, 111, 112, 113, 114, 115, 116, 117, 118, 119, 120, 121, 122] c
def plIdx (c : UInt8) : Int := Lib.indexByte [97, 98, 99, 100, 101, 102, 103, 104, 105, 106, 107, 108, 109, 110, 111, 112, 113, 114, 115, 116, 117, 118, 119, 120, 121, 122, 48, 49, 50, 51, 52, 53, 54, 55, 56, 57, 95] c
theorem all256 {p : UInt8 → Bool} (h : ∀ n : Fin 256, p (UInt8.ofNat n.val) = true) (c : UInt8) : p c = true := by
  have := h ⟨c.toNat, c.toNat_lt⟩
  simpa using this
theorem ltIdx_neg (c : UInt8) : decide (ltIdx c < 0) = !isLet c := by
  have := all256 (p := fun c => decide (ltIdx c < 0) == !isLet c) (by decide +kernel) c
  simpa using this
theorem plIdx_neg (c : UInt8) : decide (plIdx c < 0) = !isPl c := by
  have := all256 (p := fun c => decide (plIdx c < 0) == !isPl c) (by decide +kernel) c
  simpa using this
theorem ltIdx_iff (c : UInt8) : ltIdx c < 0 ↔ isLet c = false := by
  have := ltIdx_neg c; cases h : isLet c <;> simp_all
theorem plIdx_iff (c : UInt8) : plIdx c < 0 ↔ isPl c = false := by
  have := plIdx_neg c; cases h : isPl c <;> simp_all
theorem isLet_iff (c : UInt8) : isLet c = true ↔ 97 ≤ (c.toNat : Int) ∧ (c.toNat : Int) ≤ 122 := by
  simp [isLet, UInt8.le_iff_toNat_le]; omega
theorem isPl_iff (c : UInt8) : isPl c = true ↔ (97 ≤ (c.toNat : Int) ∧ (c.toNat : Int) ≤ 122) ∨ (48 ≤ (c.toNat : Int) ∧ (c.toNat : Int) ≤ 57) ∨ (c.toNat : Int) = 95 := by
  simp [isPl, isLet, UInt8.le_iff_toNat_le, ← UInt8.toNat_inj]; omega
theorem all_take_succ {α : Type} (p : α → Bool) (l : List α) (k : Nat) (h : k < l.length) : (l.take (k + 1)).all p = ((l.take k).all p && p l[k]) := by
  rw [List.take_succ_eq_append_getElem h]; simp only [List.all_append, List.all_cons, List.all_nil, Bool.and_true]
theorem ba_length (s : ByteArray) : s.data.toList.length = s.size := by simp
theorem ba_get (s : ByteArray) (k : Nat) (h : k < s.size) : s.data.toList[k]'(by simpa using h) = s[k] := rfl
theorem pl_succ (s : ByteArray) (k : Nat) (h : k < s.size) : (s.data.toList.take (k + 1)).all isPl = ((s.data.toList.take k).all isPl && isPl s[k]) := by
  rw [all_take_succ isPl _ k (by simpa using h)]; rfl
theorem pl_false (s : ByteArray) (k : Nat) (h : k < s.size) (hp : isPl s[k] = false) : plB s = false := by
  have : s[k] ∈ s.data.toList := by rw [← ba_get s k h]; exact List.getElem_mem _
  simp only [plB, Bool.eq_false_iff, ne_eq, List.all_eq_true]
  intro hall; have := hall _ this; simp [hp] at this
theorem pl_true (s : ByteArray) (k : Nat) (h : ¬ k < s.size) (hp : (s.data.toList.take k).all isPl = true) : plB s = true := by
  rw [List.take_of_length_le (by rw [ba_length]; omega)] at hp; exact hp
theorem head_get (s : ByteArray) (h : 0 < s.size) : s.data.toList.headD 0 = s[0] := by
  have h1 : s.data.toList ≠ [] := by intro e; have := ba_length s; simp [e] at this; omega
  obtain ⟨a, l, e⟩ := List.exists_cons_of_ne_nil h1
  have : s.data.toList[0]'(by rw [ba_length]; exact h) = s[0] := rfl
  simp only [e, List.headD_cons] at this ⊢
  simpa using this
end Go.Proofs.Yticjnndhpfdajaa
