/- Contracts of the program, part 8. -/
import Derived.Test.YticjnndhpfdajaaGreatPart4
import Derived.Test.YticjnndhpfdajaaGreatPart7
import Derived.Shelf.SlSortCmp.WholeK
import Derived.Test.YticjnndhpfdajaaGreatPart1
/- The order of texts, as a number and as the model's own order. -/
namespace Go.Proofs.YticjnndhpfdajaaGreat
open Go.RowKit
set_option linter.unusedVariables false
def ltS (a b : ByteArray) : Bool := Op.bytesLess a.toList b.toList
theorem cmpB_lt : ∀ (a b : List UInt8), decide (Lib.compareBytes a b < 0) = Op.bytesLess a b
  | [], [] => rfl
  | [], _ :: _ => rfl
  | _ :: _, [] => rfl
  | x :: a, y :: b => by
    unfold Lib.compareBytes Op.bytesLess
    by_cases h : x < y
    · simp [h]
    · by_cases h2 : y < x
      · have h3 : ¬ x = y := fun e => by subst e; exact UInt8.lt_irrefl _ h2
        simp [h, h2, h3]
      · have h3 : x = y := UInt8.le_antisymm (UInt8.not_lt.1 h2) (UInt8.not_lt.1 h)
        subst h3
        have := cmpB_lt a b
        simp [UInt8.lt_irrefl, this]
theorem cmpB_eq : ∀ (a b : List UInt8), (Lib.compareBytes a b = 0) ↔ a = b
  | [], [] => by simp [Lib.compareBytes]
  | [], _ :: _ => by simp [Lib.compareBytes]
  | _ :: _, [] => by simp [Lib.compareBytes]
  | x :: a, y :: b => by
    unfold Lib.compareBytes
    by_cases h : x < y
    · have h3 : ¬ x = y := fun e => by subst e; exact UInt8.lt_irrefl _ h
      simp [h, h3]
    · by_cases h2 : y < x
      · have h3 : ¬ x = y := fun e => by subst e; exact UInt8.lt_irrefl _ h2
        simp [h, h2, h3]
      · have h3 : x = y := UInt8.le_antisymm (UInt8.not_lt.1 h2) (UInt8.not_lt.1 h)
        subst h3
        have := cmpB_eq a b
        simp [UInt8.lt_irrefl, this]
theorem cmpB_anti : ∀ (a b : List UInt8), Lib.compareBytes a b = - Lib.compareBytes b a
  | [], [] => rfl
  | [], _ :: _ => rfl
  | _ :: _, [] => rfl
  | x :: a, y :: b => by
    unfold Lib.compareBytes
    by_cases h : x < y
    · have h2 : ¬ y < x := UInt8.lt_asymm h
      simp [h, h2]
    · by_cases h2 : y < x
      · simp [h, h2]
      · simp [h, h2]; exact cmpB_anti a b
theorem cmpB_trans : ∀ (a b c : List UInt8), Lib.compareBytes a b < 0 → Lib.compareBytes b c < 0 → Lib.compareBytes a c < 0
  | [], [], c => fun h => by simp [Lib.compareBytes] at h
  | [], _ :: _, [] => fun _ h => by simp [Lib.compareBytes] at h
  | [], _ :: _, _ :: _ => fun _ _ => by simp [Lib.compareBytes]
  | _ :: _, [], c => fun h => by simp [Lib.compareBytes] at h
  | _ :: _, _ :: _, [] => fun _ h => by simp [Lib.compareBytes] at h
  | x :: a, y :: b, z :: c => by
    unfold Lib.compareBytes
    intro h1 h2
    by_cases xy : x < y
    · by_cases yz : y < z
      · have := UInt8.lt_trans xy yz; simp [this]
      · simp only [yz, if_false] at h2
        by_cases zy : z < y
        · simp [zy] at h2
        · have e : y = z := UInt8.le_antisymm (UInt8.not_lt.1 zy) (UInt8.not_lt.1 yz)
          subst e; simp [xy]
    · simp only [xy, if_false] at h1
      by_cases yx : y < x
      · simp [yx] at h1
      · have e : x = y := UInt8.le_antisymm (UInt8.not_lt.1 yx) (UInt8.not_lt.1 xy)
        subst e
        simp only [yx, if_false] at h1
        by_cases yz : x < z
        · simp [yz]
        · simp only [yz, if_false] at h2 ⊢
          by_cases zy : z < x
          · simp [zy] at h2
          · simp only [zy, if_false] at h2 ⊢
            exact cmpB_trans a b c h1 h2
theorem cmpS_lt (a b : ByteArray) : decide (cmpS a b < 0) = ltS a b := by
  unfold cmpS ltS
  rw [Lib.toList_data, Lib.toList_data]; exact cmpB_lt _ _
theorem cmpS_eq (a b : ByteArray) : (cmpS a b = 0) ↔ eqS a b = true := by
  unfold cmpS eqS
  rw [Lib.toList_data, Lib.toList_data, cmpB_eq]; simp
theorem cmpS_lt_iff (a b : ByteArray) : cmpS a b < 0 ↔ ltS a b = true := by rw [← cmpS_lt]; simp
theorem cmpS_anti (a b : ByteArray) : cmpS a b = - cmpS b a := cmpB_anti _ _
theorem cmpS_trans {a b c : ByteArray} (h1 : cmpS a b < 0) (h2 : cmpS b c < 0) : cmpS a c < 0 := cmpB_trans _ _ _ h1 h2
/-- the order of pairs: less, spelt as the document does -/
theorem or2_lt (a b c d : ByteArray) : decide (or2 (cmpS a b) (cmpS c d) < 0) = (!(!(ltS a b || eqS a b)) && !(eqS a b && !(ltS c d))) := by
  unfold or2
  by_cases h : cmpS a b = 0
  · have he := (cmpS_eq a b).1 h
    have hl : ltS a b = false := by rw [← cmpS_lt, h]; rfl
    simp only [h, beq_self_eq_true, if_true, he, hl]
    rw [← cmpS_lt c d]; simp
  · have he : eqS a b = false := by rw [Bool.eq_false_iff]; intro e; exact h ((cmpS_eq a b).2 e)
    have h' : (cmpS a b == 0) = false := beq_eq_false_iff_ne.2 h
    simp only [h', he]
    rw [← cmpS_lt a b]; simp
end Go.Proofs.YticjnndhpfdajaaGreat
/- Orders for the sort: of texts, of two texts one behind the other. -/
namespace Go.Proofs.YticjnndhpfdajaaGreat
open Go.RowKit Go.Shelf Go.Sort
set_option linter.unusedVariables false
/-- an order: what is like another one stands to all as that one does -/
structure Pre8 {α : Type} (c : α → α → Int) : Prop where
  tr : ∀ a b d, c a b < 0 → c b d < 0 → c a d < 0
  anti : ∀ a b, c a b = - c b a
  con : ∀ a b d, c a b = 0 → c a d = c b d
theorem Pre8.con' {α : Type} {c : α → α → Int} (o : Pre8 c) (a b d : α) (h : c a b = 0) : c d a = c d b := by
  have h1 := o.con a b d h
  have h2 := o.anti d a
  have h3 := o.anti d b
  omega
theorem Pre8.swo {α : Type} {c : α → α → Int} (o : Pre8 c) : SWO (ltOf c) where
  irrefl x := by
    have := o.anti x x
    unfold ltOf
    exact decide_eq_false (by omega)
  trans x y z h1 h2 := by
    unfold ltOf at *
    exact decide_eq_true (o.tr _ _ _ (of_decide_eq_true h1) (of_decide_eq_true h2))
  ntrans x y z h1 h2 := by
    unfold ltOf at *
    have h1 := of_decide_eq_false h1
    have h2 := of_decide_eq_false h2
    have a1 := o.anti x y
    have a2 := o.anti y z
    have a3 := o.anti x z
    refine decide_eq_false fun h => ?_
    by_cases e1 : c y x = 0
    · have := o.con y x z e1; omega
    · by_cases e2 : c z y = 0
      · have := o.con z y x e2; omega
      · have := o.tr z y x (by omega) (by omega); omega
theorem preS : Pre8 cmpS := ⟨fun a b d h1 h2 => cmpS_trans h1 h2, cmpS_anti, fun a b d h => by
  have : a.data.toList = b.data.toList := (cmpB_eq _ _).1 h
  unfold cmpS
  rw [this]⟩
theorem Pre8.on {α β : Type} {c : β → β → Int} (o : Pre8 c) (f : α → β) : Pre8 fun a b : α => c (f a) (f b) := ⟨fun a b d => o.tr _ _ _, fun a b => o.anti _ _, fun a b d => o.con _ _ _⟩
theorem Pre8.or {α : Type} {c d : α → α → Int} (o : Pre8 c) (p : Pre8 d) : Pre8 fun a b => or2 (c a b) (d a b) := by
  have h0 : ∀ a b, c a b = 0 → c b a = 0 := fun a b h => by have := o.anti a b; omega
  have e1 : ∀ a b, c a b = 0 → or2 (c a b) (d a b) = d a b := fun a b h => by unfold or2; simp [h]
  have e2 : ∀ a b, c a b ≠ 0 → or2 (c a b) (d a b) = c a b := fun a b h => by unfold or2; simp [h]
  refine ⟨fun a b x h1 h2 => ?_, fun a b => ?_, fun a b x h => ?_⟩
  · by_cases g1 : c a b = 0
    · rw [e1 _ _ g1] at h1
      have g3 := o.con a b x g1
      by_cases g2 : c b x = 0
      · rw [e1 _ _ g2] at h2
        rw [e1 _ _ (by omega)]; exact p.tr _ _ _ h1 h2
      · rw [e2 _ _ g2] at h2
        rw [e2 _ _ (by omega)]; omega
    · rw [e2 _ _ g1] at h1
      by_cases g2 : c b x = 0
      · have g3 := o.con' b x a g2
        rw [e2 _ _ (by omega)]; omega
      · rw [e2 _ _ g2] at h2
        have := o.tr _ _ _ h1 h2
        rw [e2 _ _ (by omega)]; exact this
  · have ha := o.anti a b
    by_cases g1 : c a b = 0
    · rw [e1 _ _ g1, e1 _ _ (h0 _ _ g1)]; exact p.anti _ _
    · rw [e2 _ _ g1, e2 _ _ (by omega)]; exact ha
  · by_cases g1 : c a b = 0
    · rw [e1 _ _ g1] at h
      have g3 := o.con a b x g1
      by_cases g2 : c a x = 0
      · rw [e1 _ _ g2, e1 _ _ (by omega)]; exact p.con _ _ _ h
      · rw [e2 _ _ g2, e2 _ _ (by omega)]; exact g3
    · rw [e2 _ _ g1] at h; exact absurd h g1
/-- schemas by name, rules by name, tables by schema and name -/
def cmpSc (a b : Sch) : Int := cmpS a.name b.name
theorem preSc : Pre8 cmpSc := preS.on Sch.name
def cmpRl (a b : Rul) : Int := cmpS a.name b.name
theorem preRl : Pre8 cmpRl := preS.on Rul.name
def cmpTb (a b : Tab) : Int := or2 (cmpS a.schema b.schema) (cmpS a.name b.name)
theorem preTb : Pre8 cmpTb := (preS.on Tab.schema).or (preS.on Tab.name)
instance : Inhabited Sch := ⟨⟨ByteArray.empty, ByteArray.empty⟩⟩
instance : Inhabited Rul := ⟨⟨ByteArray.empty, 0, [], 0, 0, ByteArray.empty, ByteArray.empty, ByteArray.empty⟩⟩
instance : Inhabited ORul := ⟨⟨default, ⟨none, 0, 0⟩⟩⟩
instance : Inhabited OTab := ⟨⟨ByteArray.empty, ByteArray.empty, ByteArray.empty, [], [], ⟨none, 0, 0⟩, ⟨none, 0, 0⟩⟩⟩
end Go.Proofs.YticjnndhpfdajaaGreat
/- The kit's contract of slices.SortFunc, laid at schemas, tables and rules. -/
namespace Go.Proofs.YticjnndhpfdajaaGreat
open Go.Shelf Go.Proofs
def sortSch_ren : Go.Shelf.Ren := ⟨fun | 6 => 90 | 15 => 148 | 14 => 162 | 28 => 202 | 29 => 203 | 20 => 209 | 21 => 210 | 22 => 211 | 23 => 212 | 24 => 213 | 25 => 214 | 26 => 215 | 27 => 216 | 46 => 251 | 47 => 245 | 48 => 246 | 49 => 252 | 50 => 253 | 57 => 268 | n => n, fun | 22 => 22 | 24 => 99 | 25 => 109 | 3 => 3 | 39 => 158 | 0 => 0 | 53 => 201 | 55 => 203 | 4 => 4 | 46 => 195 | 45 => 194 | 50 => 122 | 5 => 5 | 9 => 9 | 66 => 227 | 70 => 231 | 76 => 244 | 77 => 245 | n => n, fun | n => n⟩
theorem sortSch_lays : Go.Proofs.SlLaysF0.n6 Tryz.prog sortSch_ren := {
  mixed := by kernel_rfl
  f6 := ⟨Tryz.f90.name, by decide, Tryz.func90.trans (congrArg some (by kernel_rfl))⟩
  f14 := ⟨Tryz.f162.name, by decide, Tryz.func162.trans (congrArg some (by kernel_rfl))⟩
  f15 := Tryz.func148.trans (congrArg some (by kernel_rfl))
  f20 := ⟨Tryz.f209.name, by decide, Tryz.func209.trans (congrArg some (by kernel_rfl))⟩
  f21 := ⟨Tryz.f210.name, by decide, Tryz.func210.trans (congrArg some (by kernel_rfl))⟩
  f22 := ⟨Tryz.f211.name, by decide, Tryz.func211.trans (congrArg some (by kernel_rfl))⟩
  f23 := ⟨Tryz.f212.name, by decide, Tryz.func212.trans (congrArg some (by kernel_rfl))⟩
  f24 := ⟨Tryz.f213.name, by decide, Tryz.func213.trans (congrArg some (by kernel_rfl))⟩
  f25 := ⟨Tryz.f214.name, by decide, Tryz.func214.trans (congrArg some (by kernel_rfl))⟩
  f26 := ⟨Tryz.f215.name, by decide, Tryz.func215.trans (congrArg some (by kernel_rfl))⟩
  f27 := ⟨Tryz.f216.name, by decide, Tryz.func216.trans (congrArg some (by kernel_rfl))⟩
  f28 := Tryz.func202.trans (congrArg some (by kernel_rfl))
  f29 := Tryz.func203.trans (congrArg some (by kernel_rfl))
  f46 := ⟨Tryz.f251.name, by decide, Tryz.func251.trans (congrArg some (by kernel_rfl))⟩
  f47 := Tryz.func245.trans (congrArg some (by kernel_rfl))
  f48 := Tryz.func246.trans (congrArg some (by kernel_rfl))
  f49 := ⟨Tryz.f252.name, by decide, Tryz.func252.trans (congrArg some (by kernel_rfl))⟩
  f50 := ⟨Tryz.f253.name, by decide, Tryz.func253.trans (congrArg some (by kernel_rfl))⟩
  f57 := ⟨Tryz.f268.name, by decide, Tryz.func268.trans (congrArg some (by kernel_rfl))⟩
  t0 := Tryz.underlying0
  a0 := Tryz.isAgg0
  z0 := Tryz.sizeOf0
  v0 := Tryz.zeroValue0
  t3 := Tryz.underlying3
  a3 := Tryz.isAgg3
  z3 := Tryz.sizeOf3
  v3 := Tryz.zeroValue3
  t4 := Tryz.underlying4
  a4 := Tryz.isAgg4
  z4 := Tryz.sizeOf4
  v4 := Tryz.zeroValue4
  t5 := Tryz.underlying5
  a5 := Tryz.isAgg5
  z5 := Tryz.sizeOf5
  v5 := Tryz.zeroValue5
  t9 := Tryz.underlying9
  a9 := Tryz.isAgg9
  z9 := Tryz.sizeOf9
  v9 := Tryz.zeroValue9
  t22 := Tryz.underlying22
  a22 := Tryz.isAgg22
  z22 := Tryz.sizeOf22
  v22 := Tryz.zeroValue22
  t25 := Tryz.underlying109
  a25 := Tryz.isAgg109
  z25 := Tryz.sizeOf109
  v25 := Tryz.zeroValue109
  t39 := Tryz.underlying158
  a39 := Tryz.isAgg158
  z39 := Tryz.sizeOf158
  v39 := Tryz.zeroValue158
  t45 := Tryz.underlying194
  a45 := Tryz.isAgg194
  z45 := Tryz.sizeOf194
  v45 := Tryz.zeroValue194
  t46 := Tryz.underlying195
  a46 := Tryz.isAgg195
  z46 := Tryz.sizeOf195
  v46 := Tryz.zeroValue195
  t50 := Tryz.underlying122
  a50 := Tryz.isAgg122
  z50 := Tryz.sizeOf122
  v50 := Tryz.zeroValue122
  t53 := Tryz.underlying201
  a53 := Tryz.isAgg201
  z53 := Tryz.sizeOf201
  v53 := Tryz.zeroValue201
  t55 := Tryz.underlying203
  a55 := Tryz.isAgg203
  z55 := Tryz.sizeOf203
  v55 := Tryz.zeroValue203
  t66 := Tryz.underlying227
  a66 := Tryz.isAgg227
  z66 := Tryz.sizeOf227
  v66 := Tryz.zeroValue227
  t70 := Tryz.underlying231
  a70 := Tryz.isAgg231
  z70 := Tryz.sizeOf231
  v70 := Tryz.zeroValue231
  t76 := Tryz.underlying244
  a76 := Tryz.isAgg244
  z76 := Tryz.sizeOf244
  v76 := Tryz.zeroValue244
  t77 := Tryz.underlying245
  a77 := Tryz.isAgg245
  z77 := Tryz.sizeOf245
  v77 := Tryz.zeroValue245 }
def sortTab_ren : Go.Shelf.Ren := ⟨fun | 6 => 112 | 15 => 148 | 14 => 170 | 28 => 202 | 29 => 203 | 20 => 217 | 21 => 218 | 22 => 219 | 23 => 220 | 24 => 221 | 25 => 222 | 26 => 223 | 27 => 224 | 46 => 254 | 47 => 245 | 48 => 246 | 49 => 255 | 50 => 256 | 57 => 269 | n => n, fun | 22 => 23 | 24 => 50 | 25 => 119 | 3 => 3 | 39 => 158 | 0 => 0 | 53 => 201 | 55 => 203 | 4 => 4 | 46 => 195 | 45 => 194 | 50 => 122 | 5 => 5 | 9 => 9 | 66 => 227 | 70 => 231 | 76 => 244 | 77 => 245 | n => n, fun | n => n⟩
theorem sortTab_lays : Go.Proofs.SlLaysF0.n6 Tryz.prog sortTab_ren := {
  mixed := by kernel_rfl
  f6 := ⟨Tryz.f112.name, by decide, Tryz.func112.trans (congrArg some (by kernel_rfl))⟩
  f14 := ⟨Tryz.f170.name, by decide, Tryz.func170.trans (congrArg some (by kernel_rfl))⟩
  f15 := Tryz.func148.trans (congrArg some (by kernel_rfl))
  f20 := ⟨Tryz.f217.name, by decide, Tryz.func217.trans (congrArg some (by kernel_rfl))⟩
  f21 := ⟨Tryz.f218.name, by decide, Tryz.func218.trans (congrArg some (by kernel_rfl))⟩
  f22 := ⟨Tryz.f219.name, by decide, Tryz.func219.trans (congrArg some (by kernel_rfl))⟩
  f23 := ⟨Tryz.f220.name, by decide, Tryz.func220.trans (congrArg some (by kernel_rfl))⟩
  f24 := ⟨Tryz.f221.name, by decide, Tryz.func221.trans (congrArg some (by kernel_rfl))⟩
  f25 := ⟨Tryz.f222.name, by decide, Tryz.func222.trans (congrArg some (by kernel_rfl))⟩
  f26 := ⟨Tryz.f223.name, by decide, Tryz.func223.trans (congrArg some (by kernel_rfl))⟩
  f27 := ⟨Tryz.f224.name, by decide, Tryz.func224.trans (congrArg some (by kernel_rfl))⟩
  f28 := Tryz.func202.trans (congrArg some (by kernel_rfl))
  f29 := Tryz.func203.trans (congrArg some (by kernel_rfl))
  f46 := ⟨Tryz.f254.name, by decide, Tryz.func254.trans (congrArg some (by kernel_rfl))⟩
  f47 := Tryz.func245.trans (congrArg some (by kernel_rfl))
  f48 := Tryz.func246.trans (congrArg some (by kernel_rfl))
  f49 := ⟨Tryz.f255.name, by decide, Tryz.func255.trans (congrArg some (by kernel_rfl))⟩
  f50 := ⟨Tryz.f256.name, by decide, Tryz.func256.trans (congrArg some (by kernel_rfl))⟩
  f57 := ⟨Tryz.f269.name, by decide, Tryz.func269.trans (congrArg some (by kernel_rfl))⟩
  t0 := Tryz.underlying0
  a0 := Tryz.isAgg0
  z0 := Tryz.sizeOf0
  v0 := Tryz.zeroValue0
  t3 := Tryz.underlying3
  a3 := Tryz.isAgg3
  z3 := Tryz.sizeOf3
  v3 := Tryz.zeroValue3
  t4 := Tryz.underlying4
  a4 := Tryz.isAgg4
  z4 := Tryz.sizeOf4
  v4 := Tryz.zeroValue4
  t5 := Tryz.underlying5
  a5 := Tryz.isAgg5
  z5 := Tryz.sizeOf5
  v5 := Tryz.zeroValue5
  t9 := Tryz.underlying9
  a9 := Tryz.isAgg9
  z9 := Tryz.sizeOf9
  v9 := Tryz.zeroValue9
  t22 := Tryz.underlying23
  a22 := Tryz.isAgg23
  z22 := Tryz.sizeOf23
  v22 := Tryz.zeroValue23
  t25 := Tryz.underlying119
  a25 := Tryz.isAgg119
  z25 := Tryz.sizeOf119
  v25 := Tryz.zeroValue119
  t39 := Tryz.underlying158
  a39 := Tryz.isAgg158
  z39 := Tryz.sizeOf158
  v39 := Tryz.zeroValue158
  t45 := Tryz.underlying194
  a45 := Tryz.isAgg194
  z45 := Tryz.sizeOf194
  v45 := Tryz.zeroValue194
  t46 := Tryz.underlying195
  a46 := Tryz.isAgg195
  z46 := Tryz.sizeOf195
  v46 := Tryz.zeroValue195
  t50 := Tryz.underlying122
  a50 := Tryz.isAgg122
  z50 := Tryz.sizeOf122
  v50 := Tryz.zeroValue122
  t53 := Tryz.underlying201
  a53 := Tryz.isAgg201
  z53 := Tryz.sizeOf201
  v53 := Tryz.zeroValue201
  t55 := Tryz.underlying203
  a55 := Tryz.isAgg203
  z55 := Tryz.sizeOf203
  v55 := Tryz.zeroValue203
  t66 := Tryz.underlying227
  a66 := Tryz.isAgg227
  z66 := Tryz.sizeOf227
  v66 := Tryz.zeroValue227
  t70 := Tryz.underlying231
  a70 := Tryz.isAgg231
  z70 := Tryz.sizeOf231
  v70 := Tryz.zeroValue231
  t76 := Tryz.underlying244
  a76 := Tryz.isAgg244
  z76 := Tryz.sizeOf244
  v76 := Tryz.zeroValue244
  t77 := Tryz.underlying245
  a77 := Tryz.isAgg245
  z77 := Tryz.sizeOf245
  v77 := Tryz.zeroValue245 }
def sortRul_ren : Go.Shelf.Ren := ⟨fun | 6 => 67 | 15 => 148 | 14 => 147 | 28 => 202 | 29 => 203 | 20 => 194 | 21 => 195 | 22 => 196 | 23 => 197 | 24 => 198 | 25 => 199 | 26 => 200 | 27 => 201 | 46 => 244 | 47 => 245 | 48 => 246 | 49 => 247 | 50 => 248 | 57 => 267 | n => n, fun | 22 => 48 | 24 => 29 | 25 => 87 | 3 => 3 | 39 => 158 | 0 => 0 | 53 => 201 | 55 => 203 | 4 => 4 | 46 => 195 | 45 => 194 | 50 => 122 | 5 => 5 | 9 => 9 | 66 => 227 | 70 => 231 | 76 => 244 | 77 => 245 | n => n, fun | n => n⟩
theorem sortRul_lays : Go.Proofs.SlLaysF0.n6 Tryz.prog sortRul_ren := {
  mixed := by kernel_rfl
  f6 := ⟨Tryz.f67.name, by decide, Tryz.func67.trans (congrArg some (by kernel_rfl))⟩
  f14 := ⟨Tryz.f147.name, by decide, Tryz.func147.trans (congrArg some (by kernel_rfl))⟩
  f15 := Tryz.func148.trans (congrArg some (by kernel_rfl))
  f20 := ⟨Tryz.f194.name, by decide, Tryz.func194.trans (congrArg some (by kernel_rfl))⟩
  f21 := ⟨Tryz.f195.name, by decide, Tryz.func195.trans (congrArg some (by kernel_rfl))⟩
  f22 := ⟨Tryz.f196.name, by decide, Tryz.func196.trans (congrArg some (by kernel_rfl))⟩
  f23 := ⟨Tryz.f197.name, by decide, Tryz.func197.trans (congrArg some (by kernel_rfl))⟩
  f24 := ⟨Tryz.f198.name, by decide, Tryz.func198.trans (congrArg some (by kernel_rfl))⟩
  f25 := ⟨Tryz.f199.name, by decide, Tryz.func199.trans (congrArg some (by kernel_rfl))⟩
  f26 := ⟨Tryz.f200.name, by decide, Tryz.func200.trans (congrArg some (by kernel_rfl))⟩
  f27 := ⟨Tryz.f201.name, by decide, Tryz.func201.trans (congrArg some (by kernel_rfl))⟩
  f28 := Tryz.func202.trans (congrArg some (by kernel_rfl))
  f29 := Tryz.func203.trans (congrArg some (by kernel_rfl))
  f46 := ⟨Tryz.f244.name, by decide, Tryz.func244.trans (congrArg some (by kernel_rfl))⟩
  f47 := Tryz.func245.trans (congrArg some (by kernel_rfl))
  f48 := Tryz.func246.trans (congrArg some (by kernel_rfl))
  f49 := ⟨Tryz.f247.name, by decide, Tryz.func247.trans (congrArg some (by kernel_rfl))⟩
  f50 := ⟨Tryz.f248.name, by decide, Tryz.func248.trans (congrArg some (by kernel_rfl))⟩
  f57 := ⟨Tryz.f267.name, by decide, Tryz.func267.trans (congrArg some (by kernel_rfl))⟩
  t0 := Tryz.underlying0
  a0 := Tryz.isAgg0
  z0 := Tryz.sizeOf0
  v0 := Tryz.zeroValue0
  t3 := Tryz.underlying3
  a3 := Tryz.isAgg3
  z3 := Tryz.sizeOf3
  v3 := Tryz.zeroValue3
  t4 := Tryz.underlying4
  a4 := Tryz.isAgg4
  z4 := Tryz.sizeOf4
  v4 := Tryz.zeroValue4
  t5 := Tryz.underlying5
  a5 := Tryz.isAgg5
  z5 := Tryz.sizeOf5
  v5 := Tryz.zeroValue5
  t9 := Tryz.underlying9
  a9 := Tryz.isAgg9
  z9 := Tryz.sizeOf9
  v9 := Tryz.zeroValue9
  t22 := Tryz.underlying48
  a22 := Tryz.isAgg48
  z22 := Tryz.sizeOf48
  v22 := Tryz.zeroValue48
  t25 := Tryz.underlying87
  a25 := Tryz.isAgg87
  z25 := Tryz.sizeOf87
  v25 := Tryz.zeroValue87
  t39 := Tryz.underlying158
  a39 := Tryz.isAgg158
  z39 := Tryz.sizeOf158
  v39 := Tryz.zeroValue158
  t45 := Tryz.underlying194
  a45 := Tryz.isAgg194
  z45 := Tryz.sizeOf194
  v45 := Tryz.zeroValue194
  t46 := Tryz.underlying195
  a46 := Tryz.isAgg195
  z46 := Tryz.sizeOf195
  v46 := Tryz.zeroValue195
  t50 := Tryz.underlying122
  a50 := Tryz.isAgg122
  z50 := Tryz.sizeOf122
  v50 := Tryz.zeroValue122
  t53 := Tryz.underlying201
  a53 := Tryz.isAgg201
  z53 := Tryz.sizeOf201
  v53 := Tryz.zeroValue201
  t55 := Tryz.underlying203
  a55 := Tryz.isAgg203
  z55 := Tryz.sizeOf203
  v55 := Tryz.zeroValue203
  t66 := Tryz.underlying227
  a66 := Tryz.isAgg227
  z66 := Tryz.sizeOf227
  v66 := Tryz.zeroValue227
  t70 := Tryz.underlying231
  a70 := Tryz.isAgg231
  z70 := Tryz.sizeOf231
  v70 := Tryz.zeroValue231
  t76 := Tryz.underlying244
  a76 := Tryz.isAgg244
  z76 := Tryz.sizeOf244
  v76 := Tryz.zeroValue244
  t77 := Tryz.underlying245
  a77 := Tryz.isAgg245
  z77 := Tryz.sizeOf245
  v77 := Tryz.zeroValue245 }
end Go.Proofs.YticjnndhpfdajaaGreat
