/- Contracts of the program, part 12. -/
import Derived.Test.YticjnndhpfdajaaPart11
import Derived.Test.YticjnndhpfdajaaPart10
import Derived.Shelf.SlSortCmp.WholeK
import Derived.Test.YticjnndhpfdajaaPart1
/- Orders for the sort: of texts, of two texts one behind the other. -/
namespace Go.Proofs.Yticjnndhpfdajaa
open Go.RowKit Go.Shelf Go.Sort
set_option linter.unusedVariables false
/-- an order: what is like another one stands to all as that one does -/
structure Pre8 {α : Type} (c : α → α → Int) : Prop where
  tr : ∀ a b d, c a b < 0 → c b d < 0 → c a d < 0
  anti : ∀ a b, c a b = - c b a
  con : ∀ a b d, c a b = 0 → c a d = c b d
theorem Pre8.con' {α : Type} {c : α → α → Int} (o : Pre8 c) (a b d : α) (h : c a b = 0) : c d a = c d b := by
  have h1 := o.con a b d h
  have h2 := o.anti d a
  have h3 := o.anti d b
  omega
theorem Pre8.swo {α : Type} {c : α → α → Int} (o : Pre8 c) : SWO (ltOf c) where
  irrefl x := by
    have := o.anti x x
    unfold ltOf
    exact decide_eq_false (by omega)
  trans x y z h1 h2 := by
    unfold ltOf at *
    exact decide_eq_true (o.tr _ _ _ (of_decide_eq_true h1) (of_decide_eq_true h2))
  ntrans x y z h1 h2 := by
    unfold ltOf at *
    have h1 := of_decide_eq_false h1
    have h2 := of_decide_eq_false h2
    have a1 := o.anti x y
    have a2 := o.anti y z
    have a3 := o.anti x z
    refine decide_eq_false fun h => ?_
    by_cases e1 : c y x = 0
    · have := o.con y x z e1; omega
    · by_cases e2 : c z y = 0
      · have := o.con z y x e2; omega
      · have := o.tr z y x (by omega) (by omega); omega
theorem preS : Pre8 cmpS := ⟨fun a b d h1 h2 => cmpS_trans h1 h2, cmpS_anti, fun a b d h => by
  have : a.data.toList = b.data.toList := (cmpB_eq _ _).1 h
  unfold cmpS
  rw [this]⟩
theorem Pre8.on {α β : Type} {c : β → β → Int} (o : Pre8 c) (f : α → β) : Pre8 fun a b : α => c (f a) (f b) := ⟨fun a b d => o.tr _ _ _, fun a b => o.anti _ _, fun a b d => o.con _ _ _⟩
theorem Pre8.or {α : Type} {c d : α → α → Int} (o : Pre8 c) (p : Pre8 d) : Pre8 fun a b => or2 (c a b) (d a b) := by
  have h0 : ∀ a b, c a b = 0 → c b a = 0 := fun a b h => by have := o.anti a b; omega
  have e1 : ∀ a b, c a b = 0 → or2 (c a b) (d a b) = d a b := fun a b h => by unfold or2; simp [h]
  have e2 : ∀ a b, c a b ≠ 0 → or2 (c a b) (d a b) = c a b := fun a b h => by unfold or2; simp [h]
  refine ⟨fun a b x h1 h2 => ?_, fun a b => ?_, fun a b x h => ?_⟩
  · by_cases g1 : c a b = 0
    · rw [e1 _ _ g1] at h1
      have g3 := o.con a b x g1
      by_cases g2 : c b x = 0
      · rw [e1 _ _ g2] at h2
        rw [e1 _ _ (by omega)]; exact p.tr _ _ _ h1 h2
      · rw [e2 _ _ g2] at h2
        rw [e2 _ _ (by omega)]; omega
    · rw [e2 _ _ g1] at h1
      by_cases g2 : c b x = 0
      · have g3 := o.con' b x a g2
        rw [e2 _ _ (by omega)]; omega
      · rw [e2 _ _ g2] at h2
        have := o.tr _ _ _ h1 h2
        rw [e2 _ _ (by omega)]; exact this
  · have ha := o.anti a b
    by_cases g1 : c a b = 0
    · rw [e1 _ _ g1, e1 _ _ (h0 _ _ g1)]; exact p.anti _ _
    · rw [e2 _ _ g1, e2 _ _ (by omega)]; exact ha
  · by_cases g1 : c a b = 0
    · rw [e1 _ _ g1] at h
      have g3 := o.con a b x g1
      by_cases g2 : c a x = 0
      · rw [e1 _ _ g2, e1 _ _ (by omega)]; exact p.con _ _ _ h
      · rw [e2 _ _ g2, e2 _ _ (by omega)]; exact g3
    · rw [e2 _ _ g1] at h; exact absurd h g1
/-- schemas by name, rules by name, tables by schema and name -/
def cmpSc (a b : Sch) : Int := cmpS a.name b.name
theorem preSc : Pre8 cmpSc := preS.on Sch.name
def cmpRl (a b : Rul) : Int := cmpS a.name b.name
theorem preRl : Pre8 cmpRl := preS.on Rul.name
def cmpTb (a b : Tab) : Int := or2 (cmpS a.schema b.schema) (cmpS a.name b.name)
theorem preTb : Pre8 cmpTb := (preS.on Tab.schema).or (preS.on Tab.name)
instance : Inhabited Sch := ⟨⟨ByteArray.empty, ByteArray.empty⟩⟩
instance : Inhabited Rul := ⟨⟨ByteArray.empty, 0, [], 0, 0, ByteArray.empty, ByteArray.empty, ByteArray.empty⟩⟩
instance : Inhabited ORul := ⟨⟨default, ⟨none, 0, 0⟩⟩⟩
instance : Inhabited OTab := ⟨⟨ByteArray.empty, ByteArray.empty, ByteArray.empty, [], [], ⟨none, 0, 0⟩, ⟨none, 0, 0⟩⟩⟩
end Go.Proofs.Yticjnndhpfdajaa
/- The kit's contract of slices.SortFunc, laid at schemas, tables and rules. -/
namespace Go.Proofs.Yticjnndhpfdajaa
open Go.Shelf Go.Proofs
def sortTab_ren : Go.Shelf.Ren := ⟨fun | 6 => 22 | 15 => 52 | 14 => 51 | 28 => 77 | 29 => 78 | 20 => 69 | 21 => 70 | 22 => 71 | 23 => 72 | 24 => 73 | 25 => 74 | 26 => 75 | 27 => 76 | 46 => 87 | 47 => 88 | 48 => 89 | 49 => 90 | 50 => 91 | 57 => 100 | n => n, fun | 22 => 23 | 24 => 29 | 25 => 56 | 3 => 3 | 39 => 84 | 0 => 0 | 53 => 104 | 55 => 106 | 4 => 4 | 46 => 98 | 45 => 97 | 50 => 46 | 5 => 5 | 9 => 9 | 66 => 112 | 70 => 116 | 76 => 126 | 77 => 127 | n => n, fun | n => n⟩
theorem sortTab_lays : Go.Proofs.SlLaysF0.n6 Try.prog sortTab_ren := {
  mixed := by kernel_rfl
  f6 := ⟨Try.f22.name, by decide, Try.func22.trans (congrArg some (by kernel_rfl))⟩
  f14 := ⟨Try.f51.name, by decide, Try.func51.trans (congrArg some (by kernel_rfl))⟩
  f15 := Try.func52.trans (congrArg some (by kernel_rfl))
  f20 := ⟨Try.f69.name, by decide, Try.func69.trans (congrArg some (by kernel_rfl))⟩
  f21 := ⟨Try.f70.name, by decide, Try.func70.trans (congrArg some (by kernel_rfl))⟩
  f22 := ⟨Try.f71.name, by decide, Try.func71.trans (congrArg some (by kernel_rfl))⟩
  f23 := ⟨Try.f72.name, by decide, Try.func72.trans (congrArg some (by kernel_rfl))⟩
  f24 := ⟨Try.f73.name, by decide, Try.func73.trans (congrArg some (by kernel_rfl))⟩
  f25 := ⟨Try.f74.name, by decide, Try.func74.trans (congrArg some (by kernel_rfl))⟩
  f26 := ⟨Try.f75.name, by decide, Try.func75.trans (congrArg some (by kernel_rfl))⟩
  f27 := ⟨Try.f76.name, by decide, Try.func76.trans (congrArg some (by kernel_rfl))⟩
  f28 := Try.func77.trans (congrArg some (by kernel_rfl))
  f29 := Try.func78.trans (congrArg some (by kernel_rfl))
  f46 := ⟨Try.f87.name, by decide, Try.func87.trans (congrArg some (by kernel_rfl))⟩
  f47 := Try.func88.trans (congrArg some (by kernel_rfl))
  f48 := Try.func89.trans (congrArg some (by kernel_rfl))
  f49 := ⟨Try.f90.name, by decide, Try.func90.trans (congrArg some (by kernel_rfl))⟩
  f50 := ⟨Try.f91.name, by decide, Try.func91.trans (congrArg some (by kernel_rfl))⟩
  f57 := ⟨Try.f100.name, by decide, Try.func100.trans (congrArg some (by kernel_rfl))⟩
  t0 := Try.underlying0
  a0 := Try.isAgg0
  z0 := Try.sizeOf0
  v0 := Try.zeroValue0
  t3 := Try.underlying3
  a3 := Try.isAgg3
  z3 := Try.sizeOf3
  v3 := Try.zeroValue3
  t4 := Try.underlying4
  a4 := Try.isAgg4
  z4 := Try.sizeOf4
  v4 := Try.zeroValue4
  t5 := Try.underlying5
  a5 := Try.isAgg5
  z5 := Try.sizeOf5
  v5 := Try.zeroValue5
  t9 := Try.underlying9
  a9 := Try.isAgg9
  z9 := Try.sizeOf9
  v9 := Try.zeroValue9
  t22 := Try.underlying23
  a22 := Try.isAgg23
  z22 := Try.sizeOf23
  v22 := Try.zeroValue23
  t25 := Try.underlying56
  a25 := Try.isAgg56
  z25 := Try.sizeOf56
  v25 := Try.zeroValue56
  t39 := Try.underlying84
  a39 := Try.isAgg84
  z39 := Try.sizeOf84
  v39 := Try.zeroValue84
  t45 := Try.underlying97
  a45 := Try.isAgg97
  z45 := Try.sizeOf97
  v45 := Try.zeroValue97
  t46 := Try.underlying98
  a46 := Try.isAgg98
  z46 := Try.sizeOf98
  v46 := Try.zeroValue98
  t50 := Try.underlying46
  a50 := Try.isAgg46
  z50 := Try.sizeOf46
  v50 := Try.zeroValue46
  t53 := Try.underlying104
  a53 := Try.isAgg104
  z53 := Try.sizeOf104
  v53 := Try.zeroValue104
  t55 := Try.underlying106
  a55 := Try.isAgg106
  z55 := Try.sizeOf106
  v55 := Try.zeroValue106
  t66 := Try.underlying112
  a66 := Try.isAgg112
  z66 := Try.sizeOf112
  v66 := Try.zeroValue112
  t70 := Try.underlying116
  a70 := Try.isAgg116
  z70 := Try.sizeOf116
  v70 := Try.zeroValue116
  t76 := Try.underlying126
  a76 := Try.isAgg126
  z76 := Try.sizeOf126
  v76 := Try.zeroValue126
  t77 := Try.underlying127
  a77 := Try.isAgg127
  z77 := Try.sizeOf127
  v77 := Try.zeroValue127 }
end Go.Proofs.Yticjnndhpfdajaa
