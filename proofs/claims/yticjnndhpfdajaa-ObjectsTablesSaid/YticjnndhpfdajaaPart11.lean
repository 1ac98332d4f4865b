/- Contracts of the program, part 11. -/
import Derived.Test.YticjnndhpfdajaaPart6
import Derived.Test.YticjnndhpfdajaaPart10
import Derived.Shelf.SlSortCmp.WholeK
import Derived.Test.YticjnndhpfdajaaPart5
/- slices.SortFunc over a row of our own: it holds the same things in order; and what one new thing in a row that rises makes of it. -/
namespace Go.Proofs.Yticjnndhpfdajaa
open Go.RowKit Go.Deep Go.Shelf Go.Sort
set_option linter.unusedVariables false
set_option linter.unusedSectionVars false
section
variable {α : Type} [Inhabited α]
theorem flatK_list (f : α → List Value) (k : Nat) (hk : ∀ x, (f x).length = k) (d : Array α) : (flatK f k d).toList = d.toList.flatMap f := by
  have hl : (d.toList.flatMap f).length = d.size * k := by rw [flatMap_len hk]; simp
  refine List.ext_getElem (by simp [flatK, hl]) fun t h1 h2 => ?_
  have ht : t < d.size * k := by rw [← hl]; exact h2
  have k0 : 0 < k := by
    rcases Nat.eq_zero_or_pos k with h | h
    · subst h; simp at ht
    · exact h
  have hd : t / k < d.size := Nat.div_lt_of_lt_mul (by rw [Nat.mul_comm]; exact ht)
  have hm : t % k < k := Nat.mod_lt _ k0
  have e := flat_get (size := k) (d.toList.map f) (by simp [hk]) (t / k) (t % k) (by simpa using hd) hm
  rw [← List.flatMap_def, Nat.div_add_mod' t k] at e
  rw [List.getElem?_eq_getElem h2] at e
  have e2 : (flatK f k d)[t]! = (f d[t / k]!)[t % k]! := get_flatK f k d t ht
  rw [getElem!_pos _ t (by rw [size_flatK]; exact ht), getElem!_pos d _ hd, getElem!_pos _ _ (by rw [hk]; exact hm)] at e2
  rw [Array.getElem_toList, e2]
  simp only [List.getElem_map, Array.getElem_toList] at e
  rw [List.getElem?_eq_getElem (by rw [hk]; exact hm)] at e
  exact (Option.some.inj e).symm
theorem setMany_list (F G : Array Value) (h : F.size = G.size) : setMany F 0 G.toList = G := by
  refine ext_get! (by rw [size_setMany]; exact h) fun t ht => ?_
  rw [size_setMany] at ht
  rw [get_setMany _ _ _ _ ht, if_pos ⟨Nat.zero_le _, by simpa using (by omega : t < G.size)⟩]
  simp
  rw [getElem!_pos G t (by omega)]
  simp [List.getElem!_eq_getElem?_getD, Array.getElem?_eq_getElem (show t < G.size by omega)]
theorem putRow_cells (w : World) (blk : Nat) (F G : Array Value) (h : Holds id w blk 0 F) (hs : F.size = G.size) : putRow id w blk 0 G = w.setCells blk 0 G.toList := by
  have h1 := putRow_self id w blk 0 F h
  have h2 := setCells_putRow w blk 0 G.toList 0 F (by simp [hs])
  rw [h1, setMany_list F G hs] at h2
  exact h2.symm
theorem holdsK_own {w : World} {B k cap blk : Nat} {e : TypeId} (f : α → List Value) (hk : ∀ x, (f x).length = k) (l : List α) (h0 : 0 < l.length) (ho : w.ownsRow B e k (.slice (some ⟨blk, 0, none⟩) l.length cap) l.length (l.flatMap f)) : HoldsK f k w blk 0 l.toArray := by
  obtain ⟨g, cap', hv, hB, hnc, hr⟩ := own_rowAt ho h0
  have : g = blk := by simp only [Value.slice.injEq, Option.some.injEq, Addr.mk.injEq] at hv; exact hv.1.1.symm
  subst this
  intro j hj
  rw [size_flatK] at hj
  have hj' : j < (l.flatMap f).length := by rw [flatMap_len hk]; simpa using hj
  have e1 := flatK_list f k hk l.toArray
  refine ⟨?_, by rw [Nat.zero_add]; exact hr.2.2 j hj'⟩
  rw [Nat.zero_add, hr.2.1 j hj', id, getElem!_pos _ j (by rw [size_flatK]; exact hj), ← Array.getElem_toList, List.getElem?_eq_getElem hj']
  congr 1
  exact (List.getElem_of_eq e1 _).symm
theorem aft_ahead (w : World) (n : Nat) : Aft w (Go.Sort.ahead w n) := ⟨rfl, rfl, rfl, Nat.le_refl _, fun _ _ => rfl⟩
theorem aft_grow (w : World) (os : Array Obj) : Aft w (grow w os) := ⟨rfl, rfl, rfl, by simp, fun k hk => heap_grow_old w os hk⟩
/-- what a sort leaves -/
def SortedP (e : TypeId) (k : Nat) (f : α → List Value) (cf : α → α → Int) (w : World) (B blk cap : Nat) (l : List α) (x : Ending) (w' : World) : Prop :=
  x = .returned (.tuple #[]) ∧ ∃ l' : List α, l'.Perm l ∧ (∀ i j (hi : i < l'.length) (hj : j < l'.length), i < j → ¬ cf l'[j] l'[i] < 0) ∧ w'.ownsRow B e k (.slice (some ⟨blk, 0, none⟩) l.length cap) l.length (l'.flatMap f) ∧ Kb (fun j => j = blk) w w'
theorem sort_own {P : Program} {ρ : Ren} (L : SlLaysF0.n6 P ρ) (k : Nat) (aE : ∀ w, (isAgg (ρ.t 24)).run P w = .ok true w) (zE : ∀ w, (Go.sizeOf (ρ.t 24)).run P w = .ok k w) (f : α → List Value) (hk : ∀ x, (f x).length = k) (h1 : ∀ x, ∀ v ∈ f x, v.oneCell' = true) (cf : α → α → Int) (hO : SWO (ltOf cf)) (g : Nat) (cb : Array Value)
    (e : TypeId) (B blk cap : Nat) (l : List α) (h0 : 0 < l.length) (hsz : l.length ≤ 1000000) (w : World) (ho : w.ownsRow B e k (.slice (some ⟨blk, 0, none⟩) l.length cap) l.length (l.flatMap f)) (eg : ∀ args w, (callFunc g args).run P w = .ok (.enter g args) w)
    (hc : ∀ W x y, Calls P g (#[.agg (f x).toArray, .agg (f y).toArray] ++ cb) W fun e w' => e = .returned (.int .i64 (cf x y)) ∧ ∃ q os', w' = grow (W.drewN q) os') :
    Calls P (ρ.f 6) #[.slice (some ⟨blk, 0, none⟩) l.length cap, .func (.func g) #[] cb] w (SortedP e k f cf w B blk cap l) := by
  have hH := holdsK_own f hk l h0 ho
  have hb : blk < w.heap.size := (ho.lt blk rfl).2
  refine (AnyQ.slices_SortFunc L k aE zE f hk h1 cf hO g cb blk 0 cap l.toArray w eg (fun m os dk _ x y => hc _ x y) hH hb (by simp; omega)).mono ?_
  rintro x w' ⟨rfl, d', n, os, hp, hs, rfl⟩
  have hsize : d'.size = l.length := by have := hp.1; simpa using this
  have hext : ∀ d : Array α, d.size = l.length → (d.extract 0 l.toArray.size).toList = d.toList := fun d hd => by simp [← hd]
  refine ⟨rfl, d'.toList, ?_, fun i j hi hj hij => ?_, ?_, ?_⟩
  · have := hp.2.2
    rw [hext d' hsize, hext l.toArray (by simp)] at this
    simpa using this
  · have hj2 : j < d'.size := by simpa using hj
    have := hs i j (Nat.zero_le _) hij (by simp; omega)
    rw [getElem!_pos d' j hj2, getElem!_pos d' i (by omega)] at this
    simpa [ltOf] using this
  · unfold sortWorldK putRowK
    rw [putRow_cells (Go.Sort.ahead w n) blk (flatK f k l.toArray) (flatK f k d') (holdsK_ahead f k w n blk 0 l.toArray hH) (by simp [hsize])]
    refine own_aft ?_ (aft_grow _ os)
    have h2 := own_setCells (v := .slice (some ⟨blk, 0, none⟩) l.length cap) (g := blk) rfl (flatK f k d').toList 0 (own_aft ho (aft_ahead w n))
    rw [setL_eq _ _ _ (by simp [flatMap_len hk, hsize])] at h2
    rw [flatK_list f k hk] at h2 ⊢
    have e3 : (d'.toList.flatMap f).length = (l.flatMap f).length := by rw [flatMap_len hk, flatMap_len hk]; simp [hsize]
    rw [List.take_zero, List.nil_append, Nat.zero_add, e3, List.drop_length, List.append_nil] at h2
    exact h2
  · unfold sortWorldK putRowK
    rw [putRow_cells (Go.Sort.ahead w n) blk (flatK f k l.toArray) (flatK f k d') (holdsK_ahead f k w n blk 0 l.toArray hH) (by simp [hsize])]
    exact ((Kb.of_aft (aft_ahead w n)).trans (kb_setCells blk _ _ _)).trans (Kb.of_aft (aft_grow _ os))
end
/-- two rows of the same things, one that rises and one that does not fall, are one -/
theorem perm_rises {α : Type} {c : α → α → Int} (tr : ∀ a b d, c a b < 0 → c b d < 0 → c a d < 0) (anti : ∀ a b, c a b = - c b a) {L l' : List α} (hL : ∀ i j (hi : i < L.length) (hj : j < L.length), i < j → c L[i] L[j] < 0) (hp : l'.Perm L) (hs : ∀ i j (hi : i < l'.length) (hj : j < l'.length), i < j → ¬ c l'[j] l'[i] < 0) : l' = L := by
  have hw : L.Pairwise fun a b => c a b < 0 := List.pairwise_iff_getElem.2 fun i j hi hj hij => hL i j hi hj hij
  have hne : ∀ a ∈ L, ∀ b ∈ L, c a b = 0 → a = b := fun a ha b hb e => by
    obtain ⟨i, hi, rfl⟩ := List.getElem_of_mem ha
    obtain ⟨j, hj, rfl⟩ := List.getElem_of_mem hb
    rcases Nat.lt_trichotomy i j with h | h | h
    · have := hL i j hi hj h; omega
    · subst h; rfl
    · have := hL j i hj hi h; have := anti L[j] L[i]; omega
  have hle : l'.Pairwise fun a b => c a b ≤ 0 := List.pairwise_iff_getElem.2 fun i j hi hj hij => by
    have h1 := hs i j hi hj hij
    have h2 := anti l'[i] l'[j]
    omega
  exact List.Perm.eq_of_pairwise (le := fun a b => c a b ≤ 0) (fun a b ha hb h1 h2 => hne a (hp.subset ha) b hb (by have := anti a b; omega)) hle (hw.imp fun h => Int.le_of_lt h) hp
/-- one new thing behind a row that rises, in order, stands in its place -/
theorem sort_ins {α : Type} {c : α → α → Int} (tr : ∀ a b d, c a b < 0 → c b d < 0 → c a d < 0) (anti : ∀ a b, c a b = - c b a) {l l' : List α} {x : α} (hr : risesB c l = true) (hn : ∀ y ∈ l, c y x ≠ 0) (hp : l'.Perm (l ++ [x])) (hs : ∀ i j (hi : i < l'.length) (hj : j < l'.length), i < j → ¬ c l'[j] l'[i] < 0) : l' = insAt l (posB c l x) x := by
  have hi := rises_ins' tr anti hr hn
  refine perm_rises tr anti (fun i j hi' hj hij => rises_lt tr hi i j hi' hj hij) (hp.trans ?_) hs
  unfold insAt
  have h1 : (l ++ [x]).Perm ([x] ++ l) := List.perm_append_comm
  have h2 : (l.take (posB c l x) ++ [x]).Perm ([x] ++ l.take (posB c l x)) := List.perm_append_comm
  refine h1.trans (List.Perm.trans ?_ (h2.append_right _).symm)
  rw [List.append_assoc, List.take_append_drop]
end Go.Proofs.Yticjnndhpfdajaa
/- The order of texts, as a number and as the model's own order. -/
namespace Go.Proofs.Yticjnndhpfdajaa
open Go.RowKit
set_option linter.unusedVariables false
def ltS (a b : ByteArray) : Bool := Op.bytesLess a.toList b.toList
theorem cmpB_lt : ∀ (a b : List UInt8), decide (Lib.compareBytes a b < 0) = Op.bytesLess a b
  | [], [] => rfl
  | [], _ :: _ => rfl
  | _ :: _, [] => rfl
  | x :: a, y :: b => by
    unfold Lib.compareBytes Op.bytesLess
    by_cases h : x < y
    · simp [h]
    · by_cases h2 : y < x
      · have h3 : ¬ x = y := fun e => by subst e; exact UInt8.lt_irrefl _ h2
        simp [h, h2, h3]
      · have h3 : x = y := UInt8.le_antisymm (UInt8.not_lt.1 h2) (UInt8.not_lt.1 h)
        subst h3
        have := cmpB_lt a b
        simp [UInt8.lt_irrefl, this]
theorem cmpB_eq : ∀ (a b : List UInt8), (Lib.compareBytes a b = 0) ↔ a = b
  | [], [] => by simp [Lib.compareBytes]
  | [], _ :: _ => by simp [Lib.compareBytes]
  | _ :: _, [] => by simp [Lib.compareBytes]
  | x :: a, y :: b => by
    unfold Lib.compareBytes
    by_cases h : x < y
    · have h3 : ¬ x = y := fun e => by subst e; exact UInt8.lt_irrefl _ h
      simp [h, h3]
    · by_cases h2 : y < x
      · have h3 : ¬ x = y := fun e => by subst e; exact UInt8.lt_irrefl _ h2
        simp [h, h2, h3]
      · have h3 : x = y := UInt8.le_antisymm (UInt8.not_lt.1 h2) (UInt8.not_lt.1 h)
        subst h3
        have := cmpB_eq a b
        simp [UInt8.lt_irrefl, this]
theorem cmpB_anti : ∀ (a b : List UInt8), Lib.compareBytes a b = - Lib.compareBytes b a
  | [], [] => rfl
  | [], _ :: _ => rfl
  | _ :: _, [] => rfl
  | x :: a, y :: b => by
    unfold Lib.compareBytes
    by_cases h : x < y
    · have h2 : ¬ y < x := UInt8.lt_asymm h
      simp [h, h2]
    · by_cases h2 : y < x
      · simp [h, h2]
      · simp [h, h2]; exact cmpB_anti a b
theorem cmpB_trans : ∀ (a b c : List UInt8), Lib.compareBytes a b < 0 → Lib.compareBytes b c < 0 → Lib.compareBytes a c < 0
  | [], [], c => fun h => by simp [Lib.compareBytes] at h
  | [], _ :: _, [] => fun _ h => by simp [Lib.compareBytes] at h
  | [], _ :: _, _ :: _ => fun _ _ => by simp [Lib.compareBytes]
  | _ :: _, [], c => fun h => by simp [Lib.compareBytes] at h
  | _ :: _, _ :: _, [] => fun _ h => by simp [Lib.compareBytes] at h
  | x :: a, y :: b, z :: c => by
    unfold Lib.compareBytes
    intro h1 h2
    by_cases xy : x < y
    · by_cases yz : y < z
      · have := UInt8.lt_trans xy yz; simp [this]
      · simp only [yz, if_false] at h2
        by_cases zy : z < y
        · simp [zy] at h2
        · have e : y = z := UInt8.le_antisymm (UInt8.not_lt.1 zy) (UInt8.not_lt.1 yz)
          subst e; simp [xy]
    · simp only [xy, if_false] at h1
      by_cases yx : y < x
      · simp [yx] at h1
      · have e : x = y := UInt8.le_antisymm (UInt8.not_lt.1 yx) (UInt8.not_lt.1 xy)
        subst e
        simp only [yx, if_false] at h1
        by_cases yz : x < z
        · simp [yz]
        · simp only [yz, if_false] at h2 ⊢
          by_cases zy : z < x
          · simp [zy] at h2
          · simp only [zy, if_false] at h2 ⊢
            exact cmpB_trans a b c h1 h2
theorem cmpS_lt (a b : ByteArray) : decide (cmpS a b < 0) = ltS a b := by
  unfold cmpS ltS
  rw [Lib.toList_data, Lib.toList_data]; exact cmpB_lt _ _
theorem cmpS_eq (a b : ByteArray) : (cmpS a b = 0) ↔ eqS a b = true := by
  unfold cmpS eqS
  rw [Lib.toList_data, Lib.toList_data, cmpB_eq]; simp
theorem cmpS_lt_iff (a b : ByteArray) : cmpS a b < 0 ↔ ltS a b = true := by rw [← cmpS_lt]; simp
theorem cmpS_anti (a b : ByteArray) : cmpS a b = - cmpS b a := cmpB_anti _ _
theorem cmpS_trans {a b c : ByteArray} (h1 : cmpS a b < 0) (h2 : cmpS b c < 0) : cmpS a c < 0 := cmpB_trans _ _ _ h1 h2
/-- the order of pairs: less, spelt as the document does -/
theorem or2_lt (a b c d : ByteArray) : decide (or2 (cmpS a b) (cmpS c d) < 0) = (!(!(ltS a b || eqS a b)) && !(eqS a b && !(ltS c d))) := by
  unfold or2
  by_cases h : cmpS a b = 0
  · have he := (cmpS_eq a b).1 h
    have hl : ltS a b = false := by rw [← cmpS_lt, h]; rfl
    simp only [h, beq_self_eq_true, if_true, he, hl]
    rw [← cmpS_lt c d]; simp
  · have he : eqS a b = false := by rw [Bool.eq_false_iff]; intro e; exact h ((cmpS_eq a b).2 e)
    have h' : (cmpS a b == 0) = false := beq_eq_false_iff_ne.2 h
    simp only [h', he]
    rw [← cmpS_lt a b]; simp
end Go.Proofs.Yticjnndhpfdajaa
