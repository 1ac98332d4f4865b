/- Contracts of the program, part 22. -/
import Derived.Test.YticjnndhpfdajaaGreatPartG21
import Derived.Test.YticjnndhpfdajaaGreatPartG10
import Derived.Test.YticjnndhpfdajaaGreatPartG9
import Derived.Test.YticjnndhpfdajaaGreatPartG3
import Derived.Shelf.SlSortCmp.WholeK
import Derived.Test.YticjnndhpfdajaaGreatPartG1
import Derived.StillTailTactics
/- A row of grants that is read; slices.IndexFunc and ContainsFunc at grants, tables and texts. -/
namespace Go.Proofs.YticjnndhpfdajaaGreat
open Go.RowKit Go.Deep
set_option maxRecDepth 100000
set_option linter.unusedVariables false
theorem gra_at {w : World} {A : Option Addr} {cap : Nat} {l : List Gra} (h : SlAt w 6 GraR A cap l) {k : Nat} (hk : k < l.length) :
    ∃ b off, A = some ⟨b, off, none⟩ ∧ b < w.heap.size ∧ w.cell? ⟨b, off + k * 6, none⟩ = some (.string l[k].schema) ∧ w.cell? ⟨b, off + k * 6 + 1, none⟩ = some (.string l[k].table) ∧ w.cell? ⟨b, off + k * 6 + 2, none⟩ = some (.int .i64 l[k].right) ∧
      w.cell? ⟨b, off + k * 6 + 3, none⟩ = some (.string l[k].giver) ∧ w.cell? ⟨b, off + k * 6 + 4, none⟩ = some (.string l[k].to) ∧ w.cell? ⟨b, off + k * 6 + 5, none⟩ = some (.bool l[k].opt) ∧ SmG l[k] := by
  obtain ⟨b, off, cs, hA, hb, hl, ⟨rfl, hs⟩, hc⟩ := h.2.2 k hk
  exact ⟨b, off, hA, hb, by simpa [graC] using hc 0 (by omega), by simpa [graC, Nat.add_assoc] using hc 1 (by omega), by simpa [graC, Nat.add_assoc] using hc 2 (by omega), by simpa [graC, Nat.add_assoc] using hc 3 (by omega), by simpa [graC, Nat.add_assoc] using hc 4 (by omega), by simpa [graC, Nat.add_assoc] using hc 5 (by omega), hs⟩
theorem gras_aft {w w' : World} (a : Aft w w') {A : Option Addr} {cap : Nat} {l : List Gra} (h : SlAt w 6 GraR A cap l) : SlAt w' 6 GraR A cap l := h.aft a fun _ _ h => h
theorem sm_gras {w : World} {A : Option Addr} {cap : Nat} {l : List Gra} (h : SlAt w 6 GraR A cap l) : Small (l.length * 16) ∧ ∀ g ∈ l, SmG g :=
  ⟨h.2.1, fun g hg => by
    obtain ⟨k, hk, rfl⟩ := List.getElem_of_mem hg
    obtain ⟨b, off, cs, hA, hb, hl, ⟨rfl, hs⟩, hc⟩ := h.2.2 k hk
    exact hs⟩
set_option maxHeartbeats 1000000 in
theorem idxGra (A : Option Addr) (cap : Nat) (l : List Gra) (g : FuncId) (caps : Array Value) (p : Gra → Bool) (w : World) (h : SlAt w 6 GraR A cap l) (hent : ∀ (args : Array Value) (w : World), (callFunc g args).run Tryz.prog w = .ok (.enter g args) w)
    (hp : ∀ w', Aft w w' → ∀ i (hi : i < l.length), Calls Tryz.prog g (#[.agg #[.string l[i].schema, .string l[i].table, .int .i64 l[i].right, .string l[i].giver, .string l[i].to, .bool l[i].opt]] ++ caps) w' fun e w'' => e = .returned (.bool (p l[i])) ∧ Aft w' w'') :
    Calls Tryz.prog 232 #[.slice A l.length cap, .func (.func g) #[] caps] w fun e w' => e = .returned (.int .i64 (idxP p l)) ∧ Aft w w' := by
  have hlen := h.len
  have HC := Lib.hid hp
  clear hp
  go_enter Tryz.func232, Tryz.ntmps232
  go_wp2_with fail
  go_loopw [8] (fun i wr => ∃ k : Nat, k ≤ l.length ∧ i = .int .i64 k ∧ Aft w wr ∧ ∀ j, j < k → ∀ (hj : j < l.length), p l[j] = false) (fun i _ => l.length - (intOf i).toNat)
  case atStart => exact ⟨0, Nat.zero_le _, rfl, Aft.refl _, fun j hj => absurd hj (Nat.not_lt_zero j)⟩
  case round =>
    obtain ⟨k, hk, rfl, ha, hp⟩ := hrel
    have HA := Lib.hid ha
    have HP := Lib.hid hp; clear hp
    by_cases hlt : k < l.length
    · have hsl := gras_aft ha h
      clear ha
      obtain ⟨b, off, rfl, hb, c0, c1, c2, c3, c4, c5, hs⟩ := gra_at hsl hlt
      have HK := Lib.hid (HC.out wr HA.out k hlt)
      clear hsl
      obtain ⟨q, hq⟩ : ∃ q, p l[k] = q := ⟨_, rfl⟩
      rw [hq] at HK
      have HQ := Lib.hid hq
      clear hq
      cases q
      · go_wp2_with fail
        refine HK.out.mono ?_
        rintro e w1 ⟨rfl, a1⟩
        have HA1 := Lib.hid (HA.out.trans a1)
        clear a1
        go_wp2_with fail
        go_roundw
        case rel => exact ⟨k + 1, by omega, by go_num, HA1.out, ext_lt (p := fun j => ∀ (hj : j < l.length), p l[j] = false) HP.out (fun _ => HQ.out)⟩
        case measure => simp [intOf]; omega
      · go_wp2_with fail
        refine HK.out.mono ?_
        rintro e w1 ⟨rfl, a1⟩
        have HA1 := Lib.hid (HA.out.trans a1)
        clear a1
        go_wp2_with fail
        go_ret
        exact ⟨by rw [idxP_some p l k hlt HQ.out (fun i hi => HP.out i hi (by omega))]; rfl, HA1.out⟩
    · clear ha
      go_wp2_with fail
      go_ret
      exact ⟨by rw [idxP_none p l (fun i hi => HP.out i (by omega) hi)]; rfl, HA.out⟩
set_option maxHeartbeats 1000000 in
theorem contGra (A : Option Addr) (cap : Nat) (l : List Gra) (g : FuncId) (caps : Array Value) (p : Gra → Bool) (w : World) (h : SlAt w 6 GraR A cap l) (hent : ∀ (args : Array Value) (w : World), (callFunc g args).run Tryz.prog w = .ok (.enter g args) w)
    (hp : ∀ w', Aft w w' → ∀ i (hi : i < l.length), Calls Tryz.prog g (#[.agg #[.string l[i].schema, .string l[i].table, .int .i64 l[i].right, .string l[i].giver, .string l[i].to, .bool l[i].opt]] ++ caps) w' fun e w'' => e = .returned (.bool (p l[i])) ∧ Aft w' w'') :
    Calls Tryz.prog 181 #[.slice A l.length cap, .func (.func g) #[] caps] w fun e w' => e = .returned (.bool (l.any p)) ∧ Aft w w' := by
  have C := Lib.hid (idxGra A cap l g caps p w h hent hp)
  have HE := Lib.hid (idxP_any8 p l)
  obtain ⟨i, hi⟩ : ∃ i, idxP p l = i := ⟨_, rfl⟩
  rw [hi] at C HE
  clear hi h hp
  go_enter Tryz.func181, Tryz.ntmps181
  go_wp2_with fail
  refine C.out.mono ?_
  rintro e w1 ⟨rfl, a1⟩
  have HA := Lib.hid a1
  clear a1
  go_wp2_with fail
  go_ret
  exact ⟨by rw [← HE.out]; rfl, HA.out⟩
set_option maxHeartbeats 1000000 in
theorem contStr (A : Option Addr) (cap : Nat) (l : List ByteArray) (g : FuncId) (caps : Array Value) (p : ByteArray → Bool) (w : World) (h : SlAt w 1 StrR A cap l) (hent : ∀ (args : Array Value) (w : World), (callFunc g args).run Tryz.prog w = .ok (.enter g args) w)
    (hp : ∀ w', Aft w w' → ∀ i (hi : i < l.length), Calls Tryz.prog g (#[.string l[i]] ++ caps) w' fun e w'' => e = .returned (.bool (p l[i])) ∧ Aft w' w'') :
    Calls Tryz.prog 179 #[.slice A l.length cap, .func (.func g) #[] caps] w fun e w' => e = .returned (.bool (l.any p)) ∧ Aft w w' := by
  have C := Lib.hid (idxStr A cap l g caps p w h hent hp)
  have HE := Lib.hid (idxP_any8 p l)
  obtain ⟨i, hi⟩ : ∃ i, idxP p l = i := ⟨_, rfl⟩
  rw [hi] at C HE
  clear hi h hp
  go_enter Tryz.func179, Tryz.ntmps179
  go_wp2_with fail
  refine C.out.mono ?_
  rintro e w1 ⟨rfl, a1⟩
  have HA := Lib.hid a1
  clear a1
  go_wp2_with fail
  go_ret
  exact ⟨by rw [← HE.out]; rfl, HA.out⟩
set_option maxHeartbeats 1000000 in
theorem contTab (A : Option Addr) (cap : Nat) (l : List Tab) (g : FuncId) (caps : Array Value) (p : Tab → Bool) (w : World) (h : SlAt w 5 TabR A cap l) (hent : ∀ (args : Array Value) (w : World), (callFunc g args).run Tryz.prog w = .ok (.enter g args) w)
    (hp : ∀ w', Aft w w' → ∀ i (hi : i < l.length) (e1 : List Value), TabR w' e1 l[i] → Calls Tryz.prog g (#[.agg e1.toArray] ++ caps) w' fun e w'' => e = .returned (.bool (p l[i])) ∧ Aft w' w'') :
    Calls Tryz.prog 225 #[.slice A l.length cap, .func (.func g) #[] caps] w fun e w' => e = .returned (.bool (l.any p)) ∧ Aft w w' := by
  have C := Lib.hid (idxTab A cap l g caps p w h hent hp)
  have HE := Lib.hid (idxP_any8 p l)
  obtain ⟨i, hi⟩ : ∃ i, idxP p l = i := ⟨_, rfl⟩
  rw [hi] at C HE
  clear hi h hp
  go_enter Tryz.func225, Tryz.ntmps225
  go_wp2_with fail
  refine C.out.mono ?_
  rintro e w1 ⟨rfl, a1⟩
  have HA := Lib.hid a1
  clear a1
  go_wp2_with fail
  go_ret
  exact ⟨by rw [← HE.out]; rfl, HA.out⟩
end Go.Proofs.YticjnndhpfdajaaGreat
/- Orders for the sort: of texts, of two texts one behind the other. -/
namespace Go.Proofs.YticjnndhpfdajaaGreat
open Go.RowKit Go.Shelf Go.Sort
set_option linter.unusedVariables false
/-- an order: what is like another one stands to all as that one does -/
structure Pre8 {α : Type} (c : α → α → Int) : Prop where
  tr : ∀ a b d, c a b < 0 → c b d < 0 → c a d < 0
  anti : ∀ a b, c a b = - c b a
  con : ∀ a b d, c a b = 0 → c a d = c b d
theorem Pre8.swo {α : Type} {c : α → α → Int} (o : Pre8 c) : SWO (ltOf c) where
  irrefl x := by
    have := o.anti x x
    unfold ltOf
    exact decide_eq_false (by omega)
  trans x y z h1 h2 := by
    unfold ltOf at *
    exact decide_eq_true (o.tr _ _ _ (of_decide_eq_true h1) (of_decide_eq_true h2))
  ntrans x y z h1 h2 := by
    unfold ltOf at *
    have h1 := of_decide_eq_false h1
    have h2 := of_decide_eq_false h2
    have a1 := o.anti x y
    have a2 := o.anti y z
    have a3 := o.anti x z
    refine decide_eq_false fun h => ?_
    by_cases e1 : c y x = 0
    · have := o.con y x z e1; omega
    · by_cases e2 : c z y = 0
      · have := o.con z y x e2; omega
      · have := o.tr z y x (by omega) (by omega); omega
theorem Pre8.on {α β : Type} {c : β → β → Int} (o : Pre8 c) (f : α → β) : Pre8 fun a b : α => c (f a) (f b) := ⟨fun a b d => o.tr _ _ _, fun a b => o.anti _ _, fun a b d => o.con _ _ _⟩
instance : Inhabited Sch := ⟨⟨ByteArray.empty, ByteArray.empty⟩⟩
instance : Inhabited Rul := ⟨⟨ByteArray.empty, 0, [], 0, 0, ByteArray.empty, ByteArray.empty, ByteArray.empty⟩⟩
instance : Inhabited ORul := ⟨⟨default, ⟨none, 0, 0⟩⟩⟩
instance : Inhabited OTab := ⟨⟨ByteArray.empty, ByteArray.empty, ByteArray.empty, [], [], ⟨none, 0, 0⟩, ⟨none, 0, 0⟩⟩⟩
end Go.Proofs.YticjnndhpfdajaaGreat
/- The kit's contract of slices.SortFunc, laid at schemas, tables and rules. -/
namespace Go.Proofs.YticjnndhpfdajaaGreat
open Go.Shelf Go.Proofs
end Go.Proofs.YticjnndhpfdajaaGreat
/- objects.order, exactly: what it makes behind; slices.SortFunc at tables. -/
namespace Go.Proofs.YticjnndhpfdajaaGreat
open Go.RowKit Go.Sort Go.Shelf
set_option maxRecDepth 100000
set_option linter.unusedVariables false
/-- draws and new blocks, nothing else -/
def Gro (w w' : World) : Prop := ∃ q os', w' = grow (w.drewN q) os'
theorem Gro.refl (w : World) : Gro w w := ⟨0, #[], by rw [grow_empty]; rfl⟩
theorem Gro.alloc {w w' : World} (h : Gro w w') (o : Obj) : Gro w (w'.alloc o) := by
  obtain ⟨q, os, rfl⟩ := h
  exact ⟨q, os ++ #[o], by rw [alloc_eq_grow, grow_grow]⟩
theorem Gro.drew {w w' : World} (h : Gro w w') : Gro w w'.drew := by
  obtain ⟨q, os, rfl⟩ := h
  exact ⟨q + 1, os, rfl⟩
theorem wp_region_tail_eq {P : Program} {id : Nat} {Q : Exit → Act → World → Prop} {a : Act} {w : World} {l : List Oper} (n : Nat) (hm : P.follows .mixedOrders = true) (hB : Region.lexTailB .any l.toArray n = true)
    (h : ∀ w1, w1 = w.drew → wpStill P l.toArray w1 (fun a' => wpList P l.toArray Q (l.drop n) a' w1) (l.take n) a) : (Code.region id l.toArray true).wp P Q a w :=
  wp_region_still_tail n hm hB (h _ rfl)
end Go.Proofs.YticjnndhpfdajaaGreat
