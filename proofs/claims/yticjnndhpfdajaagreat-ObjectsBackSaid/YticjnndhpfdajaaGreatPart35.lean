/- Contracts of the program, part 35. -/
import Derived.Test.YticjnndhpfdajaaGreatPart34
import Derived.Test.YticjnndhpfdajaaGreatPart16
import Derived.Test.YticjnndhpfdajaaGreatPart15
import Derived.Test.YticjnndhpfdajaaGreatPart32
/- The law ObjectsFinds, walked. -/
namespace Go.Proofs.YticjnndhpfdajaaGreat
open Go.RowKit Go.Deep
set_option maxRecDepth 100000
set_option linter.unusedVariables false
theorem one_s : findR oneO ⟨#[115]⟩ ⟨#[116]⟩ = (oneO.tables[0]'(by decide), 0) := findR_some (q := 0) oneO_ok (by decide +kernel) (by decide)
theorem one_u : findR oneO ⟨#[115]⟩ ⟨#[117]⟩ = (zeroT, 61) := findR_none oneO_ok (by decide +kernel)
def FoundOne (w : World) (e : Ending) (w' : World) : Prop := ∃ A c A2 c2, e = .returned (.tuple #[.agg #[.string ⟨#[115]⟩, .string ⟨#[116]⟩, .string ⟨#[111]⟩, .slice A 2 c, .slice A2 1 c2], .int .i64 0]) ∧ Aft w w'
def FoundNo (w : World) (e : Ending) (w' : World) : Prop := ∃ A c A2 c2, e = .returned (.tuple #[.agg #[.string ⟨#[]⟩, .string ⟨#[]⟩, .string ⟨#[]⟩, .slice A 0 c, .slice A2 0 c2], .int .i64 61]) ∧ Aft w w'
theorem find_one (As : Option Addr) (caps : Nat) (At : Option Addr) (capt : Nat) (w : World) (h1 : SlAt w 2 SchR As caps oneO.schemas) (h2 : SlAt w 5 TabR At capt oneO.tables) : Calls Tryz.prog 189 #[.agg #[.slice As 1 caps, .slice At 1 capt], .string ⟨#[115]⟩, .string ⟨#[116]⟩] w (FoundOne w) :=
  (find_in oneO As caps At capt ⟨#[115]⟩ ⟨#[116]⟩ w h1 h2).mono fun e w' ⟨x, hx, he, a, _⟩ => ⟨_, _, _, _, he.trans (by rw [one_s]; rfl), a⟩
theorem find_no (As : Option Addr) (caps : Nat) (At : Option Addr) (capt : Nat) (w : World) (h1 : SlAt w 2 SchR As caps oneO.schemas) (h2 : SlAt w 5 TabR At capt oneO.tables) : Calls Tryz.prog 189 #[.agg #[.slice As 1 caps, .slice At 1 capt], .string ⟨#[115]⟩, .string ⟨#[117]⟩] w (FoundNo w) :=
  (find_in oneO As caps At capt ⟨#[115]⟩ ⟨#[117]⟩ w h1 h2).mono fun e w' ⟨x, hx, he, a, _⟩ => ⟨_, _, _, _, he.trans (by rw [one_u]; rfl), a⟩
theorem smT_owner {t : Tab} {v : ByteArray} (h : SmT t) (hv : Small v.size) : SmT { t with owner := v } := ⟨h.1, h.2.1, h.2.2.1, h.2.2.2.1, hv⟩
theorem smO_tabR {o : Objs} {s n : ByteArray} {f : Tab → Tab × Int} (h : SmO o) (hf : ∀ t ∈ o.tables, (f t).2 = 0 → SmT (f t).1) : SmO (tabR o s n f).1 := by
  unfold tabR
  split
  · rename_i t ht
    split
    · exact smO_zero
    · split
      · rename_i hz; exact smO_set h (hf t (List.mem_of_getElem? ht) hz)
      · exact smO_zero
  · exact smO_zero
theorem smO_setOwn {o : Objs} {s n v : ByteArray} (h : SmO o) (hv : Small v.size) : SmO (setOwnR o s n v).1 := by
  unfold setOwnR
  split
  · split
    · exact smO_tabR h fun t ht _ => smT_owner (h.2.2 t ht) hv
    · exact smO_zero
  · exact smO_zero
theorem smT_zero : SmT zeroT := by
  refine ⟨⟨by simp [zeroT, Small], fun c hc => by simp [zeroT] at hc⟩, ⟨by simp [zeroT, Small], fun c hc => by simp [zeroT] at hc⟩, ?_, ?_, ?_⟩ <;> simp [zeroT, Small, ByteArray.size]
theorem smT_find {o : Objs} {s n : ByteArray} (h : SmO o) : SmT (findR o s n).1 := by
  unfold findR
  split
  · split
    · rename_i t ht
      split
      · exact smT_zero
      · exact h.2.2 t (List.mem_of_getElem? ht)
    · exact smT_zero
  · exact smT_zero
/-- told, of what came out of both -/
theorem told_in (r : Objs × Int) (o : Objs) (E : Option Addr) (capE : Nat) (E2 : Option Addr) (capE2 : Nat) (F : Option Addr) (capF : Nat) (F2 : Option Addr) (capF2 : Nat) (hs ht hs2 ht2 : Hd) (L L2 : List OTab) (W0 w : World) (B B2 : Nat) (sm : SmO r.1)
    (hL : L.map OTab.t = r.1.tables) (ob : ObjIn w B hs ht r.1.schemas L) (hL2 : L2.map OTab.t = r.1.tables) (ob2 : ObjIn w B2 hs2 ht2 r.1.schemas L2) (hB : W0.heap.size ≤ B) (a0 : Aft W0 w)
    (o1 : SlAt W0 2 SchR E capE o.schemas) (o2 : SlAt W0 5 TabR E2 capE2 o.tables) (f1 : SlAt W0 2 SchR F capF o.schemas) (f2 : SlAt W0 5 TabR F2 capF2 o.tables) :
    Calls Tryz.prog 21 #[.agg #[.slice hs.a r.1.schemas.length hs.c, .slice ht.a r.1.tables.length ht.c], .int .i64 r.2, .agg #[.slice hs2.a r.1.schemas.length hs2.c, .slice ht2.a r.1.tables.length ht2.c], .int .i64 r.2, .agg #[.slice E o.schemas.length capE, .slice E2 o.tables.length capE2], .agg #[.slice F o.schemas.length capF, .slice F2 o.tables.length capF2]] w
      fun e' w' => e' = .returned (.bool true) ∧ Kp B w.heap.size w w' ∧ Aft W0 w' := by
  have e1 : objOf r.1.schemas L = r.1 := by unfold objOf; rw [hL]
  have e2 : objOf r.1.schemas L2 = r.1 := by unfold objOf; rw [hL2]
  have g1 := ob.schs (by rw [e1]; exact sm)
  have g2 := ob.tabs (by rw [e1]; exact sm)
  have d1 := ob2.schs (by rw [e2]; exact sm)
  have d2 := ob2.tabs (by rw [e2]; exact sm)
  rw [hL] at g2
  rw [hL2] at d2
  have n1 : hs.n = r.1.schemas.length := own_n ob.sch
  have n2 : ht.n = r.1.tables.length := by rw [own_n ob.tab, ← hL]; simp
  have sh := ob.sh (by rw [e1]; exact sm)
  obtain ⟨ha, hn, hc⟩ := hs
  obtain ⟨ta, tn, tc⟩ := ht
  have n1' : hn = r.1.schemas.length := n1
  have n2' : tn = r.1.tables.length := n2
  subst n1' n2'
  exact (told_any r.1 o _ _ _ _ _ _ _ _ E capE E2 capE2 F capF F2 capF2 r.2 W0 w B w.heap.size (layOf L) hB (Nat.le_refl _) a0 g1 g2 d1 d2 o1 o2 f1 f2 sh).mono fun e w' ⟨he, hk⟩ => ⟨he, hk, hk.to_aft a0 hB⟩
end Go.Proofs.YticjnndhpfdajaaGreat
/- told, of what came out of both, twice; what the document's O makes. -/
namespace Go.Proofs.YticjnndhpfdajaaGreat
open Go.RowKit Go.Deep
set_option maxRecDepth 100000
set_option linter.unusedVariables false
theorem one_at : tabAt oneO.tables ⟨#[115]⟩ ⟨#[116]⟩ = (0 : Nat) := by decide +kernel
theorem chg_one (f : Tab → Tab × Int) : chgR oneO (tabR oneO ⟨#[115]⟩ ⟨#[116]⟩ f) = if (f (oneO.tables[0]'(by decide))).2 = 0 then ((⟨oneO.schemas, oneO.tables.set 0 (f (oneO.tables[0]'(by decide))).1⟩ : Objs), (0 : Int)) else (zeroO, (f (oneO.tables[0]'(by decide))).2) := by
  unfold chgR
  rw [oneO_ok, if_pos rfl, tabR_some one_at (by decide)]

end Go.Proofs.YticjnndhpfdajaaGreat
/- The document's AddColumn. -/
namespace Go.Proofs.YticjnndhpfdajaaGreat
open Go.RowKit Go.Deep
set_option maxRecDepth 100000
set_option linter.unusedVariables false
end Go.Proofs.YticjnndhpfdajaaGreat
