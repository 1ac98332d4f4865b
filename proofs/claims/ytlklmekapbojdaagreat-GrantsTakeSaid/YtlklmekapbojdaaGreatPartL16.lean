/- Contracts of the program, part 16. -/
import Derived.Deep.RegionHeld3
import Derived.Deep.AppendLies
import Derived.WalkMore
import Derived.Deep.DeepMust
import Derived.OwnWalk
import Derived.Laws.AppendOwn
import Derived.ProofKit
import Derived.OpenShut
import Derived.Deep.Slices
import Derived.ChangeOld
import Derived.SizedLaws
import Derived.WalkKit
import Derived.WalkSpells
import Derived.WalkLawsBesides
import Derived.Lib.Hide
import Derived.Deep.QuietTactic
import Derived.BigQuiet
import Derived.Below
import Derived.Deep.Draws
import Derived.StillTailTactics
import Derived.Laws.Cells
import Derived.Laws.IdiomCopy
import Derived.Test.YtlklmekapbojdaaGreatRows
import Derived.Lib.Walk
import Derived.Laws.EntriesVeiled
import Derived.Maps.Own
import Derived.Maps.Views
import Derived.Deep.Upon
import Derived.OneCell
import Derived.OrdersHeld
import Derived.IntWalk
import Derived.Lib.Bytealg
import Derived.Lib.SliceRun
import Derived.Deep.RegionLaw
import Derived.Lib.AppendZerosOnto
import Derived.Lib.Overlaps
import Derived.Shelf.SlSortCmp.WholeK
import Derived.Laws.StructEq
import Derived.WideKeyEntry
import Derived.DeepKeys3
import Derived.ChangeKeys
import Derived.Test.YtlklmekapbojdaaGreatPartL1
import Derived.Test.YtlklmekapbojdaaGreatPartL2
import Derived.Test.YtlklmekapbojdaaGreatPartL3
import Derived.Test.YtlklmekapbojdaaGreatPartL4
import Derived.Test.YtlklmekapbojdaaGreatPartL5
import Derived.Test.YtlklmekapbojdaaGreatPartL6
import Derived.Test.YtlklmekapbojdaaGreatPartL7
import Derived.Test.YtlklmekapbojdaaGreatPartL8
import Derived.Test.YtlklmekapbojdaaGreatPartL9
import Derived.Test.YtlklmekapbojdaaGreatPartL10
import Derived.Test.YtlklmekapbojdaaGreatPartL12
import Derived.Test.YtlklmekapbojdaaGreatPartL13
import Derived.Test.YtlklmekapbojdaaGreatPartL14
import Derived.Test.YtlklmekapbojdaaGreatPartL15
namespace Go.Proofs.YtlklmekapbojdaaGreat
open Go.RowKit Go.Deep
set_option maxRecDepth 100000
set_option linter.unusedVariables false
def ExC (l : List Gra) : Cat := { oneC with grants := l }
def ExP (w : World) (l : List Gra) (n : Nat) (k : Int) (e : Ending) (w' : World) : Prop := ∃ (hs ht hn hm hg : Hd) (L : List OTab), e = .returned (.tuple #[.agg #[.int .i64 0, .int .i64 0, .slice hs.a 1 hs.c, .slice ht.a 1 ht.c, .slice hn.a 4 hn.c, .slice hm.a 0 hm.c, .slice hg.a n hg.c], .int .i64 k]) ∧ Aft w w' ∧ CatIn w' w.heap.size (ExC l) hs ht hn hm hg L
def NoP9 (w : World) (k : Int) (e : Ending) (w' : World) : Prop := ∃ hs ht hn hm hg : Hd, e = .returned (.tuple #[.agg #[.int .i64 0, .int .i64 0, .slice hs.a 0 hs.c, .slice ht.a 0 ht.c, .slice hn.a 0 hn.c, .slice hm.a 0 hm.c, .slice hg.a 0 hg.c], .int .i64 k]) ∧ Aft w w'
theorem chg_ex {w w' : World} {e : Ending} {l : List Gra} {n : Nat} {r : Cat × Int} (hn : l.length = n) (hr : r = (ExC l, 0)) (h : ChgC w r e w') : ExP w l n 0 e w' := by
  subst hr hn
  obtain ⟨hs, ht, hn, hm, hg, L, he, a, ci⟩ := h
  exact ⟨hs, ht, hn, hm, hg, L, he, a, ci⟩
theorem chg_no {w w' : World} {e : Ending} {k : Int} {r : Cat × Int} (hr : r = (noC, k)) (h : ChgC w r e w') : NoP9 w k e w' := by
  subst hr
  obtain ⟨hs, ht, hn, hm, hg, L, he, a, ci⟩ := h
  exact ⟨hs, ht, hn, hm, hg, he, a⟩
theorem giveX (l l2 : List Gra) (p q : ByteArray) (n n2 : Nat) (hn : l.length = n) (hn2 : l2.length = n2) (h : giveR (ExC l) (oneG p q) = (ExC l2, 0)) (hp : Small p.size) (hq : Small q.size) (As : Option Addr) (caps : Nat) (At : Option Addr) (capt : Nat) (An : Option Addr) (capn : Nat) (Am : Option Addr) (capm : Nat) (Ag : Option Addr) (capg : Nat) (V : World) (H : CatAt V (ExC l) As caps At capt An capn Am capm Ag capg) :
    Calls Tryz.prog 35 #[.agg #[.int .i64 0, .int .i64 0, .slice As 1 caps, .slice At 1 capt, .slice An 4 capn, .slice Am 0 capm, .slice Ag n capg], .agg #[.string ⟨#[115]⟩, .string ⟨#[116]⟩, .int .i64 1, .string p, .string q, .bool true]] V (ExP V l2 n2 0) := by
  subst hn
  exact (giveG (ExC l) As caps At capt An capn Am capm Ag capg (oneG p q) (sm_oneG p q hp hq) V H).mono fun e w' hh => chg_ex hn2 h hh
/-- a catalog's box behind a region that drew -/
def XAtX (X V : World) (bx : Nat) (l : List Gra) (n : Nat) (As : Option Addr) (caps : Nat) (At : Option Addr) (capt : Nat) (An : Option Addr) (capn : Nat) (Am : Option Addr) (capm : Nat) (Ag : Option Addr) (capg : Nat) : Prop := Aft X V ∧ RowAt V bx [.int .i64 0, .int .i64 0, .slice As 1 caps, .slice At 1 capt, .slice An 4 capn, .slice Am 0 capm, .slice Ag n capg] ∧ CatAt V (ExC l) As caps At capt An capn Am capm Ag capg
theorem zbox {V V2 : World} (a : Aft (V.alloc (.cells #[.int .i64 0, .int .i64 0, .slice none 0 0, .slice none 0 0, .slice none 0 0, .slice none 0 0, .slice none 0 0] 66)) V2) : RowAt V2 V.heap.size [.int .i64 0, .int .i64 0, .slice none 0 0, .slice none 0 0, .slice none 0 0, .slice none 0 0, .slice none 0 0] := box_row2 a
theorem set_aft {X V : World} {bx : Nat} {v0 v1 v2 v3 v4 v5 v6 : Value} (b : Aft X V) (h : X.heap.size ≤ bx) : Aft X (((((((V.setCell ⟨bx, 0, none⟩ (v0)).setCell ⟨bx, 1, none⟩ (v1)).setCell ⟨bx, 2, none⟩ (v2)).setCell ⟨bx, 3, none⟩ (v3)).setCell ⟨bx, 4, none⟩ (v4)).setCell ⟨bx, 5, none⟩ (v5)).setCell ⟨bx, 6, none⟩ (v6)) := (setC_kb V bx v0 v1 v2 v3 v4 v5 v6).to_aft b (fun k hk e => by have e : k = bx := e; omega)
theorem xat_new {X V : World} {B : Nat} {l : List Gra} {n : Nat} {As : Option Addr} {caps : Nat} {At : Option Addr} {capt : Nat} {An : Option Addr} {capn : Nat} {Am : Option Addr} {capm : Nat} {Ag : Option Addr} {capg : Nat} {ns nt nn nm ng : Nat} {L : List OTab} (b : Aft X V) (ci : CatIn V B (ExC l) ⟨As, ns, caps⟩ ⟨At, nt, capt⟩ ⟨An, nn, capn⟩ ⟨Am, nm, capm⟩ ⟨Ag, ng, capg⟩ L) (sm : SmC (ExC l)) : XAtX X (V.alloc (.cells #[.int .i64 0, .int .i64 0, .slice As 1 caps, .slice At 1 capt, .slice An 4 capn, .slice Am 0 capm, .slice Ag n capg] 66)) V.heap.size l n As caps At capt An capn Am capm Ag capg :=
  ⟨b.alloc _, box_row2 (Aft.refl _), (ci.at sm).aft ((Aft.refl _).alloc _)⟩
theorem xat_end {X V : World} {B bx : Nat} {l : List Gra} {n : Nat} {As : Option Addr} {caps : Nat} {At : Option Addr} {capt : Nat} {An : Option Addr} {capn : Nat} {Am : Option Addr} {capm : Nat} {Ag : Option Addr} {capg : Nat} {ns nt nn nm ng : Nat} {L : List OTab} {zs : List Value} (b : Aft X V) (ci : CatIn V B (ExC l) ⟨As, ns, caps⟩ ⟨At, nt, capt⟩ ⟨An, nn, capn⟩ ⟨Am, nm, capm⟩ ⟨Ag, ng, capg⟩ L) (sm : SmC (ExC l)) (hr : RowAt V bx zs) (hl : zs.length = 7) (h1 : X.heap.size ≤ bx) (h2 : bx < B) :
    XAtX X (((((((V.setCell ⟨bx, 0, none⟩ (.int .i64 0)).setCell ⟨bx, 1, none⟩ (.int .i64 0)).setCell ⟨bx, 2, none⟩ (.slice As 1 caps)).setCell ⟨bx, 3, none⟩ (.slice At 1 capt)).setCell ⟨bx, 4, none⟩ (.slice An 4 capn)).setCell ⟨bx, 5, none⟩ (.slice Am 0 capm)).setCell ⟨bx, 6, none⟩ (.slice Ag n capg)) bx l n As caps At capt An capn Am capm Ag capg := by
  have kF := setC_kb V bx (.int .i64 0) (.int .i64 0) (.slice As 1 caps) (.slice At 1 capt) (.slice An 4 capn) (.slice Am 0 capm) (.slice Ag n capg)
  refine ⟨kF.to_aft b (fun k hk e => by have e : k = bx := e; omega), setC_row hr hl _ _ _ _ _ _ _, (ci.kb kF (fun g h e => ?_)).at sm⟩
  have e : g = bx := e
  have := (ci.lt h).1
  omega
theorem small1 (x : UInt8) : Small (⟨#[x]⟩ : ByteArray).size := by unfold Small; show 1 ≤ _; decide
end Go.Proofs.YtlklmekapbojdaaGreat

namespace Go.Proofs.YtlklmekapbojdaaGreat
open Go.RowKit Go.Deep
set_option maxRecDepth 100000
set_option linter.unusedVariables false
theorem sm_noC : SmC noC := ⟨⟨⟨by unfold Small; decide, fun x hx => by simp [noC] at hx⟩, by unfold Small; decide, fun x hx => by simp [noC] at hx⟩, ⟨⟨by unfold Small; decide, fun x hx => by simp [noC] at hx⟩, by unfold Small; decide, fun x hx => by simp [noC] at hx⟩, by unfold Small; decide, fun x hx => by simp [noC] at hx⟩
end Go.Proofs.YtlklmekapbojdaaGreat

