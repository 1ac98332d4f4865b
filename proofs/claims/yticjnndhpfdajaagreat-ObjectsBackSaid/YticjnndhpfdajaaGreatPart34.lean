/- Contracts of the program, part 34. -/
import Derived.Test.YticjnndhpfdajaaGreatPart33
import Derived.Test.YticjnndhpfdajaaGreatPart16
/- The document's Find. -/
namespace Go.Proofs.YticjnndhpfdajaaGreat
open Go.RowKit Go.Deep
set_option maxRecDepth 100000
set_option linter.unusedVariables false
end Go.Proofs.YticjnndhpfdajaaGreat
/- objects.SetOwner and the document's. -/
namespace Go.Proofs.YticjnndhpfdajaaGreat
open Go.RowKit Go.Deep
set_option maxRecDepth 100000
set_option linter.unusedVariables false
def ownF (v : ByteArray) (t : Tab) : Tab × Int := ({ t with owner := v }, 0)
def setOwnR (o : Objs) (s n v : ByteArray) : Objs × Int := if checkO o then (if nameB v then tabR o s n (ownF v) else (zeroO, 1)) else (zeroO, 63)
end Go.Proofs.YticjnndhpfdajaaGreat
/- The document's SetOwner. -/
namespace Go.Proofs.YticjnndhpfdajaaGreat
open Go.RowKit Go.Deep
set_option maxRecDepth 100000
set_option linter.unusedVariables false
/-- the owner of the table q is written -/
theorem ObjIn.owner {w : World} {B gt q : Nat} {hs ht : Hd} {ss : List Sch} {L : List OTab} (ob : ObjIn w B hs ht ss L) (hgt : ht.a = some ⟨gt, 0, none⟩) (hq : q < L.length) (v : ByteArray) : ObjIn (w.setCell ⟨gt, q * 5 + 2, none⟩ (.string v)) B hs ht ss (L.set q { L[q] with owner := v }) := by
  refine ObjIn.put (j := 2) (u := .string v) (y := { L[q] with owner := v }) ob.sch ob.tab (fun i hi _ => ob.nth hi) ⟨(ob.nth hq).col, (ob.nth hq).rul, (ob.nth hq).each⟩ ?_ hgt hq (by decide) rfl
  have h0 := ob.nd
  rw [nd_assoc] at h0 ⊢
  exact nodup_set (N := w.heap.size) h0 hq (tab_nodup h0 hq) (fun g hg => .inl hg) (fun g hg => (ob.lt g (by rw [List.append_assoc] at hg; exact hg)).2)
end Go.Proofs.YticjnndhpfdajaaGreat
