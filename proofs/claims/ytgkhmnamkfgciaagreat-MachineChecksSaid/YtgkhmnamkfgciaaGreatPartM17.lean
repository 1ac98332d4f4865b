/- Contracts of the program, part 17. -/
import Derived.ProofKit
import Derived.OpenShut
import Derived.Deep.Slices
import Derived.ChangeOld
import Derived.SizedLaws
import Derived.WalkKit
import Derived.WalkSpells
import Derived.WalkLawsBesides
import Derived.Lib.Hide
import Derived.Deep.QuietTactic
import Derived.BigQuiet
import Derived.Below
import Derived.Deep.Draws
import Derived.StillTailTactics
import Derived.Laws.Cells
import Derived.Laws.IdiomCopy
import Derived.Test.YtgkhmnamkfgciaaGreatRows
import Derived.ShutString
import Derived.Deep.AppendLies
import Derived.Deep.Upon
import Derived.OneCell
import Derived.OwnWalk
import Derived.Laws.AppendOwn
import Derived.Deep.DeepMust
import Derived.Lib.Walk
import Derived.Laws.EntriesVeiled
import Derived.Maps.Own
import Derived.Maps.Views
import Derived.OrdersHeld
import Derived.Deep.RegionHeld3
import Derived.IntWalk
import Derived.Lib.Bytealg
import Derived.Lib.SliceRun
import Derived.Deep.RegionLaw
import Derived.Lib.AppendZerosOnto
import Derived.Lib.Overlaps
import Derived.Shelf.SlSortCmp.WholeK
import Derived.WalkMore
import Derived.Laws.StructEq
import Derived.WideKeyEntry
import Derived.DeepKeys3
import Derived.ChangeKeys
import Derived.Test.YtgkhmnamkfgciaaGreatPartM1
import Derived.Test.YtgkhmnamkfgciaaGreatPartM2
import Derived.Test.YtgkhmnamkfgciaaGreatPartM3
import Derived.Test.YtgkhmnamkfgciaaGreatPartM4
import Derived.Test.YtgkhmnamkfgciaaGreatPartM5
import Derived.Test.YtgkhmnamkfgciaaGreatPartM6
import Derived.Test.YtgkhmnamkfgciaaGreatPartM7
import Derived.Test.YtgkhmnamkfgciaaGreatPartM8
import Derived.Test.YtgkhmnamkfgciaaGreatPartM9
import Derived.Test.YtgkhmnamkfgciaaGreatPartM10
import Derived.Test.YtgkhmnamkfgciaaGreatPartM11
import Derived.Test.YtgkhmnamkfgciaaGreatPartM12
import Derived.Test.YtgkhmnamkfgciaaGreatPartM13
import Derived.Test.YtgkhmnamkfgciaaGreatPartM14
import Derived.Test.YtgkhmnamkfgciaaGreatPartM15
import Derived.Test.YtgkhmnamkfgciaaGreatPartM16
namespace Go.Proofs.YtgkhmnamkfgciaaGreat
open Go.ChangeShapes Go.WideShapes Go.RowKit Go.Deep

section
variable {H : Type} {enc : TypeId × Value → H} {P : Program} {w : World}

theorem Rd.field {t : TypeId} {fs : Array Field} {cs : List Value} (h : Rd enc P w t cs) (ht : P.underlying t = some (.struct fs)) (i : Nat) (ft off k : Nat) (hf : (fs[i]?).map (fun f => (f.type, f.offset)) = some (ft, off)) (hk : P.cellsOf ft = k) :
    Rd enc P w ft ((cs.drop off).take k) := by
  obtain ⟨_, h2⟩ := h.struct ht
  cases hq : fs[i]? with
  | none => rw [hq] at hf; cases hf
  | some f =>
    rw [hq] at hf
    simp only [Option.map_some, Option.some.injEq, Prod.mk.injEq] at hf
    have := h2 i f hq
    rw [hf.1, hf.2, hk] at this
    exact this
end
end Go.Proofs.YtgkhmnamkfgciaaGreat

namespace Go.Proofs.YtgkhmnamkfgciaaGreat
open Go.ChangeShapes Go.WideShapes Go.ChangeAt Go.RowKit

section
variable {H : Type} {enc : TypeId × Value → H} {P : Program} {w : World}

/-- an argument that reads -/
def RdV (enc : TypeId × Value → H) (P : Program) (w : World) (t : TypeId) (v : Value) : Prop :=
  Rd enc P w t v.cells.toList ∧ ∃ base, Value.okWide P w .any base t v

theorem RdV.struct {t : TypeId} {fs : Array Field} {v : Value} (ht : P.underlying t = some (.struct fs)) (h : RdV enc P w t v) : ∃ cs : List Value, v = .agg cs.toArray ∧ Rd enc P w t cs := by
  obtain ⟨h1, base, h2⟩ := h
  obtain ⟨cs, rfl, _⟩ := okWide_struct ht h2
  exact ⟨cs.toList, by simp, h1⟩
theorem cell_of_cells {v x : Value} (h : v.cells.toList = [x]) (hn : ∀ cs, v ≠ .agg cs) : v = x := by
  cases v <;> simp [Value.cells] at h <;> first | exact h | exact absurd rfl (hn _)
theorem okWide_not_agg {t : TypeId} {v : Value} {base : Nat} {d : TypeDesc} (ht : P.underlying t = some d) (hd : (∀ fs, d ≠ .struct fs) ∧ (∀ n e, d ≠ .array n e)) (h : Value.okWide P w .any base t v) : ∀ cs, v ≠ .agg cs := by
  intro cs e
  subst e
  unfold Value.okWide at h
  rw [ht] at h
  cases d <;> simp_all [Cell.okWide, Cell.ok]
theorem RdV.string {t : TypeId} {v : Value} (ht : P.underlying t = some .string) (h : RdV enc P w t v) : ∃ s : ByteArray, v = .string s ∧ Small s.size := by
  obtain ⟨h1, base, h2⟩ := h
  obtain ⟨s, hc, hs⟩ := h1.string ht
  exact ⟨s, cell_of_cells hc (okWide_not_agg ht (by simp) h2), hs⟩
theorem RdV.int {t : TypeId} {k : IntKind} {v : Value} (ht : P.underlying t = some (.int k)) (h : RdV enc P w t v) : ∃ n : Int, v = .int k n ∧ (Lit.int k n).wf = true := by
  obtain ⟨h1, base, h2⟩ := h
  obtain ⟨s, hc, hs⟩ := h1.int ht
  exact ⟨s, cell_of_cells hc (okWide_not_agg ht (by simp) h2), hs⟩
theorem RdV.slice {t e : TypeId} {v : Value} (ht : P.underlying t = some (.slice e)) (h : RdV enc P w t v) : Rd enc P w t [v] := by
  obtain ⟨h1, base, h2⟩ := h
  have hn := okWide_not_agg ht (by simp) h2
  have : v.cells.toList = [v] := by cases v <;> first | rfl | exact absurd rfl (hn _)
  rwa [this] at h1

theorem trodAll_rd : ∀ {ts : List TypeId} {vs : List Value} {ds : List (DataW H)} {p : List MemPlace}, DataW.TrodAll enc P w 0 (fun _ => true) true ts vs ds p → (∀ n ∈ DataW.weightsEach P ts ds, n ≤ 140737488351232) →
    vs.length = ts.length ∧ ds.length = ts.length ∧ ∀ (j : Nat) (t : TypeId) (v : Value), ts[j]? = some t → vs[j]? = some v → Rd enc P w t v.cells.toList
  | [], vs, ds, p, h, _ => by
    cases vs <;> cases ds <;> simp [DataW.TrodAll] at h
    exact ⟨rfl, rfl, fun j t v ht => by simp at ht⟩
  | t :: ts, vs, ds, p, h, hw => by
    obtain ⟨v, vs', d, ds', p1, q1, rfl, rfl, rfl, ⟨fuel, h1⟩, h2⟩ := trodAll_cons h
    simp only [DataW.weightsEach, List.mem_append] at hw
    obtain ⟨l1, l2, ih⟩ := trodAll_rd h2 (fun n hn => hw n (.inr hn))
    refine ⟨by simp [l1], by simp [l2], fun j t' v' ht hv => ?_⟩
    cases j with
    | zero =>
      simp at ht hv
      subst ht; subst hv
      exact ⟨fuel, _, h1, fun n hn => hw n (.inl hn)⟩
    | succ j => exact ih j t' v' (by simpa using ht) (by simpa using hv)
theorem trodAll_below {W W' : World} (hl : laidOutB P = true) (hb : Below W.heap.size W W') : ∀ {ts : List TypeId} {vs : List Value} {ds : List (DataW H)} {p : List MemPlace}, (∀ t ∈ ts, P.readableRec t = true ∧ t < P.types.size) →
    DataW.TrodAll enc P W 0 (fun _ => true) true ts vs ds p → DataW.TrodAll enc P W' 0 (fun b => decide (b < W.heap.size)) true ts vs ds p
  | [], vs, ds, p, _, h => by
    cases vs <;> cases ds <;> simp [DataW.TrodAll] at h ⊢
    exact h
  | t :: ts, vs, ds, p, ht, h => by
    obtain ⟨v, vs', d, ds', p1, q1, rfl, rfl, rfl, h1, h2⟩ := trodAll_cons h
    have lt0 : ∀ x ∈ p1, x.block < W.heap.size := by obtain ⟨m, hm⟩ := h1; exact DataW.trod_lt m _ _ _ hm
    exact trodAll_cons_mk (Below.trod hl (ht t (by simp)).1 (ht t (by simp)).2 h1 hb lt0) (trodAll_below hl hb (fun x hx => ht x (by simp [hx])) h2)
end

theorem law_lifted {C : Checked} {os : Os} {f : FuncId} {fn : Func} {s : ChangeSpec} {tb : TypeId} (H : Type) (enc : TypeId × Value → H)
    (own : ownKnob C.prog.godebug = none) (started : os.Started) (noInit : C.prog.inits.idxOf? f = none) (hfn : C.prog.funcs[f]? = some fn)
    (witness : ∃ (w : World) (tape : Tape) (i : Input), w.os = os ∧ (w.forCall tape i).Shaped C.prog ∧ i.vars = [] ∧ Input.okWide C.prog (w.forCall tape i) .any w.heap.size f i ∧
      s.pre6 enc C.prog fn [] false (w.forCall tape i).memory i.args ∧ ({} : Assume).holds C.prog (lone (Frame.enter C.prog f i.args .normal) [] (w.forCall tape i)))
    (hvars : s.vars = []) (hres : fn.resultTypes = #[tb]) (htb : C.prog.underlying tb = some .bool)
    (hspec : ∀ ds : List (DataW H), ds.length = fn.params.size → s.fn H ds = { results := [.lit (.bool true)], args := ds })
    (laid : laidOutB C.prog = true) (hty : ∀ t ∈ fn.params.toList, C.prog.readableRec t = true ∧ t < C.prog.types.size)
    (walk : ∀ (W : World) (vs : List Value), vs.length = fn.params.size → (∀ (j : Nat) (t : TypeId) (v : Value), fn.params[j]? = some t → vs[j]? = some v → RdV enc C.prog W t v) → Calls C.prog f vs.toArray W fun e w' => e = .returned (.bool true) ∧ Aft W w') :
    ReturnsInHanded {} C os f .any (s.pre6 enc C.prog fn [] false) (s.post enc C.prog fn false true false false) := by
  refine returnsInHanded_of_change_sized own started noInit hfn witness ?_
  intro W base args ds gs before hval hW _ hsz _
  have hW' := hW
  obtain ⟨p, q, hA, hV, rfl, _, _⟩ := hW
  rw [hvars] at hV
  obtain ⟨rfl, rfl⟩ := trodVars_none hV
  have hw : ∀ n ∈ DataW.weightsEach C.prog fn.params.toList ds, n ≤ 140737488351232 := by
    have e : s.plain.varTypes C.prog = [] := by
      simp [ChangeSpec.plain, hvars, DataSpec.varTypes]
    rw [e, List.append_nil, List.append_nil] at hsz
    intro n hn
    have := List.all_eq_true.1 hsz n hn
    have h2 : n ≤ reachBytes := by simpa using this
    exact h2
  obtain ⟨l1, l2, hrd⟩ := trodAll_rd hA hw
  have hlen : args.toList.length = fn.params.size := by simpa using l1
  refine ((walk W args.toList hlen fun j t v ht hv => ⟨hrd j t v (by simpa using ht) hv, base, hval j t v ht (by simpa using hv)⟩)).mono fun e W' ⟨he, haft⟩ => ?_
  subst he
  have hs := hspec ds (by simpa using l2)
  refine ⟨_, rfl, ds, [], p ++ [], [], p, [], hW', ?_, ?_, ?_, ?_, fun h => by cases h⟩
  · rw [List.append_nil, hs, hres]
    exact trodAll_mk1 (shut_bool htb _)
  · rw [List.append_nil, hs]
    exact trodAll_below laid haft hty hA
  · rw [List.append_nil, hs, hvars]
    rfl
  · exact haft.frame _
end Go.Proofs.YtgkhmnamkfgciaaGreat

namespace Go.Proofs.YtgkhmnamkfgciaaGreat
open Go.ChangeShapes Go.WideShapes Go.ChangeAt Go.RowKit
set_option maxRecDepth 100000
set_option linter.unusedVariables false
section
variable {H : Type} {enc : TypeId × Value → H} {w : World}
theorem rd_str {cs : List Value} (h : Rd enc Tryz.prog w 9 cs) : ∃ x, StrR w cs x := by
  obtain ⟨s, e, z⟩ := h.string Tryz.underlying9
  exact ⟨s, e, z⟩
theorem rd_strs {cs : List Value} (h : Rd enc Tryz.prog w 26 cs) : ∃ l, SlOf w 1 StrR cs l :=
  Rd.slice Tryz.underlying26 (by kernel_rfl : Tryz.prog.cellsOf 9 = 1) (by decide) (of_decide_eq_true (by kernel_rfl)) (fun _ h => rd_str h) h
theorem rd_col {cs : List Value} (h : Rd enc Tryz.prog w 109 cs) : ∃ x, ColR w cs x := by
  obtain ⟨hl, _⟩ := h.struct Tryz.underlying109
  rw [show Tryz.prog.cellsOf 109 = 3 by kernel_rfl] at hl
  match cs, hl with
  | [c0, c1, c2], _ =>
    have f0 := h.field Tryz.underlying109 0 9 0 1 rfl (by kernel_rfl)
    have f1 := h.field Tryz.underlying109 1 107 1 1 rfl (by kernel_rfl)
    have f2 := h.field Tryz.underlying109 2 4 2 1 rfl (by kernel_rfl)
    clear h
    obtain ⟨x0, e0, z0⟩ := f0.string Tryz.underlying9
    obtain ⟨x1, e1, _⟩ := f1.int Tryz.underlying107
    obtain ⟨x2, e2⟩ := f2.bool Tryz.underlying4
    simp at e0 e1 e2
    subst e0 e1 e2
    exact ⟨⟨x0, x1, x2⟩, rfl, z0⟩
theorem rd_cols {cs : List Value} (h : Rd enc Tryz.prog w 39 cs) : ∃ l, SlOf w 3 ColR cs l :=
  Rd.slice Tryz.underlying39 (by kernel_rfl : Tryz.prog.cellsOf 109 = 3) (by decide) (of_decide_eq_true (by kernel_rfl)) (fun _ h => rd_col h) h
theorem rd_rule {cs : List Value} (h : Rd enc Tryz.prog w 42 cs) : ∃ x, RulR w cs x := by
  obtain ⟨hl, _⟩ := h.struct Tryz.underlying42
  rw [show Tryz.prog.cellsOf 42 = 8 by kernel_rfl] at hl
  match cs, hl with
  | [c0, c1, c2, c3, c4, c5, c6, c7], _ =>
    have f0 := h.field Tryz.underlying42 0 9 0 1 rfl (by kernel_rfl)
    have f1 := h.field Tryz.underlying42 1 40 1 1 rfl (by kernel_rfl)
    have f2 := h.field Tryz.underlying42 2 26 2 1 rfl (by kernel_rfl)
    have f3 := h.field Tryz.underlying42 3 3 3 1 rfl (by kernel_rfl)
    have f4 := h.field Tryz.underlying42 4 3 4 1 rfl (by kernel_rfl)
    have f5 := h.field Tryz.underlying42 5 9 5 1 rfl (by kernel_rfl)
    have f6 := h.field Tryz.underlying42 6 9 6 1 rfl (by kernel_rfl)
    have f7 := h.field Tryz.underlying42 7 9 7 1 rfl (by kernel_rfl)
    clear h
    obtain ⟨x0, e0, z0⟩ := f0.string Tryz.underlying9
    obtain ⟨x1, e1, _⟩ := f1.int Tryz.underlying40
    obtain ⟨x2, A2, cap2, e2, z2⟩ := rd_strs f2
    obtain ⟨x3, e3, _⟩ := f3.int Tryz.underlying3
    obtain ⟨x4, e4, _⟩ := f4.int Tryz.underlying3
    obtain ⟨x5, e5, z5⟩ := f5.string Tryz.underlying9
    obtain ⟨x6, e6, z6⟩ := f6.string Tryz.underlying9
    obtain ⟨x7, e7, z7⟩ := f7.string Tryz.underlying9
    simp at e0 e1 e2 e3 e4 e5 e6 e7
    subst e0 e1 e2 e3 e4 e5 e6 e7
    exact ⟨⟨x0, x1, x2, x3, x4, x5, x6, x7⟩, A2, cap2, rfl, z2, z0, z5, z6, z7⟩
theorem rd_rules {cs : List Value} (h : Rd enc Tryz.prog w 84 cs) : ∃ l, SlOf w 8 RulR cs l :=
  Rd.slice Tryz.underlying84 (by kernel_rfl : Tryz.prog.cellsOf 42 = 8) (by decide) (of_decide_eq_true (by kernel_rfl)) (fun _ h => rd_rule h) h
theorem rd_tab {cs : List Value} (h : Rd enc Tryz.prog w 86 cs) : ∃ x, TabR w cs x := by
  obtain ⟨hl, _⟩ := h.struct Tryz.underlying86
  rw [show Tryz.prog.cellsOf 86 = 5 by kernel_rfl] at hl
  match cs, hl with
  | [c0, c1, c2, c3, c4], _ =>
    have f0 := h.field Tryz.underlying86 0 9 0 1 rfl (by kernel_rfl)
    have f1 := h.field Tryz.underlying86 1 9 1 1 rfl (by kernel_rfl)
    have f2 := h.field Tryz.underlying86 2 9 2 1 rfl (by kernel_rfl)
    have f3 := h.field Tryz.underlying86 3 39 3 1 rfl (by kernel_rfl)
    have f4 := h.field Tryz.underlying86 4 84 4 1 rfl (by kernel_rfl)
    clear h
    obtain ⟨x0, e0, z0⟩ := f0.string Tryz.underlying9
    obtain ⟨x1, e1, z1⟩ := f1.string Tryz.underlying9
    obtain ⟨x2, e2, z2⟩ := f2.string Tryz.underlying9
    obtain ⟨x3, A3, cap3, e3, z3⟩ := rd_cols f3
    obtain ⟨x4, A4, cap4, e4, z4⟩ := rd_rules f4
    simp at e0 e1 e2 e3 e4
    subst e0 e1 e2 e3 e4
    exact ⟨⟨x0, x1, x2, x3, x4⟩, A3, cap3, A4, cap4, rfl, z3, z4, z0, z1, z2⟩
theorem rd_tabs {cs : List Value} (h : Rd enc Tryz.prog w 23 cs) : ∃ l, SlOf w 5 TabR cs l :=
  Rd.slice Tryz.underlying23 (by kernel_rfl : Tryz.prog.cellsOf 86 = 5) (by decide) (of_decide_eq_true (by kernel_rfl)) (fun _ h => rd_tab h) h
theorem rd_sch {cs : List Value} (h : Rd enc Tryz.prog w 96 cs) : ∃ x, SchR w cs x := by
  obtain ⟨hl, _⟩ := h.struct Tryz.underlying96
  rw [show Tryz.prog.cellsOf 96 = 2 by kernel_rfl] at hl
  match cs, hl with
  | [c0, c1], _ =>
    have f0 := h.field Tryz.underlying96 0 9 0 1 rfl (by kernel_rfl)
    have f1 := h.field Tryz.underlying96 1 9 1 1 rfl (by kernel_rfl)
    clear h
    obtain ⟨x0, e0, z0⟩ := f0.string Tryz.underlying9
    obtain ⟨x1, e1, z1⟩ := f1.string Tryz.underlying9
    simp at e0 e1
    subst e0 e1
    exact ⟨⟨x0, x1⟩, rfl, z0, z1⟩
theorem rd_schs {cs : List Value} (h : Rd enc Tryz.prog w 22 cs) : ∃ l, SlOf w 2 SchR cs l :=
  Rd.slice Tryz.underlying22 (by kernel_rfl : Tryz.prog.cellsOf 96 = 2) (by decide) (of_decide_eq_true (by kernel_rfl)) (fun _ h => rd_sch h) h
theorem rd_objs {cs : List Value} (h : Rd enc Tryz.prog w 25 cs) : ∃ x, ObjR w cs x := by
  obtain ⟨hl, _⟩ := h.struct Tryz.underlying25
  rw [show Tryz.prog.cellsOf 25 = 2 by kernel_rfl] at hl
  match cs, hl with
  | [c0, c1], _ =>
    have f0 := h.field Tryz.underlying25 0 22 0 1 rfl (by kernel_rfl)
    have f1 := h.field Tryz.underlying25 1 23 1 1 rfl (by kernel_rfl)
    clear h
    obtain ⟨x0, A0, cap0, e0, z0⟩ := rd_schs f0
    obtain ⟨x1, A1, cap1, e1, z1⟩ := rd_tabs f1
    simp at e0 e1
    subst e0 e1
    exact ⟨⟨x0, x1⟩, A0, cap0, A1, cap1, rfl, z0, z1⟩
theorem own_knob : ownKnob Tryz.prog.godebug = none := by kernel_rfl
theorem laid_out : laidOutB Tryz.prog = true := by kernel_rfl
end
end Go.Proofs.YtgkhmnamkfgciaaGreat

namespace Go.Proofs.YtgkhmnamkfgciaaGreat
open Go.ChangeShapes Go.WideShapes Go.ChangeAt Go.RowKit
set_option maxRecDepth 100000
set_option linter.unusedVariables false
section
variable {H : Type} {enc : TypeId × Value → H} {w : World}
theorem rd_mbr {cs : List Value} (h : Rd enc Tryz.prog w 142 cs) : ∃ x, MbrR w cs x := by
  obtain ⟨hl, _⟩ := h.struct Tryz.underlying142
  rw [show Tryz.prog.cellsOf 142 = 2 by kernel_rfl] at hl
  match cs, hl with
  | [c0, c1], _ =>
    have f0 := h.field Tryz.underlying142 0 9 0 1 rfl (by kernel_rfl)
    have f1 := h.field Tryz.underlying142 1 9 1 1 rfl (by kernel_rfl)
    clear h
    obtain ⟨x0, e0, z0⟩ := rd_str f0
    obtain ⟨x1, e1, z1⟩ := rd_str f1
    simp at e0 e1
    subst e0 e1
    exact ⟨⟨x0, x1⟩, rfl, z0, z1⟩
theorem rd_mbrs {cs : List Value} (h : Rd enc Tryz.prog w 27 cs) : ∃ l, SlOf w 2 MbrR cs l :=
  Rd.slice Tryz.underlying27 (by kernel_rfl : Tryz.prog.cellsOf 142 = 2) (by decide) (of_decide_eq_true (by kernel_rfl)) (fun _ h => rd_mbr h) h
theorem rd_rols {cs : List Value} (h : Rd enc Tryz.prog w 29 cs) : ∃ (x : Rls) (A : Option Addr) (cap : Nat) (B : Option Addr) (capB : Nat), cs = [.slice A x.names.length cap, .slice B x.members.length capB] ∧ SlAt w 1 StrR A cap x.names ∧ SlAt w 2 MbrR B capB x.members := by
  obtain ⟨hl, _⟩ := h.struct Tryz.underlying29
  rw [show Tryz.prog.cellsOf 29 = 2 by kernel_rfl] at hl
  match cs, hl with
  | [c0, c1], _ =>
    have f0 := h.field Tryz.underlying29 0 26 0 1 rfl (by kernel_rfl)
    have f1 := h.field Tryz.underlying29 1 27 1 1 rfl (by kernel_rfl)
    clear h
    obtain ⟨x0, A0, cap0, e0, z0⟩ := rd_strs f0
    obtain ⟨x1, A1, cap1, e1, z1⟩ := rd_mbrs f1
    simp at e0 e1
    subst e0 e1
    exact ⟨⟨x0, x1⟩, A0, cap0, A1, cap1, rfl, z0, z1⟩
end
end Go.Proofs.YtgkhmnamkfgciaaGreat

namespace Go.Proofs.YtgkhmnamkfgciaaGreat
open Go.ChangeShapes Go.WideShapes Go.ChangeAt Go.RowKit
set_option maxRecDepth 100000
set_option linter.unusedVariables false
section
variable {H : Type} {enc : TypeId × Value → H} {w : World}
theorem rd_gra {cs : List Value} (h : Rd enc Tryz.prog w 106 cs) : ∃ x, GraR w cs x := by
  obtain ⟨hl, _⟩ := h.struct Tryz.underlying106
  rw [show Tryz.prog.cellsOf 106 = 6 by kernel_rfl] at hl
  match cs, hl with
  | [c0, c1, c2, c3, c4, c5], _ =>
    have f0 := h.field Tryz.underlying106 0 9 0 1 rfl (by kernel_rfl)
    have f1 := h.field Tryz.underlying106 1 9 1 1 rfl (by kernel_rfl)
    have f2 := h.field Tryz.underlying106 2 43 2 1 rfl (by kernel_rfl)
    have f3 := h.field Tryz.underlying106 3 9 3 1 rfl (by kernel_rfl)
    have f4 := h.field Tryz.underlying106 4 9 4 1 rfl (by kernel_rfl)
    have f5 := h.field Tryz.underlying106 5 4 5 1 rfl (by kernel_rfl)
    clear h
    obtain ⟨x0, e0, z0⟩ := rd_str f0
    obtain ⟨x1, e1, z1⟩ := rd_str f1
    obtain ⟨x2, e2, z2⟩ := f2.int Tryz.underlying43
    obtain ⟨x3, e3, z3⟩ := rd_str f3
    obtain ⟨x4, e4, z4⟩ := rd_str f4
    obtain ⟨x5, e5⟩ := f5.bool Tryz.underlying4
    simp at e0 e1 e2 e3 e4 e5
    subst e0 e1 e2 e3 e4 e5
    exact ⟨⟨x0, x1, x2, x3, x4, x5⟩, rfl, z0, z1, z3, z4, z2⟩
theorem rd_gras {cs : List Value} (h : Rd enc Tryz.prog w 30 cs) : ∃ l, SlOf w 6 GraR cs l :=
  Rd.slice Tryz.underlying30 (by kernel_rfl : Tryz.prog.cellsOf 106 = 6) (by decide) (of_decide_eq_true (by kernel_rfl)) (fun _ h => rd_gra h) h
theorem rd_cat {cs : List Value} (h : Rd enc Tryz.prog w 32 cs) : ∃ (c : Cat) (As : Option Addr) (caps : Nat) (At : Option Addr) (capt : Nat) (An : Option Addr) (capn : Nat) (Am : Option Addr) (capm : Nat) (Ag : Option Addr) (capg : Nat),
    cs = [.int .i64 c.epoch, .int .i64 c.version, .slice As c.objs.schemas.length caps, .slice At c.objs.tables.length capt, .slice An c.rols.names.length capn, .slice Am c.rols.members.length capm, .slice Ag c.grants.length capg] ∧
    SlAt w 2 SchR As caps c.objs.schemas ∧ SlAt w 5 TabR At capt c.objs.tables ∧ SlAt w 1 StrR An capn c.rols.names ∧ SlAt w 2 MbrR Am capm c.rols.members ∧ SlAt w 6 GraR Ag capg c.grants ∧ (Lit.int .i64 c.epoch).wf = true ∧ (Lit.int .i64 c.version).wf = true := by
  obtain ⟨hl, _⟩ := h.struct Tryz.underlying32
  rw [show Tryz.prog.cellsOf 32 = 7 by kernel_rfl] at hl
  match cs, hl with
  | [c0, c1, c2, c3, c4, c5, c6], _ =>
    have f0 := h.field Tryz.underlying32 0 3 0 1 rfl (by kernel_rfl)
    have f1 := h.field Tryz.underlying32 1 3 1 1 rfl (by kernel_rfl)
    have f2 := h.field Tryz.underlying32 2 25 2 2 rfl (by kernel_rfl)
    have f3 := h.field Tryz.underlying32 3 29 4 2 rfl (by kernel_rfl)
    have f4 := h.field Tryz.underlying32 4 30 6 1 rfl (by kernel_rfl)
    clear h
    obtain ⟨x0, e0, z0⟩ := f0.int Tryz.underlying3
    obtain ⟨x1, e1, z1⟩ := f1.int Tryz.underlying3
    obtain ⟨o, A, cap, B, capB, e2, hs, ht⟩ := rd_objs f2
    obtain ⟨r, C, capC, D, capD, e3, hn, hm⟩ := rd_rols f3
    obtain ⟨g, E, capE, e4, hg⟩ := rd_gras f4
    simp at e0 e1 e2 e3 e4
    obtain ⟨rfl, rfl⟩ := e2
    obtain ⟨rfl, rfl⟩ := e3
    subst e0 e1 e4
    exact ⟨⟨x0, x1, o, r, g⟩, A, cap, B, capB, C, capC, D, capD, E, capE, rfl, hs, ht, hn, hm, hg, z0, z1⟩
end
end Go.Proofs.YtgkhmnamkfgciaaGreat

namespace Go.Proofs.YtgkhmnamkfgciaaGreat
open Go.ChangeShapes Go.WideShapes Go.ChangeAt Go.RowKit
set_option maxRecDepth 100000
set_option linter.unusedVariables false
theorem cells_string : Tryz.prog.cellsOf 9 = 1 := by kernel_rfl
theorem cells_int : Tryz.prog.cellsOf 3 = 1 := by kernel_rfl
theorem cells_bool : Tryz.prog.cellsOf 4 = 1 := by kernel_rfl
theorem cells_kind : Tryz.prog.cellsOf 38 = 1 := by kernel_rfl
theorem cells_rkind : Tryz.prog.cellsOf 40 = 1 := by kernel_rfl
theorem cells_right : Tryz.prog.cellsOf 43 = 1 := by kernel_rfl
theorem cells_cols : Tryz.prog.cellsOf 39 = 1 := by kernel_rfl
theorem cells_strs : Tryz.prog.cellsOf 26 = 1 := by kernel_rfl
theorem cells_rule : Tryz.prog.cellsOf 42 = 8 := by kernel_rfl
theorem cells_cmd : Tryz.prog.cellsOf 45 = 17 := by kernel_rfl

section
variable {H : Type} {enc : TypeId × Value → H} {w : World}
/-- a slice, of whose elements nothing is asked -/
theorem rd_slice {P : Program} {t e : TypeId} {cs : List Value} (ht : P.underlying t = some (.slice e)) (hpos : 0 < P.cellsOf e) (hby : 16 ≤ P.bytesOf e) (h : Rd enc P w t cs) : ∃ A n c, cs = [.slice A n c] ∧ n ≤ c ∧ Small n := by
  obtain ⟨l, A, c, hcs, h1, h2, _⟩ := Rd.slice (α := Unit) (R := fun _ _ _ => True) ht rfl hpos hby (fun _ _ => ⟨(), trivial⟩) h
  exact ⟨A, l.length, c, hcs, h1, by unfold Small at h2 ⊢; omega⟩

theorem rd_cmd {cs : List Value} (h : Rd enc Tryz.prog w 45 cs) :
    ∃ (k : Int) (actor schema table name role : ByteArray) (A : Option Addr) (n c : Nat) (rname : ByteArray) (rkind : Int) (A2 : Option Addr) (n2 c2 : Nat) (low high : Int) (rs rt rk : ByteArray) (right : Int) (opt : Bool),
      cs = [.int .i64 k, .string actor, .string schema, .string table, .string name, .string role, .slice A n c, .string rname, .int .i64 rkind, .slice A2 n2 c2, .int .i64 low, .int .i64 high, .string rs, .string rt, .string rk, .int .i64 right, .bool opt] ∧
      Small actor.size ∧ Small schema.size ∧ Small table.size ∧ Small name.size ∧ Small role.size ∧ Small n ∧ Small rname.size ∧ Small n2 ∧ Small rs.size ∧ Small rt.size ∧ Small rk.size := by
  obtain ⟨hl, hf⟩ := h.struct Tryz.underlying45
  rw [cells_cmd] at hl
  match cs, hl with
  | [c0, c1, c2, c3, c4, c5, c6, c7, c8, c9, c10, c11, c12, c13, c14, c15, c16], _ =>
    have f0 := h.field Tryz.underlying45 0 38 0 1 rfl cells_kind
    have f1 := h.field Tryz.underlying45 1 9 1 1 rfl cells_string
    have f2 := h.field Tryz.underlying45 2 9 2 1 rfl cells_string
    have f3 := h.field Tryz.underlying45 3 9 3 1 rfl cells_string
    have f4 := h.field Tryz.underlying45 4 9 4 1 rfl cells_string
    have f5 := h.field Tryz.underlying45 5 9 5 1 rfl cells_string
    have f6 := h.field Tryz.underlying45 6 39 6 1 rfl cells_cols
    have f7 := h.field Tryz.underlying45 7 42 7 8 rfl cells_rule
    have f8 := h.field Tryz.underlying45 8 43 15 1 rfl cells_right
    have f9 := h.field Tryz.underlying45 9 4 16 1 rfl cells_bool
    clear h hf
    obtain ⟨k, e0, _⟩ := f0.int Tryz.underlying38
    obtain ⟨s1, e1, z1⟩ := f1.string Tryz.underlying9
    obtain ⟨s2, e2, z2⟩ := f2.string Tryz.underlying9
    obtain ⟨s3, e3, z3⟩ := f3.string Tryz.underlying9
    obtain ⟨s4, e4, z4⟩ := f4.string Tryz.underlying9
    obtain ⟨s5, e5, z5⟩ := f5.string Tryz.underlying9
    obtain ⟨A, n, c, e6, z6, z6'⟩ := rd_slice Tryz.underlying39 (of_decide_eq_true (by kernel_rfl)) (of_decide_eq_true (by kernel_rfl)) f6
    obtain ⟨r, e8, _⟩ := f8.int Tryz.underlying43
    obtain ⟨o, e9⟩ := f9.bool Tryz.underlying4
    have g0 := f7.field Tryz.underlying42 0 9 0 1 rfl cells_string
    have g1 := f7.field Tryz.underlying42 1 40 1 1 rfl cells_rkind
    have g2 := f7.field Tryz.underlying42 2 26 2 1 rfl cells_strs
    have g3 := f7.field Tryz.underlying42 3 3 3 1 rfl cells_int
    have g4 := f7.field Tryz.underlying42 4 3 4 1 rfl cells_int
    have g5 := f7.field Tryz.underlying42 5 9 5 1 rfl cells_string
    have g6 := f7.field Tryz.underlying42 6 9 6 1 rfl cells_string
    have g7 := f7.field Tryz.underlying42 7 9 7 1 rfl cells_string
    clear f7
    obtain ⟨t0, d0, y0⟩ := g0.string Tryz.underlying9
    obtain ⟨rkd, d1, _⟩ := g1.int Tryz.underlying40
    obtain ⟨A2, n2, c2, d2, y2, y2'⟩ := rd_slice Tryz.underlying26 (of_decide_eq_true (by kernel_rfl)) (of_decide_eq_true (by kernel_rfl)) g2
    obtain ⟨lo, d3, _⟩ := g3.int Tryz.underlying3
    obtain ⟨hi, d4, _⟩ := g4.int Tryz.underlying3
    obtain ⟨t5, d5, y5⟩ := g5.string Tryz.underlying9
    obtain ⟨t6, d6, y6⟩ := g6.string Tryz.underlying9
    obtain ⟨t7, d7, y7⟩ := g7.string Tryz.underlying9
    simp at e0 e1 e2 e3 e4 e5 e6 e8 e9 d0 d1 d2 d3 d4 d5 d6 d7
    subst e0 e1 e2 e3 e4 e5 e6 e8 e9 d0 d1 d2 d3 d4 d5 d6 d7
    exact ⟨k, s1, s2, s3, s4, s5, A, n, c, t0, rkd, A2, n2, c2, lo, hi, t5, t6, t7, r, o, rfl, z1, z2, z3, z4, z5, z6', y0, y2', y5, y6, y7⟩
end

end Go.Proofs.YtgkhmnamkfgciaaGreat

namespace Go.Proofs.YtgkhmnamkfgciaaGreat
open Go.ChangeShapes Go.WideShapes Go.ChangeAt Go.RowKit
set_option maxRecDepth 100000
set_option linter.unusedVariables false
section
variable {H : Type} {enc : TypeId × Value → H} {w : World}
theorem rd_don {cs : List Value} (h : Rd enc Tryz.prog w 74 cs) : ∃ x, DonR w cs x := by
  obtain ⟨hl, _⟩ := h.struct Tryz.underlying74
  rw [show Tryz.prog.cellsOf 74 = 5 by kernel_rfl] at hl
  match cs, hl with
  | [c0, c1, c2, c3, c4], _ =>
    have f0 := h.field Tryz.underlying74 0 3 0 1 rfl (by kernel_rfl)
    have f1 := h.field Tryz.underlying74 1 3 1 1 rfl (by kernel_rfl)
    have f2 := h.field Tryz.underlying74 2 49 2 1 rfl (by kernel_rfl)
    have f3 := h.field Tryz.underlying74 3 3 3 1 rfl (by kernel_rfl)
    have f4 := h.field Tryz.underlying74 4 3 4 1 rfl (by kernel_rfl)
    clear h
    obtain ⟨x0, e0, z0⟩ := f0.int Tryz.underlying3
    obtain ⟨x1, e1, z1⟩ := f1.int Tryz.underlying3
    obtain ⟨x2, e2, z2⟩ := f2.int Tryz.underlying49
    obtain ⟨x3, e3, z3⟩ := f3.int Tryz.underlying3
    obtain ⟨x4, e4, z4⟩ := f4.int Tryz.underlying3
    simp at e0 e1 e2 e3 e4
    subst e0 e1 e2 e3 e4
    exact ⟨⟨x0, x1, x2, x3, x4⟩, rfl⟩
theorem rd_lea {cs : List Value} (h : Rd enc Tryz.prog w 80 cs) : ∃ x, LeaR w cs x := by
  obtain ⟨hl, _⟩ := h.struct Tryz.underlying80
  rw [show Tryz.prog.cellsOf 80 = 4 by kernel_rfl] at hl
  match cs, hl with
  | [c0, c1, c2, c3], _ =>
    have f0 := h.field Tryz.underlying80 0 3 0 1 rfl (by kernel_rfl)
    have f1 := h.field Tryz.underlying80 1 3 1 1 rfl (by kernel_rfl)
    have f2 := h.field Tryz.underlying80 2 3 2 1 rfl (by kernel_rfl)
    have f3 := h.field Tryz.underlying80 3 3 3 1 rfl (by kernel_rfl)
    clear h
    obtain ⟨x0, e0, z0⟩ := f0.int Tryz.underlying3
    obtain ⟨x1, e1, z1⟩ := f1.int Tryz.underlying3
    obtain ⟨x2, e2, z2⟩ := f2.int Tryz.underlying3
    obtain ⟨x3, e3, z3⟩ := f3.int Tryz.underlying3
    simp at e0 e1 e2 e3
    subst e0 e1 e2 e3
    exact ⟨⟨x0, x1, x2, x3⟩, rfl⟩
theorem rd_dons {cs : List Value} (h : Rd enc Tryz.prog w 33 cs) : ∃ l, SlOf w 5 DonR cs l :=
  Rd.slice Tryz.underlying33 (by kernel_rfl : Tryz.prog.cellsOf 74 = 5) (by decide) (of_decide_eq_true (by kernel_rfl)) (fun _ h => rd_don h) h
theorem rd_leas {cs : List Value} (h : Rd enc Tryz.prog w 34 cs) : ∃ l, SlOf w 4 LeaR cs l :=
  Rd.slice Tryz.underlying34 (by kernel_rfl : Tryz.prog.cellsOf 80 = 4) (by decide) (of_decide_eq_true (by kernel_rfl)) (fun _ h => rd_lea h) h
theorem rd_mac {cs : List Value} (h : Rd enc Tryz.prog w 36 cs) : ∃ (m : Mac) (As : Option Addr) (caps : Nat) (At : Option Addr) (capt : Nat) (An : Option Addr) (capn : Nat) (Am : Option Addr) (capm : Nat) (Ag : Option Addr) (capg : Nat) (Ad : Option Addr) (capd : Nat) (Al : Option Addr) (capl : Nat),
    cs = [.int .i64 m.cat.epoch, .int .i64 m.cat.version, .slice As m.cat.objs.schemas.length caps, .slice At m.cat.objs.tables.length capt, .slice An m.cat.rols.names.length capn, .slice Am m.cat.rols.members.length capm, .slice Ag m.cat.grants.length capg, .slice Ad m.dones.length capd, .slice Al m.leas.length capl, .int .i64 m.last] ∧
    MacAt w m As caps At capt An capn Am capm Ag capg Ad capd Al capl := by
  obtain ⟨hl, _⟩ := h.struct Tryz.underlying36
  rw [show Tryz.prog.cellsOf 36 = 10 by kernel_rfl] at hl
  match cs, hl with
  | [c0, c1, c2, c3, c4, c5, c6, c7, c8, c9], _ =>
    have f0 := h.field Tryz.underlying36 0 32 0 7 rfl (by kernel_rfl)
    have f1 := h.field Tryz.underlying36 1 33 7 1 rfl (by kernel_rfl)
    have f2 := h.field Tryz.underlying36 2 34 8 1 rfl (by kernel_rfl)
    have f3 := h.field Tryz.underlying36 3 3 9 1 rfl (by kernel_rfl)
    clear h
    obtain ⟨x0, As, caps, At, capt, An, capn, Am, capm, Ag, capg, e0, y1, y2, y3, y4, y5, z0⟩ := rd_cat f0
    obtain ⟨d, Ad, capd, e1, hd⟩ := rd_dons f1
    obtain ⟨l, Al, capl, e2, hl⟩ := rd_leas f2
    obtain ⟨la, e3, z3⟩ := f3.int Tryz.underlying3
    simp at e0 e1 e2 e3
    obtain ⟨rfl, rfl, rfl, rfl, rfl, rfl, rfl⟩ := e0
    subst e1 e2 e3
    exact ⟨⟨x0, d, l, la⟩, As, caps, At, capt, An, capn, Am, capm, Ag, capg, Ad, capd, Al, capl, rfl, ⟨⟨y1, y2, y3, y4, y5⟩, hd, hl⟩⟩
theorem rd_op {cs : List Value} (h : Rd enc Tryz.prog w 47 cs) : ∃ p : Opr,
    cs = [.int .i64 p.kind, .int .i64 p.client, .int .i64 p.number, .int .i64 p.cmd.kind, .string p.cmd.actor, .string p.cmd.schema, .string p.cmd.table, .string p.cmd.name, .string p.cmd.role, .slice p.cmd.A p.cmd.n p.cmd.c, .string p.cmd.rname, .int .i64 p.cmd.rkind, .slice p.cmd.A2 p.cmd.n2 p.cmd.c2, .int .i64 p.cmd.low, .int .i64 p.cmd.high, .string p.cmd.rs, .string p.cmd.rt, .string p.cmd.rk, .int .i64 p.cmd.right, .bool p.cmd.opt, .int .i64 p.node, .int .i64 p.ask, .int .i64 p.seq] ∧
    SmSh p.cmd ∧ p.cmd.n ≤ 9223372036854775807 ∧ p.cmd.n2 ≤ 9223372036854775807 := by
  obtain ⟨hl, _⟩ := h.struct Tryz.underlying47
  rw [show Tryz.prog.cellsOf 47 = 23 by kernel_rfl] at hl
  match cs, hl with
  | [c0, c1, c2, c3, c4, c5, c6, c7, c8, c9, c10, c11, c12, c13, c14, c15, c16, c17, c18, c19, c20, c21, c22], _ =>
    have f0 := h.field Tryz.underlying47 0 37 0 1 rfl (by kernel_rfl)
    have f1 := h.field Tryz.underlying47 1 3 1 1 rfl (by kernel_rfl)
    have f2 := h.field Tryz.underlying47 2 3 2 1 rfl (by kernel_rfl)
    have f3 := h.field Tryz.underlying47 3 45 3 17 rfl (by kernel_rfl)
    have f4 := h.field Tryz.underlying47 4 3 20 1 rfl (by kernel_rfl)
    have f5 := h.field Tryz.underlying47 5 3 21 1 rfl (by kernel_rfl)
    have f6 := h.field Tryz.underlying47 6 3 22 1 rfl (by kernel_rfl)
    clear h
    obtain ⟨x0, e0, _⟩ := f0.int Tryz.underlying37
    obtain ⟨x1, e1, _⟩ := f1.int Tryz.underlying3
    obtain ⟨x2, e2, _⟩ := f2.int Tryz.underlying3
    obtain ⟨k, s1, s2, s3, s4, s5, A, n, c, t0, rkd, A2, n2, c2, lo, hi, t5, t6, t7, r, o, e3, z1, z2, z3, z4, z5, z6, y0, y2, y5, y6, y7⟩ := rd_cmd f3
    obtain ⟨x4, e4, _⟩ := f4.int Tryz.underlying3
    obtain ⟨x5, e5, _⟩ := f5.int Tryz.underlying3
    obtain ⟨x6, e6, _⟩ := f6.int Tryz.underlying3
    simp at e0 e1 e2 e3 e4 e5 e6
    obtain ⟨rfl, rfl, rfl, rfl, rfl, rfl, rfl, rfl, rfl, rfl, rfl, rfl, rfl, rfl, rfl, rfl, rfl⟩ := e3
    subst e0 e1 e2 e4 e5 e6
    exact ⟨⟨x0, x1, x2, ⟨k, s1, s2, s3, s4, s5, A, n, c, t0, rkd, A2, n2, c2, lo, hi, t5, t6, t7, r, o⟩, x4, x5, x6⟩, rfl, ⟨⟨z1, z2, z3, z4, z5⟩, y0, y5, y6, y7⟩, z6.le, y2.le⟩
end
end Go.Proofs.YtgkhmnamkfgciaaGreat

