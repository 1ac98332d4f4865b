/- Contracts of the program, part 31. -/
import Derived.Test.YticjnndhpfdajaaGreatPartG1
import Derived.ShutString
import Derived.Test.YticjnndhpfdajaaGreatPartG4
import Derived.Test.YticjnndhpfdajaaGreatPartG22
/- From a walk of a law (it returns true and keeps what was there, whatever its arguments read as) to the law's row. -/
namespace Go.Proofs.YticjnndhpfdajaaGreat
open Go.ChangeShapes Go.WideShapes Go.ChangeAt Go.RowKit

section
variable {H : Type} {enc : TypeId × Value → H} {P : Program} {w : World}

/-- an argument that reads -/
def RdV (enc : TypeId × Value → H) (P : Program) (w : World) (t : TypeId) (v : Value) : Prop :=
  Rd enc P w t v.cells.toList ∧ ∃ base, Value.okWide P w .any base t v

theorem RdV.struct {t : TypeId} {fs : Array Field} {v : Value} (ht : P.underlying t = some (.struct fs)) (h : RdV enc P w t v) : ∃ cs : List Value, v = .agg cs.toArray ∧ Rd enc P w t cs := by
  obtain ⟨h1, base, h2⟩ := h
  obtain ⟨cs, rfl, _⟩ := okWide_struct ht h2
  exact ⟨cs.toList, by simp, h1⟩
theorem cell_of_cells {v x : Value} (h : v.cells.toList = [x]) (hn : ∀ cs, v ≠ .agg cs) : v = x := by
  cases v <;> simp [Value.cells] at h <;> first | exact h | exact absurd rfl (hn _)
theorem okWide_not_agg {t : TypeId} {v : Value} {base : Nat} {d : TypeDesc} (ht : P.underlying t = some d) (hd : (∀ fs, d ≠ .struct fs) ∧ (∀ n e, d ≠ .array n e)) (h : Value.okWide P w .any base t v) : ∀ cs, v ≠ .agg cs := by
  intro cs e
  subst e
  unfold Value.okWide at h
  rw [ht] at h
  cases d <;> simp_all [Cell.okWide, Cell.ok]
theorem RdV.string {t : TypeId} {v : Value} (ht : P.underlying t = some .string) (h : RdV enc P w t v) : ∃ s : ByteArray, v = .string s ∧ Small s.size := by
  obtain ⟨h1, base, h2⟩ := h
  obtain ⟨s, hc, hs⟩ := h1.string ht
  exact ⟨s, cell_of_cells hc (okWide_not_agg ht (by simp) h2), hs⟩
theorem RdV.int {t : TypeId} {k : IntKind} {v : Value} (ht : P.underlying t = some (.int k)) (h : RdV enc P w t v) : ∃ n : Int, v = .int k n ∧ (Lit.int k n).wf = true := by
  obtain ⟨h1, base, h2⟩ := h
  obtain ⟨s, hc, hs⟩ := h1.int ht
  exact ⟨s, cell_of_cells hc (okWide_not_agg ht (by simp) h2), hs⟩
theorem RdV.slice {t e : TypeId} {v : Value} (ht : P.underlying t = some (.slice e)) (h : RdV enc P w t v) : Rd enc P w t [v] := by
  obtain ⟨h1, base, h2⟩ := h
  have hn := okWide_not_agg ht (by simp) h2
  have : v.cells.toList = [v] := by cases v <;> first | rfl | exact absurd rfl (hn _)
  rwa [this] at h1

theorem trodAll_rd : ∀ {ts : List TypeId} {vs : List Value} {ds : List (DataW H)} {p : List MemPlace}, DataW.TrodAll enc P w 0 (fun _ => true) true ts vs ds p → (∀ n ∈ DataW.weightsEach P ts ds, n ≤ 140737488351232) →
    vs.length = ts.length ∧ ds.length = ts.length ∧ ∀ (j : Nat) (t : TypeId) (v : Value), ts[j]? = some t → vs[j]? = some v → Rd enc P w t v.cells.toList
  | [], vs, ds, p, h, _ => by
    cases vs <;> cases ds <;> simp [DataW.TrodAll] at h
    exact ⟨rfl, rfl, fun j t v ht => by simp at ht⟩
  | t :: ts, vs, ds, p, h, hw => by
    obtain ⟨v, vs', d, ds', p1, q1, rfl, rfl, rfl, ⟨fuel, h1⟩, h2⟩ := trodAll_cons h
    simp only [DataW.weightsEach, List.mem_append] at hw
    obtain ⟨l1, l2, ih⟩ := trodAll_rd h2 (fun n hn => hw n (.inr hn))
    refine ⟨by simp [l1], by simp [l2], fun j t' v' ht hv => ?_⟩
    cases j with
    | zero =>
      simp at ht hv
      subst ht; subst hv
      exact ⟨fuel, _, h1, fun n hn => hw n (.inl hn)⟩
    | succ j => exact ih j t' v' (by simpa using ht) (by simpa using hv)
theorem trodAll_below {W W' : World} (hl : laidOutB P = true) (hb : Below W.heap.size W W') : ∀ {ts : List TypeId} {vs : List Value} {ds : List (DataW H)} {p : List MemPlace}, (∀ t ∈ ts, P.readableRec t = true ∧ t < P.types.size) →
    DataW.TrodAll enc P W 0 (fun _ => true) true ts vs ds p → DataW.TrodAll enc P W' 0 (fun b => decide (b < W.heap.size)) true ts vs ds p
  | [], vs, ds, p, _, h => by
    cases vs <;> cases ds <;> simp [DataW.TrodAll] at h ⊢
    exact h
  | t :: ts, vs, ds, p, ht, h => by
    obtain ⟨v, vs', d, ds', p1, q1, rfl, rfl, rfl, h1, h2⟩ := trodAll_cons h
    have lt0 : ∀ x ∈ p1, x.block < W.heap.size := by obtain ⟨m, hm⟩ := h1; exact DataW.trod_lt m _ _ _ hm
    exact trodAll_cons_mk (Below.trod hl (ht t (by simp)).1 (ht t (by simp)).2 h1 hb lt0) (trodAll_below hl hb (fun x hx => ht x (by simp [hx])) h2)
end

theorem law_lifted {C : Checked} {os : Os} {f : FuncId} {fn : Func} {s : ChangeSpec} {tb : TypeId} (H : Type) (enc : TypeId × Value → H)
    (own : ownKnob C.prog.godebug = none) (started : os.Started) (noInit : C.prog.inits.idxOf? f = none) (hfn : C.prog.funcs[f]? = some fn)
    (witness : ∃ (w : World) (tape : Tape) (i : Input), w.os = os ∧ (w.forCall tape i).Shaped C.prog ∧ i.vars = [] ∧ Input.okWide C.prog (w.forCall tape i) .any w.heap.size f i ∧
      s.pre6 enc C.prog fn [] false (w.forCall tape i).memory i.args ∧ ({} : Assume).holds C.prog (lone (Frame.enter C.prog f i.args .normal) [] (w.forCall tape i)))
    (hvars : s.vars = []) (hres : fn.resultTypes = #[tb]) (htb : C.prog.underlying tb = some .bool)
    (hspec : ∀ ds : List (DataW H), ds.length = fn.params.size → s.fn H ds = { results := [.lit (.bool true)], args := ds })
    (laid : laidOutB C.prog = true) (hty : ∀ t ∈ fn.params.toList, C.prog.readableRec t = true ∧ t < C.prog.types.size)
    (walk : ∀ (W : World) (vs : List Value), vs.length = fn.params.size → (∀ (j : Nat) (t : TypeId) (v : Value), fn.params[j]? = some t → vs[j]? = some v → RdV enc C.prog W t v) → Calls C.prog f vs.toArray W fun e w' => e = .returned (.bool true) ∧ Aft W w') :
    ReturnsInHanded {} C os f .any (s.pre6 enc C.prog fn [] false) (s.post enc C.prog fn false true false false) := by
  refine returnsInHanded_of_change_sized own started noInit hfn witness ?_
  intro W base args ds gs before hval hW _ hsz _
  have hW' := hW
  obtain ⟨p, q, hA, hV, rfl, _, _⟩ := hW
  rw [hvars] at hV
  obtain ⟨rfl, rfl⟩ := trodVars_none hV
  have hw : ∀ n ∈ DataW.weightsEach C.prog fn.params.toList ds, n ≤ 140737488351232 := by
    have e : s.plain.varTypes C.prog = [] := by
      simp [ChangeSpec.plain, hvars, DataSpec.varTypes]
    rw [e, List.append_nil, List.append_nil] at hsz
    intro n hn
    have := List.all_eq_true.1 hsz n hn
    have h2 : n ≤ reachBytes := by simpa using this
    exact h2
  obtain ⟨l1, l2, hrd⟩ := trodAll_rd hA hw
  have hlen : args.toList.length = fn.params.size := by simpa using l1
  refine ((walk W args.toList hlen fun j t v ht hv => ⟨hrd j t v (by simpa using ht) hv, base, hval j t v ht (by simpa using hv)⟩)).mono fun e W' ⟨he, haft⟩ => ?_
  subst he
  have hs := hspec ds (by simpa using l2)
  refine ⟨_, rfl, ds, [], p ++ [], [], p, [], hW', ?_, ?_, ?_, ?_, fun h => by cases h⟩
  · rw [List.append_nil, hs, hres]
    exact trodAll_mk1 (shut_bool htb _)
  · rw [List.append_nil, hs]
    exact trodAll_below laid haft hty hA
  · rw [List.append_nil, hs, hvars]
    rfl
  · exact haft.frame _
end Go.Proofs.YticjnndhpfdajaaGreat
/- How objects, tables, rules, columns, schemas read as arguments. -/
namespace Go.Proofs.YticjnndhpfdajaaGreat
open Go.ChangeShapes Go.WideShapes Go.ChangeAt Go.RowKit
set_option maxRecDepth 100000
set_option linter.unusedVariables false
section
variable {H : Type} {enc : TypeId × Value → H} {w : World}
theorem rd_str {cs : List Value} (h : Rd enc Tryz.prog w 9 cs) : ∃ x, StrR w cs x := by
  obtain ⟨s, e, z⟩ := h.string Tryz.underlying9
  exact ⟨s, e, z⟩
theorem rd_strs {cs : List Value} (h : Rd enc Tryz.prog w 27 cs) : ∃ l, SlOf w 1 StrR cs l :=
  Rd.slice Tryz.underlying27 (by kernel_rfl : Tryz.prog.cellsOf 9 = 1) (by decide) (of_decide_eq_true (by kernel_rfl)) (fun _ h => rd_str h) h
theorem rd_col {cs : List Value} (h : Rd enc Tryz.prog w 41 cs) : ∃ x, ColR w cs x := by
  obtain ⟨hl, _⟩ := h.struct Tryz.underlying41
  rw [show Tryz.prog.cellsOf 41 = 3 by kernel_rfl] at hl
  match cs, hl with
  | [c0, c1, c2], _ =>
    have f0 := h.field Tryz.underlying41 0 9 0 1 rfl (by kernel_rfl)
    have f1 := h.field Tryz.underlying41 1 39 1 1 rfl (by kernel_rfl)
    have f2 := h.field Tryz.underlying41 2 4 2 1 rfl (by kernel_rfl)
    clear h
    obtain ⟨x0, e0, z0⟩ := f0.string Tryz.underlying9
    obtain ⟨x1, e1, _⟩ := f1.int Tryz.underlying39
    obtain ⟨x2, e2⟩ := f2.bool Tryz.underlying4
    simp at e0 e1 e2
    subst e0 e1 e2
    exact ⟨⟨x0, x1, x2⟩, rfl, z0⟩
theorem rd_cols {cs : List Value} (h : Rd enc Tryz.prog w 47 cs) : ∃ l, SlOf w 3 ColR cs l :=
  Rd.slice Tryz.underlying47 (by kernel_rfl : Tryz.prog.cellsOf 41 = 3) (by decide) (of_decide_eq_true (by kernel_rfl)) (fun _ h => rd_col h) h
theorem rd_rule {cs : List Value} (h : Rd enc Tryz.prog w 29 cs) : ∃ x, RulR w cs x := by
  obtain ⟨hl, _⟩ := h.struct Tryz.underlying29
  rw [show Tryz.prog.cellsOf 29 = 8 by kernel_rfl] at hl
  match cs, hl with
  | [c0, c1, c2, c3, c4, c5, c6, c7], _ =>
    have f0 := h.field Tryz.underlying29 0 9 0 1 rfl (by kernel_rfl)
    have f1 := h.field Tryz.underlying29 1 26 1 1 rfl (by kernel_rfl)
    have f2 := h.field Tryz.underlying29 2 27 2 1 rfl (by kernel_rfl)
    have f3 := h.field Tryz.underlying29 3 3 3 1 rfl (by kernel_rfl)
    have f4 := h.field Tryz.underlying29 4 3 4 1 rfl (by kernel_rfl)
    have f5 := h.field Tryz.underlying29 5 9 5 1 rfl (by kernel_rfl)
    have f6 := h.field Tryz.underlying29 6 9 6 1 rfl (by kernel_rfl)
    have f7 := h.field Tryz.underlying29 7 9 7 1 rfl (by kernel_rfl)
    clear h
    obtain ⟨x0, e0, z0⟩ := f0.string Tryz.underlying9
    obtain ⟨x1, e1, _⟩ := f1.int Tryz.underlying26
    obtain ⟨x2, A2, cap2, e2, z2⟩ := rd_strs f2
    obtain ⟨x3, e3, _⟩ := f3.int Tryz.underlying3
    obtain ⟨x4, e4, _⟩ := f4.int Tryz.underlying3
    obtain ⟨x5, e5, z5⟩ := f5.string Tryz.underlying9
    obtain ⟨x6, e6, z6⟩ := f6.string Tryz.underlying9
    obtain ⟨x7, e7, z7⟩ := f7.string Tryz.underlying9
    simp at e0 e1 e2 e3 e4 e5 e6 e7
    subst e0 e1 e2 e3 e4 e5 e6 e7
    exact ⟨⟨x0, x1, x2, x3, x4, x5, x6, x7⟩, A2, cap2, rfl, z2, z0, z5, z6, z7⟩
theorem rd_rules {cs : List Value} (h : Rd enc Tryz.prog w 48 cs) : ∃ l, SlOf w 8 RulR cs l :=
  Rd.slice Tryz.underlying48 (by kernel_rfl : Tryz.prog.cellsOf 29 = 8) (by decide) (of_decide_eq_true (by kernel_rfl)) (fun _ h => rd_rule h) h
theorem rd_tab {cs : List Value} (h : Rd enc Tryz.prog w 50 cs) : ∃ x, TabR w cs x := by
  obtain ⟨hl, _⟩ := h.struct Tryz.underlying50
  rw [show Tryz.prog.cellsOf 50 = 5 by kernel_rfl] at hl
  match cs, hl with
  | [c0, c1, c2, c3, c4], _ =>
    have f0 := h.field Tryz.underlying50 0 9 0 1 rfl (by kernel_rfl)
    have f1 := h.field Tryz.underlying50 1 9 1 1 rfl (by kernel_rfl)
    have f2 := h.field Tryz.underlying50 2 9 2 1 rfl (by kernel_rfl)
    have f3 := h.field Tryz.underlying50 3 47 3 1 rfl (by kernel_rfl)
    have f4 := h.field Tryz.underlying50 4 48 4 1 rfl (by kernel_rfl)
    clear h
    obtain ⟨x0, e0, z0⟩ := f0.string Tryz.underlying9
    obtain ⟨x1, e1, z1⟩ := f1.string Tryz.underlying9
    obtain ⟨x2, e2, z2⟩ := f2.string Tryz.underlying9
    obtain ⟨x3, A3, cap3, e3, z3⟩ := rd_cols f3
    obtain ⟨x4, A4, cap4, e4, z4⟩ := rd_rules f4
    simp at e0 e1 e2 e3 e4
    subst e0 e1 e2 e3 e4
    exact ⟨⟨x0, x1, x2, x3, x4⟩, A3, cap3, A4, cap4, rfl, z3, z4, z0, z1, z2⟩
theorem rd_tabs {cs : List Value} (h : Rd enc Tryz.prog w 23 cs) : ∃ l, SlOf w 5 TabR cs l :=
  Rd.slice Tryz.underlying23 (by kernel_rfl : Tryz.prog.cellsOf 50 = 5) (by decide) (of_decide_eq_true (by kernel_rfl)) (fun _ h => rd_tab h) h
theorem rd_sch {cs : List Value} (h : Rd enc Tryz.prog w 99 cs) : ∃ x, SchR w cs x := by
  obtain ⟨hl, _⟩ := h.struct Tryz.underlying99
  rw [show Tryz.prog.cellsOf 99 = 2 by kernel_rfl] at hl
  match cs, hl with
  | [c0, c1], _ =>
    have f0 := h.field Tryz.underlying99 0 9 0 1 rfl (by kernel_rfl)
    have f1 := h.field Tryz.underlying99 1 9 1 1 rfl (by kernel_rfl)
    clear h
    obtain ⟨x0, e0, z0⟩ := f0.string Tryz.underlying9
    obtain ⟨x1, e1, z1⟩ := f1.string Tryz.underlying9
    simp at e0 e1
    subst e0 e1
    exact ⟨⟨x0, x1⟩, rfl, z0, z1⟩
theorem rd_schs {cs : List Value} (h : Rd enc Tryz.prog w 22 cs) : ∃ l, SlOf w 2 SchR cs l :=
  Rd.slice Tryz.underlying22 (by kernel_rfl : Tryz.prog.cellsOf 99 = 2) (by decide) (of_decide_eq_true (by kernel_rfl)) (fun _ h => rd_sch h) h
theorem rd_objs {cs : List Value} (h : Rd enc Tryz.prog w 25 cs) : ∃ x, ObjR w cs x := by
  obtain ⟨hl, _⟩ := h.struct Tryz.underlying25
  rw [show Tryz.prog.cellsOf 25 = 2 by kernel_rfl] at hl
  match cs, hl with
  | [c0, c1], _ =>
    have f0 := h.field Tryz.underlying25 0 22 0 1 rfl (by kernel_rfl)
    have f1 := h.field Tryz.underlying25 1 23 1 1 rfl (by kernel_rfl)
    clear h
    obtain ⟨x0, A0, cap0, e0, z0⟩ := rd_schs f0
    obtain ⟨x1, A1, cap1, e1, z1⟩ := rd_tabs f1
    simp at e0 e1
    subst e0 e1
    exact ⟨⟨x0, x1⟩, A0, cap0, A1, cap1, rfl, z0, z1⟩
theorem own_knob : ownKnob Tryz.prog.godebug = none := by kernel_rfl
theorem laid_out : laidOutB Tryz.prog = true := by kernel_rfl
end
end Go.Proofs.YticjnndhpfdajaaGreat
/- How roles read as arguments. -/
namespace Go.Proofs.YticjnndhpfdajaaGreat
open Go.ChangeShapes Go.WideShapes Go.ChangeAt Go.RowKit
set_option maxRecDepth 100000
set_option linter.unusedVariables false
section
variable {H : Type} {enc : TypeId × Value → H} {w : World}
theorem rd_mbr {cs : List Value} (h : Rd enc Tryz.prog w 185 cs) : ∃ x, MbrR w cs x := by
  obtain ⟨hl, _⟩ := h.struct Tryz.underlying185
  rw [show Tryz.prog.cellsOf 185 = 2 by kernel_rfl] at hl
  match cs, hl with
  | [c0, c1], _ =>
    have f0 := h.field Tryz.underlying185 0 9 0 1 rfl (by kernel_rfl)
    have f1 := h.field Tryz.underlying185 1 9 1 1 rfl (by kernel_rfl)
    clear h
    obtain ⟨x0, e0, z0⟩ := rd_str f0
    obtain ⟨x1, e1, z1⟩ := rd_str f1
    simp at e0 e1
    subst e0 e1
    exact ⟨⟨x0, x1⟩, rfl, z0, z1⟩
theorem rd_mbrs {cs : List Value} (h : Rd enc Tryz.prog w 54 cs) : ∃ l, SlOf w 2 MbrR cs l :=
  Rd.slice Tryz.underlying54 (by kernel_rfl : Tryz.prog.cellsOf 185 = 2) (by decide) (of_decide_eq_true (by kernel_rfl)) (fun _ h => rd_mbr h) h
theorem rd_rols {cs : List Value} (h : Rd enc Tryz.prog w 56 cs) : ∃ (x : Rls) (A : Option Addr) (cap : Nat) (B : Option Addr) (capB : Nat), cs = [.slice A x.names.length cap, .slice B x.members.length capB] ∧ SlAt w 1 StrR A cap x.names ∧ SlAt w 2 MbrR B capB x.members := by
  obtain ⟨hl, _⟩ := h.struct Tryz.underlying56
  rw [show Tryz.prog.cellsOf 56 = 2 by kernel_rfl] at hl
  match cs, hl with
  | [c0, c1], _ =>
    have f0 := h.field Tryz.underlying56 0 27 0 1 rfl (by kernel_rfl)
    have f1 := h.field Tryz.underlying56 1 54 1 1 rfl (by kernel_rfl)
    clear h
    obtain ⟨x0, A0, cap0, e0, z0⟩ := rd_strs f0
    obtain ⟨x1, A1, cap1, e1, z1⟩ := rd_mbrs f1
    simp at e0 e1
    subst e0 e1
    exact ⟨⟨x0, x1⟩, A0, cap0, A1, cap1, rfl, z0, z1⟩
end
end Go.Proofs.YticjnndhpfdajaaGreat
/- How catalogs and grants read as arguments. -/
namespace Go.Proofs.YticjnndhpfdajaaGreat
open Go.ChangeShapes Go.WideShapes Go.ChangeAt Go.RowKit
set_option maxRecDepth 100000
set_option linter.unusedVariables false
section
variable {H : Type} {enc : TypeId × Value → H} {w : World}
theorem rd_gra {cs : List Value} (h : Rd enc Tryz.prog w 67 cs) : ∃ x, GraR w cs x := by
  obtain ⟨hl, _⟩ := h.struct Tryz.underlying67
  rw [show Tryz.prog.cellsOf 67 = 6 by kernel_rfl] at hl
  match cs, hl with
  | [c0, c1, c2, c3, c4, c5], _ =>
    have f0 := h.field Tryz.underlying67 0 9 0 1 rfl (by kernel_rfl)
    have f1 := h.field Tryz.underlying67 1 9 1 1 rfl (by kernel_rfl)
    have f2 := h.field Tryz.underlying67 2 65 2 1 rfl (by kernel_rfl)
    have f3 := h.field Tryz.underlying67 3 9 3 1 rfl (by kernel_rfl)
    have f4 := h.field Tryz.underlying67 4 9 4 1 rfl (by kernel_rfl)
    have f5 := h.field Tryz.underlying67 5 4 5 1 rfl (by kernel_rfl)
    clear h
    obtain ⟨x0, e0, z0⟩ := rd_str f0
    obtain ⟨x1, e1, z1⟩ := rd_str f1
    obtain ⟨x2, e2, z2⟩ := f2.int Tryz.underlying65
    obtain ⟨x3, e3, z3⟩ := rd_str f3
    obtain ⟨x4, e4, z4⟩ := rd_str f4
    obtain ⟨x5, e5⟩ := f5.bool Tryz.underlying4
    simp at e0 e1 e2 e3 e4 e5
    subst e0 e1 e2 e3 e4 e5
    exact ⟨⟨x0, x1, x2, x3, x4, x5⟩, rfl, z0, z1, z3, z4, z2⟩
theorem rd_gras {cs : List Value} (h : Rd enc Tryz.prog w 57 cs) : ∃ l, SlOf w 6 GraR cs l :=
  Rd.slice Tryz.underlying57 (by kernel_rfl : Tryz.prog.cellsOf 67 = 6) (by decide) (of_decide_eq_true (by kernel_rfl)) (fun _ h => rd_gra h) h
theorem rd_cat {cs : List Value} (h : Rd enc Tryz.prog w 59 cs) : ∃ (c : Cat) (As : Option Addr) (caps : Nat) (At : Option Addr) (capt : Nat) (An : Option Addr) (capn : Nat) (Am : Option Addr) (capm : Nat) (Ag : Option Addr) (capg : Nat),
    cs = [.int .i64 c.epoch, .int .i64 c.version, .slice As c.objs.schemas.length caps, .slice At c.objs.tables.length capt, .slice An c.rols.names.length capn, .slice Am c.rols.members.length capm, .slice Ag c.grants.length capg] ∧
    SlAt w 2 SchR As caps c.objs.schemas ∧ SlAt w 5 TabR At capt c.objs.tables ∧ SlAt w 1 StrR An capn c.rols.names ∧ SlAt w 2 MbrR Am capm c.rols.members ∧ SlAt w 6 GraR Ag capg c.grants ∧ (Lit.int .i64 c.epoch).wf = true ∧ (Lit.int .i64 c.version).wf = true := by
  obtain ⟨hl, _⟩ := h.struct Tryz.underlying59
  rw [show Tryz.prog.cellsOf 59 = 7 by kernel_rfl] at hl
  match cs, hl with
  | [c0, c1, c2, c3, c4, c5, c6], _ =>
    have f0 := h.field Tryz.underlying59 0 3 0 1 rfl (by kernel_rfl)
    have f1 := h.field Tryz.underlying59 1 3 1 1 rfl (by kernel_rfl)
    have f2 := h.field Tryz.underlying59 2 25 2 2 rfl (by kernel_rfl)
    have f3 := h.field Tryz.underlying59 3 56 4 2 rfl (by kernel_rfl)
    have f4 := h.field Tryz.underlying59 4 57 6 1 rfl (by kernel_rfl)
    clear h
    obtain ⟨x0, e0, z0⟩ := f0.int Tryz.underlying3
    obtain ⟨x1, e1, z1⟩ := f1.int Tryz.underlying3
    obtain ⟨o, A, cap, B, capB, e2, hs, ht⟩ := rd_objs f2
    obtain ⟨r, C, capC, D, capD, e3, hn, hm⟩ := rd_rols f3
    obtain ⟨g, E, capE, e4, hg⟩ := rd_gras f4
    simp at e0 e1 e2 e3 e4
    obtain ⟨rfl, rfl⟩ := e2
    obtain ⟨rfl, rfl⟩ := e3
    subst e0 e1 e4
    exact ⟨⟨x0, x1, o, r, g⟩, A, cap, B, capB, C, capC, D, capD, E, capE, rfl, hs, ht, hn, hm, hg, z0, z1⟩
end
end Go.Proofs.YticjnndhpfdajaaGreat
