/- Contracts of the program, part 8. -/
import Derived.OwnWalk
import Derived.Laws.AppendOwn
import Derived.ProofKit
import Derived.OpenShut
import Derived.Deep.Slices
import Derived.ChangeOld
import Derived.SizedLaws
import Derived.WalkKit
import Derived.WalkSpells
import Derived.WalkLawsBesides
import Derived.Lib.Hide
import Derived.Deep.QuietTactic
import Derived.BigQuiet
import Derived.Below
import Derived.Deep.Draws
import Derived.StillTailTactics
import Derived.Laws.Cells
import Derived.Laws.IdiomCopy
import Derived.Test.YtiadkchlkdaceaaGreatRows
import Derived.Lib.Bytealg
import Derived.IntWalk
import Derived.ShutString
import Derived.Shelf.SlSortCmp.WholeK
import Derived.Lib.SliceRun
import Derived.Deep.AppendLies
import Derived.Deep.Upon
import Derived.OneCell
import Derived.Deep.DeepMust
import Derived.Deep.RegionLaw
import Derived.Deep.RegionHeld3
import Derived.Deep.Onto
import Derived.LaidEqlPtr
import Derived.Test.YtiadkchlkdaceaaGreatPartK1
import Derived.Test.YtiadkchlkdaceaaGreatPartK2
import Derived.Test.YtiadkchlkdaceaaGreatPartK3
import Derived.Test.YtiadkchlkdaceaaGreatPartK4
import Derived.Test.YtiadkchlkdaceaaGreatPartK5
import Derived.Test.YtiadkchlkdaceaaGreatPartK6
import Derived.Test.YtiadkchlkdaceaaGreatPartK7
namespace Go.Proofs.YtiadkchlkdaceaaGreat
open Go.RowKit
set_option linter.unusedVariables false
/-- a table and its rows -/
structure Shf where
  t : Tab
  rows : List (List Val)
structure ROp where
  kind : Int
  role : ByteArray
  schema : ByteArray
  table : ByteArray
  row : List Val
  col : ByteArray
  v : Val
def noShf : Shf := ⟨zeroT, []⟩
def shfAt (S : List Shf) (s n : ByteArray) : Int := idxP (fun x : Shf => eqS x.t.schema s && eqS x.t.name n) S
def shfN (S : List Shf) (q : Nat) : Shf := S[q]?.getD noShf
/-- has one of some rows these values in these columns? -/
def hasR12 (l : List Col) (rows : List (List Val)) (cs : List ByteArray) (want : List Val) : Bool := rows.any fun row => eqVs (ofVs l cs row) want
def isKey (key : ByteArray) (r : Rul) : Bool := r.kind == 2 && eqS r.name key
/-- the columns of a table's key -/
def keyOf (t : Tab) (key : ByteArray) : List ByteArray := ((t.rules.find? (isKey key)).map (·.cols)).getD []
def keyHit (t : Tab) (rows : List (List Val)) (row : List Val) (r : Rul) : Bool := r.kind == 2 && (wholeV (ofVs t.cols r.cols row) && hasR12 t.cols rows r.cols (ofVs t.cols r.cols row))
/-- the rows among which a foreign rule's key must be -/
def amongS (S : List Shf) (q p : Nat) (row : List Val) : List (List Val) := if p = q then (shfN S p).rows ++ [row] else (shfN S p).rows
def farHit (S : List Shf) (q : Nat) (row : List Val) (r : Rul) : Bool :=
  r.kind == 4 && (wholeV (ofVs (shfN S q).t.cols r.cols row) && !hasR12 (shfN S (shfAt S r.schema r.table).toNat).t.cols (amongS S q (shfAt S r.schema r.table).toNat row) (keyOf (shfN S (shfAt S r.schema r.table).toNat).t r.key) (ofVs (shfN S q).t.cols r.cols row))
/-- why a row may not be laid -/
def wrongS (S : List Shf) (q : Nat) (row : List Val) : Int :=
  if fitE (shfN S q).t row ≠ 0 then fitE (shfN S q).t row
  else if 64 ≤ (shfN S q).rows.length then 2
  else if (shfN S q).t.rules.any (keyHit (shfN S q).t (shfN S q).rows row) then 111
  else if (shfN S q).t.rules.any (farHit S q row) then 112
  else 0
/-- does a row need one that is gone? -/
def needS (x y : Shf) (q : Nat) (left gone : List (List Val)) (r : Rul) (row : List Val) : Bool :=
  wholeV (ofVs y.t.cols r.cols row) && (hasR12 x.t.cols gone (keyOf x.t r.key) (ofVs y.t.cols r.cols row) && !hasR12 x.t.cols left (keyOf x.t r.key) (ofVs y.t.cols r.cols row))
def needR (S : List Shf) (q : Nat) (left gone : List (List Val)) (y : Shf) (all : List (List Val)) (r : Rul) : Bool :=
  r.kind == 4 && (decide (shfAt S r.schema r.table = q) && all.any (needS (shfN S q) y q left gone r))
def heldS (S : List Shf) (q : Nat) (left gone : List (List Val)) : Bool :=
  (List.range S.length).any fun i => (shfN S i).t.rules.any (needR S q left gone (shfN S i) (if i = q then left else (shfN S i).rows))
def mayO (x : ROp) : Bool :=
  if x.kind == 1 then emp x.col && eqV x.v nilV
  else if x.kind == 2 then nameB x.col && (mayV x.v && decide (x.row.length = 0))
  else if x.kind == 3 then (nameB x.col && (mayV x.v && decide (x.row.length = 0))) || (emp x.col && (eqV x.v nilV && decide (x.row.length = 0)))
  else false
/-- is a row one whose column is a value? all are, if there is no column -/
def inS (l : List Col) (col : ByteArray) (v : Val) (row : List Val) : Bool := decide (colAt l col < 0) || eqV (valAt row (colAt l col)) v
def putS (S : List Shf) (q : Nat) (rows : List (List Val)) : List Shf := S.set q ⟨(shfN S q).t, rows⟩
def doS (S : List Shf) (x : ROp) : List Shf × List (List Val) × Int :=
  if mayO x = false then (S, [], 1)
  else if shfAt S x.schema x.table < 0 then (S, [], 110)
  else if emp x.col = false ∧ colAt (shfN S (shfAt S x.schema x.table).toNat).t.cols x.col < 0 then (S, [], 110)
  else if x.kind = 1 then
    (if wrongS S (shfAt S x.schema x.table).toNat x.row ≠ 0 then (S, [], wrongS S (shfAt S x.schema x.table).toNat x.row)
     else (putS S (shfAt S x.schema x.table).toNat ((shfN S (shfAt S x.schema x.table).toNat).rows ++ [x.row]), [x.row], 0))
  else
    let y := shfN S (shfAt S x.schema x.table).toNat
    let gone := y.rows.filter (inS y.t.cols x.col x.v)
    let left := y.rows.filter fun r => !inS y.t.cols x.col x.v r
    if x.kind = 2 then (if heldS S (shfAt S x.schema x.table).toNat left gone then (S, [], 113) else (putS S (shfAt S x.schema x.table).toNat left, gone, 0))
    else (S, gone, 0)
/-- a table's rows behind other objects -/
def turnS (S : List Shf) (t : Tab) : Shf := ⟨t, if shfAt S t.schema t.name < 0 then [] else (shfN S (shfAt S t.schema t.name).toNat).rows.map (turnVs (shfN S (shfAt S t.schema t.name).toNat).t.cols t.cols)⟩
def loadS (S : List Shf) (o : Objs) : List Shf × Int := if checkO o then (o.tables.map (turnS S), 0) else (S, 63)
/-- a store as it may be -/
structure SOk (S : List Shf) (ss : List Sch) : Prop where
  ck : checkO ⟨ss, S.map (·.t)⟩ = true
  form : ∀ x ∈ S, ∀ row ∈ x.rows, besideB formB x.t.cols row = true
  most : ∀ x ∈ S, x.rows.length ≤ 64
end Go.Proofs.YtiadkchlkdaceaaGreat

namespace Go.Proofs.YtiadkchlkdaceaaGreat
open Go.RowKit
set_option maxRecDepth 100000
set_option linter.unusedVariables false
/-- what Clone gives: a row of its own, with the same cells -/
def CloneP {α : Type} (size : Nat) (R : World → List Value → α → Prop) (w0 w : World) (l : List α) (e : Ending) (w' : World) : Prop :=
  ∃ v css, e = .returned v ∧ Aft w w' ∧ RowV w' w.heap.size v l.length css.flatten ∧ Chunks w0 size R css l
theorem infoRul : (Tryz.prog.info? 108).map (fun i => (i.zero, i.size, i.bytes)) = some (some (.agg #[.string ByteArray.empty, .int .i64 0, .slice none 0 0, .int .i64 0, .int .i64 0, .string ByteArray.empty, .string ByteArray.empty, .string ByteArray.empty]), 8, 112) := by kernel_rfl
set_option maxHeartbeats 2000000 in
theorem cloneRul (A : Option Addr) (cap : Nat) (l : List Rul) (w0 w : World) (ha : Aft w0 w) (h : SlAt w0 8 RulR A cap l) (hb : l.length ≤ 1000000) :
    Calls Tryz.prog 95 #[.slice A l.length cap] w (CloneP 8 RulR w0 w l) := by
  obtain ⟨i0, hi, hz0, hz1, hz2⟩ := info_parts infoRul
  have q22 : ∀ (w : World) (a : Option Addr) (n c n' c' : Nat), (binOp .eql 74 (.slice a n c) (.slice none n' c')).run Tryz.prog w = .ok (.bool a.isNone) w := fun w a n c n' c' => Lib.run_eql_slice_nil w _ _ a n c n' c' Tryz.underlying74
  cases A with
  | none =>
    have hl0 : l = [] := by
      cases l with
      | nil => rfl
      | cons x l => obtain ⟨b, off, cs, hA, _⟩ := h.2.2 0 (by simp); cases hA
    subst hl0
    go_enter Tryz.func95, Tryz.ntmps95
    go_wp2_with fail
    go_ret
    exact ⟨_, [], rfl, Aft.refl _, ⟨none, 0, rfl, by simp, fun h0 => by simp at h0⟩, Chunks.nil⟩
  | some ad =>
    have HC : ∃ css, Chunks w0 8 RulR css l ∧ ∀ p u, css.flatten[p]? = some u → w.cell? (ad.add p) = some u := by
      by_cases h0 : 0 < l.length
      · obtain ⟨b, off, css, hA, hb', hch, hc⟩ := h.css h0 (by decide)
        simp only [Option.some.injEq] at hA
        subst hA
        refine ⟨css, hch, fun p u hp => ?_⟩
        have hlt : p < l.length * 8 := by rw [← hch.len]; exact (List.getElem?_eq_some_iff.1 hp).1
        rw [add_mk]; exact ha.cell_kept ((hc p hlt).trans hp)
      · have hl0 : l = [] := List.eq_nil_of_length_eq_zero (by omega)
        subst hl0
        exact ⟨[], Chunks.nil, fun p u hp => by simp at hp⟩
    obtain ⟨css, hch, hcell⟩ := HC
    have H1 := Lib.hid hcell
    have H2 : Hid (∀ u ∈ css.flatten, u.oneCell' = true) := Lib.hid (by
      intro u hu
      obtain ⟨c, hc, hu⟩ := List.mem_flatten.1 hu
      obtain ⟨i, hi, rfl⟩ := List.getElem_of_mem hc
      have h3 := (hch.2 i hi (by rw [← hch.1]; exact hi)).2
      obtain ⟨A2, cap2, hcs, _⟩ := h3
      rw [hcs] at hu
      simp only [List.mem_cons, List.not_mem_nil, or_false] at hu
      rcases hu with rfl | rfl | rfl | rfl | rfl | rfl | rfl | rfl <;> simp [Value.oneCell'])
    have H3 := Lib.hid hch
    have HI := Lib.hid hi
    have HZ0 := Lib.hid hz0
    have HZ1 := Lib.hid hz1
    have HZ2 := Lib.hid hz2
    clear hcell hch hi hz0 hz1 hz2 h ha
    go_enter Tryz.func95, Tryz.ntmps95
    go_wp2_with (at_builtin; refine wpList_append_own _ rfl _ _ 74 rfl w.heap.size 108 i0 (.agg #[.string ByteArray.empty, .int .i64 0, .slice none 0 0, .int .i64 0, .int .i64 0, .string ByteArray.empty, .string ByteArray.empty, .string ByteArray.empty]) 8 112 Tryz.underlying74 HI.out HZ0.out HZ1.out HZ2.out rfl (by decide) _ _ _ rfl (World.ownsRow_made w #[] 0 (Nat.le_refl _) (Nat.zero_le _) rfl) ad l.length cap css.flatten rfl ?qc1 ?qc2 ?qc3 ?qc4 ?qc5 ?qc6 ?_)
    case qc1 => exact H3.out.len
    case qc2 =>
      intro j u hj
      exact Lib.cell?_alloc_some _ (H1.out j u hj)
    case qc3 => exact H2.out
    case qc4 => unfold maxLen; omega
    case qc5 => omega
    case qc6 => simp
    intro v' w1 hown hgrow hnil
    have HO := Lib.hid hown
    have HA := Lib.hid (show Aft w w1 from ((Below.refl _ w).alloc (Nat.le_refl _) _).grown hgrow (by simp) (by intro k hk; simp [Value.ownBlock] at hk; omega))
    clear hown hgrow hnil
    go_wp2_with fail
    go_ret
    refine ⟨v', css, rfl, HA.out, ?_, H3.out⟩
    have ho := own_rowV HO.out
    simpa using ho
end Go.Proofs.YtiadkchlkdaceaaGreat

namespace Go.Proofs.YtiadkchlkdaceaaGreat
open Go.RowKit
set_option maxRecDepth 100000
set_option linter.unusedVariables false
theorem RowAt.far {w : World} {b : Nat} {xs : List Value} (h : RowAt w b xs) {g : Nat} (hne : g ≠ b) (j : Nat) (v : Value) : RowAt (w.setCell ⟨g, j, none⟩ v) b xs :=
  ⟨by simpa using h.1, fun k hk => by refine (World.cell?_setCell_other _ _ _ _ ?_).trans (h.2.1 k hk); intro e; injection e with e1; exact hne e1, fun k hk => by rw [World.frozen?_setCell]; exact h.2.2 k hk⟩
theorem box_row {w W : World} {c : List Value} {t : TypeId} (h : Aft (w.alloc (.cells c.toArray t)) W) : RowAt W w.heap.size c := by
  obtain ⟨hb, hf, hz, _, _⟩ := aft_box h
  exact ⟨hz.1, fun j hj => by rw [hb]; simp, fun j _ => hf j⟩
theorem some_set {w : World} {q : Addr} (h : (w.cell? q).isSome = true) (p : Addr) (v : Value) : ((w.setCell p v).cell? q).isSome = true := by
  obtain ⟨u, hu⟩ := Option.isSome_iff_exists.1 h
  by_cases e : p = q
  · subst e; rw [World.cell?_setCell_same (h := hu)]; rfl
  · rw [World.cell?_setCell_other (h := e)]; exact h
theorem keep_row {w : World} {n a b c d g : Nat} {V : Value} (hS : w.cell? ⟨n, 4, none⟩ = some V ∧ (w.cell? ⟨g, a, none⟩).isSome = true ∧ (w.cell? ⟨g, b, none⟩).isSome = true ∧ (w.cell? ⟨g, c, none⟩).isSome = true ∧ (w.cell? ⟨g, d, none⟩).isSome = true ∧ w.frozen? ⟨g, a, none⟩ = false ∧ w.frozen? ⟨g, b, none⟩ = false ∧ w.frozen? ⟨g, c, none⟩ = false ∧ w.frozen? ⟨g, d, none⟩ = false) (hne : g ≠ n) (j : Nat) (v : Value) :
    (w.setCell ⟨g, j, none⟩ v).cell? ⟨n, 4, none⟩ = some V ∧ ((w.setCell ⟨g, j, none⟩ v).cell? ⟨g, a, none⟩).isSome = true ∧ ((w.setCell ⟨g, j, none⟩ v).cell? ⟨g, b, none⟩).isSome = true ∧ ((w.setCell ⟨g, j, none⟩ v).cell? ⟨g, c, none⟩).isSome = true ∧ ((w.setCell ⟨g, j, none⟩ v).cell? ⟨g, d, none⟩).isSome = true ∧ (w.setCell ⟨g, j, none⟩ v).frozen? ⟨g, a, none⟩ = false ∧ (w.setCell ⟨g, j, none⟩ v).frozen? ⟨g, b, none⟩ = false ∧ (w.setCell ⟨g, j, none⟩ v).frozen? ⟨g, c, none⟩ = false ∧ (w.setCell ⟨g, j, none⟩ v).frozen? ⟨g, d, none⟩ = false := by
  obtain ⟨h1, h2, h3, h4, h5, h6⟩ := hS
  refine ⟨?_, some_set h2 _ _, some_set h3 _ _, some_set h4 _ _, some_set h5 _ _, by simpa using h6⟩
  refine (World.cell?_setCell_other _ _ _ _ ?_).trans h1
  intro e; injection e with e1; exact hne e1
theorem RowAt.put4 {w : World} {g : Nat} {cs : List (List Value)} (hr : RowAt w g cs.flatten) (hl : ∀ c ∈ cs, c.length = 8) (k : Nat) (hk : k < cs.length) {a b c d e f x y : Value} (hcs : cs[k] = [a, b, c, d, e, f, x, y]) (b' f' x' y' : Value) :
    RowAt ((((w.setCell ⟨g, k * 8 + 1, none⟩ b').setCell ⟨g, k * 8 + 5, none⟩ f').setCell ⟨g, k * 8 + 6, none⟩ x').setCell ⟨g, k * 8 + 7, none⟩ y') g (cs.set k [a, b', c, d, e, f', x', y']).flatten := by
  have hset : ∀ (n : List Value), n.length = 8 → ∀ z ∈ cs.set k n, z.length = 8 := by
    intro n hn z hz
    rcases List.mem_or_eq_of_mem_set hz with h | h
    · exact hl z h
    · rw [h]; exact hn
  have p1 := hr.put hl k 1 hk (by decide) b'
  rw [hcs] at p1
  simp only [List.set_cons_succ, List.set_cons_zero] at p1
  have p2 := p1.put (hset _ rfl) k 5 (by simpa using hk) (by decide) f'
  rw [List.set_set, List.getElem_set_self] at p2
  simp only [List.set_cons_succ, List.set_cons_zero] at p2
  have p3 := p2.put (hset _ rfl) k 6 (by simpa using hk) (by decide) x'
  rw [List.set_set, List.getElem_set_self] at p3
  simp only [List.set_cons_succ, List.set_cons_zero] at p3
  have p4 := p3.put (hset _ rfl) k 7 (by simpa using hk) (by decide) y'
  rw [List.set_set, List.getElem_set_self] at p4
  simp only [List.set_cons_succ, List.set_cons_zero] at p4
  exact p4
theorem lvObj_rowA {W : World} {b : Nat} {a c : Value} (h : RowAt W b [a, c]) : (loadVar 29 ⟨b, 0, none⟩).run Tryz.prog W = .ok (.agg #[a, c]) W := by
  have e0 := h.cell (j := 0) rfl
  have e1 := h.cell (j := 1) rfl
  have h1 := run_lvObj W b 0 (by rw [e0]; rfl) (by rw [e1]; rfl)
  rw [e0, e1] at h1
  exact h1
theorem small0 : Small (ByteArray.size ⟨#[]⟩) := by unfold Small; simp [ByteArray.size]
theorem small1 (c : UInt8) : Small (ByteArray.size ⟨#[c]⟩) := by unfold Small; simp [ByteArray.size]
def AloneP (w : World) (t : Tab) (e : Ending) (w' : World) : Prop := ∃ As At, e = .returned (.agg #[.slice As 1 1, .slice At 1 1]) ∧ Aft w w' ∧ SlAt w' 2 SchR As 1 (aloneO t).schemas ∧ SlAt w' 5 TabR At 1 (aloneO t).tables
set_option maxHeartbeats 8000000 in
theorem alone_any (t : Tab) (A : Option Addr) (cap : Nat) (A2 : Option Addr) (cap2 : Nat) (w : World) (h : SlAt w 3 ColR A cap t.cols) (h2 : SlAt w 8 RulR A2 cap2 t.rules) (hb : t.rules.length ≤ 1000000) :
    Calls Tryz.prog 122 #[.agg #[.string t.schema, .string t.name, .string t.owner, .slice A t.cols.length cap, .slice A2 t.rules.length cap2]] w (AloneP w t) := by
  have hlen := h.len
  have l1 : w.heap.size < w.heap.size + 1 := by omega
  have l2 : w.heap.size < w.heap.size + 1 + 1 := by omega
  have Cc := Lib.hid (show ∀ w', Aft w w' → _ from fun w' a => cloneRul A2 cap2 t.rules w w' a h2 hb)
  go_enter Tryz.func122, Tryz.ntmps122
  go_wp2_with fail
  refine (Cc.out _ (((Aft.refl w).alloc _).alloc _)).mono ?_
  rintro e w1 ⟨v, css, rfl, a1, hrow, hch⟩
  have r1 : RowAt w1 w.heap.size [.string ⟨#[115]⟩, .string ⟨#[116]⟩, .string ⟨#[111]⟩, .slice A t.cols.length cap, .slice A2 t.rules.length cap2] := (box_row (Aft.refl _)).aft (((Aft.refl _).alloc _).trans a1)
  have r2 : RowAt w1 (w.heap.size + 1) [.slice none 0 0, .slice none 0 0] := by
    have := (box_row (w := w.alloc (.cells #[.string ⟨#[115]⟩, .string ⟨#[116]⟩, .string ⟨#[111]⟩, .slice A t.cols.length cap, .slice A2 t.rules.length cap2] 76)) (c := [.slice none 0 0, .slice none 0 0]) (t := 29) (Aft.refl _)).aft a1
    simpa using this
  have HC := Lib.hid hch
  have HA1 := Lib.hid ((((Aft.refl w).alloc _).alloc _).trans a1)
  obtain ⟨G, capG, rfl, hcapG, hG⟩ := hrow
  have hlr := h2.len
  have b0 := r1.cell (j := 0) rfl
  have b1 := r1.cell (j := 1) rfl
  have b2 := r1.cell (j := 2) rfl
  have b3 := r1.cell (j := 3) rfl
  have b4 := r1.cell (j := 4) rfl
  have f4 := r1.2.2 4 (by simp)
  have z1 := r1.1
  have HR1 := Lib.hid (show RowAt (w1.setCell ⟨w.heap.size, 4, none⟩ (.slice G t.rules.length capG)) w.heap.size [.string ⟨#[115]⟩, .string ⟨#[116]⟩, .string ⟨#[111]⟩, .slice A t.cols.length cap, .slice G t.rules.length capG] from r1.set 4 (.slice G t.rules.length capG) (by simp))
  have HR2 := Lib.hid (r2.far (g := w.heap.size) (by omega) 4 (.slice G t.rules.length capG))
  have HRG := Lib.hid (show 0 < t.rules.length → ∃ g, G = some ⟨g, 0, none⟩ ∧ w.heap.size + 2 ≤ g ∧ RowAt (w1.setCell ⟨w.heap.size, 4, none⟩ (.slice G t.rules.length capG)) g css.flatten by
    intro h0
    obtain ⟨g, e, hb, hr⟩ := hG h0
    have hb' : w.heap.size + 2 ≤ g := by simpa using hb
    exact ⟨g, e, hb', hr.far (by omega) _ _⟩)
  have HAS := Lib.hid (HA1.out.setCell ⟨w.heap.size, 4, none⟩ (.slice G t.rules.length capG) (Nat.le_refl _))
  clear hch a1 hG r1 r2 HA1
  go_wp2_with fail
  go_loopw [15] (fun i wr => ∃ (k : Nat) (cs : List (List Value)), k ≤ t.rules.length ∧ i = .int .i64 k ∧ Aft w wr ∧ RowAt wr w.heap.size [.string ⟨#[115]⟩, .string ⟨#[116]⟩, .string ⟨#[111]⟩, .slice A t.cols.length cap, .slice G t.rules.length capG] ∧ RowAt wr (w.heap.size + 1) [.slice none 0 0, .slice none 0 0] ∧ Chunks w 8 RulR cs ((t.rules.take k).map bareR ++ t.rules.drop k) ∧ (0 < t.rules.length → ∃ g, G = some ⟨g, 0, none⟩ ∧ w.heap.size + 2 ≤ g ∧ RowAt wr g cs.flatten)) (fun i _ => t.rules.length - (intOf i).toNat)
  case atStart => exact ⟨0, css, Nat.zero_le _, rfl, HAS.out, HR1.out, HR2.out, by simpa using HC.out, HRG.out⟩
  case round =>
    clear HAS HR1 HR2 HRG HC b0 b1 b2 b3 b4 f4 z1
    obtain ⟨k, cs, hk, rfl, ha, r1, r2, hch, hrg⟩ := hrel
    have HA := Lib.hid ha
    have HR1 := Lib.hid r1
    have HR2 := Lib.hid r2
    have HC := Lib.hid hch
    have b0 := r1.cell (j := 0) rfl
    have b1 := r1.cell (j := 1) rfl
    have b2 := r1.cell (j := 2) rfl
    have b3 := r1.cell (j := 3) rfl
    have b4 := r1.cell (j := 4) rfl
    have z1 := r1.1
    by_cases hlt : k < t.rules.length
    · obtain ⟨g, rfl, hg2, rg⟩ := hrg (by omega)
      have HRG := Lib.hid rg
      have hmix := mixed_len bareR t.rules k (by omega)
      have hkc : k < cs.length := by rw [hch.1, hmix]; exact hlt
      obtain ⟨hc8, A3, cap3, hcs, hcols, s0, s1, s2, s3⟩ := hch.2 k hkc (by rw [hmix]; exact hlt)
      rw [mixed_get bareR t.rules k hlt] at hcs hcols s0 s1 s2 s3
      obtain ⟨p, hpp⟩ : ∃ p, t.rules[k] = p := ⟨_, rfl⟩
      rw [hpp] at hcs hcols s0 s1 s2 s3
      have cell : ∀ j u, j < 8 → cs[k][j]? = some u → wr.cell? ⟨g, k * 8 + j, none⟩ = some u := fun j u hj hu => rg.cell ((flat_get cs hch.all k j hkc hj).trans hu)
      have c0 := cell 0 _ (by omega) (by rw [hcs]; rfl)
      have c1 := cell 1 _ (by omega) (by rw [hcs]; rfl)
      have c2 := cell 2 _ (by omega) (by rw [hcs]; rfl)
      have c3 := cell 3 _ (by omega) (by rw [hcs]; rfl)
      have c4 := cell 4 _ (by omega) (by rw [hcs]; rfl)
      have c5 := cell 5 _ (by omega) (by rw [hcs]; rfl)
      have c6 := cell 6 _ (by omega) (by rw [hcs]; rfl)
      have c7 := cell 7 _ (by omega) (by rw [hcs]; rfl)
      rw [Nat.add_zero] at c0
      have hgl : g < wr.heap.size := rg.1
      have HB := Lib.hid (show bareR t.rules[k] = if (p.kind == 4 && nameB p.schema && nameB p.table && nameB p.key) = true then { p with kind := 1, schema := ⟨#[]⟩, table := ⟨#[]⟩, key := ⟨#[]⟩ } else p by rw [hpp]; rfl)
      have HPP := Lib.hid hpp
      have HCS := Lib.hid hcs
      have HCO := Lib.hid hcols
      have HNB := Lib.hid (fun hn : bareR t.rules[k] = t.rules[k] => (show Chunks w 8 RulR cs ((t.rules.take (k + 1)).map bareR ++ t.rules.drop (k + 1)) from mixed_same bareR t.rules k hlt hn ▸ hch))
      have RGA := Lib.hid (show ∀ c : Obj, 0 < t.rules.length → ∃ g', some (⟨g, 0, none⟩ : Addr) = some ⟨g', 0, none⟩ ∧ w.heap.size + 2 ≤ g' ∧ RowAt (wr.alloc c) g' cs.flatten from fun c _ => ⟨g, rfl, hg2, rg.aft ((Aft.refl _).alloc _)⟩)
      clear ha r1 r2 hch hrg rg hcs hcols cell hmix hpp
      cases h4 : (p.kind == 4)
      · have HN := Lib.hid (HNB.out (by rw [HB.out, h4, HPP.out]; rfl))
        go_wp2_with (go_at_call 56; refine (name_any _ _ (by first | exact s1.max | exact s2.max | exact s3.max)).mono ?_; rintro e w' ⟨rfl, rfl⟩)
        go_roundw
        case rel => exact ⟨k + 1, cs, by omega, by go_num, HA.out.alloc _, HR1.out.aft ((Aft.refl _).alloc _), HR2.out.aft ((Aft.refl _).alloc _), HN.out, RGA.out _⟩
        case measure => simp [intOf]; omega
      cases n1 : nameB p.schema
      · have HN := Lib.hid (HNB.out (by rw [HB.out, h4, n1, HPP.out]; rfl))
        go_wp2_with (go_at_call 56; refine (name_any _ _ (by first | exact s1.max | exact s2.max | exact s3.max)).mono ?_; rintro e w' ⟨rfl, rfl⟩)
        go_roundw
        case rel => exact ⟨k + 1, cs, by omega, by go_num, HA.out.alloc _, HR1.out.aft ((Aft.refl _).alloc _), HR2.out.aft ((Aft.refl _).alloc _), HN.out, RGA.out _⟩
        case measure => simp [intOf]; omega
      cases n2 : nameB p.table
      · have HN := Lib.hid (HNB.out (by rw [HB.out, h4, n1, n2, HPP.out]; rfl))
        go_wp2_with (go_at_call 56; refine (name_any _ _ (by first | exact s1.max | exact s2.max | exact s3.max)).mono ?_; rintro e w' ⟨rfl, rfl⟩)
        go_roundw
        case rel => exact ⟨k + 1, cs, by omega, by go_num, HA.out.alloc _, HR1.out.aft ((Aft.refl _).alloc _), HR2.out.aft ((Aft.refl _).alloc _), HN.out, RGA.out _⟩
        case measure => simp [intOf]; omega
      cases n3 : nameB p.key
      · have HN := Lib.hid (HNB.out (by rw [HB.out, h4, n1, n2, n3, HPP.out]; rfl))
        go_wp2_with (go_at_call 56; refine (name_any _ _ (by first | exact s1.max | exact s2.max | exact s3.max)).mono ?_; rintro e w' ⟨rfl, rfl⟩)
        go_roundw
        case rel => exact ⟨k + 1, cs, by omega, by go_num, HA.out.alloc _, HR1.out.aft ((Aft.refl _).alloc _), HR2.out.aft ((Aft.refl _).alloc _), HN.out, RGA.out _⟩
        case measure => simp [intOf]; omega
      · have HB2 := Lib.hid (show bareR t.rules[k] = { p with kind := 1, schema := ⟨#[]⟩, table := ⟨#[]⟩, key := ⟨#[]⟩ } by rw [HB.out, h4, n1, n2, n3]; rfl)
        go_wp2_with (go_at_call 56; refine (name_any _ _ (by first | exact s1.max | exact s2.max | exact s3.max)).mono ?_; rintro e w' ⟨rfl, rfl⟩)
        obtain ⟨W, hW⟩ : ∃ W, W = wr.alloc (.cells #[.string p.name, .int .i64 p.kind, .slice A3 p.cols.length cap3, .int .i64 p.low, .int .i64 p.high, .string p.schema, .string p.table, .string p.key] 108) := ⟨_, rfl⟩
        rw [← hW]
        have a8 : Aft wr W := by rw [hW]; exact (Aft.refl wr).alloc _
        have rg := HRG.out.aft a8
        have HRW := Lib.hid rg
        have hl8 : k * 8 + 7 < cs.flatten.length := by rw [flat_len cs HC.out.all]; have : (k + 1) * 8 ≤ cs.length * 8 := Nat.mul_le_mul_right _ hkc; omega
        have hgn : g ≠ w.heap.size := by omega
        have hgn1 : g ≠ w.heap.size + 1 := by omega
        have K0 := Lib.hid (show W.cell? ⟨w.heap.size, 4, none⟩ = some (.slice (some ⟨g, 0, none⟩) t.rules.length capG) ∧ (W.cell? ⟨g, k * 8 + 1, none⟩).isSome = true ∧ (W.cell? ⟨g, k * 8 + 5, none⟩).isSome = true ∧ (W.cell? ⟨g, k * 8 + 6, none⟩).isSome = true ∧ (W.cell? ⟨g, k * 8 + 7, none⟩).isSome = true ∧ W.frozen? ⟨g, k * 8 + 1, none⟩ = false ∧ W.frozen? ⟨g, k * 8 + 5, none⟩ = false ∧ W.frozen? ⟨g, k * 8 + 6, none⟩ = false ∧ W.frozen? ⟨g, k * 8 + 7, none⟩ = false from ⟨a8.cell_kept b4, congrArg Option.isSome (a8.cell_kept c1), congrArg Option.isSome (a8.cell_kept c5), congrArg Option.isSome (a8.cell_kept c6), congrArg Option.isSome (a8.cell_kept c7), rg.2.2 (k * 8 + 1) (by omega), rg.2.2 (k * 8 + 5) (by omega), rg.2.2 (k * 8 + 6) (by omega), rg.2.2 (k * 8 + 7) (by omega)⟩)
        have K1 := Lib.hid (keep_row K0.out hgn (k * 8 + 1) (.int .i64 1))
        have K2 := Lib.hid (keep_row K1.out hgn (k * 8 + 5) (.string ⟨#[]⟩))
        have K3 := Lib.hid (keep_row K2.out hgn (k * 8 + 6) (.string ⟨#[]⟩))
        have K4 := Lib.hid (keep_row K3.out hgn (k * 8 + 7) (.string ⟨#[]⟩))
        have HAW := Lib.hid (HA.out.trans a8)
        have HR1W := Lib.hid (HR1.out.aft a8)
        have HR2W := Lib.hid (HR2.out.aft a8)
        have x1 := a8.cell_kept c1
        have x5 := a8.cell_kept c5
        have x6 := a8.cell_kept c6
        have x7 := a8.cell_kept c7
        have y1 := rg.2.2 (k * 8 + 1) (by omega)
        have y5 := rg.2.2 (k * 8 + 5) (by omega)
        have y6 := rg.2.2 (k * 8 + 6) (by omega)
        have y7 := rg.2.2 (k * 8 + 7) (by omega)
        clear hW b0 b1 b2 b3 b4 c0 c1 c2 c3 c4 c5 c6 c7 a8 rg
        go_region_held3 (fun w' => w'.cell? ⟨w.heap.size, 4, none⟩ = some (.slice (some ⟨g, 0, none⟩) t.rules.length capG)) (first | exact K0.out.1 | exact K1.out.1 | exact K2.out.1 | exact K3.out.1 | exact K4.out.1) (fail)
        have HP4 := Lib.hid (HRW.out.put4 HC.out.all k hkc HCS.out (.int .i64 1) (.string ⟨#[]⟩) (.string ⟨#[]⟩) (.string ⟨#[]⟩))
        have HCH := Lib.hid (show Chunks w 8 RulR (cs.set k [.string p.name, .int .i64 1, .slice A3 p.cols.length cap3, .int .i64 p.low, .int .i64 p.high, .string ⟨#[]⟩, .string ⟨#[]⟩, .string ⟨#[]⟩]) ((t.rules.take (k + 1)).map bareR ++ t.rules.drop (k + 1)) from
          mixed_step bareR t.rules k hlt ▸ HC.out.set rfl (by rw [HB2.out]; exact ⟨A3, cap3, rfl, HCO.out, s0, small0, small0, small0⟩))
        go_wp2_with fail
        go_roundw
        case rel => exact ⟨k + 1, _, by omega, by go_num, ((((HAW.out.setCell _ _ (by simp; omega)).setCell _ _ (by simp; omega)).setCell _ _ (by simp; omega)).setCell _ _ (by simp; omega)).drew, ((((HR1W.out.far hgn _ _).far hgn _ _).far hgn _ _).far hgn _ _).aft (Aft.refl _).drew, ((((HR2W.out.far hgn1 _ _).far hgn1 _ _).far hgn1 _ _).far hgn1 _ _).aft (Aft.refl _).drew, HCH.out, fun _ => ⟨g, rfl, hg2, HP4.out.aft (Aft.refl _).drew⟩⟩
        case measure => simp [intOf]; omega
    · have c20 := r2.cell (j := 0) rfl
      have c21 := r2.cell (j := 1) rfl
      have f20 := r2.2.2 0 (by simp)
      have f21 := r2.2.2 1 (by simp)
      have z2 := r2.1
      have z3 : w.heap.size + 1 < wr.heap.size + 1 := by omega
      have z4 : w.heap.size + 1 < wr.heap.size + 1 + 1 := by omega
      have z5 : w.heap.size < wr.heap.size + 1 := by omega
      have z6 : w.heap.size < wr.heap.size + 1 + 1 := by omega
      have ek : (t.rules.take k).map bareR ++ t.rules.drop k = t.rules.map bareR := by rw [List.take_of_length_le (by omega), List.drop_eq_nil_of_le (by omega), List.append_nil]
      rw [ek] at hch
      have HC2 := Lib.hid hch
      have HRG := Lib.hid hrg
      clear ha r1 r2 hch hrg ek HC
      go_wp2_with fail
      (try simp only [Exit.inBlock, Exit.then])
      have HRF := Lib.hid (show RowAt ((wr.setCell ⟨w.heap.size + 1, 0, none⟩ (.slice (some ⟨wr.heap.size, 0, none⟩) 1 1)).setCell ⟨w.heap.size + 1, 1, none⟩ (.slice (some ⟨wr.heap.size + 1, 0, none⟩) 1 1)) (w.heap.size + 1) [.slice (some ⟨wr.heap.size, 0, none⟩) 1 1, .slice (some ⟨wr.heap.size + 1, 0, none⟩) 1 1] from
        (HR2.out.set 0 (.slice (some ⟨wr.heap.size, 0, none⟩) 1 1) (by simp)).set 1 (.slice (some ⟨wr.heap.size + 1, 0, none⟩) 1 1) (by simp))
      refine bodyPost_ret (results_cell (v := .agg #[.slice (some ⟨wr.heap.size, 0, none⟩) 1 1, .slice (some ⟨wr.heap.size + 1, 0, none⟩) 1 1]) rfl _ rfl ?hl) rfl ?_
      case hl => exact lvObj_rowA (HRF.out.aft (((Aft.refl _).alloc _).alloc _))
      have HF := (((HA.out.setCell ⟨w.heap.size + 1, 0, none⟩ (.slice (some ⟨wr.heap.size, 0, none⟩) 1 1) (by simp)).setCell ⟨w.heap.size + 1, 1, none⟩ (.slice (some ⟨wr.heap.size + 1, 0, none⟩) 1 1) (by simp)).alloc (.cells #[.string ⟨#[115]⟩, .string ⟨#[111]⟩] 88)).alloc (.cells #[.string ⟨#[115]⟩, .string ⟨#[116]⟩, .string ⟨#[111]⟩, .slice A t.cols.length cap, .slice G t.rules.length capG] 76)
      refine ⟨_, _, rfl, HF, ?s, ?t⟩
      case s => exact slAt_one _ [.string ⟨#[115]⟩, .string ⟨#[111]⟩] #[.string ⟨#[115]⟩, .string ⟨#[111]⟩] (by first | (simp; done) | (simp; omega)) (by intro o; (repeat (refine (World.cell?_alloc_past _ _ _ (by first | (simp; done) | (simp; omega))).trans ?_)); exact World.cell?_alloc_at _ _ _ _ (by simp)) rfl rfl ⟨rfl, small1 _, small1 _⟩ (by omega)
      case t =>
        refine slAt_one _ [.string ⟨#[115]⟩, .string ⟨#[116]⟩, .string ⟨#[111]⟩, .slice A t.cols.length cap, .slice G t.rules.length capG] #[.string ⟨#[115]⟩, .string ⟨#[116]⟩, .string ⟨#[111]⟩, .slice A t.cols.length cap, .slice G t.rules.length capG] (by first | (simp; done) | (simp; omega)) (by intro o; exact World.cell?_alloc_at _ _ _ _ (by simp)) rfl rfl ⟨A, cap, G, capG, by simp, cols_aft HF h, ?r, small1 _, small1 _, small1 _⟩ (by omega)
        case r =>
          by_cases h0 : 0 < t.rules.length
          · obtain ⟨g, rfl, hg2, rg⟩ := HRG.out h0
            exact row_slAt (((rg.far (g := w.heap.size + 1) (by omega) _ _).far (g := w.heap.size + 1) (by omega) _ _).aft (((Aft.refl _).alloc _).alloc _)) (HC2.out.aft fun _ _ h => RulR.aft HF h) (by simpa using hcapG) (by unfold Small; simp; omega)
          · exact ⟨by simp; omega, by unfold Small; simp; omega, fun i hi => by simp at hi; omega⟩
set_option maxHeartbeats 2000000 in
theorem rcheck_any (t : Tab) (A : Option Addr) (cap : Nat) (A2 : Option Addr) (cap2 : Nat) (w : World) (h : SlAt w 3 ColR A cap t.cols) (h2 : SlAt w 8 RulR A2 cap2 t.rules) (hb : t.rules.length ≤ 1000000) :
    Calls Tryz.prog 97 #[.agg #[.string t.schema, .string t.name, .string t.owner, .slice A t.cols.length cap, .slice A2 t.rules.length cap2]] w fun e w' => e = .returned (.int .i64 (if tableOk t then 0 else 1)) ∧ Aft w w' := by
  have Ca := Lib.hid (show ∀ w', Aft w w' → _ from fun w' a => alone_any t A cap A2 cap2 w' (cols_aft a h) (ruls_aft a h2) hb)
  obtain ⟨c, hc⟩ : ∃ c, tableOk t = c := ⟨_, rfl⟩
  rw [hc]
  have HC := Lib.hid ((alone_ok t).trans hc)
  clear hc
  go_enter Tryz.func97, Tryz.ntmps97
  go_wp2_with fail
  refine (Ca.out _ ((Aft.refl _).alloc _)).mono ?_
  rintro e w1 ⟨As, At, rfl, a1, h1, h3⟩
  have HA := Lib.hid (((Aft.refl w).alloc _).trans a1)
  have Ck := Lib.hid (show Calls Tryz.prog 23 #[.agg #[.slice As 1 1, .slice At 1 1]] w1 fun e w'' => e = .returned (.int .i64 (if c = true then 0 else 63)) ∧ Aft w1 w'' from
    (check_any (aloneO t) As 1 At 1 w1 h1 h3).mono fun e w'' ⟨he, hw⟩ => ⟨he.trans (by unfold checkE; rw [HC.out]), hw⟩)
  clear a1 h1 h3 Ca
  go_wp2_with fail
  refine Ck.out.mono ?_
  rintro e w2 ⟨rfl, a2⟩
  have HA2 := Lib.hid (HA.out.trans a2)
  clear a2
  cases c
  · go_wp2_with fail
    go_ret
    exact ⟨rfl, HA2.out⟩
  · go_wp2_with fail
    go_ret
    exact ⟨rfl, HA2.out⟩
end Go.Proofs.YtiadkchlkdaceaaGreat

namespace Go.Proofs.YtiadkchlkdaceaaGreat
open Go.RowKit
set_option maxRecDepth 100000
set_option linter.unusedVariables false
theorem small8' {n : Nat} (h : n ≤ 8) : Small (n * 16) := by unfold Small; omega
theorem any_iff {α : Type} (p : α → Bool) (l : List α) : l.any p = true ↔ 0 ≤ idxP p l := by
  induction l with
  | nil => simp [idxP]
  | cons x l ih =>
    rw [List.any_cons, Bool.or_eq_true, ih]
    simp only [idxP]
    by_cases hx : p x = true
    · rw [if_pos hx]; simp [hx]
    · rw [if_neg hx]
      by_cases hy : idxP p l < 0
      · rw [if_pos hy]
        constructor
        · intro h; rcases h with h | h
          · exact absurd h hx
          · omega
        · intro h; omega
      · rw [if_neg hy]
        constructor
        · intro h; omega
        · intro h; right; omega
theorem any_idx {α : Type} (p : α → Bool) (l : List α) : l.any p = decide (0 ≤ idxP p l) := by
  rw [Bool.eq_iff_iff, any_iff]; simp
set_option maxHeartbeats 2000000 in
theorem index_any (A : Option Addr) (cap : Nat) (l : List Val) (v : Val) (w : World) (h : SlAt w 3 ValR A cap l) :
    Calls Tryz.prog 134 #[.slice A l.length cap, .agg #[.int .i64 v.kind, .int .i64 v.int, .string v.text]] w fun e w' => e = .returned (.int .i64 (idxP (fun x => eqV v x) l)) ∧ Aft w w' := by
  have hlen := h.len
  go_enter Tryz.func134, Tryz.ntmps134
  go_wp2_with fail
  go_loopw [8] (fun i wr => ∃ k : Nat, k ≤ l.length ∧ i = .int .i64 k ∧ Aft (w.alloc (.cells #[.int .i64 v.kind, .int .i64 v.int, .string v.text] 37)) wr ∧ ∀ j, j < k → ∀ (hj : j < l.length), eqV v l[j] = false) (fun i _ => l.length - (intOf i).toNat)
  case atStart => exact ⟨0, Nat.zero_le _, rfl, Aft.refl _, fun j hj => absurd hj (Nat.not_lt_zero j)⟩
  case round =>
    obtain ⟨k, hk, rfl, ha, hp⟩ := hrel
    have HP := Lib.hid hp; clear hp
    obtain ⟨hb, hfr, hz, hzk, HA⟩ := aft_box ha
    have HAB := Lib.hid ha
    clear ha
    by_cases hlt : k < l.length
    · obtain ⟨b, off, rfl, hbb, c0, c1, c2, _⟩ := val_at (vals_aft HA.out h) hlt
      cases heq : eqV v l[k]
      · have h3 : eqV3 v.kind v.int v.text l[k].kind l[k].int l[k].text = false := heq
        have HN := Lib.hid (ext_lt (p := fun j => ∀ (hj : j < l.length), eqV v l[j] = false) HP.out (fun _ => heq))
        clear heq
        go_wp2_with fail
        refine wp_region_lat (by kernel_rfl) (by kernel_rfl) ?_
        repeat (go_big_quiet_step (fail))
        refine wpQuiet_nil ?_
        intro _ hw'
        obtain ⟨x, hw''⟩ := hw'
        subst hw''
        go_wp2_with fail
        go_roundw
        case rel => exact ⟨k + 1, by omega, by go_num, HAB.out.lat x, HN.out⟩
        case measure => simp [intOf]; omega
      · have h3 : eqV3 v.kind v.int v.text l[k].kind l[k].int l[k].text = true := heq
        have HN := Lib.hid (idxP_some (fun x => eqV v x) l k hlt heq fun i hi => HP.out i hi (by omega))
        clear heq
        go_wp2_with fail
        refine wp_region_lat (by kernel_rfl) (by kernel_rfl) ?_
        repeat (go_big_quiet_step (fail))
        refine wpQuiet_nil ?_
        intro _ hw'
        obtain ⟨x, hw''⟩ := hw'
        subst hw''
        go_wp2_with fail
        go_ret
        exact ⟨by rw [HN.out]; rfl, HA.out.lat x⟩
    · have HN := Lib.hid (idxP_none (fun x => eqV v x) l fun i hi => HP.out i (by omega) hi)
      go_wp2_with fail
      go_ret
      exact ⟨by rw [HN.out]; rfl, HA.out⟩
set_option maxHeartbeats 1000000 in
theorem containsV_any (A : Option Addr) (cap : Nat) (l : List Val) (v : Val) (w : World) (h : SlAt w 3 ValR A cap l) :
    Calls Tryz.prog 126 #[.slice A l.length cap, .agg #[.int .i64 v.kind, .int .i64 v.int, .string v.text]] w fun e w' => e = .returned (.bool (l.any fun x => eqV v x)) ∧ Aft w w' := by
  have C := Lib.hid (show ∀ w', Aft w w' → _ from fun w' a => index_any A cap l v w' (vals_aft a h))
  have HN := Lib.hid (any_idx (fun x => eqV v x) l)
  go_enter Tryz.func126, Tryz.ntmps126
  go_wp2_with fail
  refine (C.out _ ((Aft.refl w).alloc _)).mono ?_
  rintro e w1 ⟨rfl, a1⟩
  have HA := Lib.hid (((Aft.refl w).alloc _).trans a1)
  clear a1
  go_wp2_with fail
  go_ret
  exact ⟨by rw [HN.out]; rfl, HA.out⟩
end Go.Proofs.YtiadkchlkdaceaaGreat

namespace Go.Proofs.YtiadkchlkdaceaaGreat
open Go.RowKit
set_option maxRecDepth 100000
set_option linter.unusedVariables false
/-- a row among rows -/
def RowsR (w : World) (cs : List Value) (row : List Val) : Prop := SlOf w 3 ValR cs row
/-- a pointer to a block's head -/
def PtrR (_ : World) (cs : List Value) (p : Nat) : Prop := cs = [.pointer (some ⟨p, 0, none⟩)]
section
variable {w w' : World}
theorem RowsR.aft {cs : List Value} {r : List Val} (hw : Aft w w') (h : RowsR w cs r) : RowsR w' cs r := by
  obtain ⟨A, cap, e, hs⟩ := h
  exact ⟨A, cap, e, vals_aft hw hs⟩
theorem rows_aft {A : Option Addr} {cap : Nat} {l : List (List Val)} (hw : Aft w w') (h : SlAt w 1 RowsR A cap l) : SlAt w' 1 RowsR A cap l := h.aft hw fun _ _ h => RowsR.aft hw h
theorem ptrs_aft {A : Option Addr} {cap : Nat} {l : List Nat} (hw : Aft w w') (h : SlAt w 1 PtrR A cap l) : SlAt w' 1 PtrR A cap l := h.aft hw fun _ _ h => h
theorem row_at {A : Option Addr} {cap : Nat} {l : List (List Val)} (h : SlAt w 1 RowsR A cap l) {k : Nat} (hk : k < l.length) :
    ∃ b off A2 cap2, A = some ⟨b, off, none⟩ ∧ b < w.heap.size ∧ w.cell? ⟨b, off + k, none⟩ = some (.slice A2 l[k].length cap2) ∧ SlAt w 3 ValR A2 cap2 l[k] := by
  obtain ⟨b, off, cs, hA, hb, hl, ⟨A2, cap2, rfl, hr⟩, hc⟩ := h.2.2 k hk
  exact ⟨b, off, A2, cap2, hA, hb, by simpa using hc 0 (by omega), hr⟩
theorem ptr_at {A : Option Addr} {cap : Nat} {l : List Nat} (h : SlAt w 1 PtrR A cap l) {k : Nat} (hk : k < l.length) :
    ∃ b off, A = some ⟨b, off, none⟩ ∧ b < w.heap.size ∧ w.cell? ⟨b, off + k, none⟩ = some (.pointer (some ⟨l[k], 0, none⟩)) := by
  obtain ⟨b, off, cs, hA, hb, hl, rfl, hc⟩ := h.2.2 k hk
  exact ⟨b, off, hA, hb, by simpa using hc 0 (by omega)⟩
/-- a shelf in block p -/
structure ShfAt (w : World) (p : Nat) (x : Shf) (A : Option Addr) (cap : Nat) (A2 : Option Addr) (cap2 : Nat) (A3 : Option Addr) (cap3 : Nat) : Prop where
  row : RowAt w p [.string x.t.schema, .string x.t.name, .string x.t.owner, .slice A x.t.cols.length cap, .slice A2 x.t.rules.length cap2, .slice A3 x.rows.length cap3]
  cols : SlAt w 3 ColR A cap x.t.cols
  ruls : SlAt w 8 RulR A2 cap2 x.t.rules
  rows : SlAt w 1 RowsR A3 cap3 x.rows
  hb : ∃ cur t, w.heap[p]? = some (.cells cur t (0, 0))
theorem ShfAt.aft {p : Nat} {x : Shf} {A : Option Addr} {cap : Nat} {A2 : Option Addr} {cap2 : Nat} {A3 : Option Addr} {cap3 : Nat} (h : ShfAt w p x A cap A2 cap2 A3 cap3) (a : Aft w w') : ShfAt w' p x A cap A2 cap2 A3 cap3 :=
  ⟨h.row.aft a, cols_aft a h.cols, ruls_aft a h.ruls, rows_aft a h.rows, by obtain ⟨cur, t, e⟩ := h.hb; exact ⟨cur, t, (a.block p h.row.1).trans e⟩⟩
def ShfIs (w : World) (p : Nat) (x : Shf) : Prop := ∃ A cap A2 cap2 A3 cap3, ShfAt w p x A cap A2 cap2 A3 cap3
theorem ShfIs.aft {p : Nat} {x : Shf} (h : ShfIs w p x) (a : Aft w w') : ShfIs w' p x := by
  obtain ⟨A, cap, A2, cap2, A3, cap3, h⟩ := h
  exact ⟨A, cap, A2, cap2, A3, cap3, h.aft a⟩
/-- a store in block s, whose shelves lie in the blocks ps -/
structure StoIs (w : World) (s : Nat) (ps : List Nat) (S : List Shf) : Prop where
  len : ps.length = S.length
  nd : ps.Nodup
  ex : ∃ A cap, RowAt w s [.slice A ps.length cap] ∧ SlAt w 1 PtrR A cap ps
  each : ∀ i (h : i < ps.length) (h' : i < S.length), ShfIs w ps[i] S[i]
theorem StoIs.aft {s : Nat} {ps : List Nat} {S : List Shf} (h : StoIs w s ps S) (a : Aft w w') : StoIs w' s ps S := by
  obtain ⟨A, cap, h1, h2⟩ := h.ex
  exact ⟨h.len, h.nd, ⟨A, cap, h1.aft a, ptrs_aft a h2⟩, fun i h1 h2 => (h.each i h1 h2).aft a⟩
end
theorem infoShf : ∃ j, Tryz.prog.info? 82 = some j ∧ j.size = 6 := by
  have h : (Tryz.prog.info? 82).map (fun i => i.size) = some 6 := by kernel_rfl
  obtain ⟨j, hj, e⟩ := Option.map_eq_some_iff.1 h
  exact ⟨j, hj, e⟩
theorem eqPtr_same (w : World) (p : Nat) : (binOp .eql 80 (.pointer (some ⟨p, 0, none⟩)) (.pointer (some ⟨p, 0, none⟩))).run Tryz.prog w = .ok (.bool true) w := by
  obtain ⟨j, hj, _⟩ := infoShf
  exact run_eql_ptr_same w _ (te := 82) (by kernel_rfl) hj
theorem eqPtr_other {w : World} {p q : Nat} (hne : ¬ p = q) (hp : ∃ cur t, w.heap[p]? = some (.cells cur t (0, 0))) (hq : ∃ cur t, w.heap[q]? = some (.cells cur t (0, 0))) : (binOp .eql 80 (.pointer (some ⟨p, 0, none⟩)) (.pointer (some ⟨q, 0, none⟩))).run Tryz.prog w = .ok (.bool false) w := by
  obtain ⟨ca, ta, ea⟩ := hp
  obtain ⟨cb, tb, eb⟩ := hq
  obtain ⟨j, hj, hs⟩ := infoShf
  exact run_eql_ptr_other w (te := 82) (by kernel_rfl) hj (by rw [hs]; decide) (fun e => hne (by injection e)) ea eb
theorem shfAt_of {S : List Shf} {s n : ByteArray} {k : Nat} (hk : k < S.length) (hp : (eqS S[k].t.schema s && eqS S[k].t.name n) = true) (hb : ∀ i, i < k → ∀ hi : i < S.length, (eqS S[i].t.schema s && eqS S[i].t.name n) = false) : shfAt S s n = k :=
  idxP_some _ S k hk hp fun i hi => hb i hi (by omega)
theorem shfAt_none {S : List Shf} {s n : ByteArray} (hb : ∀ i (hi : i < S.length), (eqS S[i].t.schema s && eqS S[i].t.name n) = false) : shfAt S s n = -1 := idxP_none _ S hb
theorem shfAt_lt {S : List Shf} {s n : ByteArray} {q : Nat} (h : shfAt S s n = q) : q < S.length := by
  have := (idxP_range (fun x : Shf => eqS x.t.schema s && eqS x.t.name n) S).2
  unfold shfAt at h; omega
theorem shfN_get {S : List Shf} {q : Nat} (h : q < S.length) : shfN S q = S[q] := by unfold shfN; rw [List.getElem?_eq_getElem h]; rfl
end Go.Proofs.YtiadkchlkdaceaaGreat

namespace Go.Proofs.YtiadkchlkdaceaaGreat
open Go.RowKit
set_option maxRecDepth 100000
set_option linter.unusedVariables false
def ptrV (ps : List Nat) (i : Int) : Value := if i < 0 then .pointer none else .pointer (some ⟨ps.getD i.toNat 0, 0, none⟩)
theorem ptrV_at {ps : List Nat} {q : Nat} (h : q < ps.length) : ptrV ps (q : Int) = .pointer (some ⟨ps[q], 0, none⟩) := by
  unfold ptrV
  rw [if_neg (by omega), Int.toNat_natCast, List.getD_eq_getElem?_getD, List.getElem?_eq_getElem h]; rfl
theorem ptrV_no (ps : List Nat) : ptrV ps (-1) = .pointer none := rfl
def nmB (sc n : ByteArray) (x : Shf) : Bool := eqS x.t.schema sc && eqS x.t.name n
set_option maxHeartbeats 4000000 in
theorem find12 (s : Nat) (ps : List Nat) (S : List Shf) (sc n : ByteArray) (w : World) (h : StoIs w s ps S) :
    Calls Tryz.prog 25 #[.pointer (some ⟨s, 0, none⟩), .string sc, .string n] w fun e w' => e = .returned (ptrV ps (shfAt S sc n)) ∧ w = w' := by
  obtain ⟨A, cap, hr, hp⟩ := h.ex
  have hlen := hp.len
  have HS := Lib.hid h
  have c0 := hr.cell (j := 0) rfl
  have HP := Lib.hid hp
  have HL := Lib.hid h.len
  clear h hr hp
  go_enter Tryz.func25, Tryz.ntmps25
  go_wp2_with fail
  go_loop [14] (fun i => ∃ k : Nat, k ≤ ps.length ∧ i = .int .i64 k ∧ ∀ j, j < k → ∀ (hj : j < S.length), nmB sc n S[j] = false) (fun i => ps.length - (intOf i).toNat)
  case atStart => exact ⟨0, Nat.zero_le _, rfl, fun j hj => absurd hj (Nat.not_lt_zero j)⟩
  case round =>
    obtain ⟨k, hk, rfl, hp⟩ := hrel
    have HB := Lib.hid hp
    clear hp
    by_cases hlt : k < ps.length
    · obtain ⟨b, off, rfl, hb, d0⟩ := ptr_at HP.out hlt
      have hk2 : k < S.length := by have := HL.out; omega
      obtain ⟨B1, u1, B2, u2, B3, u3, hs⟩ := HS.out.each k hlt hk2
      have r0 := hs.row.cell (j := 0) rfl
      have r1 := hs.row.cell (j := 1) rfl
      clear hs
      cases g1 : eqS S[k].t.schema sc
      · have HN := Lib.hid (ext_lt (p := fun j => ∀ (hj : j < S.length), nmB sc n S[j] = false) HB.out (fun _ => by unfold nmB; rw [g1]; rfl))
        have e1 : (S[k].t.schema.toList == sc.toList) = false := g1
        clear g1
        go_wp2_with fail
        go_round
        case rel => exact ⟨k + 1, by omega, by go_num, HN.out⟩
        case measure => simp [intOf]; omega
      · cases g2 : eqS S[k].t.name n
        · have HN := Lib.hid (ext_lt (p := fun j => ∀ (hj : j < S.length), nmB sc n S[j] = false) HB.out (fun _ => by unfold nmB; rw [g1, g2]; rfl))
          have e1 : (S[k].t.schema.toList == sc.toList) = true := g1
          have e2 : (S[k].t.name.toList == n.toList) = false := g2
          clear g1 g2
          go_wp2_with fail
          go_round
          case rel => exact ⟨k + 1, by omega, by go_num, HN.out⟩
          case measure => simp [intOf]; omega
        · have HN := Lib.hid (show shfAt S sc n = (k : Int) from shfAt_of hk2 (by rw [g1, g2]; rfl) (fun i hi hi2 => HB.out i hi hi2))
          have e1 : (S[k].t.schema.toList == sc.toList) = true := g1
          have e2 : (S[k].t.name.toList == n.toList) = true := g2
          clear g1 g2
          go_wp2_with fail
          go_ret
          exact ⟨by rw [HN.out, ptrV_at hlt]; rfl, rfl⟩
    · have HN := Lib.hid (show shfAt S sc n = -1 from shfAt_none (fun i hi => HB.out i (by have := HL.out; omega) hi))
      go_wp2_with fail
      go_ret
      exact ⟨by rw [HN.out]; rfl, rfl⟩
end Go.Proofs.YtiadkchlkdaceaaGreat

namespace Go.Proofs.YtiadkchlkdaceaaGreat
open Go.RowKit
set_option maxRecDepth 100000
set_option linter.unusedVariables false
/-- are these columns there? -/
def OkN (l : List Col) (names : List ByteArray) : Prop := names.length ≤ 8 ∧ ∀ a ∈ names, 0 ≤ colAt l a
theorem okN_at {l : List Col} {names : List ByteArray} {row : List Val} (h : OkN l names) (hf : besideB formB l row = true) : ∀ k (hk : k < names.length), ∃ q : Nat, colAt l names[k] = q ∧ q < row.length := by
  intro k hk
  obtain ⟨q, hq⟩ := Int.eq_ofNat_of_zero_le (h.2 _ (List.getElem_mem hk))
  have h1 := colAt_lt hq
  have h2 := ((besideB_iff formB l row).1 hf).1
  exact ⟨q, hq, by omega⟩
theorem ofVs_may {l : List Col} {names : List ByteArray} {row : List Val} (h : OkN l names) (hf : besideB formB l row = true) : ∀ v ∈ ofVs l names row, mayV v = true := by
  intro v hv
  obtain ⟨a, ha, rfl⟩ := List.mem_map.1 hv
  obtain ⟨k, hk, rfl⟩ := List.getElem_of_mem ha
  obtain ⟨q, hq, hr⟩ := okN_at h hf k hk
  rw [hq, valAt_get hr]
  exact val_may hf hr
set_option maxHeartbeats 1000000 in
theorem values1 (name : ByteArray) (kind : Int) (null : Bool) (s : ByteArray) (b1 : Nat) (w : World) (hb1 : b1 < w.heap.size) (hc1 : w.cell? ⟨b1, 0, none⟩ = some (.string s)) :
    Calls Tryz.prog 125 #[.agg #[.string name, .int .i64 kind, .bool null], .pointer (some ⟨b1, 0, none⟩)] w fun e w' => e = .returned (.bool (eqS name s)) ∧ Aft w w' := by
  go_enter Tryz.func125, Tryz.ntmps125
  go_wp2_with fail
  go_ret
  exact ⟨rfl, (Aft.refl _).alloc _⟩
set_option maxHeartbeats 8000000 in
theorem values12 (p : Nat) (x : Shf) (names : List ByteArray) (row : List Val) (N : Option Addr) (capN : Nat) (B : Option Addr) (capB : Nat) (w : World) (h : ShfIs w p x) (hn : SlAt w 1 StrR N capN names) (h3 : SlAt w 3 ValR B capB row)
    (ok : OkN x.t.cols names) (hf : besideB formB x.t.cols row = true) :
    Calls Tryz.prog 104 #[.pointer (some ⟨p, 0, none⟩), .slice N names.length capN, .slice B row.length capB] w (OfP w (ofVs x.t.cols names row) (wholeV (ofVs x.t.cols names row))) := by
  have hlen := hn.len
  have hlen3 := h3.len
  have hn8 := ok.1
  have HOK := Lib.hid (okN_at ok hf)
  have HMAY := Lib.hid (ofVs_may ok hf)
  have hent := enters (P := Tryz.prog) Tryz.func125 (by kernel_rfl) rfl
  obtain ⟨A, cap, A2, cap2, A3, cap3, hs⟩ := h
  have HSH := Lib.hid hs
  have HRS := Lib.hid (show ∀ v ∈ row, Small v.text.size by intro v hv; obtain ⟨i, hi, rfl⟩ := List.getElem_of_mem hv; exact val_small h3 i hi)
  obtain ⟨i0, hi, hz0, hz1, hz2⟩ := info_parts infoV
  have HI := Lib.hid hi
  have HZ0 := Lib.hid hz0
  have HZ1 := Lib.hid hz1
  have HZ2 := Lib.hid hz2
  have HEN := Lib.hid hent
  have HNM := Lib.hid hn
  have HRW := Lib.hid h3
  clear hi hz0 hz1 hz2 ok hf hs hent hn h3
  go_enter Tryz.func104, Tryz.ntmps104
  go_wp2_with fail
  go_loopw [8, 14] (fun v i wr => ∃ k : Nat, k ≤ names.length ∧ i = .int .i64 k ∧ Aft w wr ∧ wr.ownsRow w.heap.size 37 3 v k ((ofVs x.t.cols (names.take k) row).flatMap cellsV)) (fun _ i _ => names.length - (intOf i).toNat)
  case atStart => exact ⟨0, Nat.zero_le _, rfl, Aft.refl _, own_nil _ _ _ _⟩
  case round =>
    obtain ⟨k, hk, rfl, ha, hown⟩ := hrel
    have HA := Lib.hid ha
    have HO := Lib.hid hown
    clear ha hown
    by_cases hlt : k < names.length
    · obtain ⟨b5, off5, hD, hb5, g5, _⟩ := str_at (strs_aft HA.out HNM.out) hlt
      subst hD
      obtain ⟨z, hz0, hzr⟩ := HOK.out k hlt
      obtain ⟨b6, off6, hBB, hb6, v0, v1, v2, _⟩ := val_at (vals_aft HA.out HRW.out) hzr
      subst hBB
      have HS := Lib.hid (show ofVs x.t.cols (names.take (k + 1)) row = ofVs x.t.cols (names.take k) row ++ [row[z]] by rw [ofVs_succ _ _ _ k hlt, hz0, valAt_get hzr])
      obtain ⟨nm, hnm⟩ : ∃ nm, names[k] = nm := ⟨_, rfl⟩
      rw [hnm] at g5 hz0
      obtain ⟨W, hW⟩ : ∃ W, W = wr.alloc (.cells #[.string nm] 9) := ⟨_, rfl⟩
      have aW : Aft wr W := by rw [hW]; exact (Aft.refl wr).alloc _
      have rs := HSH.out.row.aft HA.out
      have r3 := rs.cell (j := 3) rfl
      have rz := rs.1
      have q0 : W.cell? ⟨wr.heap.size, 0, none⟩ = some (.string nm) := by rw [hW]; exact World.cell?_alloc_at _ _ _ _ rfl
      have lw := Nat.lt_succ_self wr.heap.size
      have zW : wr.heap.size < W.heap.size := by rw [hW]; simp
      have HAW := Lib.hid (HA.out.trans aW)
      have OW := Lib.hid (own_aft HO.out aW)
      have v0 := aW.cell_kept v0
      have v1 := aW.cell_kept v1
      have v2 := aW.cell_kept v2
      have hb6 := Nat.lt_of_lt_of_le hb6 aW.size
      have C := Lib.hid ((idxCol A cap x.t.cols 125 #[.pointer (some ⟨wr.heap.size, 0, none⟩)] (fun c => eqS c.name nm) W (cols_aft HAW.out HSH.out.cols) HEN.out (fun w' ha i hi => values1 _ _ _ nm wr.heap.size w' (Nat.lt_of_lt_of_le zW ha.size) (ha.cell_kept q0))).mono (fun e w' ⟨he, hw⟩ => (⟨he.trans (by rw [← hz0]; rfl), hw⟩ : e = Ending.returned (Value.int .i64 (z : Int)) ∧ Aft W w')))
      clear hz0 hnm rs aW
      go_wp2_with fail
      rw [← hW]
      clear hW
      refine C.out.mono ?_
      rintro e w4 ⟨rfl, a4⟩
      have HA4 := Lib.hid (HAW.out.trans a4)
      have O4 := Lib.hid (own_aft OW.out a4)
      have x0 := a4.cell_kept v0
      have x1 := a4.cell_kept v1
      have x2 := a4.cell_kept v2
      have x3 := Nat.lt_of_lt_of_le hb6 a4.size
      clear a4 C v0 v1 v2 r3 q0 rz
      go_wp2_with (at_builtin; refine wpList_append_own _ rfl (.tmp 25) (.tmp 30) 34 rfl w.heap.size 37 i0 (.agg #[.int .i64 0, .int .i64 0, .string ByteArray.empty]) 3 32 Tryz.underlying34 HI.out HZ0.out HZ1.out HZ2.out rfl (by decide) _ _ _ rfl (O4.out.alloc _) ⟨w4.heap.size, 0, none⟩ 1 1 [.int .i64 row[z].kind, .int .i64 row[z].int, .string row[z].text] rfl rfl ?c1 ?c2 ?c3 ?c4 ?c5 ?_)
      case c1 => intro j u hj; rw [add_mk, Nat.zero_add]; exact (World.cell?_alloc_at _ _ _ _ rfl).trans (by simpa using hj)
      case c2 => intro u hu; simp only [List.mem_cons, List.not_mem_nil, or_false] at hu; rcases hu with rfl | rfl | rfl <;> simp [Value.oneCell']
      case c3 => unfold maxLen; omega
      case c4 => omega
      case c5 => have := HA4.out.size; simp; omega
      intro v' w5 hown' hgrow _
      have HA5 := Lib.hid (aft_grown (O4.out.alloc _) (HA4.out.alloc _) hgrow)
      have HO5 := Lib.hid hown'
      clear hown' hgrow
      go_wp2_with fail
      go_roundw
      case rel => exact ⟨k + 1, by omega, by go_num, HA5.out, by rw [HS.out]; simpa [List.flatMap_append, cellsV] using HO5.out⟩
      case measure => simp [intOf]; omega
    · have e1 : names.take k = names := List.take_of_length_le (by omega)
      have e2 : k = names.length := by omega
      have ho := HO.out
      rw [e1, e2, ← ofVs_len x.t.cols names row] at ho
      obtain ⟨L, hL⟩ : ∃ L, ofVs x.t.cols names row = L := ⟨_, rfl⟩
      rw [hL] at ho
      have hL8 : L.length ≤ 8 := by rw [← hL, ofVs_len]; exact hn8
      have HLS := Lib.hid (show ∀ v ∈ L, Small v.text.size by
        rw [← hL]
        intro v hv
        obtain ⟨s', hs', rfl⟩ := List.mem_map.1 hv
        obtain ⟨j, hj, rfl⟩ := List.getElem_of_mem hs'
        obtain ⟨z, hz0, hzr⟩ := HOK.out j hj
        rw [hz0, valAt_get hzr]
        exact HRS.out _ (List.getElem_mem hzr))
      obtain ⟨G, capG, heqG, hG⟩ := own_vals ho (small8' hL8) HLS.out
      have HOW := Lib.hid ho
      have HWB := Lib.hid (show (!(L.any fun x => eqV nullV x)) = wholeV L from hasN_whole (by rw [← hL]; exact HMAY.out))
      have Cc := Lib.hid (containsV_any G capG L nullV wr hG)
      have HLL := Lib.hid hL
      subst heqG
      clear ho hG hL e1
      obtain ⟨bb, hbb⟩ : ∃ b, (L.any fun x => eqV nullV x) = b := ⟨_, rfl⟩
      rw [hbb] at Cc HWB
      clear hbb
      go_wp2_with fail
      refine Cc.out.mono ?_
      rintro e w5 ⟨rfl, a5⟩
      have HA5 := Lib.hid (HA.out.trans a5)
      have HO5 := Lib.hid (own_aft HOW.out a5)
      clear a5
      go_wp2_with fail
      go_ret2
      exact ⟨_, by rw [HLL.out, ← HWB.out]; rfl, HA5.out, by rw [HLL.out]; exact HO5.out⟩
end Go.Proofs.YtiadkchlkdaceaaGreat

namespace Go.Proofs.YtiadkchlkdaceaaGreat
open Go.RowKit
set_option linter.unusedVariables false
theorem SOk.good {S : List Shf} {ss : List Sch} (h : SOk S ss) : Good ⟨ss, S.map (·.t)⟩ := (good_iff _).1 h.ck
theorem SOk.tab {S : List Shf} {ss : List Sch} (h : SOk S ss) {x : Shf} (hx : x ∈ S) : GoodT ss (S.map (·.t)) x.t := h.good.tab _ (List.mem_map_of_mem hx)
theorem SOk.cols {S : List Shf} {ss : List Sch} (h : SOk S ss) {x : Shf} (hx : x ∈ S) {r : Rul} (hr : r ∈ x.t.rules) : OkN x.t.cols r.cols := by
  have g := h.tab hx
  have hf := g.fit r hr
  refine ⟨fits_len g.cols hf, fun a ha => ?_⟩
  obtain ⟨k, hk, rfl⟩ := List.getElem_of_mem ha
  exact fits_cols hf hk
theorem SOk.keyOf {S : List Shf} {ss : List Sch} (h : SOk S ss) {x : Shf} (hx : x ∈ S) (key : ByteArray) : OkN x.t.cols (keyOf x.t key) := by
  unfold Go.Proofs.YtiadkchlkdaceaaGreat.keyOf
  cases hf : x.t.rules.find? (isKey key) with
  | none => exact ⟨by simp, fun a ha => by simp at ha⟩
  | some r => exact h.cols hx (List.mem_of_find?_eq_some hf)
theorem SOk.far {S : List Shf} {ss : List Sch} (h : SOk S ss) {x : Shf} (hx : x ∈ S) {r : Rul} (hr : r ∈ x.t.rules) (hk : r.kind = 4) : ∃ q : Nat, shfAt S r.schema r.table = q := by
  obtain ⟨t, ht, h1, h2, _⟩ := (h.tab hx).key r hr hk
  obtain ⟨y, hy, rfl⟩ := List.mem_map.1 ht
  have : 0 ≤ shfAt S r.schema r.table := (any_iff _ _).1 (List.any_eq_true.2 ⟨y, hy, by
    rw [Bool.and_eq_true]; exact ⟨(eqS_iff9 _ _).2 h1, (eqS_iff9 _ _).2 h2⟩⟩)
  exact ⟨(shfAt S r.schema r.table).toNat, by omega⟩
end Go.Proofs.YtiadkchlkdaceaaGreat

namespace Go.Proofs.YtiadkchlkdaceaaGreat
open Go.RowKit
set_option maxRecDepth 100000
set_option linter.unusedVariables false
/-- a row of our own -/
structure ORow where
  vals : List Val
  h : Hd
def ORow.cells (o : ORow) : List Value := [o.h.v]
/-- a shelf of our own, in block p -/
structure OShf where
  p : Nat
  x : OTab
  rows : List ORow
  hr : Hd
def OShf.s (y : OShf) : Shf := ⟨y.x.t, y.rows.map (·.vals)⟩
def OShf.cells (y : OShf) : List Value := y.x.cells ++ [y.hr.v]
/-- what holds a shelf's rows -/
def OShf.rblk (y : OShf) : List Nat := y.hr.blk ++ y.rows.flatMap (·.h.blk)
def OShf.blks (y : OShf) : List Nat := y.p :: (y.x.blks ++ y.rblk)
def RowIn (w : World) (B : Nat) (o : ORow) : Prop := w.ownsRow B 37 3 o.h.v o.vals.length (o.vals.flatMap cellsV)
structure RowsIn (w : World) (B : Nat) (h : Hd) (l : List ORow) : Prop where
  own : w.ownsRow B 34 1 h.v l.length (l.flatMap ORow.cells)
  each : ∀ o ∈ l, RowIn w B o
structure ShfIn (w : World) (B : Nat) (y : OShf) : Prop where
  ge : B ≤ y.p
  blk : ∃ cur t, w.heap[y.p]? = some (.cells cur t (0, 0))
  row : RowAt w y.p y.cells
  tab : TabIn w B y.x
  rows : RowsIn w B y.hr y.rows
def ptrC (y : OShf) : List Value := [.pointer (some ⟨y.p, 0, none⟩)]
structure StoIn (w : World) (B s : Nat) (hl : Hd) (L : List OShf) : Prop where
  ge : B ≤ s
  row : RowAt w s [hl.v]
  lst : w.ownsRow B 80 1 hl.v L.length (L.flatMap ptrC)
  each : ∀ y ∈ L, ShfIn w B y
  nd : (s :: (hl.blk ++ L.flatMap OShf.blks)).Nodup
section
variable {w w' : World} {B s : Nat} {hl : Hd} {L : List OShf}
theorem RowsIn.kb {P : Nat → Prop} {h : Hd} {l : List ORow} (r : RowsIn w B h l) (k : Kb P w w') (hne : ∀ g ∈ h.blk ++ l.flatMap (·.h.blk), ¬ P g) : RowsIn w' B h l :=
  ⟨own_kb r.own k fun g hg => hne g (List.mem_append.2 (.inl (Hd.mem_blk.2 hg))), fun o ho => own_kb (r.each o ho) k fun g hg => hne g (List.mem_append.2 (.inr (List.mem_flatMap.2 ⟨o, ho, Hd.mem_blk.2 hg⟩)))⟩
theorem RowsIn.aft {h : Hd} {l : List ORow} (r : RowsIn w B h l) (a : Aft w w') : RowsIn w' B h l := r.kb (P := fun _ => False) (Kb.of_aft a) fun _ _ h => h
theorem RowsIn.lt {h : Hd} {l : List ORow} (r : RowsIn w B h l) : ∀ g ∈ h.blk ++ l.flatMap (·.h.blk), B ≤ g ∧ g < w.heap.size := fun g hg => by
  rcases List.mem_append.1 hg with hg | hg
  · exact blk_lt r.own g hg
  · obtain ⟨o, ho, hg⟩ := List.mem_flatMap.1 hg
    exact blk_lt (r.each o ho) g hg
theorem ShfIn.kb {P : Nat → Prop} {y : OShf} (h : ShfIn w B y) (k : Kb P w w') (hne : ∀ g ∈ y.blks, ¬ P g) : ShfIn w' B y := by
  have hp : ¬ P y.p := hne _ (by unfold OShf.blks; simp)
  refine ⟨h.ge, ?_, k.row h.row hp, h.tab.kb k fun g hg => hne g (by unfold OShf.blks; simp [hg]), h.rows.kb k fun g hg => hne g (by unfold OShf.blks OShf.rblk; exact List.mem_cons_of_mem _ (List.mem_append.2 (.inr hg)))⟩
  obtain ⟨cur, t, e⟩ := h.blk
  exact ⟨cur, t, (k.block y.p h.row.1 hp).trans e⟩
theorem ShfIn.aft {y : OShf} (h : ShfIn w B y) (a : Aft w w') : ShfIn w' B y := h.kb (P := fun _ => False) (Kb.of_aft a) fun _ _ h => h
theorem ShfIn.lt {y : OShf} (h : ShfIn w B y) : ∀ g ∈ y.blks, B ≤ g ∧ g < w.heap.size := fun g hg => by
  unfold OShf.blks OShf.rblk at hg
  rcases List.mem_cons.1 hg with rfl | hg
  · exact ⟨h.ge, h.row.1⟩
  · rcases List.mem_append.1 hg with hg | hg
    · exact h.tab.lt g hg
    · exact h.rows.lt g hg
theorem StoIn.kb {P : Nat → Prop} (h : StoIn w B s hl L) (k : Kb P w w') (hne : ∀ g ∈ s :: (hl.blk ++ L.flatMap OShf.blks), ¬ P g) : StoIn w' B s hl L :=
  ⟨h.ge, k.row h.row (hne s (by simp)), own_kb h.lst k fun g hg => hne g (by simp [Hd.mem_blk.2 hg]), fun y hy => (h.each y hy).kb k fun g hg => hne g (by simp only [List.mem_cons, List.mem_append, List.mem_flatMap]; exact .inr (.inr ⟨y, hy, hg⟩)), h.nd⟩
theorem StoIn.aft (h : StoIn w B s hl L) (a : Aft w w') : StoIn w' B s hl L := h.kb (P := fun _ => False) (Kb.of_aft a) fun _ _ h => h
theorem StoIn.lt (h : StoIn w B s hl L) : ∀ g ∈ s :: (hl.blk ++ L.flatMap OShf.blks), B ≤ g ∧ g < w.heap.size := fun g hg => by
  rcases List.mem_cons.1 hg with rfl | hg
  · exact ⟨h.ge, h.row.1⟩
  · rcases List.mem_append.1 hg with hg | hg
    · exact blk_lt h.lst g hg
    · obtain ⟨y, hy, hg⟩ := List.mem_flatMap.1 hg
      exact (h.each y hy).lt g hg
/-- how a store is read -/
def storeS (L : List OShf) : List Shf := L.map OShf.s
theorem mayV_small {v : Val} (h : mayV v = true) : v.text.size ≤ 32 := by
  unfold mayV at h
  split at h
  · rw [Bool.and_eq_true] at h
    have := h.2
    rw [emp_size] at this
    have := of_decide_eq_true this
    omega
  · split at h
    · rw [emp_size] at h
      have := of_decide_eq_true h
      omega
    · split at h
      · rw [Bool.and_eq_true] at h
        have := of_decide_eq_true h.2
        omega
      · cases h
theorem row_small {l : List Col} {row : List Val} (hl : l.length ≤ 8) (h : besideB formB l row = true) : Small (row.length * 16) ∧ ∀ v ∈ row, Small v.text.size := by
  obtain ⟨h1, h2⟩ := (besideB_iff formB l row).1 h
  refine ⟨by unfold Small; omega, fun v hv => ?_⟩
  obtain ⟨i, hi, rfl⟩ := List.getElem_of_mem hv
  have h3 := h2 i (by omega) hi
  unfold formB at h3
  rw [Bool.and_eq_true] at h3
  have := mayV_small h3.1
  unfold Small; omega
theorem RowIn.at {o : ORow} (h : RowIn w B o) (hs : Small (o.vals.length * 16) ∧ ∀ v ∈ o.vals, Small v.text.size) : SlAt w 3 ValR o.h.a o.h.c o.vals :=
  own_slf cellsV h (fun v hv => ⟨rfl, rfl, hs.2 v hv⟩) hs.1
theorem RowsIn.at {h : Hd} {l : List ORow} (r : RowsIn w B h l) (hl : l.length ≤ 1000000) (hs : ∀ o ∈ l, Small (o.vals.length * 16) ∧ ∀ v ∈ o.vals, Small v.text.size) : SlAt w 1 RowsR h.a h.c (l.map (·.vals)) :=
  own_slo ORow.cells (·.vals) r.own (fun o ho => ⟨rfl, o.h.a, o.h.c, by unfold ORow.cells; rw [own_slice (r.each o ho)], RowIn.at (r.each o ho) (hs o ho)⟩) (by unfold Small; omega)
theorem ShfIn.at {y : OShf} (h : ShfIn w B y) (sm : SmT y.x.t) (hr : y.rows.length ≤ 64) (hc : y.x.t.cols.length ≤ 8) (hf : ∀ o ∈ y.rows, besideB formB y.x.t.cols o.vals = true) : ShfAt w y.p y.s y.x.hc.a y.x.hc.c y.x.hr.a y.x.hr.c y.hr.a y.hr.c := by
  refine ⟨?_, h.tab.cols sm, h.tab.ruls sm, RowsIn.at h.rows (by omega) fun o ho => row_small hc (hf o ho), h.blk⟩
  have e := h.row
  unfold OShf.cells at e
  rw [OTab.cells_of h.tab rfl, own_slice h.rows.own] at e
  simpa [OShf.s, OTab.t] using e
theorem SOk.shf {S : List Shf} {ss : List Sch} (h : SOk S ss) {x : Shf} (hx : x ∈ S) : x.rows.length ≤ 64 ∧ x.t.cols.length ≤ 8 ∧ ∀ r ∈ x.rows, besideB formB x.t.cols r = true := ⟨h.most x hx, cols_len (h.tab hx).cols, h.form x hx⟩
theorem StoIn.is {ss : List Sch} (h : StoIn w B s hl L) (ok : SOk (storeS L) ss) (sm : ∀ y ∈ L, SmT y.x.t) : StoIs w s (L.map (·.p)) (storeS L) := by
  have hL : L.length ≤ 64 := by have := ok.good.nt; simpa [storeS] using this
  refine ⟨by simp [storeS], ?_, ⟨hl.a, hl.c, ?_, ?_⟩, fun i h1 h2 => ?_⟩
  · have h1 := (List.nodup_append.1 (List.nodup_cons.1 h.nd).2).2.1
    refine List.Nodup.sublist ?_ h1
    clear h1 hL ok sm h
    induction L with
    | nil => exact List.Sublist.refl _
    | cons y L ih =>
      rw [List.map_cons, List.flatMap_cons]
      exact List.Sublist.append (l₁ := [y.p]) (by unfold OShf.blks; exact List.Sublist.cons_cons _ (List.nil_sublist _)) ih
  · have e := h.row
    rw [own_slice h.lst] at e
    simpa using e
  · exact own_slo ptrC (·.p) h.lst (fun y hy => ⟨rfl, rfl⟩) (by unfold Small; omega)
  · have hi : i < L.length := by simpa using h1
    have hm : L[i] ∈ L := List.getElem_mem hi
    obtain ⟨q1, q2, q3⟩ := ok.shf (x := L[i].s) (List.mem_map_of_mem hm)
    have := (h.each _ hm).at (sm _ hm) (by simpa [OShf.s] using q1) q2 (fun o ho => q3 _ (List.mem_map_of_mem ho))
    rw [List.getElem_map, show (storeS L)[i] = L[i].s by simp [storeS]]
    exact ⟨_, _, _, _, _, _, this⟩
theorem nodup_sub {X Y Y2 Z : List Nat} {N : Nat} (h : (X ++ (Y ++ Z)).Nodup) (hlt : ∀ g ∈ X ++ (Y ++ Z), g < N) (hs : ∀ g ∈ Y2, g ∈ Y ∨ N ≤ g) (h2 : Y2.Nodup) : (X ++ (Y2 ++ Z)).Nodup := by
  obtain ⟨hX, hYZ, hd⟩ := List.nodup_append.1 h
  obtain ⟨hY, hZ, hd2⟩ := List.nodup_append.1 hYZ
  refine List.nodup_append.2 ⟨hX, List.nodup_append.2 ⟨h2, hZ, fun a ha b hb e => ?_⟩, fun a ha b hb e => ?_⟩
  · rcases hs a ha with h3 | h3
    · exact hd2 a h3 b hb e
    · have := hlt b (by simp [hb]); omega
  · rcases List.mem_append.1 hb with hb | hb
    · rcases hs b hb with h3 | h3
      · exact hd a ha b (by simp [h3]) e
      · have := hlt a (by simp [ha]); omega
    · exact hd a ha b (by simp [hb]) e
/-- a shelf's rows are other ones -/
theorem StoIn.turn {q : Nat} {h' : Hd} {R' : List ORow} (h : StoIn w B s hl L) (hq : q < L.length) (k : Kb (fun g => g = L[q].p ∨ g ∈ L[q].rblk) w w') (hrow : RowAt w' L[q].p (L[q].x.cells ++ [h'.v])) (hblk : ∃ cur t, w'.heap[L[q].p]? = some (.cells cur t (0, 0)))
    (hr : RowsIn w' B h' R') (hb : ∀ g ∈ h'.blk ++ R'.flatMap (·.h.blk), g ∈ L[q].rblk ∨ w.heap.size ≤ g) (hn : (h'.blk ++ R'.flatMap (·.h.blk)).Nodup) : StoIn w' B s hl (L.set q ⟨L[q].p, L[q].x, R', h'⟩) := by
  have hall := h.lt
  have hnd := h.nd
  have hsplit : L = L.take q ++ L[q] :: L.drop (q + 1) := by rw [List.getElem_cons_drop, List.take_append_drop]
  have hset : L.set q ⟨L[q].p, L[q].x, R', h'⟩ = L.take q ++ (⟨L[q].p, L[q].x, R', h'⟩ : OShf) :: L.drop (q + 1) := List.set_eq_take_append_cons_drop.trans (by rw [if_pos hq])
  have hfl : L.flatMap OShf.blks = (L.take q).flatMap OShf.blks ++ (L[q].blks ++ (L.drop (q + 1)).flatMap OShf.blks) := by
    conv => lhs; rw [hsplit]
    rw [List.flatMap_append, List.flatMap_cons]
  have hey := h.each L[q] (List.getElem_mem hq)
  obtain ⟨A, hA⟩ : ∃ A, L.take q = A := ⟨_, rfl⟩
  obtain ⟨C, hC⟩ : ∃ C, L.drop (q + 1) = C := ⟨_, rfl⟩
  obtain ⟨y, hy⟩ : ∃ y, L[q] = y := ⟨_, rfl⟩
  have hAm : ∀ u ∈ A, u ∈ L := fun u hu => by rw [← hA] at hu; exact List.mem_of_mem_take hu
  have hCm : ∀ u ∈ C, u ∈ L := fun u hu => by rw [← hC] at hu; exact List.mem_of_mem_drop hu
  rw [hA, hC, hy] at hset hfl
  rw [hy] at k hrow hblk hb hey ⊢
  rw [hset]
  rw [hfl] at hnd hall
  have hPy : ∀ g, (g = y.p ∨ g ∈ y.rblk) → g ∈ y.blks := fun g e => by
    rcases e with rfl | e
    · unfold OShf.blks; simp
    · unfold OShf.blks; simp [e]
  have nd1 := List.nodup_cons.1 hnd
  have nd2 := List.nodup_append.1 nd1.2
  have nd3 := List.nodup_append.1 nd2.2.1
  have nd4 := List.nodup_append.1 nd3.2.1
  have hnA : ∀ g ∈ A.flatMap OShf.blks, ¬ (g = y.p ∨ g ∈ y.rblk) := fun g hg e => nd3.2.2 g hg g (List.mem_append.2 (.inl (hPy g e))) rfl
  have hnC : ∀ g ∈ C.flatMap OShf.blks, ¬ (g = y.p ∨ g ∈ y.rblk) := fun g hg e => nd4.2.2 g (hPy g e) g hg rfl
  have hsub : ∀ g ∈ OShf.blks ⟨y.p, y.x, R', h'⟩, g ∈ y.blks ∨ w.heap.size ≤ g := fun g hg => by
    unfold OShf.blks OShf.rblk at hg
    rcases List.mem_cons.1 hg with rfl | hg
    · exact .inl (by unfold OShf.blks; simp)
    · rcases List.mem_append.1 hg with hg | hg
      · exact .inl (by unfold OShf.blks; simp [hg])
      · rcases hb g hg with h3 | h3
        · exact .inl (hPy g (.inr h3))
        · exact .inr h3
  have hyn : (OShf.blks ⟨y.p, y.x, R', h'⟩).Nodup := by
    have h0 : ((y.p :: y.x.blks) ++ (y.rblk ++ [])).Nodup := by have := nd4.1; unfold OShf.blks at this; simpa using this
    have := nodup_sub (Y2 := h'.blk ++ R'.flatMap (·.h.blk)) (N := w.heap.size) h0 (fun g hg => (hey.lt g (by unfold OShf.blks; simpa using hg)).2) hb hn
    unfold OShf.blks OShf.rblk
    simpa using this
  refine ⟨h.ge, k.row h.row fun e => nd1.1 (List.mem_append.2 (.inr (List.mem_append.2 (.inr (List.mem_append.2 (.inl (hPy s e))))))), ?_, fun u hu => ?_, ?_⟩
  · have e1 : (A ++ (⟨y.p, y.x, R', h'⟩ : OShf) :: C).length = L.length := by rw [← hset, List.length_set]
    have e2 : (A ++ (⟨y.p, y.x, R', h'⟩ : OShf) :: C).flatMap ptrC = L.flatMap ptrC := by
      conv => rhs; rw [hsplit, hA, hC, hy]
      rw [List.flatMap_append, List.flatMap_cons, List.flatMap_append, List.flatMap_cons]; rfl
    rw [e1, e2]
    exact own_kb h.lst k fun g hg e => nd2.2.2 g (Hd.mem_blk.2 hg) g (List.mem_append.2 (.inr (List.mem_append.2 (.inl (hPy g e))))) rfl
  · rcases List.mem_append.1 hu with hu | hu
    · exact (h.each u (hAm u hu)).kb k fun g hg => hnA g (List.mem_flatMap.2 ⟨u, hu, hg⟩)
    · rcases List.mem_cons.1 hu with rfl | hu
      · refine ⟨hey.ge, hblk, hrow, hey.tab.kb k fun g hg e => ?_, hr⟩
        have n5 := nd4.1
        unfold OShf.blks at n5
        rcases e with rfl | e
        · exact (List.nodup_cons.1 n5).1 (by simp [hg])
        · exact (List.nodup_append.1 (List.nodup_cons.1 n5).2).2.2 g hg g e rfl
      · exact (h.each u (hCm u hu)).kb k fun g hg => hnC g (List.mem_flatMap.2 ⟨u, hu, hg⟩)
  · rw [List.flatMap_append, List.flatMap_cons]
    have := nodup_sub (X := s :: (hl.blk ++ A.flatMap OShf.blks)) (Y := y.blks) (Y2 := OShf.blks ⟨y.p, y.x, R', h'⟩) (Z := C.flatMap OShf.blks) (N := w.heap.size) (by simpa [List.append_assoc] using hnd) (fun g hg => (hall g (by simpa [List.append_assoc] using hg)).2) hsub hyn
    simpa [List.append_assoc] using this
end
end Go.Proofs.YtiadkchlkdaceaaGreat

