/- Contracts of the program, part 8. -/
import Derived.LaidEqlPtr
import Derived.OwnWalk
import Derived.Laws.AppendOwn
import Derived.ProofKit
import Derived.OpenShut
import Derived.Deep.Slices
import Derived.ChangeOld
import Derived.SizedLaws
import Derived.WalkKit
import Derived.WalkSpells
import Derived.WalkLawsBesides
import Derived.Lib.Hide
import Derived.Deep.QuietTactic
import Derived.BigQuiet
import Derived.Below
import Derived.Deep.Draws
import Derived.StillTailTactics
import Derived.Laws.Cells
import Derived.Laws.IdiomCopy
import Derived.Test.YtiadkchlkdaceaaGreatRows
import Derived.Lib.Bytealg
import Derived.IntWalk
import Derived.ShutString
import Derived.Shelf.SlSortCmp.WholeK
import Derived.Lib.SliceRun
import Derived.Deep.AppendLies
import Derived.Deep.Upon
import Derived.OneCell
import Derived.Deep.DeepMust
import Derived.Deep.RegionLaw
import Derived.Deep.RegionHeld3
import Derived.Deep.Onto
import Derived.Shelf.RegionOpen
import Derived.Sort.BigQuietIn
import Derived.RangeFuncNested
import Derived.RangeFuncBound
import Derived.RangeFuncCalls
import Derived.RangeFuncLeaves
import Derived.Shelf.Abstract
import Derived.OwnWalkIn
import Derived.TacticsInMore
import Derived.LoopNIn
import Derived.LoopIn
import Derived.Sort.QuietTacIn
import Derived.NoCompiler
import Derived.OrdersHeld
import Derived.Lib.Walk
import Derived.Test.YtiadkchlkdaceaaGreatPartR1
import Derived.Test.YtiadkchlkdaceaaGreatPartR2
import Derived.Test.YtiadkchlkdaceaaGreatPartR3
import Derived.Test.YtiadkchlkdaceaaGreatPartR4
import Derived.Test.YtiadkchlkdaceaaGreatPartR5
import Derived.Test.YtiadkchlkdaceaaGreatPartR6
import Derived.Test.YtiadkchlkdaceaaGreatPartR7
namespace Go.Proofs.YtiadkchlkdaceaaGreat
open Go.RowKit
set_option maxRecDepth 100000
set_option linter.unusedVariables false
theorem info2Val : (Tryz.prog.info? 37).map (fun i => (i.zero, i.size, i.bytes)) = some (some (.agg #[.int .i64 0, .int .i64 0, .string ByteArray.empty]), 3, 32) := by kernel_rfl
set_option maxHeartbeats 2000000 in
theorem clone2Val (A : Option Addr) (cap : Nat) (l : List Val) (w0 w : World) (ha : Aft w0 w) (h : SlAt w0 3 ValR A cap l) (hb : l.length ≤ 1000000) :
    Calls Tryz.prog 69 #[.slice A l.length cap] w (CloneQ 37 3 ValR w0 w l) := by
  obtain ⟨i0, hi, hz0, hz1, hz2⟩ := info_parts info2Val
  have q22 : ∀ (w : World) (a : Option Addr) (n c n' c' : Nat), (binOp .eql 34 (.slice a n c) (.slice none n' c')).run Tryz.prog w = .ok (.bool a.isNone) w := fun w a n c n' c' => Lib.run_eql_slice_nil w _ _ a n c n' c' Tryz.underlying34
  cases A with
  | none =>
    have hl0 : l = [] := by
      cases l with
      | nil => rfl
      | cons x l => obtain ⟨b, off, cs, hA, _⟩ := h.2.2 0 (by simp); cases hA
    subst hl0
    go_enter Tryz.func69, Tryz.ntmps69
    go_wp2_with fail
    go_ret
    exact ⟨_, [], rfl, Aft.refl _, own_nil _ _ _ _, Chunks.nil⟩
  | some ad =>
    have HC : ∃ css, Chunks w0 3 ValR css l ∧ ∀ p u, css.flatten[p]? = some u → w.cell? (ad.add p) = some u := by
      by_cases h0 : 0 < l.length
      · obtain ⟨b, off, css, hA, hb', hch, hc⟩ := h.css h0 (by decide)
        simp only [Option.some.injEq] at hA
        subst hA
        refine ⟨css, hch, fun p u hp => ?_⟩
        have hlt : p < l.length * 3 := by rw [← hch.len]; exact (List.getElem?_eq_some_iff.1 hp).1
        rw [add_mk]; exact ha.cell_kept ((hc p hlt).trans hp)
      · have hl0 : l = [] := List.eq_nil_of_length_eq_zero (by omega)
        subst hl0
        exact ⟨[], Chunks.nil, fun p u hp => by simp at hp⟩
    obtain ⟨css, hch, hcell⟩ := HC
    have H1 := Lib.hid hcell
    have H2 : Hid (∀ u ∈ css.flatten, u.oneCell' = true) := Lib.hid (by
      intro u hu
      obtain ⟨c, hc, hu⟩ := List.mem_flatten.1 hu
      obtain ⟨i, hi, rfl⟩ := List.getElem_of_mem hc
      have h3 := (hch.2 i hi (by rw [← hch.1]; exact hi)).2
      obtain ⟨hcs, _⟩ := h3
      rw [hcs] at hu
      simp only [List.mem_cons, List.not_mem_nil, or_false] at hu
      rcases hu with rfl | rfl | rfl <;> simp [Value.oneCell'])
    have H3 := Lib.hid hch
    have HI := Lib.hid hi
    have HZ0 := Lib.hid hz0
    have HZ1 := Lib.hid hz1
    have HZ2 := Lib.hid hz2
    clear hcell hch hi hz0 hz1 hz2 h ha
    go_enter Tryz.func69, Tryz.ntmps69
    go_wp2_with (at_builtin; refine wpList_append_own _ rfl _ _ 34 rfl w.heap.size 37 i0 (.agg #[.int .i64 0, .int .i64 0, .string ByteArray.empty]) 3 32 Tryz.underlying34 HI.out HZ0.out HZ1.out HZ2.out rfl (by decide) _ _ _ rfl (World.ownsRow_made w #[] 0 (Nat.le_refl _) (Nat.zero_le _) rfl) ad l.length cap css.flatten rfl ?qc1 ?qc2 ?qc3 ?qc4 ?qc5 ?qc6 ?_)
    case qc1 => exact H3.out.len
    case qc2 =>
      intro j u hj
      exact Lib.cell?_alloc_some _ (H1.out j u hj)
    case qc3 => exact H2.out
    case qc4 => unfold maxLen; omega
    case qc5 => omega
    case qc6 => simp
    intro v' w1 hown hgrow hnil
    have HO := Lib.hid hown
    have HA := Lib.hid (show Aft w w1 from ((Below.refl _ w).alloc (Nat.le_refl _) _).grown hgrow (by simp) (by intro k hk; simp [Value.ownBlock] at hk; omega))
    clear hown hgrow hnil
    go_wp2_with fail
    go_ret
    refine ⟨v', css, rfl, HA.out, ?_, H3.out⟩
    simpa using HO.out
theorem info2Row : (Tryz.prog.info? 34).map (fun i => (i.zero, i.size, i.bytes)) = some (some (.slice none 0 0), 1, 24) := by kernel_rfl
set_option maxHeartbeats 2000000 in
theorem clone2Row (A : Option Addr) (cap : Nat) (l : List (List Val)) (w0 w : World) (ha : Aft w0 w) (h : SlAt w0 1 RowsR A cap l) (hb : l.length ≤ 1000000) :
    Calls Tryz.prog 107 #[.slice A l.length cap] w (CloneQ 34 1 RowsR w0 w l) := by
  obtain ⟨i0, hi, hz0, hz1, hz2⟩ := info_parts info2Row
  have q22 : ∀ (w : World) (a : Option Addr) (n c n' c' : Nat), (binOp .eql 47 (.slice a n c) (.slice none n' c')).run Tryz.prog w = .ok (.bool a.isNone) w := fun w a n c n' c' => Lib.run_eql_slice_nil w _ _ a n c n' c' Tryz.underlying47
  cases A with
  | none =>
    have hl0 : l = [] := by
      cases l with
      | nil => rfl
      | cons x l => obtain ⟨b, off, cs, hA, _⟩ := h.2.2 0 (by simp); cases hA
    subst hl0
    go_enter Tryz.func107, Tryz.ntmps107
    go_wp2_with fail
    go_ret
    exact ⟨_, [], rfl, Aft.refl _, own_nil _ _ _ _, Chunks.nil⟩
  | some ad =>
    have HC : ∃ css, Chunks w0 1 RowsR css l ∧ ∀ p u, css.flatten[p]? = some u → w.cell? (ad.add p) = some u := by
      by_cases h0 : 0 < l.length
      · obtain ⟨b, off, css, hA, hb', hch, hc⟩ := h.css h0 (by decide)
        simp only [Option.some.injEq] at hA
        subst hA
        refine ⟨css, hch, fun p u hp => ?_⟩
        have hlt : p < l.length * 1 := by rw [← hch.len]; exact (List.getElem?_eq_some_iff.1 hp).1
        rw [add_mk]; exact ha.cell_kept ((hc p hlt).trans hp)
      · have hl0 : l = [] := List.eq_nil_of_length_eq_zero (by omega)
        subst hl0
        exact ⟨[], Chunks.nil, fun p u hp => by simp at hp⟩
    obtain ⟨css, hch, hcell⟩ := HC
    have H1 := Lib.hid hcell
    have H2 : Hid (∀ u ∈ css.flatten, u.oneCell' = true) := Lib.hid (by
      intro u hu
      obtain ⟨c, hc, hu⟩ := List.mem_flatten.1 hu
      obtain ⟨i, hi, rfl⟩ := List.getElem_of_mem hc
      have h3 := (hch.2 i hi (by rw [← hch.1]; exact hi)).2
      obtain ⟨A2, cap2, hcs, _⟩ := h3
      rw [hcs] at hu
      simp only [List.mem_cons, List.not_mem_nil, or_false] at hu
      rcases hu with rfl <;> simp [Value.oneCell'])
    have H3 := Lib.hid hch
    have HI := Lib.hid hi
    have HZ0 := Lib.hid hz0
    have HZ1 := Lib.hid hz1
    have HZ2 := Lib.hid hz2
    clear hcell hch hi hz0 hz1 hz2 h ha
    go_enter Tryz.func107, Tryz.ntmps107
    go_wp2_with (at_builtin; refine wpList_append_own _ rfl _ _ 47 rfl w.heap.size 34 i0 (.slice none 0 0) 1 24 Tryz.underlying47 HI.out HZ0.out HZ1.out HZ2.out rfl (by decide) _ _ _ rfl (World.ownsRow_made w #[] 0 (Nat.le_refl _) (Nat.zero_le _) rfl) ad l.length cap css.flatten rfl ?qc1 ?qc2 ?qc3 ?qc4 ?qc5 ?qc6 ?_)
    case qc1 => exact H3.out.len
    case qc2 =>
      intro j u hj
      exact Lib.cell?_alloc_some _ (H1.out j u hj)
    case qc3 => exact H2.out
    case qc4 => unfold maxLen; omega
    case qc5 => omega
    case qc6 => simp
    intro v' w1 hown hgrow hnil
    have HO := Lib.hid hown
    have HA := Lib.hid (show Aft w w1 from ((Below.refl _ w).alloc (Nat.le_refl _) _).grown hgrow (by simp) (by intro k hk; simp [Value.ownBlock] at hk; omega))
    clear hown hgrow hnil
    go_wp2_with fail
    go_ret
    refine ⟨v', css, rfl, HA.out, ?_, H3.out⟩
    simpa using HO.out
end Go.Proofs.YtiadkchlkdaceaaGreat

namespace Go.Proofs.YtiadkchlkdaceaaGreat
open Go.RowKit Go.Deep Go.Shelf
set_option maxRecDepth 100000
set_option linter.unusedVariables false
/-- a region in a round that draws its order, whose operations read, or call what keeps what was there -/
theorem wpIn_region_latR {F : Fence} {n : Nat} {P : Program} {id : Nat} {Q : Exit → Act → World → Prop} {a : Act} {w : World} {l : List Oper} (hm : P.follows .mixedOrders = true) (hB : Region.lexB .any l.toArray = true) (hp : l.all plainO = true)
    (h : wpQuietIn F n P l.toArray (fun w' => ∃ x : Lat w, w' = lat w x) (fun a' => ∀ w', (∃ x : Lat w, w' = lat w x) → Q .normal a' w') l a) : (Code.region id l.toArray true).wpIn F n P Q a w := by
  simp only [Region.lexB, Bool.and_eq_true] at hB
  refine wpIn_region_any hm (quiet_any9 (C := fun w' => ∃ x : Lat w, w' = lat w x) (Q := fun a' => ∀ w', (∃ x : Lat w, w' = lat w x) → Q .normal a' w') (fun i o ho => ?_) (fun _ w' hw' h => h w' hw') _ _ _ _ (lat_of (Below.drew (Below.refl _ _))) ?_)
  · have : o ∈ l := by
      have := Array.mem_of_getElem? ho
      simpa using this
    exact List.all_eq_true.1 hp o this
  · have := wpAnyQIn_lex (F := F) (n := n) (C := fun w' => ∃ x : Lat w, w' = lat w x) (md := .any) hB.1 l 0 (Array.replicate l.toArray.size false) a (by simp) (by simpa using hB.2) h
    simpa using this
theorem CallsIn.lat_of {n : Nat} {P : Program} {w : World} {f : FuncId} {args : Array Value} {x : Lat w} {v : Value}
    (h : Calls P f args (lat w x) fun e w' => e = .returned v ∧ Aft (lat w x) w') (l : Nat) : CallsIn (Fence.wide.inRound l) n P f args (lat w x) fun e w'' => e = .returned v ∧ ∃ y : Lat w, w'' = lat w y :=
  Go.CallsIn.inRound l (callsIn_wide.2 (Calls.lat_of h))
theorem asked_wide {l : Nat} {P : Program} {o : Oper} {a : Act} {C : World → Prop} : o.askedIn (Fence.wide.inRound l) P a C := by
  unfold Oper.askedIn
  intros
  trivial
theorem fitE_zero {t : Tab} {row : List Val} (h : fitE t row = 0) : besideB formB t.cols row = true := by
  cases h1 : tableOk t
  · rw [fitE_1 h1] at h; cases h
  · cases h2 : besideB formB t.cols row
    · rw [fitE_100 h1 h2] at h; cases h
    · rfl
theorem ofVs_small {l : List Col} {names : List ByteArray} {row : List Val} (ok : OkN l names) (hf : besideB formB l row = true) (hs : ∀ v ∈ row, Small v.text.size) : Small ((ofVs l names row).length * 16) ∧ ∀ v ∈ ofVs l names row, Small v.text.size := by
  refine ⟨by rw [ofVs_len]; exact small8' ok.1, fun v hv => ?_⟩
  obtain ⟨s', hs', rfl⟩ := List.mem_map.1 hv
  obtain ⟨j, hj, rfl⟩ := List.getElem_of_mem hs'
  obtain ⟨z, hz0, hzr⟩ := okN_at ok hf j hj
  rw [hz0, valAt_get hzr]
  exact hs _ (List.getElem_mem hzr)
/-- a round has found a rule that hits -/
def HitX (V X : World) (x : Shf) (kd : Int) (f : Rul → Bool) (b : Nat) (v : Value) (c : Code) (pre : List (RPx V x kd)) (W' : World) : Prop :=
  (c = Code.ret ∧ ∃ y ∈ pre, f (RPx.r y) = true) ∧ (Kb (fun g => g = b) X W' ∧ W'.cell? ⟨b, 0, none⟩ = some v)
theorem own_hit {V X : World} {x : Shf} {kd : Int} {f : Rul → Bool} {b : Nat} {v : Value} (hb : b < X.heap.size) (c : Code) : OwnFrom X.heap.size (HitX V X x kd f b v c) := fun s' W W' row h hg hr =>
  ⟨h.1, own_kbFrom (β := Unit) (B := 0) (Nat.le_refl _) () W W' row h.2.1 hg hr, own_cellFrom (β := Unit) hb () W W' row h.2.2 hg hr⟩
theorem hit_any {V : World} {x : Shf} {f : Rul → Bool} {kd : Int} {pre : List (RPx V x kd)} (hSp : pre.map RPx.r <+: ofK kd x.t.rules) (h : ∃ y ∈ pre, f (RPx.r y) = true) : (ofK kd x.t.rules).any f = true := by
  obtain ⟨y, hy, hf⟩ := h
  exact List.any_eq_true.2 ⟨_, hSp.subset (List.mem_map_of_mem hy), hf⟩
theorem miss_any {V : World} {x : Shf} {f : Rul → Bool} {kd : Int} {xs : List (RPx V x kd)} (hS : xs.map RPx.r = ofK kd x.t.rules) (h : ∀ y ∈ xs, f (RPx.r y) = false) : (ofK kd x.t.rules).any f = false := by
  rw [← hS, Bool.eq_false_iff]
  intro h2
  obtain ⟨r, hr, hf⟩ := List.any_eq_true.1 h2
  obtain ⟨y, hy, rfl⟩ := List.mem_map.1 hr
  rw [h y hy] at hf; cases hf
theorem all_snoc {α : Type} {f : α → Bool} {pre : List α} {y : α} (h : ∀ u ∈ pre, f u = false) (hy : f y = false) : ∀ u ∈ pre ++ [y], f u = false := fun u hu => by
  rcases List.mem_append.1 hu with h2 | h2
  · exact h u h2
  · rw [List.mem_singleton] at h2; rw [h2, hy]
theorem key_any12 (t : Tab) (rows : List (List Val)) (row : List Val) : t.rules.any (keyHit t rows row) = (ofK 2 t.rules).any (keyHit t rows row) := by
  unfold ofK
  rw [List.any_filter]
  congr 1
  funext r
  unfold keyHit
  cases r.kind == 2 <;> rfl
theorem far_any12 (S : List Shf) (q : Nat) (row : List Val) (rs : List Rul) : rs.any (farHit S q row) = (ofK 4 rs).any (farHit S q row) := by
  unfold ofK
  rw [List.any_filter]
  congr 1
  funext r
  unfold farHit
  cases r.kind == 4 <;> rfl
/-- an append at a step of a region that draws its order, by its run -/
theorem stepIn_run {F : Fence} {n : Nat} {P : Program} {ops : Array Oper} {o : Oper} {a : Act} {w : World} {K : Act → World → Prop} {Q : Exit → Act → World → Prop} {E : Prop} (hgd : o.guard = none) (s x : Operand) (t : TypeId)
    (ho : o.op = .call { callee := .builtin .append, args := #[s, x], argTypes := #[t, t] }) {v xv v' : Value} {w' : World} (hs : a.eval s = v) (hx : a.eval x = xv) (hrun : (Builtin.append_ #[t, t] o.type #[v, xv]).run P w = .ok v' w') (h : K (a.put o.dst v') w') :
    if Region.wanted o (yielded ops a.tmps) = true then Oper.wpIn F n P o a w K Q else E := by
  have hw : Region.wanted o (yielded ops a.tmps) = true := by simp [Region.wanted, hgd]
  rw [if_pos hw]
  unfold Oper.wpIn
  refine ⟨?_, ?_⟩
  · simp [Oper.about, ho, resolve, Target.leads, Sem.run_pure]
  · rw [Oper.semAt_plain F _ _ (by rw [ho]; intro c hc'; cases hc')]
    simp [execOp, ho, resolve, invoke, builtin, hs, hx, hrun, Result.andThen]
    exact h
/-- one row more behind a copy of rows -/
theorem app_row {w0 w4 : World} {b : Nat} {rows : List (List Val)} {row : List Val} {css : List (List Value)} {v4 : Value} {B : Option Addr} {capB bb : Nat} (a0 : Aft w0 w4) (hb : w0.heap.size ≤ b) (ho : w4.ownsRow b 34 1 v4 rows.length css.flatten) (hc : Chunks w0 1 RowsR css rows) (hr : SlAt w0 3 ValR B capB row) (hl : rows.length ≤ 64) (hbox : w4.cell? ⟨bb, 0, none⟩ = some (.slice B row.length capB)) (hb4 : b ≤ w4.heap.size) :
    ∃ (a5 : Option Addr) (c5 : Nat) (w5 : World), (Builtin.append_ #[47, 47] 47 #[v4, .slice (some ⟨bb, 0, none⟩) 1 1]).run Tryz.prog w4 = .ok (.slice a5 (rows.length + 1) c5) w5 ∧ Hid (Aft w0 w5 ∧ SlAt w5 1 RowsR a5 c5 (rows ++ [row])) := by
  obtain ⟨i0, hi, hz0, hz1, hz2⟩ := info_parts info2Row
  obtain ⟨⟨a5, n5, c5⟩, w5, hrun, ho5, hg5⟩ := run_append_own2h w4 b 47 47 34 i0 (.slice none 0 0) 1 24 Tryz.underlying47 hi hz0 hz1 hz2 rfl (by decide) v4 rows.length css.flatten ho (some ⟨bb, 0, none⟩) 1 1 [.slice B row.length capB] rfl (fun h => by cases h) (fun ad had j u hj => by
    injection had with had; subst had
    rw [add_mk]
    cases j with
    | zero => simp at hj; rw [← hj]; simpa using hbox
    | succ j => simp at hj) (fun u hu => by simp only [List.mem_cons, List.not_mem_nil, or_false] at hu; subst hu; simp [Value.oneCell']) (by unfold maxLen; omega) (by omega) hb4
  obtain rfl : n5 = rows.length + 1 := own_n ho5
  have a5' : Aft w0 w5 := aft_grown (own_base ho fun g hg => Nat.le_trans hb (ho.lt g hg).1) a0 hg5.1
  refine ⟨a5, c5, w5, hrun, Lib.hid ⟨a5', ?_⟩⟩
  have hc5 : Chunks w5 1 RowsR (css ++ [[.slice B row.length capB]]) (rows ++ [row]) := (hc.aft fun cs x h => RowsR.aft a5' h).snoc rfl ⟨B, capB, rfl, vals_aft a5' hr⟩
  have := own_sl (h := ⟨a5, rows.length + 1, c5⟩) (l := rows ++ [row]) (css := css ++ [[.slice B row.length capB]]) (by simpa using ho5) hc5 (by unfold Small; simp; omega)
  exact this
set_option maxHeartbeats 32000000 in
theorem wrong12 (s : Nat) (ps : List Nat) (S : List Shf) (ss : List Sch) (q : Nat) (row : List Val) (B : Option Addr) (capB : Nat) (w : World) (h : StoIs w s ps S) (sok : SOk S ss) (hqp : q < ps.length) (h3 : SlAt w 3 ValR B capB row) :
    Calls Tryz.prog 68 #[.pointer (some ⟨s, 0, none⟩), .pointer (some ⟨ps[q], 0, none⟩), .slice B row.length capB] w fun e w' => e = .returned (.int .i64 (wrongS S q row)) ∧ Aft w w' := by
  have hql : q < S.length := by have := h.len; omega
  obtain ⟨A, cap, A2, cap2, A3, cap3, hsh⟩ := h.each q hqp hql
  have hxm : S[q] ∈ S := List.getElem_mem hql
  have hsn := shfN_get hql
  obtain ⟨p, hp⟩ : ∃ p, ps[q] = p := ⟨_, rfl⟩
  obtain ⟨x, hx⟩ : ∃ x, S[q] = x := ⟨_, rfl⟩
  rw [hx] at hsh hxm hsn
  rw [hp] at hsh
  rw [hp]
  have HSN := Lib.hid hsn
  have HSH := Lib.hid hsh
  have HST := Lib.hid h
  have HXM := Lib.hid hxm
  have HOK := Lib.hid sok
  have HRW := Lib.hid h3
  have HPQ := Lib.hid hp
  have hr8 : x.t.rules.length ≤ 8 := (sok.tab hxm).nr
  obtain ⟨fe, hfe⟩ : ∃ fe, fitE x.t row = fe := ⟨_, rfl⟩
  have CF := Lib.hid (show ∀ W, Aft w W → Calls Tryz.prog 102 #[.agg #[.string x.t.schema, .string x.t.name, .string x.t.owner, .slice A x.t.cols.length cap, .slice A2 x.t.rules.length cap2], .slice B row.length capB] W fun e w' => e = .returned (.int .i64 fe) ∧ Aft W w' from
    fun W a => (fit_any x.t row A cap A2 cap2 B capB W (cols_aft a hsh.cols) (ruls_aft a hsh.ruls) (vals_aft a h3) (by omega)).mono fun e w' ⟨he, hw⟩ => ⟨he.trans (by rw [hfe]), hw⟩)
  have HFE := Lib.hid hfe
  have hlen := hsh.rows.len
  clear h sok hxm hsn hp hx hsh h3 hr8 hfe
  refine (callsIn_wide (n := 8)).1 ?_
  refine callsIn_of_wp_marks Tryz.func68 rfl trivial ?_ rfl
  simp only [Tryz.ntmps68, List.size_toArray, List.length_cons, List.length_nil, Nat.reduceAdd, Nat.reduceSub, Array.replicate_succ, Array.replicate_zero, List.push_toArray, List.append_toArray, List.nil_append, List.cons_append]
  refine wpIn_wide.2 ?_
  go_wp2_with fail
  obtain ⟨W, hW⟩ : ∃ W, W = (((w.alloc (.cells #[.pointer (some ⟨s, 0, none⟩)] 23)).alloc (.cells #[.pointer (some ⟨p, 0, none⟩)] 80)).alloc (.cells #[.slice B row.length capB] 34)).alloc (.cells #[.int .i64 0] 44) := ⟨_, rfl⟩
  have aW : Aft w W := by rw [hW]; exact ((((Aft.refl w).alloc _).alloc _).alloc _).alloc _
  have zW := Lib.hid (show W.heap.size = w.heap.size + 4 by rw [hW]; simp)
  have k0 : RowAt W w.heap.size [.pointer (some ⟨s, 0, none⟩)] := by rw [hW]; exact (box_row2 (c := [.pointer (some ⟨s, 0, none⟩)]) (Aft.refl _)).aft ((((Aft.refl _).alloc _).alloc _).alloc _)
  have k1 : RowAt W (w.heap.size + 1) [.pointer (some ⟨p, 0, none⟩)] := by
    rw [hW]
    have := (box_row2 (w := w.alloc (.cells #[.pointer (some ⟨s, 0, none⟩)] 23)) (c := [.pointer (some ⟨p, 0, none⟩)]) (t := 80) (Aft.refl _)).aft (((Aft.refl _).alloc (.cells #[.slice B row.length capB] 34)).alloc (.cells #[.int .i64 0] 44))
    simpa using this
  have k2 : RowAt W (w.heap.size + 1 + 1) [.slice B row.length capB] := by
    rw [hW]
    have := (box_row2 (w := (w.alloc (.cells #[.pointer (some ⟨s, 0, none⟩)] 23)).alloc (.cells #[.pointer (some ⟨p, 0, none⟩)] 80)) (c := [.slice B row.length capB]) (t := 34) (Aft.refl _)).aft ((Aft.refl _).alloc (.cells #[.int .i64 0] 44))
    simpa using this
  have k3 : RowAt W (w.heap.size + 1 + 1 + 1) [.int .i64 0] := by
    rw [hW]
    have := box_row2 (w := ((w.alloc (.cells #[.pointer (some ⟨s, 0, none⟩)] 23)).alloc (.cells #[.pointer (some ⟨p, 0, none⟩)] 80)).alloc (.cells #[.slice B row.length capB] 34)) (c := [.int .i64 0]) (t := 44) (Aft.refl _)
    simpa using this
  have KF := Lib.hid (show ∀ V, Aft W V → (V.cell? ⟨w.heap.size, 0, none⟩ = some (.pointer (some ⟨s, 0, none⟩)) ∧ V.cell? ⟨w.heap.size + 1, 0, none⟩ = some (.pointer (some ⟨p, 0, none⟩)) ∧ V.cell? ⟨w.heap.size + 1 + 1, 0, none⟩ = some (.slice B row.length capB) ∧ V.cell? ⟨w.heap.size + 1 + 1 + 1, 0, none⟩ = some (.int .i64 0) ∧ V.frozen? ⟨w.heap.size + 1 + 1 + 1, 0, none⟩ = false) ∧
      (w.heap.size < V.heap.size ∧ w.heap.size + 1 < V.heap.size ∧ w.heap.size + 1 + 1 < V.heap.size ∧ w.heap.size + 1 + 1 + 1 < V.heap.size) ∧
      (V.cell? ⟨p, 0, none⟩ = some (.string x.t.schema) ∧ V.cell? ⟨p, 1, none⟩ = some (.string x.t.name) ∧ V.cell? ⟨p, 2, none⟩ = some (.string x.t.owner) ∧ V.cell? ⟨p, 3, none⟩ = some (.slice A x.t.cols.length cap) ∧ V.cell? ⟨p, 4, none⟩ = some (.slice A2 x.t.rules.length cap2) ∧ V.cell? ⟨p, 5, none⟩ = some (.slice A3 x.rows.length cap3) ∧ p < V.heap.size) from fun V a => by
    have r := HSH.out.row.aft (aW.trans a)
    exact ⟨⟨(k0.aft a).cell (j := 0) rfl, (k1.aft a).cell (j := 0) rfl, (k2.aft a).cell (j := 0) rfl, (k3.aft a).cell (j := 0) rfl, (k3.aft a).2.2 0 (by simp)⟩, ⟨(k0.aft a).1, (k1.aft a).1, (k2.aft a).1, (k3.aft a).1⟩, ⟨r.cell (j := 0) rfl, r.cell (j := 1) rfl, r.cell (j := 2) rfl, r.cell (j := 3) rfl, r.cell (j := 4) rfl, r.cell (j := 5) rfl, r.1⟩⟩)
  obtain ⟨⟨c0, c1, c2, c3, c4⟩, ⟨z0, z1, z2, z3⟩, ⟨y0, y1, y2, y3, y4, y5, y6⟩⟩ := KF.out W (Aft.refl W)
  have HAW := Lib.hid aW
  have CF1 := Lib.hid (fun v : Lat W => CF.out (lat W v) (aW.lat v))
  rw [← hW]
  clear hW k0 k1 k2 k3 aW
  refine wp_region_lat (by kernel_rfl) (by kernel_rfl) ?_
  repeat (go_big_quiet_step ((exact Calls.lat_of (CF1.out _))))
  refine wpQuiet_nil ?_
  intro _ hw'
  obtain ⟨v, hw''⟩ := hw'
  subst hw''
  obtain ⟨V, hV⟩ : ∃ V, V = lat W v := ⟨_, rfl⟩
  have aV : Aft W V := by rw [hV]; exact (Aft.refl W).lat v
  rw [← hV]
  have HAV := Lib.hid aV
  clear hV CF1 CF c0 c1 c2 c3 c4 z0 z1 z2 z3 y0 y1 y2 y3 y4 y5 y6
  obtain ⟨⟨c0, c1, c2, c3, c4⟩, ⟨z0, z1, z2, z3⟩, ⟨y0, y1, y2, y3, y4, y5, y6⟩⟩ := KF.out V aV
  clear aV
  by_cases g0 : fe = 0
  case neg =>
    have HN := Lib.hid (show wrongS S q row = fe by unfold wrongS; rw [HSN.out, HFE.out, if_pos g0])
    have e0 : (fe != 0) = true := by simpa using g0
    clear g0
    go_wp2_with fail
    refine ⟨_, results_cell (v := .int .i64 fe) rfl _ rfl (lvErr (World.cell?_setCell_same' _ _ _ (by rw [c3]; rfl))), ?_⟩
    rw [HN.out]
    exact ⟨rfl, (HAW.out.trans HAV.out).setCell _ _ (by show w.heap.size ≤ w.heap.size + 1 + 1 + 1; omega)⟩
  subst g0
  have HFM := Lib.hid (fitE_zero HFE.out)
  by_cases g1 : 64 ≤ x.rows.length
  · have HN := Lib.hid (show wrongS S q row = 2 by unfold wrongS; rw [HSN.out, HFE.out, if_neg (by simp), if_pos g1])
    have e1 : (64 : Int) ≤ (x.rows.length : Int) := by omega
    clear g1
    go_wp2_with fail
    refine ⟨_, results_cell (v := .int .i64 2) rfl _ rfl (lvErr (World.cell?_setCell_same' _ _ _ (by rw [c3]; rfl))), ?_⟩
    rw [HN.out]
    exact ⟨rfl, (HAW.out.trans HAV.out).setCell _ _ (by show w.heap.size ≤ w.heap.size + 1 + 1 + 1; omega)⟩
  have HE := Lib.hid (show wrongS S q row = if (ofK 2 x.t.rules).any (keyHit x.t x.rows row) then 111 else if (ofK 4 x.t.rules).any (farHit S q row) then 112 else 0 by
    unfold wrongS
    rw [HSN.out, HFE.out, if_neg (by simp), if_neg g1, key_any12, far_any12])
  have e1 : ¬ (64 : Int) ≤ (x.rows.length : Int) := by omega
  clear g1
  have HRS := Lib.hid (show ∀ v ∈ row, Small v.text.size by intro v hv; obtain ⟨i, hi, rfl⟩ := List.getElem_of_mem hv; exact val_small HRW.out i hi)
  have HALL := Lib.hid (HOK.out.form x HXM.out)
  have VAL := Lib.hid (fun (y : RPx w x 2) (W' : World) (a : Aft w W') => values12 p x y.1.r.cols row y.1.a y.1.c B capB W' ⟨_, _, _, _, _, _, HSH.out.aft a⟩ (strs_aft a y.2.1) (vals_aft a HRW.out) (HOK.out.cols HXM.out y.2.2.1) HFM.out)
  have HASK := Lib.hid (show ∀ (y : RPx w x 2) (W1 W2 : World) (bs : Nat) (v : Value), Aft w W1 → W1.ownsRow bs 37 3 v (ofVs x.t.cols y.1.r.cols row).length ((ofVs x.t.cols y.1.r.cols row).flatMap cellsV) → Aft W1 W2 →
      Calls Tryz.prog 105 #[.pointer (some ⟨p, 0, none⟩), .slice A3 x.rows.length cap3, .slice y.1.a y.1.r.cols.length y.1.c, v] W2 fun e w' => e = .returned (.bool (hasR12 x.t.cols x.rows y.1.r.cols (ofVs x.t.cols y.1.r.cols row))) ∧ Aft W2 w' from fun y W1 W2 bs v a ho a2 => by
    obtain ⟨h1, h2⟩ := ofVs_small (HOK.out.cols HXM.out y.2.2.1) HFM.out HRS.out
    obtain ⟨G, capG, rfl, hG⟩ := own_vals ho h1 h2
    exact has12 p x x.rows y.1.r.cols _ A3 cap3 y.1.a y.1.c G capG W2 ⟨_, _, _, _, _, _, HSH.out.aft (a.trans a2)⟩ (rows_aft (a.trans a2) HSH.out.rows) (strs_aft (a.trans a2) y.2.1) (vals_aft a2 hG) (HOK.out.cols HXM.out y.2.2.1) HALL.out)
  go_wp2_with fail
  refine (rules12 p 2 V).mono ?_
  rintro e X ⟨rfl, hX⟩
  have aX : Aft V X := by rw [hX]; exact ((Aft.refl _).alloc _).alloc _
  have q1 : X.cell? ⟨V.heap.size, 0, none⟩ = some (.pointer (some ⟨p, 0, none⟩)) := by
    rw [hX]
    refine (Aft.cell_kept ((Aft.refl _).alloc _) (?_ : (V.alloc (.cells #[.pointer (some ⟨p, 0, none⟩)] 80)).cell? ⟨V.heap.size, 0, none⟩ = _))
    exact World.cell?_alloc_at _ _ _ _ (by simp)
  have q2 : X.cell? ⟨V.heap.size + 1, 0, none⟩ = some (.int .i64 2) := by rw [hX]; exact World.cell?_alloc_at _ _ _ _ (by simp)
  have QX := Lib.hid (And.intro q1 q2)
  have HAX := Lib.hid (HAV.out.trans aX)
  clear hX q1 q2 aX c0 c1 c2 c3 c4 z0 z1 z2 z3 y0 y1 y2 y3 y4 y5 y6
  obtain ⟨⟨c0, c1, c2, c3, c4⟩, ⟨z0, z1, z2, z3⟩, ⟨y0, y1, y2, y3, y4, y5, y6⟩⟩ := KF.out X HAX.out
  go_wp2_with fail
  refine range_rules (HAW.out.trans HAX.out) HSH.out QX.out.1 QX.out.2 rfl rfl
    (fun pre W' => Aft X W' ∧ ∀ y ∈ pre, keyHit x.t x.rows row (RPx.r y) = false)
    (HitX w X x 2 (keyHit x.t x.rows row) (w.heap.size + 1 + 1 + 1) (.int .i64 111))
    (OwnFrom.and own_aftFrom (ownFrom_pure _ _)) (own_hit z3)
    ⟨Aft.refl _, fun y hy => by cases hy⟩
    (fun pre W V' h a => ⟨h.1.trans a, h.2⟩) (fun pre W h => h.1) ?F
    ?assign ?body ?done ?stop
  case assign =>
    intro l pre y W' K hi hK
    dsimp only [RPx.enc, RP.enc]
    have lw := Nat.lt_succ_self W'.heap.size
    gi_wp2
    obtain ⟨V', hV⟩ : ∃ V', V' = W'.alloc (.cells y.1.row.toArray 108) := ⟨_, rfl⟩
    have aV : Aft W' V' := by rw [hV]; exact (Aft.refl W').alloc _
    have rV : RowAt V' W'.heap.size y.1.row := by rw [hV]; exact box_row2 (Aft.refl _)
    unfold RP.row at hV
    rw [← hV]
    clear hV
    obtain ⟨Bx, hBx⟩ : ∃ Bx, Bx = W'.heap.size := ⟨_, rfl⟩
    rw [← hBx] at rV ⊢
    exact hK _ _ aV rV
  case body =>
    rintro l pre y Bx W' ⟨ha, hall⟩ hrow
    unfold RP.row at hrow
    obtain ⟨L, hL⟩ : ∃ L, ofVs x.t.cols y.1.r.cols row = L := ⟨_, rfl⟩
    obtain ⟨wh, hwh⟩ : ∃ b, wholeV L = b := ⟨_, rfl⟩
    obtain ⟨hs, hhs⟩ : ∃ b, hasR12 x.t.cols x.rows y.1.r.cols L = b := ⟨_, rfl⟩
    have V1 := Lib.hid (VAL.out y W' (HAW.out.trans (HAX.out.trans ha)))
    have H1 := Lib.hid (fun W1 W2 bs v => HASK.out y W1 W2 bs v)
    have HK2 := Lib.hid (show keyHit x.t x.rows row (RPx.r y) = (wh && hs) from by
      show keyHit x.t x.rows row y.1.r = _
      unfold keyHit
      rw [y.2.2.2, hL, hwh, hhs]; rfl)
    rw [hL] at V1 H1
    rw [hwh] at V1
    rw [hhs] at H1
    have HA := Lib.hid ha
    have HAL := Lib.hid hall
    have HRO := Lib.hid hrow
    obtain ⟨⟨c0, c1, c2, c3, c4⟩, ⟨z0, z1, z2, z3⟩, ⟨y0, y1, y2, y3, y4, y5, y6⟩⟩ := KF.out W' (HAX.out.trans ha)
    have t2 := hrow.cell (j := 2) rfl
    have tz := hrow.1
    clear ha hall hrow hL hwh hhs
    gi_wp2
    refine ⟨trivial, (CallsIn.inRound l (callsIn_wide.2 V1.out)).mono ?_⟩
    rintro e w1 ⟨v, rfl, a1, ho⟩
    have H2 := Lib.hid (fun z : Lat w1 => H1.out w1 (lat w1 z) _ v (HAW.out.trans (HAX.out.trans (HA.out.trans a1))) ho ((Aft.refl w1).lat z))
    have HA1 := Lib.hid a1
    have HRO1 := Lib.hid (HRO.out.aft a1)
    clear c0 c1 c2 c3 c4 z0 z1 z2 z3 y0 y1 y2 y3 y4 y5 y6 t2 tz ho V1 H1
    obtain ⟨⟨c0, c1, c2, c3, c4⟩, ⟨z0, z1, z2, z3⟩, ⟨y0, y1, y2, y3, y4, y5, y6⟩⟩ := KF.out w1 (HAX.out.trans (HA.out.trans a1))
    have t2 := HRO1.out.cell (j := 2) rfl
    have tz := HRO1.out.1
    clear a1
    cases wh
    · gi_wp2
      refine wpIn_region_latR (by kernel_rfl) (by kernel_rfl) (by kernel_rfl) ?_
      repeat (refine wpQuietIn_step asked_wide (fun K hK => ?_); go_simp; refine hK _ ?_; clear hK K)
      refine wpQuietIn_nil ?_
      intro _ hw'
      obtain ⟨z, hw''⟩ := hw'
      subst hw''
      gi_wp2
      have a9 := HA1.out.lat z
      exact ⟨(keepsO_aft a9).from _, ⟨Kc.of_aft a9, Below.mono a9 HA.out.size⟩, HA.out.trans a9, fun u hu => by
        rcases List.mem_append.1 hu with h | h
        · exact HAL.out u h
        · rw [List.mem_singleton] at h; rw [h, HK2.out]; rfl⟩
    · gi_wp2
      refine wpIn_region_latR (by kernel_rfl) (by kernel_rfl) (by kernel_rfl) ?_
      repeat (refine wpQuietIn_step asked_wide (fun K hK => ?_); go_simp; first | (refine hK _ ?_; clear hK K) | (apply Exists.intro; refine ⟨fun _ => ?_, hK _ ?_⟩; (exact CallsIn.lat_of (H2.out _) l); clear hK K))
      refine wpQuietIn_nil ?_
      intro _ hw'
      obtain ⟨z, hw''⟩ := hw'
      subst hw''
      cases hs
      · gi_wp2
        have a9 := HA1.out.lat z
        exact ⟨(keepsO_aft a9).from _, ⟨Kc.of_aft a9, Below.mono a9 HA.out.size⟩, HA.out.trans a9, fun u hu => by
          rcases List.mem_append.1 hu with h | h
          · exact HAL.out u h
          · rw [List.mem_singleton] at h; rw [h, HK2.out]; rfl⟩
      · have FIN := Lib.hid (show HitX w X x 2 (keyHit x.t x.rows row) (w.heap.size + 1 + 1 + 1) (.int .i64 111) Code.ret (pre ++ [y]) ((lat w1 z).setCell ⟨w.heap.size + 1 + 1 + 1, 0, none⟩ (.int .i64 111)) ∧ KeepsFrom X.heap.size W' ((lat w1 z).setCell ⟨w.heap.size + 1 + 1 + 1, 0, none⟩ (.int .i64 111)) from by
          have a9 := HA1.out.lat z
          have c9 := (KF.out _ (HAX.out.trans (HA.out.trans a9))).1.2.2.2.1
          exact ⟨⟨⟨rfl, y, by simp, by rw [HK2.out]; rfl⟩, (Kb.of_aft (HA.out.trans a9)).trans (Kb.set _ _ _ _), World.cell?_setCell_same' _ _ _ (by rw [c9]; rfl)⟩, ((keepsO_aft a9).trans (KeepsOthers.setCell _ _ _)).from _⟩)
        gi_wp2
        exact ⟨FIN.out.2, FIN.out.1⟩
  case stop =>
    rintro D c pre W' hD hSp ⟨⟨rfl, hy⟩, hk, hcell⟩ hK
    have HN := Lib.hid (show wrongS S q row = 111 by rw [HE.out, if_pos (hit_any hSp hy)])
    have HFI := Lib.hid (show (W'.putObj D (.deferred none)).cell? ⟨w.heap.size + 1 + 1 + 1, 0, none⟩ = some (.int .i64 111) ∧ Aft w (W'.putObj D (.deferred none)) from by
      have z9 := (HAW.out.trans HAX.out).size
      refine ⟨(World.cell?_of_block (World.putObj_heap_other (k := w.heap.size + 1 + 1 + 1) (by omega))).trans hcell, ?_⟩
      exact Kb.to_aft (P := fun g => w.heap.size ≤ g) ((hk.mono fun g _ e => by have e : g = w.heap.size + 1 + 1 + 1 := e; show w.heap.size ≤ g; omega).trans (Kb.put.mono fun g _ e => by have e : g = D := e; show w.heap.size ≤ g; omega)) (HAW.out.trans HAX.out) (fun k hk e => by have e : w.heap.size ≤ k := e; omega))
    clear hk hcell hSp hy
    gi_wp2
    refine ⟨by simp, .inl ⟨_, _, rfl, run_takeDeferred hK, ?_⟩⟩
    refine ⟨_, results_cell (v := .int .i64 111) rfl _ rfl (lvErr HFI.out.1), ?_⟩
    rw [HN.out]
    exact ⟨rfl, HFI.out.2⟩
  case done =>
    rintro D xs W' hD hS ⟨ha, hall⟩ hK
    have HE2 := Lib.hid (show wrongS S q row = if (ofK 4 x.t.rules).any (farHit S q row) then 112 else 0 by rw [HE.out, miss_any hS hall]; rfl)
    have HK1 := Lib.hid hK
    have HAY := Lib.hid (HAX.out.trans ha)
    have hzD : D < W'.heap.size := (Array.getElem?_eq_some_iff.1 hK).1
    have hDz := HAX.out.size
    have hD2 := z3
    clear c0 c1 c2 c3 c4 z0 z1 z2 z3 y0 y1 y2 y3 y4 y5 y6
    obtain ⟨⟨c0, c1, c2, c3, c4⟩, ⟨z0, z1, z2, z3⟩, ⟨y0, y1, y2, y3, y4, y5, y6⟩⟩ := KF.out W' HAY.out
    clear hK ha hall hS VAL HASK HE
    have VAL := Lib.hid (fun (y : RPx w x 4) (W' : World) (a : Aft w W') => values12 p x y.1.r.cols row y.1.a y.1.c B capB W' ⟨_, _, _, _, _, _, HSH.out.aft a⟩ (strs_aft a y.2.1) (vals_aft a HRW.out) (HOK.out.cols HXM.out y.2.2.1) HFM.out)
    have NAM := Lib.hid (fun (r : Rul) (vc : Value) (q2 : Nat) (W' : World) (a : Aft w W') (hq2 : shfAt S r.schema r.table = q2) => named12 s ps S r vc q2 W' (HST.out.aft a) hq2)
    have HASK := Lib.hid (show ∀ (q2 : Nat) (hq2 : q2 < ps.length) (hS2 : q2 < S.length) (L rows : _) (names : List ByteArray) (W2 : World) (v : Value) (bs : Nat) (W1 : World) (R : Option Addr) (cR : Nat) (K : Option Addr) (cK : Nat), Aft w W1 → W1.ownsRow bs 37 3 v (List.length L) (L.flatMap cellsV) → (Small (L.length * 16) ∧ ∀ v ∈ L, Small v.text.size) → Aft W1 W2 → SlAt W2 1 RowsR R cR rows → SlAt W2 1 StrR K cK names → OkN S[q2].t.cols names → (∀ r ∈ rows, besideB formB S[q2].t.cols r = true) →
        Calls Tryz.prog 105 #[.pointer (some ⟨ps[q2], 0, none⟩), .slice R (List.length rows) cR, .slice K names.length cK, v] W2 fun e w' => e = .returned (.bool (hasR12 S[q2].t.cols rows names L)) ∧ Aft W2 w' from fun q2 hq2 hS2 L rows names W2 v bs W1 R cR K cK a ho hL a2 hR hK ok hf => by
      obtain ⟨G, capG, rfl, hG⟩ := own_vals ho hL.1 hL.2
      exact has12 ps[q2] S[q2] rows names L R cR K cK G capG W2 ((HST.out.each q2 hq2 hS2).aft (a.trans a2)) hR hK (vals_aft a2 hG) ok hf)
    go_wp2_with fail
    refine (rules12 p 4 W').mono ?_
    rintro e X2 ⟨rfl, hX2⟩
    have aX2 : Aft W' X2 := by rw [hX2]; exact ((Aft.refl _).alloc _).alloc _
    have q1 : X2.cell? ⟨W'.heap.size, 0, none⟩ = some (.pointer (some ⟨p, 0, none⟩)) := by
      rw [hX2]
      refine (Aft.cell_kept ((Aft.refl _).alloc _) (?_ : (W'.alloc (.cells #[.pointer (some ⟨p, 0, none⟩)] 80)).cell? ⟨W'.heap.size, 0, none⟩ = _))
      exact World.cell?_alloc_at _ _ _ _ (by simp)
    have q2 : X2.cell? ⟨W'.heap.size + 1, 0, none⟩ = some (.int .i64 4) := by rw [hX2]; exact World.cell?_alloc_at _ _ _ _ (by simp)
    have QX2 := Lib.hid (And.intro q1 q2)
    have HAX2 := Lib.hid (HAY.out.trans aX2)
    have HK2 := Lib.hid ((aX2.block D hzD).trans HK1.out)
    have hzD2 : D < X2.heap.size := Nat.lt_of_lt_of_le hzD aX2.size
    clear hX2 q1 q2 aX2 c0 c1 c2 c3 c4 z0 z1 z2 z3 y0 y1 y2 y3 y4 y5 y6
    obtain ⟨⟨c0, c1, c2, c3, c4⟩, ⟨z0, z1, z2, z3⟩, ⟨y0, y1, y2, y3, y4, y5, y6⟩⟩ := KF.out X2 HAX2.out
    go_wp2_with fail
    refine range_rules (HAW.out.trans HAX2.out) HSH.out QX2.out.1 QX2.out.2 rfl rfl
      (fun pre W' => Aft X2 W' ∧ ∀ y ∈ pre, farHit S q row (RPx.r y) = false)
      (HitX w X2 x 4 (farHit S q row) (w.heap.size + 1 + 1 + 1) (.int .i64 112))
      (OwnFrom.and own_aftFrom (ownFrom_pure _ _)) (own_hit z3)
      ⟨Aft.refl _, fun y hy => by cases hy⟩
      (fun pre W V' h a => ⟨h.1.trans a, h.2⟩) (fun pre W h => h.1) ?F2
      ?assign2 ?body2 ?done2 ?stop2
    case assign2 =>
      intro l pre y W' K hi hK
      dsimp only [RPx.enc, RP.enc]
      have lw := Nat.lt_succ_self W'.heap.size
      gi_wp2
      obtain ⟨V', hV⟩ : ∃ V', V' = W'.alloc (.cells y.1.row.toArray 108) := ⟨_, rfl⟩
      have aV : Aft W' V' := by rw [hV]; exact (Aft.refl W').alloc _
      have rV : RowAt V' W'.heap.size y.1.row := by rw [hV]; exact box_row2 (Aft.refl _)
      unfold RP.row at hV
      rw [← hV]
      clear hV
      obtain ⟨Bx, hBx⟩ : ∃ Bx, Bx = W'.heap.size := ⟨_, rfl⟩
      rw [← hBx] at rV ⊢
      exact hK _ _ aV rV
    case body2 =>
      rintro l pre y Bx W' ⟨ha, hall⟩ hrow
      unfold RP.row at hrow
      obtain ⟨q2, hq2⟩ := HOK.out.far HXM.out y.2.2.1 (by simpa using y.2.2.2)
      have hq2l := shfAt_lt hq2
      have hq2p : q2 < ps.length := by have := HST.out.len; omega
      have hsn2 := shfN_get hq2l
      have hgd2 : ps.getD q2 0 = ps[q2] := by rw [List.getD_eq_getElem?_getD, List.getElem?_eq_getElem hq2p]; rfl
      obtain ⟨B1, u1, B2, u2, B3, u3, hsh2⟩ := HST.out.each q2 hq2p hq2l
      obtain ⟨L, hL⟩ : ∃ L, ofVs x.t.cols y.1.r.cols row = L := ⟨_, rfl⟩
      obtain ⟨wh, hwh⟩ : ∃ b, wholeV L = b := ⟨_, rfl⟩
      obtain ⟨kn, hkn⟩ : ∃ k, keyOf S[q2].t y.1.r.key = k := ⟨_, rfl⟩
      have HLS := Lib.hid (show Small (L.length * 16) ∧ ∀ v ∈ L, Small v.text.size by rw [← hL]; exact ofVs_small (HOK.out.cols HXM.out y.2.2.1) HFM.out HRS.out)
      have HKN := Lib.hid (show OkN S[q2].t.cols kn by rw [← hkn]; exact HOK.out.keyOf (List.getElem_mem hq2l) _)
      have V1 := Lib.hid (VAL.out y W' (HAW.out.trans (HAX2.out.trans ha)))
      have N1 := Lib.hid (fun (w1 : World) (a : Aft w w1) => NAM.out y.1.r (.slice y.1.a y.1.r.cols.length y.1.c) q2 w1 a hq2)
      have HFH := Lib.hid (show farHit S q row (RPx.r y) = (wh && !hasR12 S[q2].t.cols (amongS S q q2 row) kn L) from by
        show farHit S q row y.1.r = _
        unfold farHit
        rw [y.2.2.2, hq2, Int.toNat_natCast, HSN.out, hsn2, hL, hwh, hkn]; rfl)
      have HAM := Lib.hid (show amongS S q q2 row = if q2 = q then S[q2].rows ++ [row] else S[q2].rows by unfold amongS; rw [hsn2])
      rw [hL] at V1
      rw [hwh] at V1
      rw [hsn2, hgd2, hkn] at N1
      obtain ⟨p2, hp2⟩ : ∃ p2, ps[q2] = p2 := ⟨_, rfl⟩
      obtain ⟨x2, hx2⟩ : ∃ x2, S[q2] = x2 := ⟨_, rfl⟩
      have CH := Lib.hid (HASK.out q2 hq2p hq2l L)
      have HFA := Lib.hid (HOK.out.form S[q2] (List.getElem_mem hq2l))
      rw [hp2, hx2] at CH
      rw [hp2] at hsh2 N1
      rw [hx2] at hsh2 HAM HFH HKN HFA
      have HX2E := Lib.hid hx2
      have hpp : p2 = p ↔ q2 = q := by
        rw [← hp2, ← HPQ.out]
        exact ⟨fun e => (List.getElem_inj HST.out.nd).1 e, fun e => by subst e; rfl⟩
      have HS2 := Lib.hid hsh2
      have HPP := Lib.hid hpp
      have HA := Lib.hid ha
      have HAL := Lib.hid hall
      have HRO := Lib.hid hrow
      clear c0 c1 c2 c3 c4 z0 z1 z2 z3 y0 y1 y2 y3 y4 y5 y6
      obtain ⟨⟨c0, c1, c2, c3, c4⟩, ⟨z0, z1, z2, z3⟩, ⟨y0, y1, y2, y3, y4, y5, y6⟩⟩ := KF.out W' (HAX2.out.trans ha)
      have t2 := hrow.cell (j := 2) rfl
      have tz := hrow.1
      clear ha hall hrow hL hwh hkn hq2 hsn2 hgd2 hp2 hx2 hsh2 hpp HASK VAL NAM
      gi_wp2
      refine ⟨trivial, (CallsIn.inRound l (callsIn_wide.2 V1.out)).mono ?_⟩
      rintro e w1 ⟨v, rfl, a1, ho⟩
      have HO1 := Lib.hid ho
      have HA1 := Lib.hid a1
      have HAw1 := Lib.hid (HAW.out.trans (HAX2.out.trans (HA.out.trans a1)))
      have HRO1 := Lib.hid (HRO.out.aft a1)
      clear c0 c1 c2 c3 c4 z0 z1 z2 z3 y0 y1 y2 y3 y4 y5 y6 t2 tz ho V1
      obtain ⟨⟨c0, c1, c2, c3, c4⟩, ⟨z0, z1, z2, z3⟩, ⟨y0, y1, y2, y3, y4, y5, y6⟩⟩ := KF.out w1 (HAX2.out.trans (HA.out.trans a1))
      have t0 := HRO1.out.cell (j := 0) rfl
      have t1 := HRO1.out.cell (j := 1) rfl
      have t2 := HRO1.out.cell (j := 2) rfl
      have t3 := HRO1.out.cell (j := 3) rfl
      have t4 := HRO1.out.cell (j := 4) rfl
      have t5 := HRO1.out.cell (j := 5) rfl
      have t6 := HRO1.out.cell (j := 6) rfl
      have t7 := HRO1.out.cell (j := 7) rfl
      have tz := HRO1.out.1
      clear a1
      have N2 := Lib.hid (N1.out w1 HAw1.out)
      gi_wp2
      refine ⟨trivial, (CallsIn.inRound l (callsIn_wide.2 N2.out)).mono ?_⟩
      rintro e w2 ⟨K2, k2, rfl, a2, hkn⟩
      have HAw2 := Lib.hid (HAw1.out.trans a2)
      have HKS := Lib.hid hkn
      have HA2 := Lib.hid a2
      clear c0 c1 c2 c3 c4 z0 z1 z2 z3 y0 y1 y2 y3 y4 y5 y6 t0 t1 t2 t3 t4 t5 t6 t7 tz hkn N1 N2
      obtain ⟨⟨c0, c1, c2, c3, c4⟩, ⟨z0, z1, z2, z3⟩, ⟨y0, y1, y2, y3, y4, y5, y6⟩⟩ := KF.out w2 (HAX2.out.trans (HA.out.trans (HA1.out.trans a2)))
      have s5 := (HS2.out.row.aft HAw2.out).cell (j := 5) rfl
      have sz := (HS2.out.row.aft HAw2.out).1
      have HB1 := Lib.hid (HSH.out.aft HAw2.out).hb
      have HB2 := Lib.hid (HS2.out.aft HAw2.out).hb
      clear a2
      by_cases hqq : q2 = q
      · have hpq := HPP.out.2 hqq
        subst hqq
        subst hpq
        have hpe := eqPtr_same w2 p2
        have hmx : Tryz.prog.follows .mixedOrders = true := by kernel_rfl
        have hr64 : x2.rows.length ≤ 64 := HOK.out.most x2 (by rw [← HX2E.out]; exact List.getElem_mem hq2l)
        have CL := Lib.hid (fun (W9 : World) (a : Aft w2 W9) => clone2Row B3 u3 x2.rows w2 W9 a (rows_aft HAw2.out HS2.out.rows) (by omega))
        have K5 := Lib.hid (show ∀ W9, Aft w2 W9 → W9.cell? ⟨w.heap.size + 1 + 1, 0, none⟩ = some (.slice B row.length capB) ∧ w.heap.size + 1 + 1 < W9.heap.size from fun W9 a => ⟨a.cell_kept c2, Nat.lt_of_lt_of_le z2 a.size⟩)
        have HRWw := Lib.hid (vals_aft HAw2.out HRW.out)
        have hxx : x2 = x := by rw [← HX2E.out, ← shfN_get hq2l]; exact HSN.out
        obtain ⟨hs, hhs⟩ : ∃ b, hasR12 x2.t.cols (x2.rows ++ [row]) kn L = b := ⟨_, rfl⟩
        have HF0 := Lib.hid (show farHit S q2 row (RPx.r y) = (wh && !hs) by rw [HFH.out, HAM.out, if_pos rfl, hhs])
        have CH2 := Lib.hid (show ∀ (w5 : World) (a5 : Option Addr) (c5 : Nat), Aft w2 w5 → SlAt w5 1 RowsR a5 c5 (x2.rows ++ [row]) → Calls Tryz.prog 105 #[.pointer (some ⟨p2, 0, none⟩), .slice a5 (x2.rows.length + 1) c5, .slice K2 kn.length k2, v] w5 fun e w' => e = .returned (.bool hs) ∧ Aft w5 w' from fun w5 a5 c5 a hr => by
          have := CH.out (x2.rows ++ [row]) kn w5 v W'.heap.size w1 a5 c5 K2 k2 HAw1.out HO1.out HLS.out (HA2.out.trans a) hr (strs_aft a HKS.out) HKN.out (fun r h => by
            rcases List.mem_append.1 h with h | h
            · exact HFA.out r h
            · rw [List.mem_singleton] at h; rw [h, hxx]; exact HFM.out)
          rw [hhs] at this
          simpa using this)
        have FINH := Lib.hid (show ∀ w6, Aft W' w6 → farHit S q2 row (RPx.r y) = true → HitX w X2 x 4 (farHit S q2 row) (w.heap.size + 1 + 1 + 1) (.int .i64 112) Code.ret (pre ++ [y]) (w6.setCell ⟨w.heap.size + 1 + 1 + 1, 0, none⟩ (.int .i64 112)) ∧ KeepsFrom X2.heap.size W' (w6.setCell ⟨w.heap.size + 1 + 1 + 1, 0, none⟩ (.int .i64 112)) from fun w6 a hf => by
          have c9 := (KF.out _ (HAX2.out.trans (HA.out.trans a))).1.2.2.2.1
          exact ⟨⟨⟨rfl, y, by simp, hf⟩, (Kb.of_aft (HA.out.trans a)).trans (Kb.set _ _ _ _), World.cell?_setCell_same' _ _ _ (by rw [c9]; rfl)⟩, ((keepsO_aft a).trans (KeepsOthers.setCell _ _ _)).from _⟩)
        clear hhs hxx
        gi_wp2
        refine wpIn_region_any hmx ?_
        change wpAnyIn _ _ _ _ _ _ _ _ _ (World.drew _)
        refine wpAnyIn_ready (rs := [0, 2]) (by kernel_rfl) (by simp) ?_
        refine AllReadyIn.cons rfl (fun K hK => ?_) (AllReadyIn.cons rfl (fun K hK => ?_) AllReadyIn.nil)
        · go_simp
          refine hK _ _ ?_
          clear hK K
          refine wpAnyIn_ready (rs := [1, 2]) (by kernel_rfl) (by simp) ?_
          refine AllReadyIn.cons rfl (fun K hK => ?_) (AllReadyIn.cons rfl (fun K hK => ?_) AllReadyIn.nil)
          · go_simp
            refine ⟨trivial, (CallsIn.inRound l (callsIn_wide.2 (CL.out _ ((Aft.refl _).drew)))).mono ?_⟩
            rintro e w4 ⟨v4, css, rfl, a4, ho4, hc4⟩
            have a4' : Aft w2 w4 := ((Aft.refl _).drew).trans a4
            obtain ⟨d5, dz5⟩ := K5.out w4 a4'
            obtain ⟨a5, c5, w5, hr5, HF5⟩ := app_row (w4 := w4.alloc (.cells #[.slice B row.length capB] 34)) (bb := w4.heap.size) (a4'.alloc _) (Nat.le_refl _) (own_aft ho4 ((Aft.refl _).alloc _)) hc4 HRWw.out hr64 (World.cell?_alloc_at _ _ _ _ rfl) (by have := a4'.size; simp; omega)
            have HR5 := Lib.hid hr5
            clear a4 ho4 hc4 a4' hr5
            dsimp only
            refine hK _ _ ?_
            clear hK K
            refine wpAnyIn_ready (rs := [2]) (by kernel_rfl) (by simp) ?_
            refine AllReadyIn.cons rfl (fun K hK => ?_) AllReadyIn.nil
            go_simp
            refine hK _ _ ?_
            clear hK K
            refine wpAnyIn_ready (rs := [3]) (by kernel_rfl) (by simp) ?_
            refine AllReadyIn.cons rfl (fun K hK => ?_) AllReadyIn.nil
            go_simp
            refine hK _ _ ?_
            clear hK K
            refine wpAnyIn_ready (rs := [4]) (by kernel_rfl) (by simp) ?_
            refine AllReadyIn.cons rfl (fun K hK => ?_) AllReadyIn.nil
            refine stepIn_run rfl _ _ _ rfl rfl rfl HR5.out ?_
            refine hK _ _ ?_
            clear hK K
            refine wpAnyIn_ready (rs := [5]) (by kernel_rfl) (by simp) ?_
            refine AllReadyIn.cons rfl (fun K hK => ?_) AllReadyIn.nil
            go_simp
            refine hK _ _ ?_
            clear hK K
            refine wpAnyIn_done (by kernel_rfl) ?_ _
            cases wh
            · gi_wp2
              refine ⟨trivial, ?_⟩
              gi_wp2
              have a9 := HA1.out.trans (HA2.out.trans HF5.out.1)
              exact ⟨(keepsO_aft a9).from _, ⟨Kc.of_aft a9, Below.mono a9 HA.out.size⟩, HA.out.trans a9, all_snoc HAL.out (by rw [HF0.out]; rfl)⟩
            · have C9 := Lib.hid (CH2.out w5 a5 c5 HF5.out.1 HF5.out.2)
              gi_wp2
              refine ⟨trivial, (CallsIn.inRound l (callsIn_wide.2 C9.out)).mono ?_⟩
              rintro e w6 ⟨rfl, a6⟩
              have HA4 := Lib.hid (HA1.out.trans (HA2.out.trans (HF5.out.1.trans a6)))
              clear a6
              cases hs
              · have FIN := Lib.hid (FINH.out w6 HA4.out (by rw [HF0.out]; rfl))
                obtain ⟨⟨c0, c1, c2, c3, c4⟩, ⟨z0, z1, z2, z3⟩, _⟩ := KF.out w6 (HAX2.out.trans (HA.out.trans HA4.out))
                gi_wp2
                exact ⟨FIN.out.2, FIN.out.1⟩
              · gi_wp2
                exact ⟨(keepsO_aft HA4.out).from _, ⟨Kc.of_aft HA4.out, Below.mono HA4.out HA.out.size⟩, HA.out.trans HA4.out, all_snoc HAL.out (by rw [HF0.out]; rfl)⟩
          · go_simp
            refine hK _ _ ?_
            clear hK K
            refine wpAnyIn_ready (rs := [1, 3]) (by kernel_rfl) (by simp) ?_
            refine AllReadyIn.cons rfl (fun K hK => ?_) (AllReadyIn.cons rfl (fun K hK => ?_) AllReadyIn.nil)
            · go_simp
              refine ⟨trivial, (CallsIn.inRound l (callsIn_wide.2 (CL.out _ ((Aft.refl _).drew)))).mono ?_⟩
              rintro e w4 ⟨v4, css, rfl, a4, ho4, hc4⟩
              have a4' : Aft w2 w4 := ((Aft.refl _).drew).trans a4
              obtain ⟨d5, dz5⟩ := K5.out w4 a4'
              obtain ⟨a5, c5, w5, hr5, HF5⟩ := app_row (w4 := w4.alloc (.cells #[.slice B row.length capB] 34)) (bb := w4.heap.size) (a4'.alloc _) (Nat.le_refl _) (own_aft ho4 ((Aft.refl _).alloc _)) hc4 HRWw.out hr64 (World.cell?_alloc_at _ _ _ _ rfl) (by have := a4'.size; simp; omega)
              have HR5 := Lib.hid hr5
              clear a4 ho4 hc4 a4' hr5
              dsimp only
              refine hK _ _ ?_
              clear hK K
              refine wpAnyIn_ready (rs := [3]) (by kernel_rfl) (by simp) ?_
              refine AllReadyIn.cons rfl (fun K hK => ?_) AllReadyIn.nil
              go_simp
              refine hK _ _ ?_
              clear hK K
              refine wpAnyIn_ready (rs := [4]) (by kernel_rfl) (by simp) ?_
              refine AllReadyIn.cons rfl (fun K hK => ?_) AllReadyIn.nil
              refine stepIn_run rfl _ _ _ rfl rfl rfl HR5.out ?_
              refine hK _ _ ?_
              clear hK K
              refine wpAnyIn_ready (rs := [5]) (by kernel_rfl) (by simp) ?_
              refine AllReadyIn.cons rfl (fun K hK => ?_) AllReadyIn.nil
              go_simp
              refine hK _ _ ?_
              clear hK K
              refine wpAnyIn_done (by kernel_rfl) ?_ _
              cases wh
              · gi_wp2
                refine ⟨trivial, ?_⟩
                gi_wp2
                have a9 := HA1.out.trans (HA2.out.trans HF5.out.1)
                exact ⟨(keepsO_aft a9).from _, ⟨Kc.of_aft a9, Below.mono a9 HA.out.size⟩, HA.out.trans a9, all_snoc HAL.out (by rw [HF0.out]; rfl)⟩
              · have C9 := Lib.hid (CH2.out w5 a5 c5 HF5.out.1 HF5.out.2)
                gi_wp2
                refine ⟨trivial, (CallsIn.inRound l (callsIn_wide.2 C9.out)).mono ?_⟩
                rintro e w6 ⟨rfl, a6⟩
                have HA4 := Lib.hid (HA1.out.trans (HA2.out.trans (HF5.out.1.trans a6)))
                clear a6
                cases hs
                · have FIN := Lib.hid (FINH.out w6 HA4.out (by rw [HF0.out]; rfl))
                  obtain ⟨⟨c0, c1, c2, c3, c4⟩, ⟨z0, z1, z2, z3⟩, _⟩ := KF.out w6 (HAX2.out.trans (HA.out.trans HA4.out))
                  gi_wp2
                  exact ⟨FIN.out.2, FIN.out.1⟩
                · gi_wp2
                  exact ⟨(keepsO_aft HA4.out).from _, ⟨Kc.of_aft HA4.out, Below.mono HA4.out HA.out.size⟩, HA.out.trans HA4.out, all_snoc HAL.out (by rw [HF0.out]; rfl)⟩
            · go_simp
              refine hK _ _ ?_
              clear hK K
              refine wpAnyIn_ready (rs := [1]) (by kernel_rfl) (by simp) ?_
              refine AllReadyIn.cons rfl (fun K hK => ?_) AllReadyIn.nil
              go_simp
              refine ⟨trivial, (CallsIn.inRound l (callsIn_wide.2 (CL.out _ ((Aft.refl _).drew.alloc _)))).mono ?_⟩
              rintro e w4 ⟨v4, css, rfl, a4, ho4, hc4⟩
              have a4' : Aft w2 w4 := ((Aft.refl _).drew.alloc _).trans a4
              obtain ⟨a5, c5, w5, hr5, HF5⟩ := app_row (w4 := w4) (bb := w2.heap.size) a4' (by simp) ho4 hc4 HRWw.out hr64 (a4.cell_kept (World.cell?_alloc_at _ _ _ _ rfl)) (by have := a4.size; simpa using this)
              have HR5 := Lib.hid hr5
              clear a4 ho4 hc4 a4' hr5
              dsimp only
              refine hK _ _ ?_
              clear hK K
              refine wpAnyIn_ready (rs := [4]) (by kernel_rfl) (by simp) ?_
              refine AllReadyIn.cons rfl (fun K hK => ?_) AllReadyIn.nil
              refine stepIn_run rfl _ _ _ rfl rfl rfl HR5.out ?_
              refine hK _ _ ?_
              clear hK K
              refine wpAnyIn_ready (rs := [5]) (by kernel_rfl) (by simp) ?_
              refine AllReadyIn.cons rfl (fun K hK => ?_) AllReadyIn.nil
              go_simp
              refine hK _ _ ?_
              clear hK K
              refine wpAnyIn_done (by kernel_rfl) ?_ _
              cases wh
              · gi_wp2
                refine ⟨trivial, ?_⟩
                gi_wp2
                have a9 := HA1.out.trans (HA2.out.trans HF5.out.1)
                exact ⟨(keepsO_aft a9).from _, ⟨Kc.of_aft a9, Below.mono a9 HA.out.size⟩, HA.out.trans a9, all_snoc HAL.out (by rw [HF0.out]; rfl)⟩
              · have C9 := Lib.hid (CH2.out w5 a5 c5 HF5.out.1 HF5.out.2)
                gi_wp2
                refine ⟨trivial, (CallsIn.inRound l (callsIn_wide.2 C9.out)).mono ?_⟩
                rintro e w6 ⟨rfl, a6⟩
                have HA4 := Lib.hid (HA1.out.trans (HA2.out.trans (HF5.out.1.trans a6)))
                clear a6
                cases hs
                · have FIN := Lib.hid (FINH.out w6 HA4.out (by rw [HF0.out]; rfl))
                  obtain ⟨⟨c0, c1, c2, c3, c4⟩, ⟨z0, z1, z2, z3⟩, _⟩ := KF.out w6 (HAX2.out.trans (HA.out.trans HA4.out))
                  gi_wp2
                  exact ⟨FIN.out.2, FIN.out.1⟩
                · gi_wp2
                  exact ⟨(keepsO_aft HA4.out).from _, ⟨Kc.of_aft HA4.out, Below.mono HA4.out HA.out.size⟩, HA.out.trans HA4.out, all_snoc HAL.out (by rw [HF0.out]; rfl)⟩
        · go_simp
          refine hK _ _ ?_
          clear hK K
          refine wpAnyIn_ready (rs := [0, 3]) (by kernel_rfl) (by simp) ?_
          refine AllReadyIn.cons rfl (fun K hK => ?_) (AllReadyIn.cons rfl (fun K hK => ?_) AllReadyIn.nil)
          · go_simp
            refine hK _ _ ?_
            clear hK K
            refine wpAnyIn_ready (rs := [1, 3]) (by kernel_rfl) (by simp) ?_
            refine AllReadyIn.cons rfl (fun K hK => ?_) (AllReadyIn.cons rfl (fun K hK => ?_) AllReadyIn.nil)
            · go_simp
              refine ⟨trivial, (CallsIn.inRound l (callsIn_wide.2 (CL.out _ ((Aft.refl _).drew)))).mono ?_⟩
              rintro e w4 ⟨v4, css, rfl, a4, ho4, hc4⟩
              have a4' : Aft w2 w4 := ((Aft.refl _).drew).trans a4
              obtain ⟨d5, dz5⟩ := K5.out w4 a4'
              obtain ⟨a5, c5, w5, hr5, HF5⟩ := app_row (w4 := w4.alloc (.cells #[.slice B row.length capB] 34)) (bb := w4.heap.size) (a4'.alloc _) (Nat.le_refl _) (own_aft ho4 ((Aft.refl _).alloc _)) hc4 HRWw.out hr64 (World.cell?_alloc_at _ _ _ _ rfl) (by have := a4'.size; simp; omega)
              have HR5 := Lib.hid hr5
              clear a4 ho4 hc4 a4' hr5
              dsimp only
              refine hK _ _ ?_
              clear hK K
              refine wpAnyIn_ready (rs := [3]) (by kernel_rfl) (by simp) ?_
              refine AllReadyIn.cons rfl (fun K hK => ?_) AllReadyIn.nil
              go_simp
              refine hK _ _ ?_
              clear hK K
              refine wpAnyIn_ready (rs := [4]) (by kernel_rfl) (by simp) ?_
              refine AllReadyIn.cons rfl (fun K hK => ?_) AllReadyIn.nil
              refine stepIn_run rfl _ _ _ rfl rfl rfl HR5.out ?_
              refine hK _ _ ?_
              clear hK K
              refine wpAnyIn_ready (rs := [5]) (by kernel_rfl) (by simp) ?_
              refine AllReadyIn.cons rfl (fun K hK => ?_) AllReadyIn.nil
              go_simp
              refine hK _ _ ?_
              clear hK K
              refine wpAnyIn_done (by kernel_rfl) ?_ _
              cases wh
              · gi_wp2
                refine ⟨trivial, ?_⟩
                gi_wp2
                have a9 := HA1.out.trans (HA2.out.trans HF5.out.1)
                exact ⟨(keepsO_aft a9).from _, ⟨Kc.of_aft a9, Below.mono a9 HA.out.size⟩, HA.out.trans a9, all_snoc HAL.out (by rw [HF0.out]; rfl)⟩
              · have C9 := Lib.hid (CH2.out w5 a5 c5 HF5.out.1 HF5.out.2)
                gi_wp2
                refine ⟨trivial, (CallsIn.inRound l (callsIn_wide.2 C9.out)).mono ?_⟩
                rintro e w6 ⟨rfl, a6⟩
                have HA4 := Lib.hid (HA1.out.trans (HA2.out.trans (HF5.out.1.trans a6)))
                clear a6
                cases hs
                · have FIN := Lib.hid (FINH.out w6 HA4.out (by rw [HF0.out]; rfl))
                  obtain ⟨⟨c0, c1, c2, c3, c4⟩, ⟨z0, z1, z2, z3⟩, _⟩ := KF.out w6 (HAX2.out.trans (HA.out.trans HA4.out))
                  gi_wp2
                  exact ⟨FIN.out.2, FIN.out.1⟩
                · gi_wp2
                  exact ⟨(keepsO_aft HA4.out).from _, ⟨Kc.of_aft HA4.out, Below.mono HA4.out HA.out.size⟩, HA.out.trans HA4.out, all_snoc HAL.out (by rw [HF0.out]; rfl)⟩
            · go_simp
              refine hK _ _ ?_
              clear hK K
              refine wpAnyIn_ready (rs := [1]) (by kernel_rfl) (by simp) ?_
              refine AllReadyIn.cons rfl (fun K hK => ?_) AllReadyIn.nil
              go_simp
              refine ⟨trivial, (CallsIn.inRound l (callsIn_wide.2 (CL.out _ ((Aft.refl _).drew.alloc _)))).mono ?_⟩
              rintro e w4 ⟨v4, css, rfl, a4, ho4, hc4⟩
              have a4' : Aft w2 w4 := ((Aft.refl _).drew.alloc _).trans a4
              obtain ⟨a5, c5, w5, hr5, HF5⟩ := app_row (w4 := w4) (bb := w2.heap.size) a4' (by simp) ho4 hc4 HRWw.out hr64 (a4.cell_kept (World.cell?_alloc_at _ _ _ _ rfl)) (by have := a4.size; simpa using this)
              have HR5 := Lib.hid hr5
              clear a4 ho4 hc4 a4' hr5
              dsimp only
              refine hK _ _ ?_
              clear hK K
              refine wpAnyIn_ready (rs := [4]) (by kernel_rfl) (by simp) ?_
              refine AllReadyIn.cons rfl (fun K hK => ?_) AllReadyIn.nil
              refine stepIn_run rfl _ _ _ rfl rfl rfl HR5.out ?_
              refine hK _ _ ?_
              clear hK K
              refine wpAnyIn_ready (rs := [5]) (by kernel_rfl) (by simp) ?_
              refine AllReadyIn.cons rfl (fun K hK => ?_) AllReadyIn.nil
              go_simp
              refine hK _ _ ?_
              clear hK K
              refine wpAnyIn_done (by kernel_rfl) ?_ _
              cases wh
              · gi_wp2
                refine ⟨trivial, ?_⟩
                gi_wp2
                have a9 := HA1.out.trans (HA2.out.trans HF5.out.1)
                exact ⟨(keepsO_aft a9).from _, ⟨Kc.of_aft a9, Below.mono a9 HA.out.size⟩, HA.out.trans a9, all_snoc HAL.out (by rw [HF0.out]; rfl)⟩
              · have C9 := Lib.hid (CH2.out w5 a5 c5 HF5.out.1 HF5.out.2)
                gi_wp2
                refine ⟨trivial, (CallsIn.inRound l (callsIn_wide.2 C9.out)).mono ?_⟩
                rintro e w6 ⟨rfl, a6⟩
                have HA4 := Lib.hid (HA1.out.trans (HA2.out.trans (HF5.out.1.trans a6)))
                clear a6
                cases hs
                · have FIN := Lib.hid (FINH.out w6 HA4.out (by rw [HF0.out]; rfl))
                  obtain ⟨⟨c0, c1, c2, c3, c4⟩, ⟨z0, z1, z2, z3⟩, _⟩ := KF.out w6 (HAX2.out.trans (HA.out.trans HA4.out))
                  gi_wp2
                  exact ⟨FIN.out.2, FIN.out.1⟩
                · gi_wp2
                  exact ⟨(keepsO_aft HA4.out).from _, ⟨Kc.of_aft HA4.out, Below.mono HA4.out HA.out.size⟩, HA.out.trans HA4.out, all_snoc HAL.out (by rw [HF0.out]; rfl)⟩
          · go_simp
            refine hK _ _ ?_
            clear hK K
            refine wpAnyIn_ready (rs := [0]) (by kernel_rfl) (by simp) ?_
            refine AllReadyIn.cons rfl (fun K hK => ?_) AllReadyIn.nil
            go_simp
            refine hK _ _ ?_
            clear hK K
            refine wpAnyIn_ready (rs := [1]) (by kernel_rfl) (by simp) ?_
            refine AllReadyIn.cons rfl (fun K hK => ?_) AllReadyIn.nil
            go_simp
            refine ⟨trivial, (CallsIn.inRound l (callsIn_wide.2 (CL.out _ ((Aft.refl _).drew.alloc _)))).mono ?_⟩
            rintro e w4 ⟨v4, css, rfl, a4, ho4, hc4⟩
            have a4' : Aft w2 w4 := ((Aft.refl _).drew.alloc _).trans a4
            obtain ⟨a5, c5, w5, hr5, HF5⟩ := app_row (w4 := w4) (bb := w2.heap.size) a4' (by simp) ho4 hc4 HRWw.out hr64 (a4.cell_kept (World.cell?_alloc_at _ _ _ _ rfl)) (by have := a4.size; simpa using this)
            have HR5 := Lib.hid hr5
            clear a4 ho4 hc4 a4' hr5
            dsimp only
            refine hK _ _ ?_
            clear hK K
            refine wpAnyIn_ready (rs := [4]) (by kernel_rfl) (by simp) ?_
            refine AllReadyIn.cons rfl (fun K hK => ?_) AllReadyIn.nil
            refine stepIn_run rfl _ _ _ rfl rfl rfl HR5.out ?_
            refine hK _ _ ?_
            clear hK K
            refine wpAnyIn_ready (rs := [5]) (by kernel_rfl) (by simp) ?_
            refine AllReadyIn.cons rfl (fun K hK => ?_) AllReadyIn.nil
            go_simp
            refine hK _ _ ?_
            clear hK K
            refine wpAnyIn_done (by kernel_rfl) ?_ _
            cases wh
            · gi_wp2
              refine ⟨trivial, ?_⟩
              gi_wp2
              have a9 := HA1.out.trans (HA2.out.trans HF5.out.1)
              exact ⟨(keepsO_aft a9).from _, ⟨Kc.of_aft a9, Below.mono a9 HA.out.size⟩, HA.out.trans a9, all_snoc HAL.out (by rw [HF0.out]; rfl)⟩
            · have C9 := Lib.hid (CH2.out w5 a5 c5 HF5.out.1 HF5.out.2)
              gi_wp2
              refine ⟨trivial, (CallsIn.inRound l (callsIn_wide.2 C9.out)).mono ?_⟩
              rintro e w6 ⟨rfl, a6⟩
              have HA4 := Lib.hid (HA1.out.trans (HA2.out.trans (HF5.out.1.trans a6)))
              clear a6
              cases hs
              · have FIN := Lib.hid (FINH.out w6 HA4.out (by rw [HF0.out]; rfl))
                obtain ⟨⟨c0, c1, c2, c3, c4⟩, ⟨z0, z1, z2, z3⟩, _⟩ := KF.out w6 (HAX2.out.trans (HA.out.trans HA4.out))
                gi_wp2
                exact ⟨FIN.out.2, FIN.out.1⟩
              · gi_wp2
                exact ⟨(keepsO_aft HA4.out).from _, ⟨Kc.of_aft HA4.out, Below.mono HA4.out HA.out.size⟩, HA.out.trans HA4.out, all_snoc HAL.out (by rw [HF0.out]; rfl)⟩
      · have hn1 : ¬ p2 = p := fun e => hqq (HPP.out.1 e)
        have hn2 : ¬ p = p2 := fun e => hn1 e.symm
        have HNQ := Lib.hid hqq
        have hpe := eqPtr_other hn1 HB2.out HB1.out
        clear hqq hn1 hn2
        cases wh
        · have HF0 := Lib.hid (show farHit S q row (RPx.r y) = false by rw [HFH.out]; rfl)
          gi_wp2
          refine ⟨trivial, ?_⟩
          gi_wp2
          have a9 := HA1.out.trans HA2.out
          exact ⟨(keepsO_aft a9).from _, ⟨Kc.of_aft a9, Below.mono a9 HA.out.size⟩, HA.out.trans a9, fun u hu => by
            rcases List.mem_append.1 hu with h | h
            · exact HAL.out u h
            · rw [List.mem_singleton] at h; rw [h, HF0.out]⟩
        · obtain ⟨hs, hhs⟩ : ∃ b, hasR12 x2.t.cols x2.rows kn L = b := ⟨_, rfl⟩
          have HF0 := Lib.hid (show farHit S q row (RPx.r y) = !hs by rw [HFH.out, HAM.out, if_neg HNQ.out, hhs]; rfl)
          have C9 := Lib.hid (CH.out x2.rows kn w2 v W'.heap.size w1 B3 u3 K2 k2 HAw1.out HO1.out HLS.out HA2.out (rows_aft HAw2.out HS2.out.rows) HKS.out HKN.out HFA.out)
          rw [hhs] at C9
          clear hhs
          gi_wp2
          refine ⟨trivial, (CallsIn.inRound l (callsIn_wide.2 C9.out)).mono ?_⟩
          rintro e w4 ⟨rfl, a4⟩
          have HA4 := Lib.hid (HA1.out.trans (HA2.out.trans a4))
          clear a4
          cases hs
          · have FIN := Lib.hid (show HitX w X2 x 4 (farHit S q row) (w.heap.size + 1 + 1 + 1) (.int .i64 112) Code.ret (pre ++ [y]) (w4.setCell ⟨w.heap.size + 1 + 1 + 1, 0, none⟩ (.int .i64 112)) ∧ KeepsFrom X2.heap.size W' (w4.setCell ⟨w.heap.size + 1 + 1 + 1, 0, none⟩ (.int .i64 112)) from by
              have c9 := (KF.out _ (HAX2.out.trans (HA.out.trans HA4.out))).1.2.2.2.1
              exact ⟨⟨⟨rfl, y, by simp, by rw [HF0.out]; rfl⟩, (Kb.of_aft (HA.out.trans HA4.out)).trans (Kb.set _ _ _ _), World.cell?_setCell_same' _ _ _ (by rw [c9]; rfl)⟩, ((keepsO_aft HA4.out).trans (KeepsOthers.setCell _ _ _)).from _⟩)
            clear c0 c1 c2 c3 c4 z0 z1 z2 z3
            obtain ⟨⟨c0, c1, c2, c3, c4⟩, ⟨z0, z1, z2, z3⟩, _⟩ := KF.out w4 (HAX2.out.trans (HA.out.trans HA4.out))
            gi_wp2
            exact ⟨FIN.out.2, FIN.out.1⟩
          · gi_wp2
            exact ⟨(keepsO_aft HA4.out).from _, ⟨Kc.of_aft HA4.out, Below.mono HA4.out HA.out.size⟩, HA.out.trans HA4.out, fun u hu => by
              rcases List.mem_append.1 hu with h | h
              · exact HAL.out u h
              · rw [List.mem_singleton] at h; rw [h, HF0.out]; rfl⟩
    case stop2 =>
      rintro D2 c pre W' hD2' hSp ⟨⟨rfl, hy⟩, hk, hcell⟩ hK
      have HN := Lib.hid (show wrongS S q row = 112 by rw [HE2.out, if_pos (hit_any hSp hy)])
      have HFI := Lib.hid (show ((W'.putObj D2 (.deferred none)).heap[D]? = some (.deferred (some []))) ∧ ((W'.putObj D2 (.deferred none)).putObj D (.deferred none)).cell? ⟨w.heap.size + 1 + 1 + 1, 0, none⟩ = some (.int .i64 112) ∧ Aft w ((W'.putObj D2 (.deferred none)).putObj D (.deferred none)) from by
        have z9 := (HAW.out.trans HAX2.out).size
        refine ⟨?_, ?_, ?_⟩
        · rw [World.putObj_heap_other (by omega), hk.block D hzD2 (fun e => by have e : D = w.heap.size + 1 + 1 + 1 := e; omega)]
          exact HK2.out
        · exact (World.cell?_of_block (World.putObj_heap_other (k := w.heap.size + 1 + 1 + 1) (by omega))).trans ((World.cell?_of_block (World.putObj_heap_other (k := w.heap.size + 1 + 1 + 1) (by omega))).trans hcell)
        · exact Kb.to_aft (P := fun g => w.heap.size ≤ g) (((hk.mono fun g _ e => by have e : g = w.heap.size + 1 + 1 + 1 := e; show w.heap.size ≤ g; omega).trans (Kb.put.mono fun g _ e => by have e : g = D2 := e; show w.heap.size ≤ g; omega)).trans (Kb.put.mono fun g _ e => by have e : g = D := e; show w.heap.size ≤ g; omega)) (HAW.out.trans HAX2.out) (fun k hk e => by have e : w.heap.size ≤ k := e; omega))
      clear hk hcell hSp hy
      gi_wp2
      refine ⟨by simp, .inl ⟨_, _, rfl, run_takeDeferred hK, ?_⟩⟩
      refine ⟨by simp, .inl ⟨_, _, rfl, run_takeDeferred HFI.out.1, ?_⟩⟩
      refine ⟨_, results_cell (v := .int .i64 112) rfl _ rfl (lvErr HFI.out.2.1), ?_⟩
      rw [HN.out]
      exact ⟨rfl, HFI.out.2.2⟩
    case done2 =>
      rintro D2 xs W' hD2' hS ⟨ha, hall⟩ hK
      have HN := Lib.hid (show wrongS S q row = 0 by rw [HE2.out, miss_any hS hall]; rfl)
      have HFI := Lib.hid (show ((W'.setCell ⟨w.heap.size + 1 + 1 + 1, 0, none⟩ (.int .i64 0)).heap[D2]? = some (.deferred (some []))) ∧ (((W'.setCell ⟨w.heap.size + 1 + 1 + 1, 0, none⟩ (.int .i64 0)).putObj D2 (.deferred none)).heap[D]? = some (.deferred (some []))) ∧ (((W'.setCell ⟨w.heap.size + 1 + 1 + 1, 0, none⟩ (.int .i64 0)).putObj D2 (.deferred none)).putObj D (.deferred none)).cell? ⟨w.heap.size + 1 + 1 + 1, 0, none⟩ = some (.int .i64 0) ∧ Aft w (((W'.setCell ⟨w.heap.size + 1 + 1 + 1, 0, none⟩ (.int .i64 0)).putObj D2 (.deferred none)).putObj D (.deferred none)) from by
        have z9 := (HAW.out.trans HAX2.out).size
        have c9 := (KF.out _ (HAX2.out.trans ha)).1.2.2.2.1
        have ks := Kb.set W' (w.heap.size + 1 + 1 + 1) 0 (.int .i64 0)
        have hD2lt : D2 < W'.heap.size := (Array.getElem?_eq_some_iff.1 hK).1
        refine ⟨?_, ?_, ?_, ?_⟩
        · rw [ks.block D2 hD2lt (fun e => by have e : D2 = w.heap.size + 1 + 1 + 1 := e; omega)]; exact hK
        · rw [World.putObj_heap_other (by omega), ks.block D (Nat.lt_of_lt_of_le hzD2 ha.size) (fun e => by have e : D = w.heap.size + 1 + 1 + 1 := e; omega), ha.block D hzD2]
          exact HK2.out
        · exact (World.cell?_of_block (World.putObj_heap_other (k := w.heap.size + 1 + 1 + 1) (by omega))).trans ((World.cell?_of_block (World.putObj_heap_other (k := w.heap.size + 1 + 1 + 1) (by omega))).trans (World.cell?_setCell_same' _ _ _ (by rw [c9]; rfl)))
        · exact Kb.to_aft (P := fun g => w.heap.size ≤ g) (((ks.mono fun g _ e => by have e : g = w.heap.size + 1 + 1 + 1 := e; show w.heap.size ≤ g; omega).trans (Kb.put.mono fun g _ e => by have e : g = D2 := e; show w.heap.size ≤ g; omega)).trans (Kb.put.mono fun g _ e => by have e : g = D := e; show w.heap.size ≤ g; omega)) (HAW.out.trans (HAX2.out.trans ha)) (fun k hk e => by have e : w.heap.size ≤ k := e; omega))
      clear c0 c1 c2 c3 c4 z0 z1 z2 z3 y0 y1 y2 y3 y4 y5 y6
      obtain ⟨⟨c0, c1, c2, c3, c4⟩, ⟨z0, z1, z2, z3⟩, _⟩ := KF.out W' (HAX2.out.trans ha)
      clear ha hall hS
      go_wp2_with fail
      refine ⟨by simp, .inl ⟨_, _, rfl, run_takeDeferred HFI.out.1, ?_⟩⟩
      refine ⟨by simp, .inl ⟨_, _, rfl, run_takeDeferred HFI.out.2.1, ?_⟩⟩
      refine ⟨_, results_cell (v := .int .i64 0) rfl _ rfl (lvErr HFI.out.2.2.1), ?_⟩
      rw [HN.out]
      exact ⟨rfl, HFI.out.2.2.2⟩
end Go.Proofs.YtiadkchlkdaceaaGreat

namespace Go.Proofs.YtiadkchlkdaceaaGreat
open Go.RowKit
set_option maxRecDepth 100000
set_option linter.unusedVariables false
set_option maxHeartbeats 2000000 in
theorem mayc_any (A : Option Addr) (cap : Nat) (l : List Col) (w : World) (h : SlAt w 3 ColR A cap l) :
    Calls Tryz.prog 61 #[.slice A l.length cap] w fun e w' => e = .returned (.bool (colsOk l)) ∧ Aft w w' := by
  obtain ⟨c, hc⟩ : ∃ c, colsOk l = c := ⟨_, rfl⟩
  rw [hc]
  have C := Lib.hid (show Calls Tryz.prog 97 #[.agg #[.string ⟨#[]⟩, .string ⟨#[]⟩, .string ⟨#[]⟩, .slice A l.length cap, .slice none 0 0]] w fun e w'' => e = .returned (.int .i64 (if c = true then 0 else 1)) ∧ Aft w w'' from
    (rcheck_any ⟨⟨#[]⟩, ⟨#[]⟩, ⟨#[]⟩, l, []⟩ A cap none 0 w h slAt_nil (by simp)).mono fun e w'' ⟨he, hw⟩ => ⟨he.trans (by rw [tableOk_cols, hc]), hw⟩)
  clear hc
  go_enter Tryz.func61, Tryz.ntmps61
  go_wp2_with fail
  refine C.out.mono ?_
  rintro e w1 ⟨rfl, a1⟩
  have HA := Lib.hid a1
  clear a1
  cases c
  · go_wp2_with fail
    go_ret
    exact ⟨rfl, HA.out⟩
  · go_wp2_with fail
    go_ret
    exact ⟨rfl, HA.out⟩
set_option maxHeartbeats 8000000 in
theorem turn_any (l m : List Col) (row : List Val) (A : Option Addr) (cap : Nat) (A2 : Option Addr) (cap2 : Nat) (B : Option Addr) (capB : Nat) (w : World) (h : SlAt w 3 ColR A cap l) (h2 : SlAt w 3 ColR A2 cap2 m) (h3 : SlAt w 3 ValR B capB row) :
    Calls Tryz.prog 26 #[.slice A l.length cap, .slice A2 m.length cap2, .slice B row.length capB] w (TurnP w (turned l m row) (turnC l m row)) := by
  have hlen := h.len
  have hlen2 := h2.len
  have hlen3 := h3.len
  obtain ⟨c1, hc1⟩ : ∃ c, colsOk l = c := ⟨_, rfl⟩
  obtain ⟨c2, hc2⟩ : ∃ c, colsOk m = c := ⟨_, rfl⟩
  obtain ⟨f, hf⟩ : ∃ f, besideB formB l row = f := ⟨_, rfl⟩
  have K1 := Lib.hid (show ∀ w', Aft w w' → Calls Tryz.prog 61 #[.slice A l.length cap] w' fun e w'' => e = .returned (.bool c1) ∧ Aft w' w'' from
    fun w' a => (mayc_any A cap l w' (cols_aft a h)).mono fun e w'' ⟨he, hw⟩ => ⟨he.trans (by rw [hc1]), hw⟩)
  have K2 := Lib.hid (show ∀ w', Aft w w' → Calls Tryz.prog 61 #[.slice A2 m.length cap2] w' fun e w'' => e = .returned (.bool c2) ∧ Aft w' w'' from
    fun w' a => (mayc_any A2 cap2 m w' (cols_aft a h2)).mono fun e w'' ⟨he, hw⟩ => ⟨he.trans (by rw [hc2]), hw⟩)
  have K3 := Lib.hid (show ∀ w', Aft w w' → Calls Tryz.prog 62 #[.slice A l.length cap, .slice B row.length capB] w' fun e w'' => e = .returned (.bool f) ∧ Aft w' w'' from
    fun w' a => (formed_any A cap l B capB row w' (cols_aft a h) (vals_aft a h3)).mono fun e w'' ⟨he, hw⟩ => ⟨he.trans (by rw [hf]), hw⟩)
  have H1 := Lib.hid hc1
  have H2 := Lib.hid hc2
  have H3 := Lib.hid hf
  clear hc1 hc2 hf
  obtain ⟨i0, hi, hz0, hz1, hz2⟩ := info_parts infoV
  have HI := Lib.hid hi
  have HZ0 := Lib.hid hz0
  have HZ1 := Lib.hid hz1
  have HZ2 := Lib.hid hz2
  clear hi hz0 hz1 hz2
  go_enter Tryz.func26, Tryz.ntmps26
  go_wp2_with fail
  refine (K1.out _ (Aft.refl w)).mono ?_
  rintro e w1 ⟨rfl, a1⟩
  have HA1 := Lib.hid a1
  clear a1 K1
  cases c1
  · have HC := Lib.hid (turnC_1 (m := m) (row := row) H1.out)
    go_wp2_with fail
    go_ret2
    exact ⟨_, by rw [HC.out]; rfl, HA1.out, by rw [turned_no (by rw [HC.out]; decide)]; exact own_nil _ _ _ _⟩
  go_wp2_with fail
  refine (K2.out _ HA1.out).mono ?_
  rintro e w2 ⟨rfl, a2⟩
  have HA2 := Lib.hid (HA1.out.trans a2)
  clear a2 K2 HA1
  cases c2
  · have HC := Lib.hid (turnC_1' (row := row) H1.out H2.out)
    go_wp2_with fail
    go_ret2
    exact ⟨_, by rw [HC.out]; rfl, HA2.out, by rw [turned_no (by rw [HC.out]; decide)]; exact own_nil _ _ _ _⟩
  go_wp2_with fail
  refine (K3.out _ HA2.out).mono ?_
  rintro e w3 ⟨rfl, a3⟩
  have HA3 := Lib.hid (HA2.out.trans a3)
  clear a3 K3 HA2
  cases f
  · have HC := Lib.hid (turnC_100 H1.out H2.out H3.out)
    go_wp2_with fail
    go_ret2
    exact ⟨_, by rw [HC.out]; rfl, HA3.out, by rw [turned_no (by rw [HC.out]; decide)]; exact own_nil _ _ _ _⟩
  have HC := Lib.hid (turnC_0 H1.out H2.out H3.out)
  have HTV := Lib.hid (turned_yes HC.out)
  have HLL := Lib.hid (show l.length = row.length from ((besideB_iff formB l row).1 H3.out).1)
  have hm8 := cols_len H2.out
  go_wp2_with fail
  go_loopw [8, 29] (fun v i wr => ∃ k : Nat, k ≤ m.length ∧ i = .int .i64 k ∧ Aft w wr ∧ wr.ownsRow w.heap.size 37 3 v k ((turnVs l (m.take k) row).flatMap cellsV)) (fun _ i _ => m.length - (intOf i).toNat)
  case atStart => exact ⟨0, Nat.zero_le _, rfl, HA3.out, own_nil _ _ _ _⟩
  case round =>
    obtain ⟨k, hk, rfl, ha, hown⟩ := hrel
    have HA := Lib.hid ha
    have HO := Lib.hid hown
    clear HA3
    by_cases hlt : k < m.length
    · obtain ⟨b, off, hAm, hb, c0, c1, c2, _⟩ := col_at (cols_aft ha h2) hlt
      subst hAm
      obtain ⟨c, hcc⟩ : ∃ c, m[k] = c := ⟨_, rfl⟩
      rw [hcc] at c0 c1 c2
      have HS := Lib.hid (show turnVs l (m.take (k + 1)) row = turnVs l (m.take k) row ++ [turn1 l row c] by rw [turnVs_succ l m row k hlt, hcc])
      obtain ⟨x, hx⟩ : ∃ x, colAt l c.name = x := ⟨_, rfl⟩
      have hol := own_lt hown
      clear hcc hown
      obtain ⟨W, hW⟩ : ∃ W, W = (wr.alloc (.cells #[.string c.name, .int .i64 c.kind, .bool c.null] 93)).alloc (.cells #[.int .i64 1, .int .i64 0, .string ⟨#[]⟩] 37) := ⟨_, rfl⟩
      have aW : Aft wr W := by rw [hW]; exact ((Aft.refl wr).alloc _).alloc _
      have rv : RowAt W (wr.heap.size + 1) [.int .i64 1, .int .i64 0, .string ⟨#[]⟩] := by rw [hW]; simpa using rowAt_new (wr.alloc (.cells #[.string c.name, .int .i64 c.kind, .bool c.null] 93)) [.int .i64 1, .int .i64 0, .string ⟨#[]⟩] 37
      have rc : RowAt W wr.heap.size [.string c.name, .int .i64 c.kind, .bool c.null] := by rw [hW]; exact (rowAt_new _ _ _).aft ((Aft.refl _).alloc _)
      have ck := rc.cell (j := 1) rfl
      have cn := rc.cell (j := 0) rfl
      have l1 : wr.heap.size < wr.heap.size + 1 := by omega
      have l2 : wr.heap.size < wr.heap.size + 1 + 1 := by omega
      have HA0 := Lib.hid (HA.out.trans aW)
      have O0 := Lib.hid (own_aft HO.out aW)
      have Cp := Lib.hid (show ∀ w', Aft wr w' → Calls Tryz.prog 63 #[.slice A l.length cap, .string c.name] w' fun e w'' => e = .returned (.int .i64 x) ∧ Aft w' w'' from
        fun w' a => (place_any A cap l c.name w' (cols_aft (HA.out.trans a) h)).mono fun e w'' ⟨he, hw⟩ => ⟨he.trans (by rw [hx]), hw⟩)
      go_wp2_with fail
      rw [← hW]
      refine (Cp.out W aW).mono ?_
      rintro e w1 ⟨rfl, a1⟩
      have HA1 := Lib.hid (HA0.out.trans a1)
      have O1 := Lib.hid (own_aft O0.out a1)
      have rv1 := rv.aft a1
      have ck1 := a1.cell_kept ck
      have lk1 := World.block_lt_of_cell? _ _ ck1
      clear hW Cp ck cn rv aW
      by_cases hx0 : x < 0
      · have HV := Lib.hid (turn1_miss (row := row) (by rw [hx]; exact hx0))
        have dx : decide (0 ≤ x) = false := decide_eq_false (by omega)
        have dx' : ¬ 0 ≤ x := by omega
        clear hx
        go_wp2_with fail
        refine wp_region_lat (by kernel_rfl) (by kernel_rfl) ?_
        repeat (go_big_quiet_step (fail))
        refine wpQuiet_nil ?_
        intro _ hw'
        obtain ⟨z, hw''⟩ := hw'
        subst hw''
        obtain ⟨L, hL⟩ : ∃ L, L = lat w1 z := ⟨_, rfl⟩
        have aL : Aft w1 L := by rw [hL]; exact (Aft.refl w1).lat z
        have rL := rv1.aft aL
        have y0 := rL.cell (j := 0) rfl
        have y1 := rL.cell (j := 1) rfl
        have y2 := rL.cell (j := 2) rfl
        have yz := rL.1
        have OL := Lib.hid (own_aft O1.out aL)
        have HAL := Lib.hid (HA1.out.trans aL)
        rw [← hL]
        clear hL
        clear rL aL
        go_wp2_with (at_builtin; refine wpList_append_own _ rfl (.tmp 54) (.tmp 56) 34 rfl w.heap.size 37 i0 (.agg #[.int .i64 0, .int .i64 0, .string ByteArray.empty]) 3 32 Tryz.underlying34 HI.out HZ0.out HZ1.out HZ2.out rfl (by decide) _ _ _ rfl (OL.out.alloc _) ⟨L.heap.size, 0, none⟩ 1 1 [.int .i64 1, .int .i64 0, .string ⟨#[]⟩] rfl rfl ?c1 ?c2 ?c3 ?c4 ?c5 ?_)
        case c1 => intro j u hj; rw [add_mk, Nat.zero_add]; exact (World.cell?_alloc_at _ _ _ _ rfl).trans (by simpa using hj)
        case c2 => intro u hu; simp only [List.mem_cons, List.not_mem_nil, or_false] at hu; rcases hu with rfl | rfl | rfl <;> simp [Value.oneCell']
        case c3 => unfold maxLen; omega
        case c4 => omega
        case c5 => have := HAL.out.size; simp; omega
        intro v' w2 hown' hgrow _
        have HA2 := Lib.hid (aft_grown (OL.out.alloc _) (HAL.out.alloc _) hgrow)
        have HO2 := Lib.hid hown'
        clear hown' hgrow
        go_wp2_with fail
        go_roundw
        case rel => exact ⟨k + 1, by omega, by go_num, HA2.out, by rw [HS.out, HV.out]; simpa [List.flatMap_append, cellsV, nullV] using HO2.out⟩
        case measure => simp [intOf]; omega
      obtain ⟨q, rfl⟩ := Int.eq_ofNat_of_zero_le (show 0 ≤ x by omega)
      have hql := colAt_lt hx
      have hqr : q < row.length := by have := HLL.out; omega
      have dx : decide ((0 : Int) ≤ (q : Int)) = true := decide_eq_true (by omega)
      obtain ⟨b7, off7, hA7, hb7, d70, d71, d72, _⟩ := col_at (cols_aft HA1.out h) hql
      subst hA7
      cases hkk : (l[q].kind == c.kind)
      · have HV := Lib.hid (turn1_other (row := row) hx hql (by simpa using hkk))
        clear hx
        go_wp2_with fail
        refine wp_region_lat (by kernel_rfl) (by kernel_rfl) ?_
        repeat (go_big_quiet_step (fail))
        refine wpQuiet_nil ?_
        intro _ hw'
        obtain ⟨z, hw''⟩ := hw'
        subst hw''
        obtain ⟨L, hL⟩ : ∃ L, L = lat w1 z := ⟨_, rfl⟩
        have aL : Aft w1 L := by rw [hL]; exact (Aft.refl w1).lat z
        have rL := rv1.aft aL
        have y0 := rL.cell (j := 0) rfl
        have y1 := rL.cell (j := 1) rfl
        have y2 := rL.cell (j := 2) rfl
        have yz := rL.1
        have OL := Lib.hid (own_aft O1.out aL)
        have HAL := Lib.hid (HA1.out.trans aL)
        rw [← hL]
        clear hL
        clear rL aL
        go_wp2_with (at_builtin; refine wpList_append_own _ rfl (.tmp 54) (.tmp 56) 34 rfl w.heap.size 37 i0 (.agg #[.int .i64 0, .int .i64 0, .string ByteArray.empty]) 3 32 Tryz.underlying34 HI.out HZ0.out HZ1.out HZ2.out rfl (by decide) _ _ _ rfl (OL.out.alloc _) ⟨L.heap.size, 0, none⟩ 1 1 [.int .i64 1, .int .i64 0, .string ⟨#[]⟩] rfl rfl ?c1 ?c2 ?c3 ?c4 ?c5 ?_)
        case c1 => intro j u hj; rw [add_mk, Nat.zero_add]; exact (World.cell?_alloc_at _ _ _ _ rfl).trans (by simpa using hj)
        case c2 => intro u hu; simp only [List.mem_cons, List.not_mem_nil, or_false] at hu; rcases hu with rfl | rfl | rfl <;> simp [Value.oneCell']
        case c3 => unfold maxLen; omega
        case c4 => omega
        case c5 => have := HAL.out.size; simp; omega
        intro v' w2 hown' hgrow _
        have HA2 := Lib.hid (aft_grown (OL.out.alloc _) (HAL.out.alloc _) hgrow)
        have HO2 := Lib.hid hown'
        clear hown' hgrow
        go_wp2_with fail
        go_roundw
        case rel => exact ⟨k + 1, by omega, by go_num, HA2.out, by rw [HS.out, HV.out]; simpa [List.flatMap_append, cellsV, nullV] using HO2.out⟩
        case measure => simp [intOf]; omega
      · have HV := Lib.hid (turn1_hit hx hql hqr (by simpa using hkk))
        obtain ⟨b8, off8, hB8, hb8, v0, v1, v2, _⟩ := val_at (vals_aft HA1.out h3) hqr
        subst hB8
        clear hx
        go_wp2_with fail
        refine wp_region_lat (by kernel_rfl) (by kernel_rfl) ?_
        repeat (go_big_quiet_step (fail))
        refine wpQuiet_nil ?_
        intro _ hw'
        obtain ⟨z, hw''⟩ := hw'
        subst hw''
        obtain ⟨L, hL⟩ : ∃ L, L = lat w1 z := ⟨_, rfl⟩
        have aL : Aft w1 L := by rw [hL]; exact (Aft.refl w1).lat z
        have rL := rv1.aft aL
        have y0 := rL.cell (j := 0) rfl
        have y1 := rL.cell (j := 1) rfl
        have y2 := rL.cell (j := 2) rfl
        have yz := rL.1
        have OL := Lib.hid (own_aft O1.out aL)
        have HAL := Lib.hid (HA1.out.trans aL)
        rw [← hL]
        clear hL
        have p0 := aL.cell_kept v0
        have p1 := aL.cell_kept v1
        have p2 := aL.cell_kept v2
        have f0 := rL.2.2 0 (by simp)
        have f1 := rL.2.2 1 (by simp)
        have f2 := rL.2.2 2 (by simp)
        have hne : u8.ownBlock ≠ some (wr.heap.size + 1) := fun e => by have := hol _ e; omega
        have hge : w.heap.size ≤ wr.heap.size + 1 := by have := HA.out.size; omega
        go_wp2_with fail
        obtain ⟨S, hS⟩ : ∃ S, S = ((L.setCell ⟨wr.heap.size + 1, 0, none⟩ (.int .i64 row[q].kind)).setCell ⟨wr.heap.size + 1, 1, none⟩ (.int .i64 row[q].int)).setCell ⟨wr.heap.size + 1, 2, none⟩ (.string row[q].text) := ⟨_, rfl⟩
        have rS : RowAt S (wr.heap.size + 1) [.int .i64 row[q].kind, .int .i64 row[q].int, .string row[q].text] := by rw [hS]; exact ((rL.set 0 _ (by simp)).set 1 _ (by simp)).set 2 _ (by simp)
        have OS := Lib.hid (show S.ownsRow w.heap.size 37 3 u8 k ((turnVs l (m.take k) row).flatMap cellsV) by rw [hS]; exact ownsRow_setCell_other (ownsRow_setCell_other (ownsRow_setCell_other OL.out hne _) hne _) hne _)
        have HAS := Lib.hid (show Aft w S by rw [hS]; exact ((HAL.out.setCell _ _ hge).setCell _ _ hge).setCell _ _ hge)
        have s0 := rS.cell (j := 0) rfl
        have s1 := rS.cell (j := 1) rfl
        have s2 := rS.cell (j := 2) rfl
        have sz := rS.1
        rw [← hS]
        have hlv : (lvVal ⟨wr.heap.size + 1, 0, none⟩).run Tryz.prog S = .ok (.agg #[.int .i64 row[q].kind, .int .i64 row[q].int, .string row[q].text]) S := by
          have h9 := run_lvVal S (wr.heap.size + 1) 0 (by rw [s0]; rfl) (by rw [s1]; rfl) (by rw [s2]; rfl)
          rw [s0, s1, s2] at h9
          exact h9
        rw [hlv]
        simp only [Result.andThen]
        rw [Oper.upon_value]
        clear hlv hS rS y0 y1 y2 yz p0 p1 p2 f0 f1 f2
        clear rL aL
        go_wp2_with (at_builtin; refine wpList_append_own _ rfl (.tmp 54) (.tmp 56) 34 rfl w.heap.size 37 i0 (.agg #[.int .i64 0, .int .i64 0, .string ByteArray.empty]) 3 32 Tryz.underlying34 HI.out HZ0.out HZ1.out HZ2.out rfl (by decide) _ _ _ rfl (OS.out.alloc _) ⟨S.heap.size, 0, none⟩ 1 1 [.int .i64 row[q].kind, .int .i64 row[q].int, .string row[q].text] rfl rfl ?c1 ?c2 ?c3 ?c4 ?c5 ?_)
        case c1 => intro j u hj; rw [add_mk, Nat.zero_add]; exact (World.cell?_alloc_at _ _ _ _ rfl).trans (by simpa using hj)
        case c2 => intro u hu; simp only [List.mem_cons, List.not_mem_nil, or_false] at hu; rcases hu with rfl | rfl | rfl <;> simp [Value.oneCell']
        case c3 => unfold maxLen; omega
        case c4 => omega
        case c5 => have := HAS.out.size; simp; omega
        intro v' w2 hown' hgrow _
        have HA2 := Lib.hid (aft_grown (OS.out.alloc _) (HAS.out.alloc _) hgrow)
        have HO2 := Lib.hid hown'
        clear hown' hgrow
        go_wp2_with fail
        go_roundw
        case rel => exact ⟨k + 1, by omega, by go_num, HA2.out, by rw [HS.out, HV.out]; simpa [List.flatMap_append, cellsV, nullV] using HO2.out⟩
        case measure => simp [intOf]; omega
    · clear ha hown
      go_wp2_with fail
      go_ret2
      have e1 : m.take k = m := List.take_of_length_le (by omega)
      have e2 : k = m.length := by omega
      have ho := HO.out
      rw [e1] at ho
      refine ⟨_, by rw [HC.out]; rfl, HA.out, ?_⟩
      rw [HTV.out, turnVs_len, ← e2]; exact ho
end Go.Proofs.YtiadkchlkdaceaaGreat

namespace Go.Proofs.YtiadkchlkdaceaaGreat
open Go.RowKit
set_option maxRecDepth 100000
set_option linter.unusedVariables false
/-- an operation, as it is handed over -/
def ROp.agg (x : ROp) (A : Option Addr) (cap : Nat) : Value := .agg #[.int .i64 x.kind, .string x.role, .string x.schema, .string x.table, .slice A x.row.length cap, .string x.col, .int .i64 x.v.kind, .int .i64 x.v.int, .string x.v.text]
set_option maxHeartbeats 4000000 in
theorem may12 (x : ROp) (A : Option Addr) (cap : Nat) (w : World) (hc : Small x.col.size) (hv : Small x.v.text.size) :
    Calls Tryz.prog 30 #[.agg #[.int .i64 x.kind, .string x.role, .string x.schema, .string x.table, .slice A x.row.length cap, .string x.col, .int .i64 x.v.kind, .int .i64 x.v.int, .string x.v.text]] w fun e w' => e = .returned (.bool (mayO x)) ∧ Aft w w' := by
  obtain ⟨kd, role, schema, table, row, col, v⟩ := x
  simp only at hc hv ⊢
  obtain ⟨nm, hnm⟩ : ∃ b, nameB col = b := ⟨_, rfl⟩
  obtain ⟨mv, hmv⟩ : ∃ b, mayV v = b := ⟨_, rfl⟩
  obtain ⟨em, hem⟩ : ∃ b, emp col = b := ⟨_, rfl⟩
  obtain ⟨ev, hev⟩ : ∃ b, eqV v nilV = b := ⟨_, rfl⟩
  obtain ⟨lz, hlz⟩ : ∃ b, decide (row.length = 0) = b := ⟨_, rfl⟩
  have hz1 : ((row.length : Int) == 0) = lz := by rw [← hlz]; by_cases h : row.length = 0 <;> simp [h]
  have HN := Lib.hid (show mayO ⟨kd, role, schema, table, row, col, v⟩ = if kd == 1 then em && ev else if kd == 2 then nm && (mv && lz) else if kd == 3 then (nm && (mv && lz)) || (em && (ev && lz)) else false by
    unfold mayO; simp only [hnm, hmv, hem, hev, hlz])
  have CN := Lib.hid (show ∀ W, Calls Tryz.prog 56 #[.string col] W fun e w' => e = .returned (.bool nm) ∧ W = w' from fun W => hnm ▸ name_any col W hc.max)
  have CM := Lib.hid (show ∀ W, Calls Tryz.prog 66 #[.agg #[.int .i64 v.kind, .int .i64 v.int, .string v.text]] W fun e w' => e = .returned (.bool mv) ∧ Aft W w' from fun W => hmv ▸ may_any v W hv)
  have e2 : eqV3 v.kind v.int v.text 0 0 ⟨#[]⟩ = ev := hev
  have HEM := Lib.hid hem
  have lw := Nat.lt_succ_self w.heap.size
  clear hnm hmv hem hev hlz
  obtain ⟨W, hW⟩ : ∃ W, W = w.alloc (.cells #[.int .i64 kd, .string role, .string schema, .string table, .slice A row.length cap, .string col, .int .i64 v.kind, .int .i64 v.int, .string v.text] 39) := ⟨_, rfl⟩
  have aW : Aft w W := by rw [hW]; exact (Aft.refl w).alloc _
  have rW : RowAt W w.heap.size [.int .i64 kd, .string role, .string schema, .string table, .slice A row.length cap, .string col, .int .i64 v.kind, .int .i64 v.int, .string v.text] := by rw [hW]; exact box_row2 (Aft.refl _)
  have KF := Lib.hid (show ∀ V, Aft W V → (V.cell? ⟨w.heap.size, 0, none⟩ = some (.int .i64 kd) ∧ V.cell? ⟨w.heap.size, 4, none⟩ = some (.slice A row.length cap) ∧ V.cell? ⟨w.heap.size, 5, none⟩ = some (.string col) ∧ V.cell? ⟨w.heap.size, 6, none⟩ = some (.int .i64 v.kind) ∧ V.cell? ⟨w.heap.size, 7, none⟩ = some (.int .i64 v.int) ∧ V.cell? ⟨w.heap.size, 8, none⟩ = some (.string v.text) ∧ w.heap.size < V.heap.size) from fun V a => by
    have r := rW.aft a
    exact ⟨r.cell (j := 0) rfl, r.cell (j := 4) rfl, r.cell (j := 5) rfl, r.cell (j := 6) rfl, r.cell (j := 7) rfl, r.cell (j := 8) rfl, r.1⟩)
  have HAW := Lib.hid aW
  clear rW aW
  cases em
  · have em1 : col.toList.isEmpty = false := HEM.out
    have em2 : ¬ col.toList = [] := by intro h; rw [h] at em1; cases em1
    go_enter Tryz.func30, Tryz.ntmps30
    go_wp2_with fail
    rw [← hW]
    clear hW
    refine (CN.out _).mono ?_
    rintro e w1 ⟨rfl, rfl⟩
    cases nm
    · obtain ⟨c0, c4, c5, c6, c7, c8, cz⟩ := KF.out W (Aft.refl W)
      go_wp2_with fail
      all_goals
        go_ret
        refine ⟨Eq.trans (b := .returned (.bool _)) rfl (ret_of (bool_of ?_)), HAW.out⟩
        rw [HN.out]
        simp_all
    · obtain ⟨c0, c4, c5, c6, c7, c8, cz⟩ := KF.out W (Aft.refl W)
      go_wp2_with fail
      refine (CM.out _).mono ?_
      rintro e w2 ⟨rfl, a2⟩
      have HA2 := Lib.hid (HAW.out.trans a2)
      clear c0 c4 c5 c6 c7 c8 cz
      obtain ⟨c0, c4, c5, c6, c7, c8, cz⟩ := KF.out w2 a2
      clear a2
      cases mv
      · skip
        go_wp2_with fail
        all_goals
          go_ret
          refine ⟨Eq.trans (b := .returned (.bool _)) rfl (ret_of (bool_of ?_)), HA2.out⟩
          rw [HN.out]
          simp_all
      · skip
        go_wp2_with fail
        all_goals
          go_ret
          refine ⟨Eq.trans (b := .returned (.bool _)) rfl (ret_of (bool_of ?_)), HA2.out⟩
          rw [HN.out]
          simp_all
  · have em1 : col.toList.isEmpty = true := HEM.out
    have em2 : col.toList = [] := by simpa using em1
    go_enter Tryz.func30, Tryz.ntmps30
    go_wp2_with fail
    rw [← hW]
    clear hW
    refine (CN.out _).mono ?_
    rintro e w1 ⟨rfl, rfl⟩
    cases nm
    · obtain ⟨c0, c4, c5, c6, c7, c8, cz⟩ := KF.out W (Aft.refl W)
      go_wp2_with fail
      all_goals
        go_ret
        refine ⟨Eq.trans (b := .returned (.bool _)) rfl (ret_of (bool_of ?_)), HAW.out⟩
        rw [HN.out]
        simp_all
    · obtain ⟨c0, c4, c5, c6, c7, c8, cz⟩ := KF.out W (Aft.refl W)
      go_wp2_with fail
      refine (CM.out _).mono ?_
      rintro e w2 ⟨rfl, a2⟩
      have HA2 := Lib.hid (HAW.out.trans a2)
      clear c0 c4 c5 c6 c7 c8 cz
      obtain ⟨c0, c4, c5, c6, c7, c8, cz⟩ := KF.out w2 a2
      clear a2
      cases mv
      · skip
        go_wp2_with fail
        all_goals
          go_ret
          refine ⟨Eq.trans (b := .returned (.bool _)) rfl (ret_of (bool_of ?_)), HA2.out⟩
          rw [HN.out]
          simp_all
      · skip
        go_wp2_with fail
        all_goals
          go_ret
          refine ⟨Eq.trans (b := .returned (.bool _)) rfl (ret_of (bool_of ?_)), HA2.out⟩
          rw [HN.out]
          simp_all
end Go.Proofs.YtiadkchlkdaceaaGreat

