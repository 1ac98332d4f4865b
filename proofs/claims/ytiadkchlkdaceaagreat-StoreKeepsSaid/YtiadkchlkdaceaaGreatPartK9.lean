/- Contracts of the program, part 9. -/
import Derived.Deep.Onto
import Derived.LaidEqlPtr
import Derived.OwnWalk
import Derived.Laws.AppendOwn
import Derived.ProofKit
import Derived.OpenShut
import Derived.Deep.Slices
import Derived.ChangeOld
import Derived.SizedLaws
import Derived.WalkKit
import Derived.WalkSpells
import Derived.WalkLawsBesides
import Derived.Lib.Hide
import Derived.Deep.QuietTactic
import Derived.BigQuiet
import Derived.Below
import Derived.Deep.Draws
import Derived.StillTailTactics
import Derived.Laws.Cells
import Derived.Laws.IdiomCopy
import Derived.Test.YtiadkchlkdaceaaGreatRows
import Derived.Lib.Bytealg
import Derived.IntWalk
import Derived.ShutString
import Derived.Shelf.SlSortCmp.WholeK
import Derived.Lib.SliceRun
import Derived.Deep.AppendLies
import Derived.Deep.Upon
import Derived.OneCell
import Derived.Deep.DeepMust
import Derived.Deep.RegionLaw
import Derived.Deep.RegionHeld3
import Derived.RangeFuncNested
import Derived.RangeFuncBound
import Derived.RangeFuncCalls
import Derived.RangeFuncLeaves
import Derived.Shelf.Abstract
import Derived.Shelf.RegionOpen
import Derived.OwnWalkIn
import Derived.TacticsInMore
import Derived.LoopNIn
import Derived.LoopIn
import Derived.Sort.QuietTacIn
import Derived.NoCompiler
import Derived.OrdersHeld
import Derived.Lib.Walk
import Derived.Test.YtiadkchlkdaceaaGreatPartK1
import Derived.Test.YtiadkchlkdaceaaGreatPartK2
import Derived.Test.YtiadkchlkdaceaaGreatPartK3
import Derived.Test.YtiadkchlkdaceaaGreatPartK4
import Derived.Test.YtiadkchlkdaceaaGreatPartK5
import Derived.Test.YtiadkchlkdaceaaGreatPartK6
import Derived.Test.YtiadkchlkdaceaaGreatPartK7
import Derived.Test.YtiadkchlkdaceaaGreatPartK8
namespace Go.Proofs.YtiadkchlkdaceaaGreat
open Go.RowKit
set_option maxRecDepth 100000
set_option linter.unusedVariables false
set_option maxHeartbeats 1000000 in
theorem idxRow (A : Option Addr) (cap : Nat) (l : List (List Val)) (g : FuncId) (caps : Array Value) (p : List Val → Bool) (w : World) (h : SlAt w 1 RowsR A cap l) (hent : ∀ (args : Array Value) (w : World), (callFunc g args).run Tryz.prog w = .ok (.enter g args) w)
    (hp : ∀ w', Aft w w' → ∀ i (hi : i < l.length) (A2 : Option Addr) (cap2 : Nat), SlAt w' 3 ValR A2 cap2 l[i] → Calls Tryz.prog g (#[.slice A2 l[i].length cap2] ++ caps) w' fun e w'' => e = .returned (.bool (p l[i])) ∧ Aft w' w'') :
    Calls Tryz.prog 135 #[.slice A l.length cap, .func (.func g) #[] caps] w fun e w' => e = .returned (.int .i64 (idxP p l)) ∧ Aft w w' := by
  have hlen := h.len
  have HC := Lib.hid hp
  clear hp
  go_enter Tryz.func135, Tryz.ntmps135
  go_wp2_with fail
  go_loopw [8] (fun i wr => ∃ k : Nat, k ≤ l.length ∧ i = .int .i64 k ∧ Aft w wr ∧ ∀ j, j < k → ∀ (hj : j < l.length), p l[j] = false) (fun i _ => l.length - (intOf i).toNat)
  case atStart => exact ⟨0, Nat.zero_le _, rfl, Aft.refl _, fun j hj => absurd hj (Nat.not_lt_zero j)⟩
  case round =>
    obtain ⟨k, hk, rfl, ha, hp⟩ := hrel
    have HA := Lib.hid ha
    have HP := Lib.hid hp; clear hp
    by_cases hlt : k < l.length
    · have hsl := rows_aft ha h
      clear ha
      obtain ⟨b, off, A2, cap2, rfl, hb, c0, hs⟩ := row_at hsl hlt
      have HK := Lib.hid (HC.out wr HA.out k hlt A2 cap2 hs)
      clear hsl hs
      obtain ⟨q, hq⟩ : ∃ q, p l[k] = q := ⟨_, rfl⟩
      rw [hq] at HK
      have HQ := Lib.hid hq
      clear hq
      cases q
      · go_wp2_with fail
        refine HK.out.mono ?_
        rintro e w1 ⟨rfl, a1⟩
        have HA1 := Lib.hid (HA.out.trans a1)
        clear a1
        go_wp2_with fail
        go_roundw
        case rel => exact ⟨k + 1, by omega, by go_num, HA1.out, ext_lt (p := fun j => ∀ (hj : j < l.length), p l[j] = false) HP.out (fun _ => HQ.out)⟩
        case measure => simp [intOf]; omega
      · go_wp2_with fail
        refine HK.out.mono ?_
        rintro e w1 ⟨rfl, a1⟩
        have HA1 := Lib.hid (HA.out.trans a1)
        clear a1
        go_wp2_with fail
        go_ret
        exact ⟨by rw [idxP_some p l k hlt HQ.out (fun i hi => HP.out i hi (by omega))]; rfl, HA1.out⟩
    · clear ha
      go_wp2_with fail
      go_ret
      exact ⟨by rw [idxP_none p l (fun i hi => HP.out i (by omega) hi)]; rfl, HA.out⟩
set_option maxHeartbeats 1000000 in
theorem contRow (A : Option Addr) (cap : Nat) (l : List (List Val)) (g : FuncId) (caps : Array Value) (p : List Val → Bool) (w : World) (h : SlAt w 1 RowsR A cap l) (hent : ∀ (args : Array Value) (w : World), (callFunc g args).run Tryz.prog w = .ok (.enter g args) w)
    (hp : ∀ w', Aft w w' → ∀ i (hi : i < l.length) (A2 : Option Addr) (cap2 : Nat), SlAt w' 3 ValR A2 cap2 l[i] → Calls Tryz.prog g (#[.slice A2 l[i].length cap2] ++ caps) w' fun e w'' => e = .returned (.bool (p l[i])) ∧ Aft w' w'') :
    Calls Tryz.prog 127 #[.slice A l.length cap, .func (.func g) #[] caps] w fun e w' => e = .returned (.bool (l.any p)) ∧ Aft w w' := by
  have C := Lib.hid (idxRow A cap l g caps p w h hent hp)
  have HE := Lib.hid (any_idx p l)
  obtain ⟨i, hi⟩ : ∃ i, idxP p l = i := ⟨_, rfl⟩
  rw [hi] at C HE
  clear hi h hp hent
  go_enter Tryz.func127, Tryz.ntmps127
  go_wp2_with fail
  refine C.out.mono ?_
  rintro e w1 ⟨rfl, a1⟩
  have HA := Lib.hid a1
  clear a1
  go_wp2_with fail
  go_ret
  exact ⟨by rw [HE.out]; rfl, HA.out⟩
set_option maxHeartbeats 1000000 in
theorem contCol12 (A : Option Addr) (cap : Nat) (l : List Col) (g : FuncId) (caps : Array Value) (p : Col → Bool) (w : World) (h : SlAt w 3 ColR A cap l) (hent : ∀ (args : Array Value) (w : World), (callFunc g args).run Tryz.prog w = .ok (.enter g args) w)
    (hp : ∀ w', Aft w w' → ∀ i (hi : i < l.length), Calls Tryz.prog g (#[.agg #[.string l[i].name, .int .i64 l[i].kind, .bool l[i].null]] ++ caps) w' fun e w'' => e = .returned (.bool (p l[i])) ∧ Aft w' w'') :
    Calls Tryz.prog 31 #[.slice A l.length cap, .func (.func g) #[] caps] w fun e w' => e = .returned (.bool (l.any p)) ∧ Aft w w' := by
  have C := Lib.hid (idxCol A cap l g caps p w h hent hp)
  have HE := Lib.hid (any_idx p l)
  obtain ⟨i, hi⟩ : ∃ i, idxP p l = i := ⟨_, rfl⟩
  rw [hi] at C HE
  clear hi h hp hent
  go_enter Tryz.func31, Tryz.ntmps31
  go_wp2_with fail
  refine C.out.mono ?_
  rintro e w1 ⟨rfl, a1⟩
  have HA := Lib.hid a1
  clear a1
  go_wp2_with fail
  go_ret
  exact ⟨by rw [HE.out]; rfl, HA.out⟩
set_option maxHeartbeats 2000000 in
theorem has1 (p : Nat) (x : Shf) (names : List ByteArray) (want row : List Val) (N : Option Addr) (capN : Nat) (D : Option Addr) (capD : Nat) (B : Option Addr) (capB : Nat) (b1 b2 b3 : Nat) (w : World) (h : ShfIs w p x) (hn : SlAt w 1 StrR N capN names) (hd : SlAt w 3 ValR D capD want) (h3 : SlAt w 3 ValR B capB row)
    (ok : OkN x.t.cols names) (hf : besideB formB x.t.cols row = true) (c1 : w.cell? ⟨b1, 0, none⟩ = some (.pointer (some ⟨p, 0, none⟩))) (c2 : w.cell? ⟨b2, 0, none⟩ = some (.slice N names.length capN)) (c3 : w.cell? ⟨b3, 0, none⟩ = some (.slice D want.length capD)) :
    Calls Tryz.prog 128 #[.slice B row.length capB, .pointer (some ⟨b1, 0, none⟩), .pointer (some ⟨b2, 0, none⟩), .pointer (some ⟨b3, 0, none⟩)] w fun e w' => e = .returned (.bool (eqVs (ofVs x.t.cols names row) want)) ∧ Aft w w' := by
  have C := Lib.hid (values12 p x names row N capN B capB w h hn h3 ok hf)
  have hLS : Small ((ofVs x.t.cols names row).length * 16) := by rw [ofVs_len]; exact small8' ok.1
  have hTS : ∀ v ∈ ofVs x.t.cols names row, Small v.text.size := by
    intro v hv
    obtain ⟨s', hs', rfl⟩ := List.mem_map.1 hv
    obtain ⟨j, hj, rfl⟩ := List.getElem_of_mem hs'
    obtain ⟨z, hz0, hzr⟩ := okN_at ok hf j hj
    rw [hz0, valAt_get hzr]
    exact val_small h3 z hzr
  obtain ⟨L, hL⟩ : ∃ L, ofVs x.t.cols names row = L := ⟨_, rfl⟩
  rw [hL] at C hLS hTS ⊢
  have E := Lib.hid (show ∀ w' v, Aft w w' → w'.ownsRow w.heap.size 37 3 v L.length (L.flatMap cellsV) → Calls Tryz.prog 129 #[v, .slice D want.length capD] w' fun e w'' => e = .returned (.bool (eqVs L want)) ∧ Aft w' w'' from fun w' v a ho => by
    obtain ⟨G, capG, rfl, hG⟩ := own_vals ho hLS hTS
    exact eqVal_any G capG L D capD want w' hG (vals_aft a hd))
  have z3 := World.block_lt_of_cell? _ _ c3
  clear h hn hd h3 ok hf hL hLS hTS
  go_enter Tryz.func128, Tryz.ntmps128
  go_wp2_with fail
  refine C.out.mono ?_
  rintro e w1 ⟨v, rfl, a1, ho⟩
  have E1 := Lib.hid (E.out w1 v a1 ho)
  have HA := Lib.hid a1
  have c3 := a1.cell_kept c3
  clear a1 ho c1 c2 C E
  go_wp2_with fail
  refine E1.out.mono ?_
  rintro e w2 ⟨rfl, a2⟩
  have HA2 := Lib.hid (HA.out.trans a2)
  clear a2
  go_wp2_with fail
  go_ret
  exact ⟨rfl, HA2.out⟩
set_option maxHeartbeats 2000000 in
theorem has12 (p : Nat) (x : Shf) (rows : List (List Val)) (names : List ByteArray) (want : List Val) (R : Option Addr) (capR : Nat) (N : Option Addr) (capN : Nat) (D : Option Addr) (capD : Nat) (w : World) (h : ShfIs w p x) (hr : SlAt w 1 RowsR R capR rows) (hn : SlAt w 1 StrR N capN names) (hd : SlAt w 3 ValR D capD want)
    (ok : OkN x.t.cols names) (hf : ∀ row ∈ rows, besideB formB x.t.cols row = true) :
    Calls Tryz.prog 105 #[.pointer (some ⟨p, 0, none⟩), .slice R rows.length capR, .slice N names.length capN, .slice D want.length capD] w fun e w' => e = .returned (.bool (hasR12 x.t.cols rows names want)) ∧ Aft w w' := by
  have hent := enters (P := Tryz.prog) Tryz.func128 (by kernel_rfl) rfl
  have C := Lib.hid (show ∀ W, Aft w W → W.cell? ⟨w.heap.size, 0, none⟩ = some (.pointer (some ⟨p, 0, none⟩)) → W.cell? ⟨w.heap.size + 1, 0, none⟩ = some (.slice N names.length capN) → W.cell? ⟨w.heap.size + 1 + 1, 0, none⟩ = some (.slice D want.length capD) →
      Calls Tryz.prog 127 #[.slice R rows.length capR, .func (.func 128) #[] #[.pointer (some ⟨w.heap.size, 0, none⟩), .pointer (some ⟨w.heap.size + 1, 0, none⟩), .pointer (some ⟨w.heap.size + 1 + 1, 0, none⟩)]] W fun e w' => e = .returned (.bool (hasR12 x.t.cols rows names want)) ∧ Aft W w' from fun W a q1 q2 q3 =>
    contRow R capR rows 128 #[.pointer (some ⟨w.heap.size, 0, none⟩), .pointer (some ⟨w.heap.size + 1, 0, none⟩), .pointer (some ⟨w.heap.size + 1 + 1, 0, none⟩)] (fun row => eqVs (ofVs x.t.cols names row) want) W (rows_aft a hr) hent fun w' a' i hi A2 cap2 h3 =>
      has1 p x names want rows[i] N capN D capD A2 cap2 w.heap.size (w.heap.size + 1) (w.heap.size + 1 + 1) w' (h.aft (a.trans a')) (strs_aft (a.trans a') hn) (vals_aft (a.trans a') hd) h3 ok (hf _ (List.getElem_mem hi)) (a'.cell_kept q1) (a'.cell_kept q2) (a'.cell_kept q3))
  clear h hr hn hd ok hf hent
  go_enter Tryz.func105, Tryz.ntmps105
  go_wp2_with fail
  obtain ⟨W, hW⟩ : ∃ W, W = ((w.alloc (.cells #[.pointer (some ⟨p, 0, none⟩)] 80)).alloc (.cells #[.slice N names.length capN] 60)).alloc (.cells #[.slice D want.length capD] 34) := ⟨_, rfl⟩
  have aW : Aft w W := by rw [hW]; exact (((Aft.refl w).alloc _).alloc _).alloc _
  have b1 : (w.alloc (.cells #[.pointer (some ⟨p, 0, none⟩)] 80)).cell? ⟨w.heap.size, 0, none⟩ = some (.pointer (some ⟨p, 0, none⟩)) := World.cell?_alloc_at _ _ _ _ rfl
  have b2 : ((w.alloc (.cells #[.pointer (some ⟨p, 0, none⟩)] 80)).alloc (.cells #[.slice N names.length capN] 60)).cell? ⟨w.heap.size + 1, 0, none⟩ = some (.slice N names.length capN) := World.cell?_alloc_at _ _ _ _ (by simp)
  have b3 : (((w.alloc (.cells #[.pointer (some ⟨p, 0, none⟩)] 80)).alloc (.cells #[.slice N names.length capN] 60)).alloc (.cells #[.slice D want.length capD] 34)).cell? ⟨w.heap.size + 1 + 1, 0, none⟩ = some (.slice D want.length capD) := World.cell?_alloc_at _ _ _ _ (by simp)
  have C1 := Lib.hid (C.out W aW (by rw [hW]; exact ((((Aft.refl _).alloc _).alloc _).cell_kept b1)) (by rw [hW]; exact (((Aft.refl _).alloc _).cell_kept b2)) (by rw [hW]; exact b3))
  have HA := Lib.hid aW
  rw [← hW]
  clear hW aW C
  refine C1.out.mono ?_
  rintro e w1 ⟨rfl, a1⟩
  have HA1 := Lib.hid (HA.out.trans a1)
  clear a1
  go_wp2_with fail
  go_ret
  exact ⟨rfl, HA1.out⟩
end Go.Proofs.YtiadkchlkdaceaaGreat

namespace Go.Proofs.YtiadkchlkdaceaaGreat
open Go.RowKit
set_option maxRecDepth 100000
set_option linter.unusedVariables false
@[go_sem ↓] theorem run_neqCol_self (w : World) (s : ByteArray) (k : Int) (b : Bool) :
    (binOp .neq 93 (.agg #[.string s, .int .i64 k, .bool b]) (.agg #[.string s, .int .i64 k, .bool b])).run Tryz.prog w = .ok (.bool false) w := by
  rw [run_neq_struct]; go_simp; try rfl
@[go_sem ↓] theorem run_neqSch_self (w : World) (s t : ByteArray) :
    (binOp .neq 88 (.agg #[.string s, .string t]) (.agg #[.string s, .string t])).run Tryz.prog w = .ok (.bool false) w := by
  rw [run_neq_struct]; go_simp; try rfl
end Go.Proofs.YtiadkchlkdaceaaGreat

namespace Go.Proofs.YtiadkchlkdaceaaGreat
open Go.RowKit
set_option maxRecDepth 100000
set_option linter.unusedVariables false
def LargeP (w : World) (o : Objs) (e : Ending) (w' : World) : Prop := ∃ b : Bool, e = .returned (.bool b) ∧ (b = false → ModO o) ∧ Aft w w'
def ModTs (l : List Tab) : Prop := ∀ t ∈ l, t.cols.length ≤ 3000 ∧ t.rules.length ≤ 3000 ∧ ∀ r ∈ t.rules, r.cols.length ≤ 3000
theorem ModTs.snoc {l : List Tab} {k : Nat} (hk : k < l.length) (h : ModTs (l.take k)) (h1 : l[k].cols.length ≤ 3000) (h2 : l[k].rules.length ≤ 3000) (h3 : ∀ r ∈ l[k].rules, r.cols.length ≤ 3000) : ModTs (l.take (k + 1)) := by
  intro t ht
  rw [List.take_succ_eq_append_getElem hk, List.mem_append, List.mem_singleton] at ht
  rcases ht with ht | rfl
  · exact h t ht
  · exact ⟨h1, h2, h3⟩
theorem mem_snoc_all {α : Type} {l : List α} {k : Nat} (hk : k < l.length) {P : α → Prop} (h : ∀ r ∈ l.take k, P r) (h1 : P l[k]) : ∀ r ∈ l.take (k + 1), P r := by
  intro r hr
  rw [List.take_succ_eq_append_getElem hk, List.mem_append, List.mem_singleton] at hr
  rcases hr with hr | rfl
  · exact h r hr
  · exact h1
end Go.Proofs.YtiadkchlkdaceaaGreat

namespace Go.Proofs.YtiadkchlkdaceaaGreat
open Go.RowKit Go.Deep
set_option maxRecDepth 100000
set_option linter.unusedVariables false
theorem ObjP.aft {w w' w'' : World} {r : Objs × Int} {e : Ending} (h : ObjP w r e w') (a : Aft w' w'') : ObjP w r e w'' := by
  obtain ⟨hs, ht, L, hL, he, ha, ob⟩ := h
  exact ⟨hs, ht, L, hL, he, ha.trans a, ob.aft a⟩
theorem Kp.kb {B B' : Nat} {w w' : World} (h : Kp B B' w w') : Kb (fun k => B ≤ k ∧ k < B') w w' := ⟨h.os, h.tape, h.output, h.size, fun k hk hn => h.block k hk (by omega)⟩
end Go.Proofs.YtiadkchlkdaceaaGreat

namespace Go.Proofs.YtiadkchlkdaceaaGreat
open Go.RowKit Go.Deep Go.Shelf
set_option maxRecDepth 100000
set_option linter.unusedVariables false
@[go_sem] theorem semAt_round (l : Nat) (ρ : Operand → Value) (o : Oper) (h : ∀ c, o.op ≠ .defer c) : Oper.semAt (some l) ρ o = execOp ρ o := Oper.semAt_some l ρ o h
/-- all cells lie as they lay -/
structure Kc (W W' : World) : Prop where
  size : W.heap.size ≤ W'.heap.size
  cells : ∀ (k : Nat) (o : Obj), W.heap[k]? = some o → o.isCells = true → W'.heap[k]? = some o
theorem Kc.refl (W : World) : Kc W W := ⟨Nat.le_refl _, fun _ _ h _ => h⟩
theorem Kc.trans {A B C : World} (h : Kc A B) (k : Kc B C) : Kc A C := ⟨Nat.le_trans h.size k.size, fun j o hj ho => k.cells j o (h.cells j o hj ho) ho⟩
theorem Kc.of_aft {W W' : World} (a : Aft W W') : Kc W W' := ⟨a.size, fun k o hk _ => (a.block k (Array.getElem?_eq_some_iff.1 hk).1).trans hk⟩
theorem Kc.put {W : World} {l : Nat} {o o' : Obj} (hl : W.heap[l]? = some o) (ho : o.isCells = false) : Kc W (W.putObj l o') := by
  refine ⟨by simp [World.putObj], fun k o2 hk hc => ?_⟩
  have hne : k ≠ l := fun e => by
    subst e
    rw [hl] at hk
    cases hk
    rw [ho] at hc; cases hc
  exact (World.putObj_heap_other hne).trans hk
theorem Kc.block {W W' : World} (h : Kc W W') {p : Addr} {v : Value} (hc : W.cell? p = some v) : W'.heap[p.block]? = W.heap[p.block]? := by
  unfold World.cell? at hc
  cases hh : W.heap[p.block]? with
  | none => rw [hh] at hc; cases hc
  | some o =>
    rw [h.cells _ o hh ?_]
    rw [hh] at hc
    cases o <;> first | rfl | cases hc
theorem Kc.cell {W W' : World} (h : Kc W W') {p : Addr} {v : Value} (hc : W.cell? p = some v) : W'.cell? p = some v := by
  have := h.block hc
  unfold World.cell? at hc ⊢
  rw [this]; exact hc
theorem Kc.row {W W' : World} (h : Kc W W') {g : Nat} {xs : List Value} (hr : RowAt W g xs) (h0 : 0 < xs.length) : RowAt W' g xs := by
  have hb : W'.heap[g]? = W.heap[g]? := h.block (p := ⟨g, 0, none⟩) (v := xs[0]) (by rw [hr.2.1 0 h0, List.getElem?_eq_getElem h0])
  refine ⟨Nat.lt_of_lt_of_le hr.1 h.size, fun j hj => ?_, fun j hj => ?_⟩
  · rw [← hr.2.1 j hj]; simp [World.cell?, hb]
  · rw [← hr.2.2 j hj]; simp [World.frozen?, hb]
/-- a table and one of its rules, as they are handed over -/
structure FP where
  t : Tab
  r : Rul
  a1 : Option Addr
  c1 : Nat
  a2 : Option Addr
  c2 : Nat
  a3 : Option Addr
  c3 : Nat
def FP.enc (x : FP) : Array Value := #[.agg #[.string x.t.schema, .string x.t.name, .string x.t.owner, .slice x.a1 x.t.cols.length x.c1, .slice x.a2 x.t.rules.length x.c2],
  .agg #[.string x.r.name, .int .i64 x.r.kind, .slice x.a3 x.r.cols.length x.c3, .int .i64 x.r.low, .int .i64 x.r.high, .string x.r.schema, .string x.r.table, .string x.r.key]]
def FP.key (x : FP) : Tab × Rul := (x.t, x.r)
end Go.Proofs.YtiadkchlkdaceaaGreat

namespace Go.Proofs.YtiadkchlkdaceaaGreat
set_option linter.unusedVariables false
section
variable {F : Fence} {n : Nat} {P : Program} {ops : Array Oper} {C : World → Prop} {md : Region.Mode}
/-- no deferred call is laid -/
def plainO (o : Oper) : Bool := match o.op with | .defer _ => false | _ => true
theorem plainO.sem {o : Oper} (h : plainO o = true) (r : Option Nat) (ρ : Operand → Value) : Oper.semAt r ρ o = execOp ρ o := by
  cases r with
  | none => exact Oper.semAt_none ρ o
  | some l => exact Oper.semAt_some l ρ o (fun c e => by unfold plainO at h; rw [e] at h; cases h)
theorem quiet_wp9 {o : Oper} {a : Act} {K : Act → Prop} {K' : Act → World → Prop} {Q' : Exit → Act → World → Prop} {w : World} (hp : plainO o = true) (hw : C w) (h : ∀ a w', C w' → K a → K' a w')
    (ha : o.askedIn F P a C) (hh : o.quietIn F n P a C K) : o.wpIn F n P a w K' Q' := by
  obtain ⟨v, h1, h2⟩ := hh
  refine ⟨ha w hw, ?_⟩
  rw [plainO.sem hp]
  have h3 := h1 w hw
  unfold Oper.quietAtIn at h3
  revert h3
  generalize (execOp a.eval o).run P w = r
  intro h3
  cases r with
  | halt x w' => simp only [Oper.quietUponIn] at h3
  | ok x w' =>
    cases x <;> simp only [Oper.quietUponIn] at h3 <;> simp only [Oper.uponIn]
    case value u => rw [h3.1, h3.2]; exact h _ _ hw h2
    case skip => rw [h3.1, ← h3.2]; exact h _ _ hw h2
    case enter f args =>
      rw [h3.1]
      exact ⟨h3.2.1, h3.2.2.mono fun e w'' he => by rw [he.1]; exact h _ _ he.2 h2⟩
theorem quiet_any9 {Q : Act → Prop} {Q' : Exit → Act → World → Prop} (hp : ∀ (i : Nat) (o : Oper), ops[i]? = some o → plainO o = true) (hQ : ∀ a w, C w → Q a → Q' .normal a w) :
    ∀ (fuel : Nat) (listed : Array Bool) (a : Act) (w : World), C w → wpAnyQIn F n P md ops C Q fuel listed a → wpAnyIn F n P md ops Q' fuel listed a w
  | 0, _, _, _, hw, h => ⟨h.1, hQ _ _ hw h.2⟩
  | fuel + 1, _, a, w, hw, h => ⟨fun h0 => hQ _ _ hw (h.1 h0), fun i hi => by
    have h1 := h.2 i hi
    unfold qOpIn at h1
    unfold wpOpIn
    cases ho : ops[i]? with
    | none => rw [ho] at h1; exact quiet_any9 hp hQ fuel _ a w hw h1
    | some o =>
      rw [ho] at h1
      simp only at h1 ⊢
      by_cases hwn : Region.wanted o (yielded ops a.tmps) = true
      · rw [if_pos hwn] at h1 ⊢
        exact quiet_wp9 (hp i o ho) hw (fun a' w' hw' => quiet_any9 hp hQ fuel _ a' w' hw') h1.1 h1.2
      · rw [if_neg hwn] at h1 ⊢
        exact ⟨h1.1 w hw, quiet_any9 hp hQ fuel _ _ w hw h1.2⟩⟩
end
end Go.Proofs.YtiadkchlkdaceaaGreat

namespace Go.Proofs.YtiadkchlkdaceaaGreat
open Go.RowKit Go.Deep Go.Shelf
set_option maxRecDepth 100000
set_option linter.unusedVariables false
/-- a rule, as it is handed over -/
structure RP where
  r : Rul
  a : Option Addr
  c : Nat
def RP.enc (x : RP) : Array Value := #[.agg #[.string x.r.name, .int .i64 x.r.kind, .slice x.a x.r.cols.length x.c, .int .i64 x.r.low, .int .i64 x.r.high, .string x.r.schema, .string x.r.table, .string x.r.key]]
/-- .. in a world in which its columns' names lie -/
abbrev RPx (X : World) (x : Shf) (kd : Int) : Type := { y : RP // SlAt X 1 StrR y.a y.c y.r.cols ∧ y.r ∈ x.t.rules ∧ (y.r.kind == kd) = true }
def RPx.of {X : World} {x : Shf} {kd : Int} (y : RP) (h1 : SlAt X 1 StrR y.a y.c y.r.cols) (h2 : y.r ∈ x.t.rules) (h3 : (y.r.kind == kd) = true) : RPx X x kd := ⟨y, h1, h2, h3⟩
def RPx.enc {X : World} {x : Shf} {kd : Int} (y : RPx X x kd) : Array Value := RP.enc y.1
def RPx.r {X : World} {x : Shf} {kd : Int} (y : RPx X x kd) : Rul := y.1.r
def ofK (kd : Int) (rs : List Rul) : List Rul := rs.filter fun r => r.kind == kd
theorem ofK_succ (kd : Int) (rs : List Rul) (k : Nat) (hk : k < rs.length) : ofK kd (rs.take (k + 1)) = ofK kd (rs.take k) ++ (if rs[k].kind == kd then [rs[k]] else []) := by
  unfold ofK
  rw [List.take_succ_eq_append_getElem hk, List.filter_append]
  congr 1
  cases h : rs[k].kind == kd <;> simp [h]
theorem ofK_pre (kd : Int) (rs : List Rul) (m : Nat) : ofK kd (rs.take m) <+: ofK kd rs := by
  unfold ofK
  refine ⟨(rs.drop m).filter fun r => r.kind == kd, ?_⟩
  rw [← List.filter_append, List.take_append_drop]
set_option maxHeartbeats 8000000 in
theorem rules1_in (m : Nat) (hm : 1 ≤ m) (p : Nat) (x : Shf) (A : Option Addr) (cap : Nat) (A2 : Option Addr) (cap2 : Nat) (A3 : Option Addr) (cap3 : Nat) (kd : Int) (bx bk l : Nat) (V X W : World) (aV : Aft V X) (aW : Aft X W) (hs : ShfAt V p x A cap A2 cap2 A3 cap3)
    (c0 : X.cell? ⟨bx, 0, none⟩ = some (.pointer (some ⟨p, 0, none⟩))) (c1 : X.cell? ⟨bk, 0, none⟩ = some (.int .i64 kd)) (J Jx : List (RPx V x kd) → World → Prop) (hJ : AbidesFrom W.heap.size J)
    (hY : ∀ pre y W1, J pre W1 → pre.length < (ofK kd x.t.rules).length → YieldAt Fence.wide (m - 1) Tryz.prog l (RPx.enc y) W1 fun e W' => (e = .returned (.bool true) ∧ J (pre ++ [y]) W' ∧ (Kc W1 W' ∧ Below X.heap.size W1 W')) ∨ (e = .returned (.bool false) ∧ Jx (pre ++ [y]) W'))
    (h0 : J [] W) :
    CallsIn Fence.wide m Tryz.prog 124 #[.func (.yield l) #[] #[], .pointer (some ⟨bx, 0, none⟩), .pointer (some ⟨bk, 0, none⟩)] W fun e W' => (∃ v, e = .returned v) ∧ ((∃ xs, xs.map RPx.r = ofK kd x.t.rules ∧ J xs W') ∨ (∃ pre, (pre.map RPx.r <+: ofK kd x.t.rules) ∧ Jx pre W')) := by
  have hlen := hs.ruls.len
  have HS := Lib.hid hs
  have HA := Lib.hid aW
  have HV := Lib.hid aV
  have HJ := Lib.hid hJ
  have HC := Lib.hid (show ∀ w', Aft X w' → (w'.cell? ⟨bx, 0, none⟩ = some (.pointer (some ⟨p, 0, none⟩)) ∧ w'.cell? ⟨bk, 0, none⟩ = some (.int .i64 kd) ∧ w'.cell? ⟨p, 4, none⟩ = some (.slice A2 x.t.rules.length cap2) ∧ bx < w'.heap.size ∧ bk < w'.heap.size ∧ p < w'.heap.size) from fun w' a => ⟨a.cell_kept c0, a.cell_kept c1, (hs.row.aft (aV.trans a)).cell (j := 4) rfl, World.block_lt_of_cell? _ _ (a.cell_kept c0), World.block_lt_of_cell? _ _ (a.cell_kept c1), (hs.row.aft (aV.trans a)).1⟩)
  have HYY := Lib.hid hY
  have H0 := Lib.hid h0
  obtain ⟨x0, x1, x2, x3, x4, x5⟩ := HC.out W aW
  clear hs aW aV hJ hY h0 c0 c1
  refine callsIn_of_wp Tryz.func124 rfl trivial ?_ rfl
  simp only [Tryz.ntmps124, List.size_toArray, List.length_cons, List.length_nil, Nat.reduceAdd, Nat.reduceSub, Array.replicate_succ, Array.replicate_zero, List.push_toArray, List.append_toArray, List.nil_append, List.cons_append]
  gi_wp2
  gi_loopw [12] (fun i wr => ∃ (k : Nat) (pre : List (RPx V x kd)), k ≤ x.t.rules.length ∧ i = .int .i64 k ∧ Aft X wr ∧ J pre wr ∧ W.heap.size ≤ wr.heap.size ∧ pre.map RPx.r = ofK kd (x.t.rules.take k)) (fun i _ => x.t.rules.length - (intOf i).toNat)
  case atStart => exact ⟨0, [], Nat.zero_le _, rfl, HA.out, H0.out, Nat.le_refl _, rfl⟩
  case round =>
    obtain ⟨k, pre, hk, rfl, ha, hj, hz, hpk⟩ := hrel
    have HAR := Lib.hid ha
    have HJR := Lib.hid hj
    have HPK := Lib.hid hpk
    have HZR := Lib.hid hz
    clear ha hj hpk hz
    by_cases hlt : k < x.t.rules.length
    · obtain ⟨b3, off3, A4, cap4, rfl, hb3, r0, r1, r2, r3, r4, r5, r6, r7, hcs, _⟩ := rul_at HS.out.ruls hlt
      have hf := ofK_succ kd x.t.rules k hlt
      replace r0 := (HV.out.trans HAR.out).cell_kept r0
      replace r1 := (HV.out.trans HAR.out).cell_kept r1
      replace r2 := (HV.out.trans HAR.out).cell_kept r2
      replace r3 := (HV.out.trans HAR.out).cell_kept r3
      replace r4 := (HV.out.trans HAR.out).cell_kept r4
      replace r5 := (HV.out.trans HAR.out).cell_kept r5
      replace r6 := (HV.out.trans HAR.out).cell_kept r6
      replace r7 := (HV.out.trans HAR.out).cell_kept r7
      replace hb3 := Nat.lt_of_lt_of_le hb3 (HV.out.trans HAR.out).size
      have hmem := List.getElem_mem hlt
      obtain ⟨r, hr⟩ : ∃ r, x.t.rules[k] = r := ⟨_, rfl⟩
      rw [hr] at r0 r1 r2 r3 r4 r5 r6 r7 hf hcs hmem
      obtain ⟨y1, y2, y3, y4, y5, y6⟩ := HC.out wr HAR.out
      have HF := Lib.hid hf
      have HCS := Lib.hid hcs
      have HME := Lib.hid hmem
      have lw2 := Nat.lt_succ_self wr.heap.size
      have m1 : b3 < wr.heap.size + 1 := by omega
      have m2 : bk < wr.heap.size + 1 := by omega
      have HA1 := Lib.hid ((Aft.refl wr).alloc (.cells #[.string r.name, .int .i64 r.kind, .slice A4 r.cols.length cap4, .int .i64 r.low, .int .i64 r.high, .string r.schema, .string r.table, .string r.key] 108))
      have HJ3 := Lib.hid (HJ.out pre wr _ none HJR.out (World.grownBy_alloc wr (.cells #[.string r.name, .int .i64 r.kind, .slice A4 r.cols.length cap4, .int .i64 r.low, .int .i64 r.high, .string r.schema, .string r.table, .string r.key] 108) none) (fun r e => by cases e))
      clear hr hf hcs hmem
      by_cases g1 : (r.kind == kd) = true
      · have G1 := Lib.hid g1
        have hx1 : (pre ++ [RPx.of (x := x) ⟨r, A4, cap4⟩ HCS.out HME.out G1.out]).map RPx.r = ofK kd (x.t.rules.take (k + 1)) := by
          rw [List.map_append, HPK.out, HF.out, if_pos G1.out]; rfl
        have HX1 := Lib.hid hx1
        have hlenp : pre.length < (ofK kd x.t.rules).length := by
          have h1 := (ofK_pre kd x.t.rules (k + 1)).length_le
          rw [← hx1, List.length_map, List.length_append] at h1
          simp at h1
          omega
        obtain ⟨fn, tmps, assign, body, hy, hR⟩ := HYY.out pre (RPx.of ⟨r, A4, cap4⟩ HCS.out HME.out G1.out) _ HJ3.out hlenp
        dsimp only [RPx.enc, RPx.of, RP.enc] at hy
        have HR := Lib.hid hR
        clear hx1 hR hlenp
        gi_wp2
        refine HR.out.mono ?_
        rintro e W3 (⟨rfl, hJ5, hk5⟩ | ⟨rfl, hJx5⟩)
        · have HA5 := Lib.hid (show Aft X W3 from Below.trans (HAR.out.trans HA1.out) hk5.2)
          have HZ5 := Lib.hid (show W.heap.size ≤ W3.heap.size from Nat.le_trans HZR.out (Nat.le_trans HA1.out.size hk5.2.size))
          have HJ5 := Lib.hid hJ5
          clear hJ5 hk5
          gi_wp2
          go_roundw
          case rel => exact ⟨k + 1, _, by omega, by go_num, HA5.out, HJ5.out, HZ5.out, HX1.out⟩
          case measure => simp [intOf]; omega
        · have HJ5 := Lib.hid hJx5
          clear hJx5
          gi_wp2
          refine bodyPost_ret (results_none rfl _ _ _) rfl ?_
          exact ⟨⟨_, rfl⟩, .inr ⟨_, by rw [HX1.out]; exact ofK_pre kd x.t.rules (k + 1), HJ5.out⟩⟩
      · have e1 : (r.kind == kd) = false := by simpa using g1
        have HN := Lib.hid (show ofK kd (x.t.rules.take (k + 1)) = ofK kd (x.t.rules.take k) by rw [HF.out, e1]; simp)
        clear g1
        gi_wp2
        refine ⟨fun _ h => (by cases h), ?_⟩
        gi_wp2
        go_roundw
        case rel => exact ⟨k + 1, pre, by omega, by go_num, HAR.out.trans HA1.out, HJ3.out, Nat.le_trans HZR.out HA1.out.size, by rw [HN.out, HPK.out]⟩
        case measure => simp [intOf]; omega
    · have hkk : k = x.t.rules.length := by omega
      have HP := Lib.hid (show pre.map RPx.r = ofK kd x.t.rules by rw [HPK.out, hkk, List.take_length])
      gi_wp2
      go_end0
      exact ⟨⟨_, rfl⟩, .inl ⟨pre, HP.out, HJR.out⟩⟩
theorem rules12 (p : Nat) (kd : Int) (w : World) :
    Calls Tryz.prog 103 #[.pointer (some ⟨p, 0, none⟩), .int .i64 kd] w fun e w' => e = .returned (.func (.func 124) #[] #[.pointer (some ⟨w.heap.size, 0, none⟩), .pointer (some ⟨w.heap.size + 1, 0, none⟩)]) ∧ w' = (w.alloc (.cells #[.pointer (some ⟨p, 0, none⟩)] 80)).alloc (.cells #[.int .i64 kd] 106) := by
  go_enter Tryz.func103, Tryz.ntmps103
  go_wp2_with fail
  go_ret
  exact ⟨rfl, rfl⟩
theorem rules_stops (m : Nat) (hm : 1 ≤ m) (p : Nat) (x : Shf) (A : Option Addr) (cap : Nat) (A2 : Option Addr) (cap2 : Nat) (A3 : Option Addr) (cap3 : Nat) (kd : Int) (bx bk : Nat) (V X : World) (aV : Aft V X) (hs : ShfAt V p x A cap A2 cap2 A3 cap3)
    (c0 : X.cell? ⟨bx, 0, none⟩ = some (.pointer (some ⟨p, 0, none⟩))) (c1 : X.cell? ⟨bk, 0, none⟩ = some (.int .i64 kd)) :
    SeqStopsK Fence.wide m Tryz.prog 124 #[.pointer (some ⟨bx, 0, none⟩), .pointer (some ⟨bk, 0, none⟩)] (RPx.enc (X := V) (x := x) (kd := kd)) (fun W W' => Kc W W' ∧ Below X.heap.size W W') (fun xs => xs.map RPx.r = ofK kd x.t.rules) (fun pre => pre.map RPx.r <+: ofK kd x.t.rules) (ofK kd x.t.rules).length X := fun l J Jx W hW hJ hJx hY h0 =>
  rules1_in m hm p x A cap A2 cap2 A3 cap3 kd bx bk l V X W aV hW hs c0 c1 J Jx hJ hY h0
end Go.Proofs.YtiadkchlkdaceaaGreat

namespace Go.Proofs.YtiadkchlkdaceaaGreat
open Go.RowKit
section
variable {P : Program} {ops : Array Oper} {Q : Exit → Act → World → Prop} {md : Region.Mode} {T : World → Prop} {m : Nat}
def wpAnyS (P : Program) (md : Region.Mode) (ops : Array Oper) (Q : Exit → Act → World → Prop) (T : World → Prop) (m : Nat) : Nat → Array Bool → Act → World → Prop
  | 0, listed, a, w => Region.ready md ops listed = [] ∧ Q .normal a w
  | fuel + 1, listed, a, w =>
    (Region.ready md ops listed = [] → Q .normal a w) ∧
    ∀ i ∈ Region.ready md ops listed, wpOp P ops Q i (fun a' w' => ((listed.setIfInBounds i true).getD m false = false → T w') ∧ wpAnyS P md ops Q T m fuel (listed.setIfInBounds i true) a' w') a w
theorem wpAny_of_S : ∀ (fuel : Nat) (listed : Array Bool) (a : Act) (w : World), wpAnyS P md ops Q T m fuel listed a w → wpAny P md ops Q fuel listed a w
  | 0, _, _, _, h => h
  | fuel + 1, _, _, _, h => ⟨h.1, fun i hi => wpOp_mono (fun a' w' h' => wpAny_of_S fuel _ a' w' h'.2) (h.2 i hi)⟩
theorem getD_set_other {listed : Array Bool} {i j : Nat} (d : Bool) (h : i ≠ j) : (listed.setIfInBounds i true).getD j d = listed.getD j d := by
  simp [Array.getElem?_setIfInBounds_ne h]
theorem wpAnyS_first {i : Nat} {oi : Oper} {v : Value} (hi : ops[i]? = some oi) (hsel : ∀ (j : Nat) (o : Oper) cs b, ops[j]? = some o → o.op ≠ .select cs b)
    (hQ : ∀ c a w, Q (.panic c) (a.put oi.dst v) w → Q (.panic c) a w) (hne : i ≠ m) (hm : ∀ om, ops[m]? = some om → ∃ e ∈ om.after, Region.binds md e = true ∧ e.on = i) :
    ∀ (fuel : Nat) (listed : Array Bool) (a : Act) (w : World),
      (∀ j oj, ops[j]? = some oj → j ≠ i → listed.getD j true = false → (∀ e ∈ oj.after, Region.binds md e = true → e.on ≠ i) → oi.apart ops oj = true) →
      i ∈ Region.ready md ops listed → YieldsIf P ops T oi v a → T w → listed.getD m false = false →
      wpAnyS P md ops Q T m fuel (listed.setIfInBounds i true) (a.put oi.dst v) w → wpAnyS P md ops Q T m (fuel + 1) listed a w := by
  intro fuel
  induction fuel with
  | zero =>
    intro listed a w _ hr hy hS hlm H
    refine ⟨fun h => (by rw [h] at hr; cases hr), fun j hj => ?_⟩
    by_cases hji : j = i
    · subst hji; exact hy.wpOp hi hS ⟨fun _ => hS, H⟩
    · have := ready_mono hj hji
      rw [H.1] at this
      cases this
  | succ fuel ih =>
    intro listed a w hfree hr hy hS hlm H
    refine ⟨fun h => (by rw [h] at hr; cases hr), fun j hj => ?_⟩
    by_cases hji : j = i
    · subst hji; exact hy.wpOp hi hS ⟨fun _ => hS, H⟩
    · have h1 := H.2 j (ready_mono hj hji)
      obtain ⟨hjun, oj, hoj, hall⟩ := mem_ready.1 hj
      have hnot : ∀ e ∈ oj.after, Region.binds md e = true → e.on ≠ i := fun e he hb heq => by
        have h1 := hall e he hb
        have h0 := (mem_ready.1 hr).1
        rw [heq] at h1
        rcases Nat.lt_or_ge i listed.size with h' | h'
        · simp [h'] at h0 h1; rw [h0] at h1; cases h1
        · simp [Array.getElem?_eq_none h'] at h1
      have hjm : j ≠ m := fun e => by
        subst e
        obtain ⟨e, he, hb, hei⟩ := hm oj hoj
        exact hnot e he hb hei
      have h2 := wpOp_putIf hoj (hfree j oj hoj hji hjun hnot) (fun cs b => hsel i oi cs b hi) (fun cs b => hsel j oj cs b hoj) hQ hy h1
      have hfree' : ∀ k ok, ops[k]? = some ok → k ≠ i → (listed.setIfInBounds j true).getD k true = false →
          (∀ e ∈ ok.after, Region.binds md e = true → e.on ≠ i) → oi.apart ops ok = true := fun k ok hk hki hun hno => by
        refine hfree k ok hk hki ?_ hno
        by_cases hjk : j = k
        · subst hjk; exact hjun
        · rw [getD_set_ne true hjk] at hun; exact hun
      have hlm' : (listed.setIfInBounds j true).getD m false = false := by rw [getD_set_other false hjm]; exact hlm
      have hlm2 : ((listed.setIfInBounds i true).setIfInBounds j true).getD m false = false := by rw [getD_set_other false hjm, getD_set_other false hne]; exact hlm
      refine wpOp_mono (fun a' w' h3 => ⟨fun _ => h3.2.1 hlm2, ih (listed.setIfInBounds j true) a' w' hfree' (ready_mono hr (Ne.symm hji)) h3.1 (h3.2.1 hlm2) hlm' ?_⟩) h2
      rw [Array.setIfInBounds_comm _ _ hji]
      exact h3.2.2
theorem andThen_inv {α β : Type} {r : Result α} {f : α → World → Result β} {n : β} {w' : World} (h : r.andThen f = .ok n w') : ∃ a w1, r = .ok a w1 ∧ f a w1 = .ok n w' := by
  cases r with
  | ok a w1 => exact ⟨a, w1, rfl, h⟩
  | halt x w1 => simp [Result.andThen] at h
/-- an operation that reads -/
def readB (o : Oper) : Bool := o.guard.isNone && match o.op with | .load .. | .fieldAddr .. | .indexAddr .. | .move .. | .nilCheck .. | .assign .. | .lookup .. => true | _ => false
theorem read_value {o : Oper} {ev : Operand → Value} {w w' : World} {n : Next} (h : readB o = true) (hr : (execOp ev o).run P w = .ok n w') : ∃ v, n = .value v := by
  unfold readB at h
  simp only [Bool.and_eq_true] at h
  obtain ⟨_, h⟩ := h
  unfold execOp at hr
  cases ho : o.op <;> rw [ho] at h hr <;> simp only [Bool.false_eq_true] at h
  case nilCheck x =>
    simp only at hr
    split at hr
    · simp [runtimePanic] at hr
    · simp [runtimePanic] at hr
    · simp [runtimePanic] at hr
    · split at hr
      · simp [runtimePanic] at hr
      · simp only [Sem.run_bind] at hr
        obtain ⟨p, w1, _, h1⟩ := andThen_inv hr
        obtain ⟨q, w2, _, h2⟩ := andThen_inv h1
        split at h2
        · rw [Sem.run_bind] at h2
          obtain ⟨r, w3, h3, _⟩ := andThen_inv h2
          simp [unsupported] at h3
        · simp only [Sem.run_pure, Result.ok.injEq] at h2; exact ⟨_, h2.1.symm⟩
      · simp only [Sem.run_pure, Result.ok.injEq] at hr; exact ⟨_, hr.1.symm⟩
    · simp only [Sem.run_pure, Result.ok.injEq] at hr; exact ⟨_, hr.1.symm⟩
  all_goals
    simp only [Sem.run_bind, Sem.run_pure] at hr
    first
      | (simp only [Result.ok.injEq] at hr; exact ⟨_, hr.1.symm⟩)
      | (generalize Sem.run P _ w = r at hr; cases r <;> simp [Result.andThen] at hr; exact ⟨_, hr.1.symm⟩)
theorem read_yields {o : Oper} {v : Value} {a : Act} (hb : readB o = true) (h : ∀ w, T w → o.quietAt P a T w v) : YieldsIf P ops T o v a := by
  have hg : o.guard = none := by unfold readB at hb; simp only [Bool.and_eq_true, Option.isNone_iff_eq_none] at hb; exact hb.1
  refine .inl ⟨by simp [Region.wanted, hg], fun w hw => ?_⟩
  have h1 := h w hw
  unfold Oper.quietAt at h1
  cases hr : (execOp a.eval o).run P w with
  | ok n w' =>
    obtain ⟨u, rfl⟩ := read_value hb hr
    rw [hr] at h1
    simp only [Oper.quietUpon] at h1
    rw [h1.1, h1.2]
  | halt x w' =>
    rw [hr] at h1
    simp only [Oper.quietUpon] at h1
/-- the first k are done -/
def lk (n k : Nat) : Array Bool := (Array.range n).map fun j => decide (j < k)
theorem lk_get {n k j : Nat} (hj : j < n) (d : Bool) : (lk n k).getD j d = decide (j < k) := by
  simp [lk, hj]
theorem lk_zero (n : Nat) : lk n 0 = Array.replicate n false := by
  apply Array.ext
  · simp [lk]
  · intro i h1 h2; simp [lk]
theorem lk_set {n k : Nat} (hk : k < n) : (lk n k).setIfInBounds k true = lk n (k + 1) := by
  apply Array.ext
  · simp [lk]
  · intro i h1 h2
    by_cases e : k = i
    · subst e; simp [lk]
    · rw [Array.getElem_setIfInBounds_ne (by simpa using h1) e]
      simp only [lk, Array.getElem_map, Array.getElem_range]
      have : (i < k) = (i < k + 1) := by
        apply propext; omega
      simp [this]
/-- the chain: what is asked of the world behind each operation ahead of m -/
def wpChain (P : Program) (ops : Array Oper) (Q : Exit → Act → World → Prop) (T : World → Prop) (m : Nat) : Nat → List Oper → Act → World → Prop
  | _, [], a, w => Q .normal a w
  | k, o :: r, a, w => o.wp P a w (fun a' w' => (k < m → T w') ∧ wpChain P ops Q T m (k + 1) r a' w') Q ∨ (o.asks P a w ∧ LetsOut Q)
theorem wpChain_step {k : Nat} {o : Oper} {r : List Oper} {a : Act} {w : World} (h : ∀ K : Act → World → Prop, (∀ a' w', (k < m → T w') → wpChain P ops Q T m (k + 1) r a' w' → K a' w') → o.wp P a w K Q) : wpChain P ops Q T m k (o :: r) a w :=
  .inl (h _ fun _ _ h1 h2 => ⟨h1, h2⟩)
/-- behind m the chain is a list like any other -/
theorem wpChain_list : ∀ (l : List Oper) {k : Nat} {a : Act} {w : World}, (∀ o ∈ l, o.guard = none) → m ≤ k → wpList P ops Q l a w → wpChain P ops Q T m k l a w
  | [], k, a, w, _, _, h => h
  | o :: r, k, a, w, hg, hk, h => by
    unfold wpList at h
    rw [if_pos (by simp [Region.wanted, hg o (by simp)])] at h
    rcases h with h | h
    · exact .inl (Oper.wp_mono (fun a' w' h' => ⟨fun hlt => absurd hlt (by omega), wpChain_list r (fun o ho => hg o (by simp [ho])) (by omega) h'⟩) h)
    · exact .inr h
def readsB (ops : Array Oper) (n m : Nat) : Bool :=
  Region.noSelect ops && decide (n ≤ m) && decide (m < ops.size) &&
  (List.range ops.size).all (fun k => match ops[k]? with
    | none => false
    | some o => if k < n then readB o && o.after.all (fun e => !Region.binds .any e || decide (e.on < k)) && Region.free .any ops (lk ops.size k) k && (match ops[m]? with | some om => om.after.any (fun e => Region.binds .any e && e.on == k) | none => false)
      else o.guard.isNone && (Region.ready .any ops (lk ops.size k) == [k])) && (Region.ready .any ops (lk ops.size ops.size) == [])
theorem chain_any {n : Nat} (hnm : n ≤ m) (hms : m < ops.size) (hc : ∀ k, n ≤ k → k < ops.size → ∃ o, ops[k]? = some o ∧ o.guard = none ∧ Region.ready .any ops (lk ops.size k) = [k]) (hz : Region.ready .any ops (lk ops.size ops.size) = []) :
    ∀ (l : List Oper) (k : Nat) (a : Act) (w : World), n ≤ k → k + l.length = ops.size → (∀ j (hj : j < l.length), ops[k + j]? = some l[j]) → wpChain P ops Q T m k l a w → wpAnyS P .any ops Q T m l.length (lk ops.size k) a w
  | [], k, a, w, _, hl, _, h => by
    have e : k = ops.size := by simpa using hl
    subst e
    exact ⟨hz, h⟩
  | o :: r, k, a, w, hk, hl, ho, h => by
    simp only [List.length_cons] at hl
    have hks : k < ops.size := by omega
    obtain ⟨o', ho', hg, hr⟩ := hc k hk hks
    have h0 := ho 0 (by simp)
    simp only [Nat.add_zero, List.getElem_cons_zero] at h0
    rw [h0] at ho'
    simp only [Option.some.injEq] at ho'
    subst ho'
    refine ⟨fun e => absurd (hr.symm.trans e) (by simp), fun i hi => ?_⟩
    rw [hr, List.mem_singleton] at hi
    subst hi
    unfold wpOp
    simp only [h0]
    rw [if_pos (by simp [Region.wanted, hg])]
    rcases h with h | h
    case inr => exact .inr h
    refine .inl (Oper.wp_mono (fun a' w' h' => ?_) h)
    refine ⟨fun hm => h'.1 ?_, ?_⟩
    · rw [lk_set hks, lk_get hms] at hm
      simp at hm; omega
    · rw [lk_set hks]
      exact chain_any hnm hms hc hz r (i + 1) a' w' (by omega) (by omega) (fun j hj => by have := ho (j + 1) (by simpa using hj); simpa [Nat.add_assoc, Nat.add_comm 1 j] using this) h'.2
theorem reads_any {n : Nat} (hsel : Region.noSelect ops = true) (hnm : n ≤ m) (hms : m < ops.size) (hQ : ∀ c a d v w, Q (.panic c) (Act.put a d v) w → Q (.panic c) a w)
    (hr : ∀ k, k < n → ∃ o, ops[k]? = some o ∧ readB o = true ∧ (∀ e ∈ o.after, Region.binds .any e = true → e.on < k) ∧ Region.free .any ops (lk ops.size k) k = true ∧ ∀ om, ops[m]? = some om → ∃ e ∈ om.after, Region.binds .any e = true ∧ e.on = k)
    (hc : ∀ k, n ≤ k → k < ops.size → ∃ o, ops[k]? = some o ∧ o.guard = none ∧ Region.ready .any ops (lk ops.size k) = [k]) (hz : Region.ready .any ops (lk ops.size ops.size) = []) (tl : List Oper) (htl : n + tl.length = ops.size) (hto : ∀ j (hj : j < tl.length), ops[n + j]? = some tl[j]) (w : World) (hT : T w) :
    ∀ (l : List Oper) (k : Nat) (a : Act), k + l.length = n → (∀ j (hj : j < l.length), ops[k + j]? = some l[j]) → wpQuiet P ops T (fun a' => wpChain P ops Q T m n tl a' w) l a → wpAnyS P .any ops Q T m (l.length + tl.length) (lk ops.size k) a w
  | [], k, a, hl, _, h => by
    have e : k = n := by simpa using hl
    subst e
    simp only [List.length_nil, Nat.zero_add]
    exact chain_any hnm hms hc hz tl k a w (Nat.le_refl _) htl hto h
  | o :: r, k, a, hl, ho, h => by
    simp only [List.length_cons] at hl
    have hkn : k < n := by omega
    have hks : k < ops.size := by omega
    obtain ⟨o', ho', hb, he, hf, hm⟩ := hr k hkn
    have h0 := ho 0 (by simp)
    simp only [Nat.add_zero, List.getElem_cons_zero] at h0
    rw [h0] at ho'
    simp only [Option.some.injEq] at ho'
    subst ho'
    have hg : o.guard = none := by unfold readB at hb; simp only [Bool.and_eq_true, Option.isNone_iff_eq_none] at hb; exact hb.1
    unfold wpQuiet at h
    rw [if_pos (by simp [Region.wanted, hg])] at h
    obtain ⟨v, hv, hn⟩ := h
    have e1 : (o :: r).length + tl.length = (r.length + tl.length) + 1 := by simp; omega
    rw [e1]
    refine wpAnyS_first h0 (Region.noSelect_spec hsel) (fun c a w h => hQ c a _ _ w h) (by omega) hm _ _ a w (Region.free_spec h0 hf) ?_ (read_yields hb hv) hT (by rw [lk_get hms]; simp; omega) ?_
    · rw [mem_ready]
      refine ⟨by rw [lk_get hks]; simp, o, h0, fun e hem hbd => ?_⟩
      have := he e hem hbd
      rw [lk_get (by omega)]
      simpa using this
    · rw [lk_set hks]
      exact reads_any hsel hnm hms hQ hr hc hz tl htl hto w hT r (k + 1) _ (by omega) (fun j hj => by have := ho (j + 1) (by simpa using hj); simpa [Nat.add_assoc, Nat.add_comm 1 j] using this) hn
theorem wp_region_reads0 {id : Nat} {a : Act} {w : World} {l : List Oper} (n m : Nat) (T : World → Prop) (hm : P.follows .mixedOrders = true) (hB : readsB l.toArray n m = true) (hQ : ∀ c a d v w, Q (.panic c) (Act.put a d v) w → Q (.panic c) a w) (hT : T w.drew)
    (h : wpQuiet P l.toArray T (fun a' => wpChain P l.toArray Q T m n (l.drop n) a' w.drew) (l.take n) a) : (Code.region id l.toArray true).wp P Q a w := by
  unfold readsB at hB
  simp only [Bool.and_eq_true, decide_eq_true_eq, List.all_eq_true, List.mem_range, beq_iff_eq] at hB
  obtain ⟨⟨⟨⟨hsel, hnm⟩, hms⟩, hall⟩, hz⟩ := hB
  have hml : m < l.length := by simpa using hms
  have hnl : n ≤ l.length := by omega
  refine wp_region_any hm (wpAny_of_S (T := T) (m := m) _ _ _ _ ?_)
  rw [← lk_zero]
  have htake : (l.take n).length = n := by rw [List.length_take]; omega
  have hsz : l.toArray.size = (l.take n).length + (l.drop n).length := by simp; omega
  have hopt : ∀ k (hk : k < l.length), l.toArray[k]? = some l[k] := fun k hk => by simp
  have key := reads_any (P := P) (ops := l.toArray) (Q := Q) (T := T) (m := m) (n := n) hsel hnm hms hQ ?_ ?_ hz (l.drop n) (by simp; omega) (fun j hj => by simp at hj ⊢) w.drew hT (l.take n) 0 a (by simpa using htake) (fun j hj => by simp only [List.length_take] at hj; simp) h
  · have e : (l.take n).length + (l.drop n).length = l.toArray.size := hsz.symm
    rw [e] at key
    exact key
  · intro k hk
    have hkl : k < l.length := by omega
    have := hall k (by simpa using hkl)
    rw [hopt k hkl] at this
    simp only [if_pos hk, Bool.and_eq_true] at this
    obtain ⟨⟨⟨h1, h2⟩, h3⟩, h4⟩ := this
    refine ⟨l[k], hopt k hkl, h1, fun e he hb => ?_, h3, fun om hom => ?_⟩
    · have := Array.all_eq_true_iff_forall_mem.1 h2 e he
      simp [hb] at this
      exact this
    · rw [hom] at h4
      simp only at h4
      obtain ⟨e, he, hb⟩ := Array.any_eq_true'.1 h4
      simp only [Bool.and_eq_true, beq_iff_eq] at hb
      exact ⟨e, he, hb.1, hb.2⟩
  · intro k hk hks
    have hkl : k < l.length := by simpa using hks
    have := hall k hks
    rw [hopt k hkl] at this
    simp only [if_neg (by omega : ¬ k < n), Bool.and_eq_true, Option.isNone_iff_eq_none, beq_iff_eq] at this
    exact ⟨l[k], hopt k hkl, this.1, this.2⟩
theorem wp_region_reads {id : Nat} {a : Act} {w : World} {l : List Oper} (n m : Nat) (T : World → Prop) (hm : P.follows .mixedOrders = true) (hB : readsB l.toArray n m = true) (hT : T w.drew)
    (h : wpQuiet P l.toArray T (fun a' => wpChain P l.toArray (NoPanic Q) T m n (l.drop n) a' w.drew) (l.take n) a) : (Code.region id l.toArray true).wp P Q a w :=
  wp_region_noPanic (wp_region_reads0 n m T hm hB (fun _ _ _ _ _ h => h) hT h)
end
end Go.Proofs.YtiadkchlkdaceaaGreat

namespace Go.Proofs.YtiadkchlkdaceaaGreat
open Go.RowKit
set_option linter.unusedVariables false
def InV (v : Value) (g : Nat) : Prop := v.ownBlock = some g
structure KLat (v : Value) (w : World) where
  to : World
  kb : Kb (InV v) w to
instance (v : Value) (w : World) : Nonempty (KLat v w) := ⟨⟨w, Kb.refl _ _⟩⟩
def klat (v : Value) (w : World) (x : KLat v w) : World := x.to
@[go_sem] theorem cell?_klat (v : Value) (w : World) (x : KLat v w) (b o : Nat) (h : b < w.heap.size) (hn : ¬ InV v b) : (klat v w x).cell? ⟨b, o, none⟩ = w.cell? ⟨b, o, none⟩ := by
  have := x.kb.block b h hn
  simp [World.cell?, klat, this]
@[go_sem] theorem frozen?_klat (v : Value) (w : World) (x : KLat v w) (b o : Nat) (h : b < w.heap.size) (hn : ¬ InV v b) : (klat v w x).frozen? ⟨b, o, none⟩ = w.frozen? ⟨b, o, none⟩ := by
  have := x.kb.block b h hn
  simp [World.frozen?, klat, this]
@[go_sem] theorem lt_klat (v : Value) (w : World) (x : KLat v w) (b : Nat) (h : b < w.heap.size) : b < (klat v w x).heap.size := Nat.lt_of_lt_of_le h x.kb.size
def KL (v : Value) (w w' : World) : Prop := ∃ x : KLat v w, w' = klat v w x
theorem KL.of {v : Value} {w w' : World} (h : Kb (InV v) w w') : ∃ x : KLat v w, w' = klat v w x := ⟨⟨w', h⟩, rfl⟩
theorem KL.aft {v : Value} {w w' : World} (h : Aft w w') : ∃ x : KLat v w, w' = klat v w x := KL.of (Kb.of_aft h)
theorem kb_in {v : Value} {w w' : World} (h : w.grownBy w' v.ownBlock) : Kb (InV v) w w' := Kb.of_grown h
end Go.Proofs.YtiadkchlkdaceaaGreat

namespace Go.Proofs.YtiadkchlkdaceaaGreat
open Go.RowKit Go.Deep Go.Shelf
set_option maxRecDepth 100000
set_option linter.unusedVariables false
theorem lvErr {W : World} {b : Nat} {v : Int} (h : W.cell? ⟨b, 0, none⟩ = some (.int .i64 v)) : (loadVar 44 ⟨b, 0, none⟩).run Tryz.prog W = .ok (.int .i64 v) W := by
  go_simp
theorem Kb.put {W : World} {D : Nat} {o : Obj} : Kb (fun g => g = D) W (W.putObj D o) :=
  ⟨rfl, rfl, rfl, by simp [World.putObj], fun k hk hn => World.putObj_heap_other hn⟩
theorem own_kbFrom {B X : Nat} {β : Type} {P : Nat → Prop} {w : World} (hX : w.heap.size ≤ X) : OwnFrom X (fun (_ : β) W => Kb P w W) := fun s W W' row h hg hr =>
  ⟨hg.os.trans h.os, hg.tape.trans h.tape, hg.output.trans h.output, Nat.le_trans h.size hg.size, fun k hk hn => (hg.block k (Nat.lt_of_lt_of_le hk h.size) (fun e => by have := (hr k e.symm).1; omega)).trans (h.block k hk hn)⟩
theorem own_cellFrom {β : Type} {X b o : Nat} {v : Value} (hb : b < X) : OwnFrom X (fun (_ : β) W => W.cell? ⟨b, o, none⟩ = some v) := fun s W W' row h hg hr => by
  have hlt := World.block_lt_of_cell? _ _ h
  have := hg.block b hlt (fun e => by have := (hr b e.symm).1; omega)
  show W'.cell? ⟨b, o, none⟩ = some v
  have h2 : W.cell? ⟨b, o, none⟩ = some v := h
  unfold World.cell? at h2 ⊢
  rw [this]; exact h2
theorem own_rowFrom {β : Type} {X b : Nat} {xs : List Value} (h0 : 0 < xs.length) : OwnFrom X (fun (_ : β) W => RowAt W b xs) := fun s W W' row h hg hr => by
  have hc : W.cell? ⟨b, 0, none⟩ = some xs[0] := by rw [h.2.1 0 h0, List.getElem?_eq_getElem h0]
  have hne : some b ≠ row := fun e => by
    obtain ⟨_, o, ho, hco⟩ := hr b e.symm
    unfold World.cell? at hc
    rw [ho] at hc
    cases o <;> first | cases hc | cases hco
  have hb := hg.block b h.1 hne
  refine ⟨Nat.lt_of_lt_of_le h.1 hg.size, fun j hj => ?_, fun j hj => ?_⟩
  · rw [← h.2.1 j hj]; simp [World.cell?, hb]
  · rw [← h.2.2 j hj]; simp [World.frozen?, hb]
end Go.Proofs.YtiadkchlkdaceaaGreat

namespace Go.Proofs.YtiadkchlkdaceaaGreat
open Go.RowKit Go.Deep Go.Shelf
set_option maxRecDepth 100000
set_option linter.unusedVariables false
theorem keyOf_find (t : Tab) (key : ByteArray) : keyOf t key = (((ofK 2 t.rules).find? fun r => eqS r.name key).map (·.cols)).getD [] := by
  unfold keyOf ofK
  rw [List.find?_filter]
  congr 3
  funext a
  simp [isKey, Bool.beq_eq_decide_eq]
theorem keyOf_hit {t : Tab} {key : ByteArray} {pre : List Rul} {y : Rul} (h : (pre ++ [y]) <+: ofK 2 t.rules) (hn : ∀ z ∈ pre, eqS z.name key = false) (hy : eqS y.name key = true) : keyOf t key = y.cols := by
  obtain ⟨m, hm⟩ := h
  rw [keyOf_find, ← hm, List.append_assoc, List.find?_append, List.find?_eq_none.2 (fun z hz => by simp [hn z hz])]
  simp [hy]
theorem keyOf_miss {t : Tab} {key : ByteArray} (h : ∀ z ∈ ofK 2 t.rules, eqS z.name key = false) : keyOf t key = [] := by
  rw [keyOf_find, List.find?_eq_none.2 (fun z hz => by simp [h z hz])]; rfl
def NamedP (w : World) (p : Nat) (names : List ByteArray) (e : Ending) (w' : World) : Prop :=
  ∃ K c, e = .returned (.tuple #[.pointer (some ⟨p, 0, none⟩), .slice K names.length c]) ∧ Aft w w' ∧ SlAt w' 1 StrR K c names
theorem keepsO_aft {W W' : World} (a : Aft W W') : KeepsOthers W W' := ⟨a.size, fun k o hk _ => (a.block k (Array.getElem?_eq_some_iff.1 hk).1).trans hk⟩
theorem own_aftFrom {β : Type} {X : World} : OwnFrom X.heap.size (fun (_ : β) W => Aft X W) := fun s W W' row h hg hr =>
  ⟨hg.os.trans h.os, hg.tape.trans h.tape, hg.output.trans h.output, Nat.le_trans h.size hg.size, fun k hk => (hg.block k (Nat.lt_of_lt_of_le hk h.size) (fun e => by have := (hr k e.symm).1; omega)).trans (h.block k hk)⟩
/-- the cells of a rule that is handed over -/
def RP.row (y : RP) : List Value := [.string y.r.name, .int .i64 y.r.kind, .slice y.a y.r.cols.length y.c, .int .i64 y.r.low, .int .i64 y.r.high, .string y.r.schema, .string y.r.table, .string y.r.key]
/-- a range over a shelf's rules: the loop's variable lies in a box -/
theorem range_rules {p : Nat} {x : Shf} {A : Option Addr} {cap : Nat} {A2 : Option Addr} {cap2 : Nat} {A3 : Option Addr} {cap3 : Nat} {kd : Int} {bx bk : Nat} {V X : World} (aV : Aft V X) (hs : ShfAt V p x A cap A2 cap2 A3 cap3)
    (c0 : X.cell? ⟨bx, 0, none⟩ = some (.pointer (some ⟨p, 0, none⟩))) (c1 : X.cell? ⟨bk, 0, none⟩ = some (.int .i64 kd))
    {g : Operand} {ps : Array Tmp} {assign body : Code} {Q : Exit → Act → World → Prop} {a : Act} (hg : a.eval g = .func (.func 124) #[] #[.pointer (some ⟨bx, 0, none⟩), .pointer (some ⟨bk, 0, none⟩)]) (hps : ps.size = 1)
    (I : List (RPx V x kd) → World → Prop) (Ix : Code → List (RPx V x kd) → World → Prop) (hI : OwnFrom X.heap.size I) (hIx : ∀ c, OwnFrom X.heap.size (Ix c)) (h0 : I [] X) (hIa : ∀ pre W V', I pre W → Aft W V' → I pre V') (hIX : ∀ pre W, I pre W → Aft X W) (F : RPx V x kd → Nat → Act)
    (hassign : ∀ (l : Nat) (pre : List (RPx V x kd)) (y : RPx V x kd) (W : World) (K : Act → World → Prop), I pre W → (∀ Bx V', Aft W V' → RowAt V' Bx y.1.row → K (F y Bx) V') →
      assign.wpIn (Fence.wide.inRound l) 6 Tryz.prog (Exit.then K (fun _ _ _ => False)) { tmps := (ps.zip (RPx.enc y)).foldl (fun t (p, v) => t.setIfInBounds p v) a.tmps, defers := [] } W)
    (hbody : ∀ (l : Nat) (pre : List (RPx V x kd)) (y : RPx V x kd) (Bx : Nat) (W : World), I pre W → RowAt W Bx y.1.row → body.wpIn (Fence.wide.inRound l) 6 Tryz.prog (ownPostG X.heap.size (fun W W' => Kc W W' ∧ Below X.heap.size W W') I Ix (pre ++ [y]) W) (F y Bx) W)
    (hdone : ∀ (D : Nat) (xs : List (RPx V x kd)) (W : World), X.heap.size ≤ D → xs.map RPx.r = ofK kd x.t.rules → I xs W → W.heap[D]? = some (.deferred (some [])) → Q .normal { a with defers := { target := .collected D, args := #[] } :: a.defers } W)
    (hstop : ∀ (D : Nat) (c : Code) (pre : List (RPx V x kd)) (W : World), X.heap.size ≤ D → pre.map RPx.r <+: ofK kd x.t.rules → Ix c pre W → W.heap[D]? = some (.deferred (some [])) → c.wpIn Fence.wide 8 Tryz.prog Q { a with defers := { target := .collected D, args := #[] } :: a.defers } W) :
    (Code.rangeFunc g ps assign body).wp Tryz.prog Q a X :=
  (wpIn_wide (n := 8)).1 (wpIn_rangeFunc_ownH (α := RPx V x kd) rfl (by omega) hg trivial (enters_of Tryz.func124 (by kernel_rfl) rfl) (rules_stops 7 (by omega) p x A cap A2 cap2 A3 cap3 kd bx bk V X aV hs c0 c1)
    (fun h k => ⟨h.1.trans k.1, h.2.trans k.2⟩) (fun W l o o' hl h ho hw => ⟨Kc.put h ho, belowK_b (Nat.le_refl _) W l o o' hl h ho hw⟩) (Below.refl _ _) (fun _ => hps.symm) I Ix hI hIx h0
    (fun y a' W' => ∃ Bx, RowAt W' Bx y.1.row ∧ a' = F y Bx)
    (fun x a' s' W W' row h hg hr => by
      obtain ⟨Bx, hrow, ha⟩ := h
      exact ⟨Bx, own_rowFrom (β := Unit) (by simp [RP.row]) () W W' row hrow hg hr, ha⟩)
    (fun l pre y W K hi hK => hassign l pre y W K hi fun Bx V' aV' hV => hK _ _ ((keepsO_aft aV').from _) ⟨Kc.of_aft aV', Below.mono aV' (hIX _ _ hi).size⟩ (hIa _ _ _ hi aV') ⟨Bx, hV, rfl⟩)
    (fun l pre y a' W hl hr hi hx hlt => by
      obtain ⟨Bx, hrow, rfl⟩ := hx
      exact hbody l pre y Bx W hi hrow)
    hdone hstop)
/-- a round has found the key's columns -/
def NamX (V X : World) (x : Shf) (key : ByteArray) (b1 b2 p : Nat) (c : Code) (pre : List (RPx V x 2)) (W' : World) : Prop :=
  (c = Code.ret ∧ ∃ pre0 y, pre = pre0 ++ [y] ∧ (∀ z ∈ pre0, eqS (RPx.r z).name key = false) ∧ eqS (RPx.r y).name key = true ∧ W'.cell? ⟨b2, 0, none⟩ = some (.slice y.1.a y.1.r.cols.length y.1.c)) ∧ (Kb (fun g => g = b1 ∨ g = b2) X W' ∧ W'.cell? ⟨b1, 0, none⟩ = some (.pointer (some ⟨p, 0, none⟩)))
theorem results_cell2 {fn : Func} {a b : Tmp} {t u : TypeId} (h : fn.results = #[.cell a t, .cell b u]) (tmps : Array Value) {P : Program} {w : World} {p q : Addr} {v v' : Value} (ha : tmps.getD a undef = .pointer (some p)) (hl : (loadVar t p).run P w = .ok v w) (hb : tmps.getD b undef = .pointer (some q)) (hm : (loadVar u q).run P w = .ok v' w) :
    (results fn tmps).run P w = .ok (.tuple #[v, v']) w := by
  rw [Array.getD_eq_getD_getElem?] at ha hb
  simp [results, h, ha, hb, asAddr, hl, hm]
theorem lvShf {W : World} {b : Nat} {v : Option Addr} (h : W.cell? ⟨b, 0, none⟩ = some (.pointer v)) : (loadVar 80 ⟨b, 0, none⟩).run Tryz.prog W = .ok (.pointer v) W := by
  go_simp
theorem lvStrs {W : World} {b : Nat} {A : Option Addr} {n c : Nat} (h : W.cell? ⟨b, 0, none⟩ = some (.slice A n c)) : (loadVar 60 ⟨b, 0, none⟩).run Tryz.prog W = .ok (.slice A n c) W := by
  go_simp
set_option maxHeartbeats 16000000 in
theorem named12 (s : Nat) (ps : List Nat) (S : List Shf) (r : Rul) (vc : Value) (q : Nat) (w : World) (h : StoIs w s ps S) (hq : shfAt S r.schema r.table = q) :
    Calls Tryz.prog 106 #[.pointer (some ⟨s, 0, none⟩), .agg #[.string r.name, .int .i64 r.kind, vc, .int .i64 r.low, .int .i64 r.high, .string r.schema, .string r.table, .string r.key]] w (NamedP w (ps.getD q 0) (keyOf (shfN S q).t r.key)) := by
  have hql := shfAt_lt hq
  have hqp : q < ps.length := by have := h.len; omega
  obtain ⟨A, cap, A2, cap2, A3, cap3, hsh⟩ := h.each q hqp hql
  have hgd : ps.getD q 0 = ps[q] := by rw [List.getD_eq_getElem?_getD, List.getElem?_eq_getElem hqp]; rfl
  rw [shfN_get hql, hgd]
  obtain ⟨p, hp⟩ : ∃ p, ps[q] = p := ⟨_, rfl⟩
  obtain ⟨x, hx⟩ : ∃ x, S[q] = x := ⟨_, rfl⟩
  rw [hp, hx] at hsh
  rw [hp, hx]
  have C0 := Lib.hid (show ∀ W, Aft w W → Calls Tryz.prog 25 #[.pointer (some ⟨s, 0, none⟩), .string r.schema, .string r.table] W fun e w' => e = .returned (.pointer (some ⟨p, 0, none⟩)) ∧ W = w' from
    fun W a => (find12 s ps S r.schema r.table W (h.aft a)).mono fun e w' ⟨he, hw⟩ => ⟨he.trans (by rw [hq, ptrV_at hqp, hp]), hw⟩)
  have HSH := Lib.hid hsh
  have C1 := Lib.hid (fun W => rules12 p 2 W)
  clear h hq hql hqp hgd hp hx hsh
  refine (callsIn_wide (n := 8)).1 ?_
  refine callsIn_of_wp_marks Tryz.func106 rfl trivial ?_ rfl
  simp only [Tryz.ntmps106, List.size_toArray, List.length_cons, List.length_nil, Nat.reduceAdd, Nat.reduceSub, Array.replicate_succ, Array.replicate_zero, List.push_toArray, List.append_toArray, List.nil_append, List.cons_append]
  refine wpIn_wide.2 ?_
  go_wp2_with fail
  obtain ⟨W, hW⟩ : ∃ W, W = ((w.alloc (.cells #[.string r.name, .int .i64 r.kind, vc, .int .i64 r.low, .int .i64 r.high, .string r.schema, .string r.table, .string r.key] 108)).alloc (.cells #[.pointer none] 80)).alloc (.cells #[.slice none 0 0] 60) := ⟨_, rfl⟩
  have aW : Aft w W := by rw [hW]; exact (((Aft.refl w).alloc _).alloc _).alloc _
  have zW := Lib.hid (show W.heap.size = w.heap.size + 3 by rw [hW]; simp)
  have k0 : RowAt W w.heap.size [.string r.name, .int .i64 r.kind, vc, .int .i64 r.low, .int .i64 r.high, .string r.schema, .string r.table, .string r.key] := by
    rw [hW]; exact ((box_row2 (c := [.string r.name, .int .i64 r.kind, vc, .int .i64 r.low, .int .i64 r.high, .string r.schema, .string r.table, .string r.key]) (Aft.refl _)).aft (((Aft.refl _).alloc _).alloc _))
  have k1 : RowAt W (w.heap.size + 1) [.pointer none] := by
    rw [hW]
    have := (box_row2 (w := w.alloc (.cells #[.string r.name, .int .i64 r.kind, vc, .int .i64 r.low, .int .i64 r.high, .string r.schema, .string r.table, .string r.key] 108)) (c := [.pointer none]) (t := 80) (Aft.refl _)).aft ((Aft.refl _).alloc (.cells #[.slice none 0 0] 60))
    simpa using this
  have k2 : RowAt W (w.heap.size + 1 + 1) [.slice none 0 0] := by
    rw [hW]
    have := box_row2 (w := (w.alloc (.cells #[.string r.name, .int .i64 r.kind, vc, .int .i64 r.low, .int .i64 r.high, .string r.schema, .string r.table, .string r.key] 108)).alloc (.cells #[.pointer none] 80)) (c := [.slice none 0 0]) (t := 60) (Aft.refl _)
    simpa using this
  rw [← hW]
  clear hW
  refine (C0.out W aW).mono ?_
  rintro e w1 ⟨rfl, rfl⟩
  have x5 := k0.cell (j := 5) rfl
  go_wp2_with fail
  refine (C1.out _).mono ?_
  rintro e X ⟨rfl, hX⟩
  have aX : Aft W X := by rw [hX]; exact (((Aft.refl _).alloc _).alloc _).alloc _
  have zX := Lib.hid (show X.heap.size = W.heap.size + 3 by rw [hX]; simp)
  have q0 : RowAt X W.heap.size [.pointer (some ⟨p, 0, none⟩)] := by rw [hX]; exact (box_row2 (c := [.pointer (some ⟨p, 0, none⟩)]) (Aft.refl _)).aft (((Aft.refl _).alloc _).alloc _)
  have q1 : X.cell? ⟨W.heap.size + 1, 0, none⟩ = some (.pointer (some ⟨p, 0, none⟩)) := by
    rw [hX]
    refine (Aft.cell_kept ((Aft.refl _).alloc _) (?_ : ((W.alloc (.cells #[.pointer (some ⟨p, 0, none⟩)] 80)).alloc (.cells #[.pointer (some ⟨p, 0, none⟩)] 80)).cell? ⟨W.heap.size + 1, 0, none⟩ = _))
    exact World.cell?_alloc_at _ _ _ _ (by simp)
  have q2 : X.cell? ⟨W.heap.size + 1 + 1, 0, none⟩ = some (.int .i64 2) := by rw [hX]; exact World.cell?_alloc_at _ _ _ _ (by simp)
  simp only [World.size_alloc]
  clear hX
  go_wp2_with fail
  have QX := Lib.hid (And.intro q1 q2)
  have HAX := Lib.hid (aW.trans aX)
  have K0 := Lib.hid (k0.aft aX)
  have K1 := Lib.hid (k1.aft aX)
  have K2 := Lib.hid (k2.aft aX)
  have Q0 := Lib.hid q0
  have z0 : w.heap.size < X.heap.size := by have := zX.out; have := zW.out; omega
  have z1 : w.heap.size + 1 < X.heap.size := by have := zX.out; have := zW.out; omega
  have z2 : w.heap.size + 1 + 1 < X.heap.size := by have := zX.out; have := zW.out; omega
  have z3 : W.heap.size < X.heap.size := by have := zX.out; omega
  clear k0 k1 k2 q0 q1 q2 aX aW x5
  refine range_rules HAX.out HSH.out QX.out.1 QX.out.2 rfl rfl
    (fun pre W' => Aft X W' ∧ ∀ y ∈ pre, eqS (RPx.r y).name r.key = false)
    (NamX w X x r.key (w.heap.size + 1) (w.heap.size + 1 + 1) p)
    (OwnFrom.and own_aftFrom (ownFrom_pure _ _)) (fun c s' W W' row h hg hr => by
      obtain ⟨⟨hc, pre0, y, h1, h2, h3, hcell⟩, hk, hp⟩ := h
      exact ⟨⟨hc, pre0, y, h1, h2, h3, own_cellFrom (β := Unit) z2 () W W' row hcell hg hr⟩, own_kbFrom (β := Unit) (B := 0) (Nat.le_refl _) () W W' row hk hg hr, own_cellFrom (β := Unit) z1 () W W' row hp hg hr⟩)
    ⟨Aft.refl _, fun y hy => by cases hy⟩
    (fun pre W V' h a => ⟨h.1.trans a, h.2⟩) (fun pre W h => h.1) ?F
    ?assign ?body ?done ?stop
  case assign =>
    intro l pre y W' K hi hK
    dsimp only [RPx.enc, RP.enc]
    have lw := Nat.lt_succ_self W'.heap.size
    gi_wp2
    obtain ⟨V, hV⟩ : ∃ V, V = W'.alloc (.cells y.1.row.toArray 108) := ⟨_, rfl⟩
    have aV : Aft W' V := by rw [hV]; exact (Aft.refl W').alloc _
    have rV : RowAt V W'.heap.size y.1.row := by rw [hV]; exact box_row2 (Aft.refl _)
    unfold RP.row at hV
    try dsimp only at hV
    rw [← hV]
    clear hV
    obtain ⟨Bx, hBx⟩ : ∃ Bx, Bx = W'.heap.size := ⟨_, rfl⟩
    rw [← hBx] at rV ⊢
    exact hK _ _ aV rV
  case body =>
    rintro l pre y Bx W' ⟨ha, hall⟩ hrow
    unfold RP.row at hrow
    have x7 := (K0.out.aft ha).cell (j := 7) rfl
    have xz := (K0.out.aft ha).1
    have t0 := hrow.cell (j := 0) rfl
    have t2 := hrow.cell (j := 2) rfl
    have tz := hrow.1
    have u0 := (Q0.out.aft ha).cell (j := 0) rfl
    have uz := (Q0.out.aft ha).1
    have v1 := (K1.out.aft ha).cell (j := 0) rfl
    have f1 := (K1.out.aft ha).2.2 0 (by simp)
    have v2 := (K2.out.aft ha).cell (j := 0) rfl
    have f2 := (K2.out.aft ha).2.2 0 (by simp)
    have HA := Lib.hid ha
    have HAL := Lib.hid hall
    clear ha hall hrow
    cases g : eqS y.1.r.name r.key
    · have e1 : (y.1.r.name.toList == r.key.toList) = false := g
      have HG := Lib.hid g
      clear g
      gi_wp2
      exact ⟨KeepsFrom.refl _ _, ⟨Kc.refl _, Below.refl _ _⟩, HA.out, fun z hz => by
        rcases List.mem_append.1 hz with h | h
        · exact HAL.out z h
        · rw [List.mem_singleton] at h; rw [h]; exact HG.out⟩
    · have e1 : (y.1.r.name.toList == r.key.toList) = true := g
      have HG := Lib.hid g
      clear g
      have hn1 : ¬ W.heap.size = w.heap.size + 1 := by have := zW.out; omega
      have hn2 : ¬ W.heap.size = w.heap.size + 1 + 1 := by have := zW.out; omega
      have hn3 : ¬ w.heap.size + 1 = W.heap.size := by have := zW.out; omega
      have hn4 : ¬ w.heap.size + 1 + 1 = W.heap.size := by have := zW.out; omega
      have FIN := Lib.hid (show NamX w X x r.key (w.heap.size + 1) (w.heap.size + 1 + 1) p Code.ret (pre ++ [y]) ((W'.setCell ⟨w.heap.size + 1, 0, none⟩ (.pointer (some ⟨p, 0, none⟩))).setCell ⟨w.heap.size + 1 + 1, 0, none⟩ (.slice y.1.a y.1.r.cols.length y.1.c)).drew from by
        have ks := Kb.set W' (w.heap.size + 1) 0 (.pointer (some ⟨p, 0, none⟩))
        have kr := Kb.set (W'.setCell ⟨w.heap.size + 1, 0, none⟩ (.pointer (some ⟨p, 0, none⟩))) (w.heap.size + 1 + 1) 0 (.slice y.1.a y.1.r.cols.length y.1.c)
        refine ⟨⟨rfl, pre, y, rfl, HAL.out, HG.out, ?_⟩, ?_, ?_⟩
        · refine (World.cell?_setCell_same' _ _ _ ?_ : World.cell? (World.setCell _ _ _) _ = _)
          rw [ks.cell v2 (fun e => by have e : w.heap.size + 1 + 1 = w.heap.size + 1 := e; omega)]
          rfl
        · exact (((Kb.of_aft HA.out).trans (ks.mono fun g _ e => .inl e)).trans (kr.mono fun g _ e => .inr e)).trans (Kb.of_aft (Aft.refl _).drew)
        · show World.cell? (World.setCell _ _ _) _ = _
          rw [World.cell?_setCell_other (h := by simp)]
          exact World.cell?_setCell_same' _ _ _ (by rw [v1]; rfl))
      have hmx : Tryz.prog.follows .mixedOrders = true := by kernel_rfl
      gi_wp2
      gi_region_with_o (fail)
      all_goals
        gi_wp2
        exact ⟨(((KeepsOthers.setCell _ _ _).trans (KeepsOthers.setCell _ _ _)).trans (KeepsOthers.drew _)).from _, FIN.out⟩
  case done =>
    rintro D xs W' hD hS ⟨ha, hall⟩ hK
    have HN := Lib.hid (show keyOf x.t r.key = [] from keyOf_miss fun z hz => by
      rw [← hS] at hz
      obtain ⟨y, hy, rfl⟩ := List.mem_map.1 hz
      exact hall y hy)
    have u0 := (Q0.out.aft ha).cell (j := 0) rfl
    have uz := (Q0.out.aft ha).1
    have v1 := (K1.out.aft ha).cell (j := 0) rfl
    have f1 := (K1.out.aft ha).2.2 0 (by simp)
    have vz1 := (K1.out.aft ha).1
    have v2 := (K2.out.aft ha).cell (j := 0) rfl
    have f2 := (K2.out.aft ha).2.2 0 (by simp)
    have vz2 := (K2.out.aft ha).1
    have HA := Lib.hid ha
    have HFI := Lib.hid (show ((((W'.setCell ⟨w.heap.size + 1, 0, none⟩ (.pointer (some ⟨p, 0, none⟩))).setCell ⟨w.heap.size + 1 + 1, 0, none⟩ (.slice none 0 0)).heap[D]? = some (.deferred (some []))) ∧
        (((W'.setCell ⟨w.heap.size + 1, 0, none⟩ (.pointer (some ⟨p, 0, none⟩))).setCell ⟨w.heap.size + 1 + 1, 0, none⟩ (.slice none 0 0)).putObj D (.deferred none)).cell? ⟨w.heap.size + 1, 0, none⟩ = some (.pointer (some ⟨p, 0, none⟩)) ∧
        (((W'.setCell ⟨w.heap.size + 1, 0, none⟩ (.pointer (some ⟨p, 0, none⟩))).setCell ⟨w.heap.size + 1 + 1, 0, none⟩ (.slice none 0 0)).putObj D (.deferred none)).cell? ⟨w.heap.size + 1 + 1, 0, none⟩ = some (.slice none 0 0) ∧
        Aft w (((W'.setCell ⟨w.heap.size + 1, 0, none⟩ (.pointer (some ⟨p, 0, none⟩))).setCell ⟨w.heap.size + 1 + 1, 0, none⟩ (.slice none 0 0)).putObj D (.deferred none))) from by
      have ks := Kb.set W' (w.heap.size + 1) 0 (.pointer (some ⟨p, 0, none⟩))
      have kr := Kb.set (W'.setCell ⟨w.heap.size + 1, 0, none⟩ (.pointer (some ⟨p, 0, none⟩))) (w.heap.size + 1 + 1) 0 (.slice none 0 0)
      have hDlt : D < W'.heap.size := (Array.getElem?_eq_some_iff.1 hK).1
      refine ⟨?_, ?_, ?_, ?_⟩
      · rw [kr.block D (by simp; omega) (fun e => by have e : D = w.heap.size + 1 + 1 := e; omega), ks.block D hDlt (fun e => by have e : D = w.heap.size + 1 := e; omega)]
        exact hK
      · refine (World.cell?_of_block (World.putObj_heap_other (k := w.heap.size + 1) (by omega))).trans ?_
        rw [World.cell?_setCell_other (h := by simp)]
        exact World.cell?_setCell_same' _ _ _ (by rw [v1]; rfl)
      · refine (World.cell?_of_block (World.putObj_heap_other (k := w.heap.size + 1 + 1) (by omega))).trans (World.cell?_setCell_same' _ _ _ ?_)
        rw [ks.cell v2 (fun e => by have e : w.heap.size + 1 + 1 = w.heap.size + 1 := e; omega)]
        rfl
      · have a1 := HAX.out.trans ha
        have z9 := HAX.out.size
        exact Kb.to_aft (P := fun g => w.heap.size ≤ g) (((ks.mono fun g _ e => by have e : g = w.heap.size + 1 := e; show w.heap.size ≤ g; omega).trans (kr.mono fun g _ e => by have e : g = w.heap.size + 1 + 1 := e; show w.heap.size ≤ g; omega)).trans (Kb.put.mono fun g _ e => by have e : g = D := e; show w.heap.size ≤ g; omega)) a1 (fun k hk e => by have e : w.heap.size ≤ k := e; omega))
    clear ha hall hS
    go_wp2_with fail
    refine ⟨by simp, .inl ⟨_, _, rfl, run_takeDeferred HFI.out.1, ?_⟩⟩
    refine ⟨_, results_cell2 rfl _ rfl (lvShf HFI.out.2.1) rfl (lvStrs HFI.out.2.2.1), ?_⟩
    rw [HN.out]
    exact ⟨none, 0, rfl, HFI.out.2.2.2, slAt_nil⟩
  case stop =>
    rintro D c pre W' hD hSp ⟨⟨rfl, pre0, y, rfl, hno, hyes, hcell⟩, hk, hp⟩ hK
    have HN := Lib.hid (show keyOf x.t r.key = y.1.r.cols from keyOf_hit (pre := pre0.map RPx.r) (y := RPx.r y) (by rw [List.map_append] at hSp; exact hSp) (fun z hz => by obtain ⟨u, hu, rfl⟩ := List.mem_map.1 hz; exact hno u hu) hyes)
    have HFI := Lib.hid (show (W'.putObj D (.deferred none)).cell? ⟨w.heap.size + 1, 0, none⟩ = some (.pointer (some ⟨p, 0, none⟩)) ∧ (W'.putObj D (.deferred none)).cell? ⟨w.heap.size + 1 + 1, 0, none⟩ = some (.slice y.1.a y.1.r.cols.length y.1.c) ∧ Aft w (W'.putObj D (.deferred none)) ∧ SlAt (W'.putObj D (.deferred none)) 1 StrR y.1.a y.1.c y.1.r.cols from by
      have z9 := HAX.out.size
      have a1 : Kb (fun g => w.heap.size + 1 = g ∨ w.heap.size + 1 + 1 = g ∨ g = D) X (W'.putObj D (.deferred none)) := (hk.mono fun g _ e => by omega).trans (Kb.put.mono fun g _ e => by have e : g = D := e; exact .inr (.inr e))
      refine ⟨(World.cell?_of_block (World.putObj_heap_other (k := w.heap.size + 1) (by omega))).trans hp, (World.cell?_of_block (World.putObj_heap_other (k := w.heap.size + 1 + 1) (by omega))).trans hcell, ?_, ?_⟩
      · exact Kb.to_aft (P := fun g => w.heap.size ≤ g) (a1.mono fun g _ e => by show w.heap.size ≤ g; omega) HAX.out (fun k hk e => by have e : w.heap.size ≤ k := e; omega)
      · exact strs_aft (Kb.to_aft (P := fun g => w.heap.size ≤ g) (a1.mono fun g _ e => by show w.heap.size ≤ g; omega) HAX.out (fun k hk e => by have e : w.heap.size ≤ k := e; omega)) y.2.1)
    clear hk hcell hSp hno hyes hp
    gi_wp2
    refine ⟨by simp, .inl ⟨_, _, rfl, run_takeDeferred hK, ?_⟩⟩
    refine ⟨_, results_cell2 rfl _ rfl (lvShf HFI.out.1) rfl (lvStrs HFI.out.2.1), ?_⟩
    rw [HN.out]
    exact ⟨_, _, rfl, HFI.out.2.2.1, HFI.out.2.2.2⟩
end Go.Proofs.YtiadkchlkdaceaaGreat

