/- Contracts of the program, part 36. -/
import Derived.Test.YticjnndhpfdajaaPart24
import Derived.RangeFuncNested
import Derived.RangeFuncBound
import Derived.RangeFuncCalls
import Derived.RangeFuncLeaves
import Derived.Shelf.Abstract
import Derived.Shelf.RegionOpen
import Derived.WalkKit
import Derived.OwnWalkIn
import Derived.TacticsInMore
import Derived.LoopNIn
import Derived.LoopIn
import Derived.Test.YticjnndhpfdajaaPart31
/- objects.foreign: the foreign rules that name a table, with the tables that have them, one by one. -/
namespace Go.Proofs.Yticjnndhpfdajaa
open Go.RowKit Go.Deep Go.Shelf
set_option maxRecDepth 100000
set_option linter.unusedVariables false
@[go_sem] theorem semAt_round (l : Nat) (ρ : Operand → Value) (o : Oper) (h : ∀ c, o.op ≠ .defer c) : Oper.semAt (some l) ρ o = execOp ρ o := Oper.semAt_some l ρ o h
theorem wp_region_tail_at {P : Program} {id : Nat} {Q : Exit → Act → World → Prop} {a : Act} {w : World} {l : List Oper} (n : Nat) (hm : P.follows .mixedOrders = true) (hB : Region.lexTailB .any l.toArray n = true)
    (h : ∀ w1, w1 = w.drew → wpStill P l.toArray w1 (fun a' => wpList P l.toArray Q (l.drop n) a' w1) (l.take n) a) : (Code.region id l.toArray true).wp P Q a w :=
  wp_region_still_tail n hm hB (h _ rfl)
/-- all cells lie as they lay -/
structure Kc (W W' : World) : Prop where
  size : W.heap.size ≤ W'.heap.size
  cells : ∀ (k : Nat) (o : Obj), W.heap[k]? = some o → o.isCells = true → W'.heap[k]? = some o
theorem Kc.refl (W : World) : Kc W W := ⟨Nat.le_refl _, fun _ _ h _ => h⟩
theorem Kc.trans {A B C : World} (h : Kc A B) (k : Kc B C) : Kc A C := ⟨Nat.le_trans h.size k.size, fun j o hj ho => k.cells j o (h.cells j o hj ho) ho⟩
theorem Kc.of_aft {W W' : World} (a : Aft W W') : Kc W W' := ⟨a.size, fun k o hk _ => (a.block k (Array.getElem?_eq_some_iff.1 hk).1).trans hk⟩
theorem Kc.put {W : World} {l : Nat} {o o' : Obj} (hl : W.heap[l]? = some o) (ho : o.isCells = false) : Kc W (W.putObj l o') := by
  refine ⟨by simp [World.putObj], fun k o2 hk hc => ?_⟩
  have hne : k ≠ l := fun e => by
    subst e
    rw [hl] at hk
    cases hk
    rw [ho] at hc; cases hc
  exact (World.putObj_heap_other hne).trans hk
theorem Kc.block {W W' : World} (h : Kc W W') {p : Addr} {v : Value} (hc : W.cell? p = some v) : W'.heap[p.block]? = W.heap[p.block]? := by
  unfold World.cell? at hc
  cases hh : W.heap[p.block]? with
  | none => rw [hh] at hc; cases hc
  | some o =>
    rw [h.cells _ o hh ?_]
    rw [hh] at hc
    cases o <;> first | rfl | cases hc
theorem Kc.cell {W W' : World} (h : Kc W W') {p : Addr} {v : Value} (hc : W.cell? p = some v) : W'.cell? p = some v := by
  have := h.block hc
  unfold World.cell? at hc ⊢
  rw [this]; exact hc
theorem Kc.row {W W' : World} (h : Kc W W') {g : Nat} {xs : List Value} (hr : RowAt W g xs) (h0 : 0 < xs.length) : RowAt W' g xs := by
  have hb : W'.heap[g]? = W.heap[g]? := h.block (p := ⟨g, 0, none⟩) (v := xs[0]) (by rw [hr.2.1 0 h0, List.getElem?_eq_getElem h0])
  refine ⟨Nat.lt_of_lt_of_le hr.1 h.size, fun j hj => ?_, fun j hj => ?_⟩
  · rw [← hr.2.1 j hj]; simp [World.cell?, hb]
  · rw [← hr.2.2 j hj]; simp [World.frozen?, hb]
/-- a table and one of its rules, as they are handed over -/
structure FP where
  t : Tab
  r : Rul
  a1 : Option Addr
  c1 : Nat
  a2 : Option Addr
  c2 : Nat
  a3 : Option Addr
  c3 : Nat
def FP.enc (x : FP) : Array Value := #[.agg #[.string x.t.schema, .string x.t.name, .string x.t.owner, .slice x.a1 x.t.cols.length x.c1, .slice x.a2 x.t.rules.length x.c2],
  .agg #[.string x.r.name, .int .i64 x.r.kind, .slice x.a3 x.r.cols.length x.c3, .int .i64 x.r.low, .int .i64 x.r.high, .string x.r.schema, .string x.r.table, .string x.r.key]]
/-- does a rule name the table? -/
def namesR (s n : ByteArray) (r : Rul) : Bool := r.kind == 4 && (eqS r.schema s && eqS r.table n)
def forT (s n : ByteArray) (t : Tab) : List (Tab × Rul) := (t.rules.filter (namesR s n)).map fun r => (t, r)
def forP (s n : ByteArray) (ts : List Tab) : List (Tab × Rul) := ts.flatMap (forT s n)
def FP.key (x : FP) : Tab × Rul := (x.t, x.r)
theorem forP_succ (s n : ByteArray) (ts : List Tab) (k : Nat) (hk : k < ts.length) : forP s n (ts.take (k + 1)) = forP s n (ts.take k) ++ forT s n ts[k] := by
  unfold forP
  rw [List.take_succ_eq_append_getElem hk, List.flatMap_append]
  simp
theorem forT_succ (s n : ByteArray) (t : Tab) (k : Nat) (hk : k < t.rules.length) : ((t.rules.take (k + 1)).filter (namesR s n)).map (fun r => (t, r)) = ((t.rules.take k).filter (namesR s n)).map (fun r => (t, r)) ++ (if namesR s n t.rules[k] then [(t, t.rules[k])] else []) := by
  rw [List.take_succ_eq_append_getElem hk, List.filter_append, List.map_append]
  congr 1
  cases h : namesR s n t.rules[k] <;> simp [h]
theorem forP_pre (s n : ByteArray) (ts : List Tab) (k : Nat) (hk : k < ts.length) (m : Nat) : (forP s n (ts.take k) ++ ((ts[k].rules.take m).filter (namesR s n)).map (fun r => (ts[k], r))) <+: forP s n ts := by
  have h1 : forP s n ts = forP s n (ts.take (k + 1)) ++ forP s n (ts.drop (k + 1)) := by
    unfold forP
    rw [← List.flatMap_append, List.take_append_drop]
  have h2 : forT s n ts[k] = ((ts[k].rules.take m).filter (namesR s n)).map (fun r => (ts[k], r)) ++ ((ts[k].rules.drop m).filter (namesR s n)).map (fun r => (ts[k], r)) := by
    unfold forT
    rw [← List.map_append, ← List.filter_append, List.take_append_drop]
  rw [h1, forP_succ _ _ _ _ hk, h2]
  exact ⟨((ts[k].rules.drop m).filter (namesR s n)).map (fun r => (ts[k], r)) ++ forP s n (ts.drop (k + 1)), by simp⟩
set_option maxHeartbeats 8000000 in
theorem foreign1_in (m : Nat) (hm : 1 ≤ m) (ts : List Tab) (vs : Value) (At : Option Addr) (ct : Nat) (s n : ByteArray) (bo bs bt l : Nat) (X W : World) (aW : Aft X W) (htab : SlAt X 5 TabR At ct ts) (hbo : bo < X.heap.size) (hbs : bs < X.heap.size) (hbt : bt < X.heap.size)
    (c0 : X.cell? ⟨bo, 1, none⟩ = some (.slice At ts.length ct)) (c1 : X.cell? ⟨bs, 0, none⟩ = some (.string s)) (c2 : X.cell? ⟨bt, 0, none⟩ = some (.string n)) (J Jx : List FP → World → Prop) (hJ : AbidesFrom W.heap.size J)
    (hY : ∀ pre x W1, J pre W1 → pre.length < (forP s n ts).length → YieldAt Fence.wide (m - 1) Try.prog l (FP.enc x) W1 fun e W' => (e = .returned (.bool true) ∧ J (pre ++ [x]) W' ∧ (Kc W1 W' ∧ Below X.heap.size W1 W')) ∨ (e = .returned (.bool false) ∧ Jx (pre ++ [x]) W'))
    (h0 : J [] W) :
    CallsIn Fence.wide m Try.prog 59 #[.func (.yield l) #[] #[], .pointer (some ⟨bo, 0, none⟩), .pointer (some ⟨bs, 0, none⟩), .pointer (some ⟨bt, 0, none⟩)] W fun e W' => (∃ v, e = .returned v) ∧ ((∃ xs, xs.map FP.key = forP s n ts ∧ J xs W') ∨ (∃ pre, (pre.map FP.key <+: forP s n ts) ∧ Jx pre W')) := by
  have hlen := htab.len
  have HT := Lib.hid htab
  have HA := Lib.hid aW
  have HJ := Lib.hid hJ
  have HC := Lib.hid (show ∀ w', Aft X w' → (w'.cell? ⟨bo, 1, none⟩ = some (.slice At ts.length ct) ∧ w'.cell? ⟨bs, 0, none⟩ = some (.string s) ∧ w'.cell? ⟨bt, 0, none⟩ = some (.string n) ∧ bo < w'.heap.size ∧ bs < w'.heap.size ∧ bt < w'.heap.size) from fun w' a => ⟨a.cell_kept c0, a.cell_kept c1, a.cell_kept c2, Nat.lt_of_lt_of_le hbo a.size, Nat.lt_of_lt_of_le hbs a.size, Nat.lt_of_lt_of_le hbt a.size⟩)
  have HYY := Lib.hid hY
  have H0 := Lib.hid h0
  obtain ⟨x0, x1, x2, x3, x4, x5⟩ := HC.out W aW
  clear htab aW hJ hY h0 c0 c1 c2
  refine callsIn_of_wp Try.func59 rfl trivial ?_ rfl
  simp only [Try.ntmps59, List.size_toArray, List.length_cons, List.length_nil, Nat.reduceAdd, Nat.reduceSub, Array.replicate_succ, Array.replicate_zero, List.push_toArray, List.append_toArray, List.nil_append, List.cons_append]
  gi_wp2
  gi_loopw [12] (fun i wr => ∃ (k : Nat) (pre : List FP), k ≤ ts.length ∧ i = .int .i64 k ∧ Aft X wr ∧ W.heap.size ≤ wr.heap.size ∧ J pre wr ∧ pre.map FP.key = forP s n (ts.take k)) (fun i _ => ts.length - (intOf i).toNat)
  case atStart => exact ⟨0, [], Nat.zero_le _, rfl, HA.out, Nat.le_refl _, H0.out, rfl⟩
  case round =>
    obtain ⟨k, pre, hk, rfl, ha, hz, hj, hpk⟩ := hrel
    have HAR := Lib.hid ha
    have HZR := Lib.hid hz
    have HJR := Lib.hid hj
    have HPK := Lib.hid hpk
    clear ha hj hpk
    by_cases hlt : k < ts.length
    · obtain ⟨R, rfl⟩ : ∃ R, R = wr := ⟨_, rfl⟩
      obtain ⟨b, off, A2, cap2, A3, cap3, rfl, hb, t0, t1, t2, t3, t4, hcols, hrules, _⟩ := tab_at HT.out hlt
      have t0 := HAR.out.cell_kept t0
      have t1 := HAR.out.cell_kept t1
      have t2 := HAR.out.cell_kept t2
      have t3 := HAR.out.cell_kept t3
      have t4 := HAR.out.cell_kept t4
      have hb := Nat.lt_of_lt_of_le hb HAR.out.size
      obtain ⟨t, ht⟩ : ∃ t, ts[k] = t := ⟨_, rfl⟩
      rw [ht] at t0 t1 t2 t3 t4 hrules
      have HTK := Lib.hid ht
      have HRU := Lib.hid hrules
      have hlr := hrules.len
      have lw := Nat.lt_succ_self R.heap.size
      obtain ⟨Y, hY2⟩ : ∃ Y, Y = R.alloc (.cells #[.string t.schema, .string t.name, .string t.owner, .slice A2 t.cols.length cap2, .slice A3 t.rules.length cap3] 29) := ⟨_, rfl⟩
      have aY : Aft R Y := by rw [hY2]; exact (Aft.refl _).alloc _
      have HAY := Lib.hid aY
      have HBY := Lib.hid (show RowAt Y R.heap.size [.string t.schema, .string t.name, .string t.owner, .slice A2 t.cols.length cap2, .slice A3 t.rules.length cap3] by rw [hY2]; exact box_row2 (Aft.refl _))
      have HJY := Lib.hid (show J pre Y by rw [hY2]; exact HJ.out pre R _ none HJR.out (World.grownBy_alloc R _ none) (fun r e => by cases e))
      clear ht hcols hrules aY
      gi_wp2
      rw [← hY2]
      clear hY2
      gi_loopw [19] (fun i2 wr => ∃ (k2 : Nat) (pre2 : List FP), k2 ≤ t.rules.length ∧ i2 = .int .i64 k2 ∧ Aft X wr ∧ Kc Y wr ∧ J pre2 wr ∧ pre2.map FP.key = forP s n (ts.take k) ++ ((t.rules.take k2).filter (namesR s n)).map (fun r => (t, r))) (fun i2 _ => t.rules.length - (intOf i2).toNat)
      case atStart => exact ⟨0, pre, Nat.zero_le _, rfl, HAR.out.trans HAY.out, Kc.refl _, HJY.out, by rw [HPK.out]; simp⟩
      case round =>
        obtain ⟨k2, pre2, hk2, rfl, ha2, hc2, hj2, hpk2⟩ := hrel
        have HA2 := Lib.hid ha2
        have HC2 := Lib.hid hc2
        have HJ2 := Lib.hid hj2
        have HP2 := Lib.hid hpk2
        have hrowT := hc2.row HBY.out (by simp)
        have q0 := hrowT.cell (j := 0) rfl
        have q1 := hrowT.cell (j := 1) rfl
        have q2 := hrowT.cell (j := 2) rfl
        have q3 := hrowT.cell (j := 3) rfl
        have q4 := hrowT.cell (j := 4) rfl
        have qz := hrowT.1
        clear ha2 hc2 hj2 hpk2 hrowT
        by_cases hlt2 : k2 < t.rules.length
        · obtain ⟨b3, off3, A4, cap4, rfl, hb3, r0, r1, r2, r3, r4, r5, r6, r7, _⟩ := rul_at (ruls_aft HA2.out HRU.out) hlt2
          have hf := forT_succ s n t k2 hlt2
          obtain ⟨r, hr⟩ : ∃ r, t.rules[k2] = r := ⟨_, rfl⟩
          rw [hr] at r0 r1 r2 r3 r4 r5 r6 r7 hf
          obtain ⟨y1, y2, y3, y4, y5, y6⟩ := HC.out wr HA2.out
          have HF := Lib.hid hf
          have lw2 := Nat.lt_succ_self wr.heap.size
          have m1 : b3 < wr.heap.size + 1 := by omega
          have m2 : R.heap.size < wr.heap.size + 1 := by omega
          have m3 : bs < wr.heap.size + 1 := by omega
          have m4 : bt < wr.heap.size + 1 := by omega
          have HA3 := Lib.hid (HA2.out.alloc (.cells #[.string r.name, .int .i64 r.kind, .slice A4 r.cols.length cap4, .int .i64 r.low, .int .i64 r.high, .string r.schema, .string r.table, .string r.key] 42))
          have HC3 := Lib.hid (HC2.out.trans (Kc.of_aft ((Aft.refl wr).alloc (.cells #[.string r.name, .int .i64 r.kind, .slice A4 r.cols.length cap4, .int .i64 r.low, .int .i64 r.high, .string r.schema, .string r.table, .string r.key] 42))))
          have HJ3 := Lib.hid (HJ.out pre2 wr _ none HJ2.out (World.grownBy_alloc wr (.cells #[.string r.name, .int .i64 r.kind, .slice A4 r.cols.length cap4, .int .i64 r.low, .int .i64 r.high, .string r.schema, .string r.table, .string r.key] 42) none) (fun r e => by cases e))
          have HPR := Lib.hid (show ∀ mm, (forP s n (ts.take k) ++ ((t.rules.take mm).filter (namesR s n)).map (fun r => (t, r))) <+: forP s n ts from fun mm => by have := forP_pre s n ts k hlt mm; rw [HTK.out] at this; exact this)
          clear hr hf
          by_cases g1 : r.kind = 4
          · rw [g1] at r1 HA3 HC3 HJ3
            cases g2 : eqS r.schema s
            · have HN := Lib.hid (show namesR s n r = false by unfold namesR; rw [g2]; simp)
              have e2 : (r.schema.toList == s.toList) = false := g2
              clear g1 g2
              gi_wp2
              refine ⟨fun _ h => (by cases h), ?_⟩
              gi_wp2
              go_roundw
              case rel => exact ⟨k2 + 1, pre2, by omega, by go_num, HA3.out, HC3.out, HJ3.out, by rw [HF.out, HN.out, HP2.out]; simp⟩
              case measure => simp [intOf]; omega
            · cases g3 : eqS r.table n
              · have HN := Lib.hid (show namesR s n r = false by unfold namesR; rw [g2, g3]; simp)
                have e2 : (r.schema.toList == s.toList) = true := g2
                have e3 : (r.table.toList == n.toList) = false := g3
                clear g1 g2 g3
                gi_wp2
                refine ⟨fun _ h => (by cases h), ?_⟩
                gi_wp2
                go_roundw
                case rel => exact ⟨k2 + 1, pre2, by omega, by go_num, HA3.out, HC3.out, HJ3.out, by rw [HF.out, HN.out, HP2.out]; simp⟩
                case measure => simp [intOf]; omega
              · have HN := Lib.hid (show namesR s n r = true by unfold namesR; rw [g2, g3, g1]; rfl)
                have hx1 : (pre2 ++ [(⟨t, r, A2, cap2, some ⟨b3, off3, none⟩, cap3, A4, cap4⟩ : FP)]).map FP.key = forP s n (ts.take k) ++ ((t.rules.take (k2 + 1)).filter (namesR s n)).map (fun r => (t, r)) := by
                  rw [List.map_append, HP2.out, HF.out, HN.out]
                  simp [FP.key]
                have HX1 := Lib.hid hx1
                have hlenp : pre2.length < (forP s n ts).length := by
                  have h1 := (HPR.out (k2 + 1)).length_le
                  rw [← hx1, List.length_map, List.length_append] at h1
                  simp at h1
                  omega
                obtain ⟨fn, tmps, assign, body, hy, hR⟩ := HYY.out pre2 ⟨t, r, A2, cap2, some ⟨b3, off3, none⟩, cap3, A4, cap4⟩ _ HJ3.out hlenp
                dsimp only [FP.enc] at hy
                rw [g1] at hy
                have e2 : (r.schema.toList == s.toList) = true := g2
                have e3 : (r.table.toList == n.toList) = true := g3
                have HR := Lib.hid hR
                clear g1 g2 g3 hx1 hR hlenp
                gi_wp2
                refine HR.out.mono ?_
                rintro e W3 (⟨rfl, hJ5, hk5⟩ | ⟨rfl, hJx5⟩)
                · have HA5 := Lib.hid (show Aft X W3 from Below.trans HA3.out hk5.2)
                  have HC5 := Lib.hid (HC3.out.trans hk5.1)
                  have HJ5 := Lib.hid hJ5
                  clear hJ5 hk5
                  gi_wp2
                  go_roundw
                  case rel => exact ⟨k2 + 1, _, by omega, by go_num, HA5.out, HC5.out, HJ5.out, HX1.out⟩
                  case measure => simp [intOf]; omega
                · have HJ5 := Lib.hid hJx5
                  clear hJx5
                  gi_wp2
                  refine bodyPost_ret (results_none rfl _ _ _) rfl ?_
                  exact ⟨⟨_, rfl⟩, .inr ⟨_, by rw [HX1.out]; exact HPR.out (k2 + 1), HJ5.out⟩⟩
          · have HN := Lib.hid (show namesR s n r = false from by
              have : (r.kind == 4) = false := by simpa using g1
              unfold namesR
              rw [this]; rfl)
            have e1 : (r.kind == 4) = false := by simpa using g1
            gi_wp2
            refine ⟨fun _ h => (by cases h), ?_⟩
            gi_wp2
            go_roundw
            case rel => exact ⟨k2 + 1, pre2, by omega, by go_num, HA3.out, HC3.out, HJ3.out, by rw [HF.out, HN.out, HP2.out]; simp⟩
            case measure => simp [intOf]; omega
        · have hkk : k2 = t.rules.length := by omega
          have HP3 := Lib.hid (show pre2.map FP.key = forP s n (ts.take (k + 1)) by rw [HP2.out, hkk, List.take_length, forP_succ s n ts k hlt, HTK.out]; rfl)
          have HZ3 := Lib.hid (show W.heap.size ≤ wr.heap.size from Nat.le_trans HZR.out (Nat.le_trans HAY.out.size HC2.out.size))
          gi_wp2
          go_roundw
          case rel => exact ⟨k + 1, pre2, by omega, by go_num, HA2.out, HZ3.out, HJ2.out, HP3.out⟩
          case measure => simp [intOf]; omega
    · have hkk : k = ts.length := by omega
      have HP := Lib.hid (show pre.map FP.key = forP s n ts by rw [HPK.out, hkk, List.take_length])
      gi_wp2
      go_end0
      exact ⟨⟨_, rfl⟩, .inl ⟨pre, HP.out, HJR.out⟩⟩
end Go.Proofs.Yticjnndhpfdajaa
/- objects.DropTable: the closure; its range over a function. -/
namespace Go.Proofs.Yticjnndhpfdajaa
open Go.RowKit Go.Deep Go.Shelf
set_option maxRecDepth 100000
set_option linter.unusedVariables false
theorem foreign_any (o0 o1 : Value) (s n : ByteArray) (w : World) :
    Calls Try.prog 32 #[.agg #[o0, o1], .string s, .string n] w fun e w' => e = .returned (.func (.func 59) #[] #[.pointer (some ⟨w.heap.size, 0, none⟩), .pointer (some ⟨w.heap.size + 1, 0, none⟩), .pointer (some ⟨w.heap.size + 1 + 1, 0, none⟩)]) ∧ w' = ((w.alloc (.cells #[o0, o1] 25)).alloc (.cells #[.string s] 9)).alloc (.cells #[.string n] 9) := by
  go_enter Try.func32, Try.ntmps32
  go_wp2_with fail
  go_ret
  exact ⟨rfl, rfl⟩
theorem foreign_stops (m : Nat) (hm : 1 ≤ m) (ts : List Tab) (At : Option Addr) (ct : Nat) (s n : ByteArray) (bo bs bt : Nat) (X : World) (htab : SlAt X 5 TabR At ct ts) (c0 : X.cell? ⟨bo, 1, none⟩ = some (.slice At ts.length ct)) (c1 : X.cell? ⟨bs, 0, none⟩ = some (.string s)) (c2 : X.cell? ⟨bt, 0, none⟩ = some (.string n)) :
    SeqStopsK Fence.wide m Try.prog 59 #[.pointer (some ⟨bo, 0, none⟩), .pointer (some ⟨bs, 0, none⟩), .pointer (some ⟨bt, 0, none⟩)] FP.enc (fun W W' => Kc W W' ∧ Below X.heap.size W W') (fun xs => xs.map FP.key = forP s n ts) (fun pre => pre.map FP.key <+: forP s n ts) (forP s n ts).length X := fun l J Jx W hW hJ hJx hY h0 =>
  foreign1_in m hm ts (.slice At ts.length ct) At ct s n bo bs bt l X W hW htab (World.block_lt_of_cell? _ _ c0) (World.block_lt_of_cell? _ _ c1) (World.block_lt_of_cell? _ _ c2) c0 c1 c2 J Jx hJ hY h0
def selfP (s n : ByteArray) (t : Tab) : Bool := eqS t.schema s && eqS t.name n
def usedT (o : Objs) (s n : ByteArray) : Bool := (forP s n o.tables).any fun p => !selfP s n p.1
def dropTabR (s n : ByteArray) (o : Objs) : Objs × Int :=
  if tabAt o.tables s n < 0 then (zeroO, 61) else if usedT o s n then (zeroO, 62) else (⟨o.schemas, o.tables.eraseIdx (tabAt o.tables s n).toNat⟩, 0)
theorem lvErr {W : World} {b : Nat} {v : Int} (h : W.cell? ⟨b, 0, none⟩ = some (.int .i64 v)) : (loadVar 32 ⟨b, 0, none⟩).run Try.prog W = .ok (.int .i64 v) W := by
  go_simp
theorem Kb.put {W : World} {D : Nat} {o : Obj} : Kb (fun g => g = D) W (W.putObj D o) :=
  ⟨rfl, rfl, rfl, by simp [World.putObj], fun k hk hn => World.putObj_heap_other hn⟩
theorem own_kbFrom {B X : Nat} {β : Type} {P : Nat → Prop} {w : World} (hX : w.heap.size ≤ X) : OwnFrom X (fun (_ : β) W => Kb P w W) := fun s W W' row h hg hr =>
  ⟨hg.os.trans h.os, hg.tape.trans h.tape, hg.output.trans h.output, Nat.le_trans h.size hg.size, fun k hk hn => (hg.block k (Nat.lt_of_lt_of_le hk h.size) (fun e => by have := (hr k e.symm).1; omega)).trans (h.block k hk hn)⟩
theorem own_cellFrom {β : Type} {X b o : Nat} {v : Value} (hb : b < X) : OwnFrom X (fun (_ : β) W => W.cell? ⟨b, o, none⟩ = some v) := fun s W W' row h hg hr => by
  have hlt := World.block_lt_of_cell? _ _ h
  have := hg.block b hlt (fun e => by have := (hr b e.symm).1; omega)
  show W'.cell? ⟨b, o, none⟩ = some v
  have h2 : W.cell? ⟨b, o, none⟩ = some v := h
  unfold World.cell? at h2 ⊢
  rw [this]; exact h2
theorem own_rowFrom {β : Type} {X b : Nat} {xs : List Value} (h0 : 0 < xs.length) : OwnFrom X (fun (_ : β) W => RowAt W b xs) := fun s W W' row h hg hr => by
  have hc : W.cell? ⟨b, 0, none⟩ = some xs[0] := by rw [h.2.1 0 h0, List.getElem?_eq_getElem h0]
  have hne : some b ≠ row := fun e => by
    obtain ⟨_, o, ho, hco⟩ := hr b e.symm
    unfold World.cell? at hc
    rw [ho] at hc
    cases o <;> first | cases hc | cases hco
  have hb := hg.block b h.1 hne
  refine ⟨Nat.lt_of_lt_of_le h.1 hg.size, fun j hj => ?_, fun j hj => ?_⟩
  · rw [← h.2.1 j hj]; simp [World.cell?, hb]
  · rw [← h.2.2 j hj]; simp [World.frozen?, hb]
theorem map_eraseIdx {α β : Type} (f : α → β) : ∀ (L : List α) (p : Nat), (L.eraseIdx p).map f = (L.map f).eraseIdx p
  | [], _ => rfl
  | _ :: _, 0 => rfl
  | a :: L, p + 1 => congrArg (f a :: ·) (map_eraseIdx f L p)
theorem sublist_flat {α β : Type} (f : α → List β) {l m : List α} (h : l.Sublist m) : (l.flatMap f).Sublist (m.flatMap f) := by
  induction h with
  | slnil => exact List.Sublist.refl _
  | cons a _ ih => rw [List.flatMap_cons]; exact ih.trans (List.sublist_append_right _ _)
  | cons_cons a _ ih => rw [List.flatMap_cons, List.flatMap_cons]; exact List.Sublist.append (List.Sublist.refl _) ih
/-- a table less -/
theorem ObjIn.cutTab {w w' : World} {B g p : Nat} {hs ht h' : Hd} {ss : List Sch} {L : List OTab} (ob : ObjIn w B hs ht ss L) (k : Kb (fun j => j = g) w w') (hg : g ∈ ht.blk) (ho : w'.ownsRow B 29 5 h'.v (L.eraseIdx p).length ((L.eraseIdx p).flatMap OTab.cells)) (hb : ∀ j ∈ h'.blk, j = g) : ObjIn w' B hs h' ss (L.eraseIdx p) := by
  have nd := ob.nd
  have nd2 := (List.nodup_append.1 nd).2.1
  refine ⟨own_kb ob.sch k fun j hj e => ?_, ho, fun x hx => (ob.each x (List.mem_of_mem_eraseIdx hx)).kb k fun j hj e => ?_, ?_⟩
  · have e : j = g := e
    exact nodup_disj nd (Hd.mem_blk.2 hj) (List.mem_append.2 (.inl (by rw [e]; exact hg)))
  · have e : j = g := e
    exact nodup_disj nd2 (by rw [← e] at hg; exact hg) (List.mem_flatMap.2 ⟨x, List.mem_of_mem_eraseIdx hx, hj⟩)
  · have hsub : ((L.eraseIdx p).flatMap OTab.blks).Sublist (L.flatMap OTab.blks) := sublist_flat OTab.blks (List.eraseIdx_sublist L p)
    refine List.nodup_append.2 ⟨(List.nodup_append.1 nd).1, List.nodup_append.2 ⟨blk_nodup _, hsub.nodup (List.nodup_append.1 nd2).2.1, fun a ha b hb2 e => ?_⟩, fun a ha b hb2 e => ?_⟩
    · subst e
      rw [hb a ha] at hb2
      exact nodup_disj nd2 hg (hsub.subset hb2)
    · subst e
      rcases List.mem_append.1 hb2 with h1 | h1
      · rw [hb a h1] at ha
        exact nodup_disj nd ha (List.mem_append.2 (.inl hg))
      · exact nodup_disj nd ha (List.mem_append.2 (.inr (hsub.subset h1)))
set_option maxHeartbeats 16000000 in
theorem dropTab1_in (s n : ByteArray) (o : Objs) (w : World) (hs ht : Hd) (L : List OTab) (B n3 bs bt : Nat) (hbn : B ≤ n3) (hL : L.map OTab.t = o.tables) (ob : ObjIn w B hs ht o.schemas L) (hne : ∀ g ∈ hs.blk ++ (ht.blk ++ L.flatMap OTab.blks), g ≠ n3)
    (r3 : RowAt w n3 [.slice hs.a o.schemas.length hs.c, .slice ht.a o.tables.length ht.c]) (hc1 : w.cell? ⟨bs, 0, none⟩ = some (.string s)) (hc2 : w.cell? ⟨bt, 0, none⟩ = some (.string n)) (sm : SmO o) :
    Calls Try.prog 31 (#[.pointer (some ⟨n3, 0, none⟩)] ++ #[.pointer (some ⟨bs, 0, none⟩), .pointer (some ⟨bt, 0, none⟩)]) w (DoP w B n3 (dropTabR s n o)) := by
  show Calls Try.prog 31 #[.pointer (some ⟨n3, 0, none⟩), .pointer (some ⟨bs, 0, none⟩), .pointer (some ⟨bt, 0, none⟩)] w (DoP w B n3 (dropTabR s n o))
  have hoo : objOf o.schemas L = o := by unfold objOf; rw [hL]
  have htab : SlAt w 5 TabR ht.a ht.c o.tables := by have := ob.tabs (by rw [hoo]; exact sm); rw [hL] at this; exact this
  have hLL : L.length = o.tables.length := by rw [← hL]; simp
  have hlen := htab.len
  have z1 : bs < w.heap.size := World.block_lt_of_cell? _ _ hc1
  have z2 : bt < w.heap.size := World.block_lt_of_cell? _ _ hc2
  have xz := r3.1
  obtain ⟨j, hj⟩ : ∃ j, tabAt o.tables s n = j := ⟨_, rfl⟩
  have hjr : -1 ≤ j ∧ j < o.tables.length := by rw [← hj]; exact idxP_range _ _
  obtain ⟨W, hW⟩ : ∃ W, W = w.alloc (.cells #[.int .i64 0] 32) := ⟨_, rfl⟩
  have aW : Aft w W := by rw [hW]; exact (Aft.refl w).alloc _
  have HRB := Lib.hid (show RowAt W w.heap.size [.int .i64 0] by rw [hW]; exact box_row2 (c := [.int .i64 0]) (Aft.refl _))
  have C0 := Lib.hid (show ∀ x : Lat W, Calls Try.prog 15 #[.agg #[.slice hs.a o.schemas.length hs.c, .slice ht.a o.tables.length ht.c], .string s, .string n] (lat W x) fun e w'' => e = .returned (.tuple #[.int .i64 j, .bool (decide (0 ≤ j))]) ∧ Aft (lat W x) w'' from
    fun x => (where_any _ ht.a ht.c o.tables s n _ (tabs_aft (aW.lat x) htab)).mono fun e w'' ⟨he, hw⟩ => ⟨he.trans (by rw [← hj]), hw⟩)
  have HE := Lib.hid (show dropTabR s n o = if j < 0 then (zeroO, 61) else if usedT o s n then (zeroO, 62) else (⟨o.schemas, o.tables.eraseIdx j.toNat⟩, 0) by unfold dropTabR; rw [hj])
  have KF := Lib.hid (show ∀ V, Aft W V → (V.cell? ⟨n3, 0, none⟩ = some (.slice hs.a o.schemas.length hs.c) ∧ V.cell? ⟨n3, 1, none⟩ = some (.slice ht.a o.tables.length ht.c) ∧ n3 < V.heap.size ∧ V.cell? ⟨bs, 0, none⟩ = some (.string s) ∧ V.cell? ⟨bt, 0, none⟩ = some (.string n) ∧ bs < V.heap.size ∧ bt < V.heap.size) ∧ (V.cell? ⟨w.heap.size, 0, none⟩ = some (.int .i64 0) ∧ V.frozen? ⟨w.heap.size, 0, none⟩ = false ∧ w.heap.size < V.heap.size) from fun V a => by
    have q := r3.aft (aW.trans a)
    have p := HRB.out.aft a
    have e1 := (aW.trans a).cell_kept hc1
    have e2 := (aW.trans a).cell_kept hc2
    exact ⟨⟨q.cell (j := 0) rfl, q.cell (j := 1) rfl, q.1, e1, e2, World.block_lt_of_cell? _ _ e1, World.block_lt_of_cell? _ _ e2⟩, ⟨p.cell (j := 0) rfl, p.2.2 0 (by simp), p.1⟩⟩)
  obtain ⟨⟨x0, x1, xz, y0, y1, z1, z2⟩, ⟨b0, b1, b2⟩⟩ := KF.out W (Aft.refl W)
  have HAW := Lib.hid aW
  have HOB := Lib.hid ob
  have HR3 := Lib.hid r3
  have HNE := Lib.hid hne
  have HL := Lib.hid hL
  have HT := Lib.hid htab
  have HLL := Lib.hid hLL
  have HCT := Lib.hid (show ht.v = .slice ht.a o.tables.length ht.c from by rw [own_slice ob.tab, hLL])
  clear ob r3 hne hL hoo hj htab hLL sm aW hc1 hc2
  refine (callsIn_wide (n := 8)).1 ?_
  refine callsIn_of_wp_marks Try.func31 rfl trivial ?_ rfl
  simp only [Try.ntmps31, List.size_toArray, List.length_cons, List.length_nil, Nat.reduceAdd, Nat.reduceSub, Array.replicate_succ, Array.replicate_zero, List.push_toArray, List.append_toArray, List.nil_append, List.cons_append]
  refine wpIn_wide.2 ?_
  go_wp2_with fail
  rw [← hW]
  clear hW
  refine wp_region_lat (by kernel_rfl) (by kernel_rfl) ?_
  repeat (go_big_quiet_step ((go_at_call 15; exact Calls.lat_of (C0.out _))))
  refine wpQuiet_nil ?_
  intro _ hw'
  obtain ⟨x, hw''⟩ := hw'
  subst hw''
  obtain ⟨V, hV⟩ : ∃ V, V = lat W x := ⟨_, rfl⟩
  have aV : Aft W V := by rw [hV]; exact (Aft.refl W).lat x
  rw [← hV]
  obtain ⟨⟨x0, x1, xz, y0, y1, z1, z2⟩, ⟨b0, b1, b2⟩⟩ := KF.out V aV
  have HAV := Lib.hid aV
  clear hV aV C0
  by_cases hj0 : 0 ≤ j
  case neg =>
    have hd : decide (0 ≤ j) = false := decide_eq_false hj0
    rw [hd]
    have HJ := Lib.hid hj0
    go_wp2_with fail
    refine ⟨_, results_cell (v := .int .i64 61) rfl _ rfl (lvErr (World.cell?_setCell_same' _ _ _ (by rw [b0]; rfl))), ?_⟩
    rw [HE.out, if_pos (show j < 0 by have := HJ.out; omega)]
    exact ⟨rfl, (Kb.of_aft (HAW.out.trans HAV.out)).trans ((Kb.set V w.heap.size 0 _).mono fun g _ e => by have e : g = w.heap.size := e; omega), fun h => by simp at h⟩
  have hd : decide (0 ≤ j) = true := decide_eq_true hj0
  rw [hd]
  have HJ := Lib.hid hj0
  go_wp2_with fail
  refine wp_region_tail_at 5 (by kernel_rfl) (by kernel_rfl) ?_
  intro V1 hV1
  have aV1 : Aft V V1 := by rw [hV1]; exact (Aft.refl V).drew
  obtain ⟨⟨x0, x1, xz, y0, y1, z1, z2⟩, ⟨b0, b1, b2⟩⟩ := KF.out V1 (HAV.out.trans aV1)
  have HAV1 := Lib.hid (HAV.out.trans aV1)
  clear hV1 aV1
  simp only [List.take_succ_cons, List.take_zero, List.drop_succ_cons, List.drop_zero]
  repeat still_step
  refine wpStill_nil ?_
  go_wp2_with fail
  refine (foreign_any _ _ s n V1).mono ?_
  intro e X hX
  obtain ⟨rfl, hX⟩ := hX
  have aX : Aft V1 X := by rw [hX]; exact (((Aft.refl V1).alloc _).alloc _).alloc _
  have zX : X.heap.size = V1.heap.size + 3 := by rw [hX]; simp
  have q1 : RowAt X V1.heap.size [.slice hs.a o.schemas.length hs.c, .slice ht.a o.tables.length ht.c] := by rw [hX]; exact (box_row2 (w := V1) (c := [.slice hs.a o.schemas.length hs.c, .slice ht.a o.tables.length ht.c]) (t := 25) (Aft.refl _)).aft (((Aft.refl _).alloc _).alloc _)
  have q2 : RowAt X (V1.heap.size + 1) [.string s] := by
    rw [hX]
    have := (box_row2 (w := V1.alloc (.cells #[.slice hs.a o.schemas.length hs.c, .slice ht.a o.tables.length ht.c] 25)) (c := [.string s]) (t := 9) (Aft.refl _)).aft ((Aft.refl _).alloc (.cells #[.string n] 9))
    simpa using this
  have q3 : RowAt X (V1.heap.size + 1 + 1) [.string n] := by
    rw [hX]
    have := box_row2 (w := (V1.alloc (.cells #[.slice hs.a o.schemas.length hs.c, .slice ht.a o.tables.length ht.c] 25)).alloc (.cells #[.string s] 9)) (c := [.string n]) (t := 9) (Aft.refl _)
    simpa using this
  obtain ⟨⟨x0, x1, xz, y0, y1, z1, z2⟩, ⟨b0, b1, b2⟩⟩ := KF.out X (HAV1.out.trans aX)
  have HAX := Lib.hid (HAV1.out.trans aX)
  have SEQ := Lib.hid (foreign_stops 7 (by omega) o.tables ht.a ht.c s n V1.heap.size (V1.heap.size + 1) (V1.heap.size + 1 + 1) X (tabs_aft (HAW.out.trans HAX.out) HT.out) (q1.cell (j := 1) rfl) (q2.cell (j := 0) rfl) (q3.cell (j := 0) rfl))
  clear hX aX q1 q2 q3
  go_wp2_with fail
  have hrbX : w.heap.size < X.heap.size := b2
  refine (wpIn_wide (n := 8)).1 ?_
  refine wpIn_rangeFunc_ownH (α := FP) rfl (by omega) (gf := 59) (lb := #[.pointer (some ⟨V1.heap.size, 0, none⟩), .pointer (some ⟨V1.heap.size + 1, 0, none⟩), .pointer (some ⟨V1.heap.size + 1 + 1, 0, none⟩)]) rfl trivial (enters_of Try.func59 (by kernel_rfl) rfl) SEQ.out
    (fun h k => ⟨h.1.trans k.1, h.2.trans k.2⟩) (fun W l o o' hl h ho hw => ⟨Kc.put h ho, belowK_b (Nat.le_refl _) W l o o' hl h ho hw⟩) (Below.refl _ _) (fun _ => rfl)
    (fun pre W' => Kb (fun _ => False) X W' ∧ pre.all (fun x => selfP s n x.t) = true)
    (fun c pre W' => (c = Code.ret ∧ ∃ x ∈ pre, selfP s n x.t = false) ∧ (Kb (fun g => g = w.heap.size) X W' ∧ W'.cell? ⟨w.heap.size, 0, none⟩ = some (.int .i64 62)))
    (OwnFrom.and (own_kbFrom (B := 0) (Nat.le_refl _)) (ownFrom_pure _ _)) (fun c => OwnFrom.and (ownFrom_pure _ _) (OwnFrom.and (own_kbFrom (B := 0) (Nat.le_refl _)) (own_cellFrom hrbX)))
    ⟨Kb.refl _ _, rfl⟩
    (fun x a' W' => ∃ Bx, RowAt W' Bx [.string x.t.schema, .string x.t.name, .string x.t.owner, .slice x.a1 x.t.cols.length x.c1, .slice x.a2 x.t.rules.length x.c2] ∧ a' = { tmps := #[.pointer (some ⟨n3, 0, none⟩), .pointer (some ⟨bs, 0, none⟩), .pointer (some ⟨bt, 0, none⟩), undef, .pointer (some ⟨w.heap.size, 0, none⟩), .int .i64 j, .bool true, .pointer (some ⟨Bx, 0, none⟩), .tuple #[.int .i64 j, .bool true], .pointer (some ⟨n3, 0, none⟩), .pointer (some ⟨n3, 0, none⟩), .agg #[.slice hs.a o.schemas.length hs.c, .slice ht.a o.tables.length ht.c], .string s, .string n, .tuple #[.int .i64 j, .bool true], .int .i64 j, .bool true, .bool true, .bool false, .pointer (some ⟨n3, 0, none⟩), .pointer (some ⟨n3, 0, none⟩), .agg #[.slice hs.a o.schemas.length hs.c, .slice ht.a o.tables.length ht.c], .string s, .string n, .func (.func 59) #[] #[.pointer (some ⟨V1.heap.size, 0, none⟩), .pointer (some ⟨V1.heap.size + 1, 0, none⟩), .pointer (some ⟨V1.heap.size + 1 + 1, 0, none⟩)], .agg #[.string x.t.schema, .string x.t.name, .string x.t.owner, .slice x.a1 x.t.cols.length x.c1, .slice x.a2 x.t.rules.length x.c2], .agg #[.string x.r.name, .int .i64 x.r.kind, .slice x.a3 x.r.cols.length x.c3, .int .i64 x.r.low, .int .i64 x.r.high, .string x.r.schema, .string x.r.table, .string x.r.key], undef, undef, undef, undef, undef, undef, undef, undef, undef, undef, undef, undef, undef, undef, undef, undef, undef, undef, undef, undef, undef], defers := [] })
    (fun x a' s' W W' row h hg hr => by
      obtain ⟨Bx, hrow, ha⟩ := h
      exact ⟨Bx, own_rowFrom (β := Unit) (by simp) () W W' row hrow hg hr, ha⟩)
    ?assign ?body ?done ?stop
  case assign =>
    intro l pre x W' K hi hK
    dsimp only [FP.enc]
    have lw := Nat.lt_succ_self W'.heap.size
    gi_wp2
    refine hK _ _ ((KeepsOthers.alloc _ _).from _) ⟨Kc.of_aft ((Aft.refl W').alloc _), (Below.refl _ W').alloc (by have := hi.1.size; omega) _⟩ ⟨hi.1.trans (Kb.of_aft ((Aft.refl W').alloc _)), hi.2⟩ ⟨W'.heap.size, box_row2 (c := [.string x.t.schema, .string x.t.name, .string x.t.owner, .slice x.a1 x.t.cols.length x.c1, .slice x.a2 x.t.rules.length x.c2]) (Aft.refl _), rfl⟩
  case body =>
    rintro l pre x a' W' hl ⟨rr, hrr⟩ ⟨hk, hall⟩ ⟨Bx, hrow, rfl⟩ hlt
    have aXW : Aft X W' := hk.to_aft (Aft.refl X) (fun _ _ h => h)
    obtain ⟨⟨x0, x1, xz, y0, y1, z1, z2⟩, ⟨b0, b1, b2⟩⟩ := KF.out W' (HAX.out.trans aXW)
    have t0 := hrow.cell (j := 0) rfl
    have t1 := hrow.cell (j := 1) rfl
    have tz := hrow.1
    have HK := Lib.hid hk
    have HAL := Lib.hid hall
    clear hk hall hrow aXW hrr hlt
    cases g1 : eqS x.t.schema s
    · have e1 : (x.t.schema.toList == s.toList) = false := g1
      have HS := Lib.hid (show selfP s n x.t = false by unfold selfP; rw [g1]; rfl)
      clear g1
      gi_wp2
      exact ⟨(KeepsOthers.setCell _ _ _).from _, ⟨rfl, x, by simp, HS.out⟩, (HK.out.mono fun _ _ h => h.elim).trans (Kb.set W' w.heap.size 0 _), World.cell?_setCell_same' _ _ _ (by rw [b0]; rfl)⟩
    · cases g2 : eqS x.t.name n
      · have e1 : (x.t.schema.toList == s.toList) = true := g1
        have e2 : (x.t.name.toList == n.toList) = false := g2
        have HS := Lib.hid (show selfP s n x.t = false by unfold selfP; rw [g1, g2]; rfl)
        clear g1 g2
        gi_wp2
        exact ⟨(KeepsOthers.setCell _ _ _).from _, ⟨rfl, x, by simp, HS.out⟩, (HK.out.mono fun _ _ h => h.elim).trans (Kb.set W' w.heap.size 0 _), World.cell?_setCell_same' _ _ _ (by rw [b0]; rfl)⟩
      · have e1 : (x.t.schema.toList == s.toList) = true := g1
        have e2 : (x.t.name.toList == n.toList) = true := g2
        have HS := Lib.hid (show selfP s n x.t = true by unfold selfP; rw [g1, g2]; rfl)
        clear g1 g2
        gi_wp2
        exact ⟨KeepsFrom.refl _ _, ⟨Kc.refl _, Below.refl _ _⟩, HK.out, by rw [List.all_append, HAL.out]; simp [HS.out]⟩
  case stop =>
    rintro D c pre W' hD hSp ⟨⟨rfl, x, hx, hxs⟩, hk, hcell⟩ hK
    have HU := Lib.hid (show usedT o s n = true by
      unfold usedT
      refine List.any_eq_true.2 ⟨FP.key x, hSp.subset (List.mem_map_of_mem hx), ?_⟩
      show (!selfP s n x.t) = true
      rw [hxs]; rfl)
    have HP := Lib.hid (show DoP w B n3 (dropTabR s n o) (.returned (.int .i64 62)) (W'.putObj D (.deferred none)) from by
      rw [HE.out, if_neg (show ¬ j < 0 by have := HJ.out; omega), HU.out]
      have a1 := HAW.out.trans HAX.out
      have z9 := a1.size
      exact ⟨rfl, ((Kb.of_aft a1).trans (hk.mono fun g _ e => by have e : g = w.heap.size := e; omega)).trans (Kb.put.mono fun g _ e => by have e : g = D := e; omega), fun h => by simp at h⟩)
    have HC := Lib.hid (show (W'.putObj D (.deferred none)).cell? ⟨w.heap.size, 0, none⟩ = some (.int .i64 62) from (World.cell?_of_block (World.putObj_heap_other (k := w.heap.size) (by omega))).trans hcell)
    clear hk hcell hSp hx hxs
    gi_wp2
    refine ⟨by simp, .inl ⟨_, _, rfl, run_takeDeferred hK, ?_⟩⟩
    exact ⟨_, results_cell (v := .int .i64 62) rfl _ rfl (lvErr HC.out), HP.out⟩
  case done =>
    rintro D xs W' hD hS ⟨hk, hall⟩ hK
    have aXW : Aft X W' := hk.to_aft (Aft.refl X) (fun _ _ h => h)
    have HU := Lib.hid (show usedT o s n = false by
      unfold usedT
      rw [← hS, Bool.eq_false_iff]
      intro h
      obtain ⟨y, hy, hy2⟩ := List.any_eq_true.1 h
      obtain ⟨x, hx, rfl⟩ := List.mem_map.1 hy
      have h3 := List.all_eq_true.1 hall x hx
      have hy2 : (!selfP s n x.t) = true := hy2
      have h3 : selfP s n x.t = true := h3
      rw [h3] at hy2; cases hy2)
    obtain ⟨⟨x0, x1, xz, y0, y1, z1, z2⟩, ⟨b0, b1, b2⟩⟩ := KF.out W' (HAX.out.trans aXW)
    have HAY := Lib.hid (HAW.out.trans (HAX.out.trans aXW))
    have HXW := Lib.hid aXW
    clear hk hall hS aXW
    obtain ⟨p, hp⟩ : ∃ p : Nat, j = p := ⟨j.toNat, by omega⟩
    subst hp
    have hpl : p < o.tables.length := by omega
    have r2 := HOB.out.aft HAY.out
    obtain ⟨g, cap, hv, hgB, hnc, hrow⟩ := own_rowAt r2.tab (by have := HLL.out; omega)
    obtain ⟨k, hkk⟩ : ∃ k, o.tables.length = p + 1 + k := ⟨o.tables.length - p - 1, by omega⟩
    have hvs : Value.slice ht.a o.tables.length ht.c = .slice (some ⟨g, 0, none⟩) (p + 1 + k) cap := by rw [← HCT.out, hv, HLL.out, hkk]
    have o2 : W'.ownsRow B 29 5 (.slice (some ⟨g, 0, none⟩) (p + 1 + k) cap) (p + 1 + k) (L.flatMap OTab.cells) := by
      have := r2.tab
      rw [hv, HLL.out, hkk] at this
      exact this
    have hcapm : cap ≤ 9223372036854775807 := own_cap7 r2.tab _ _ _ hv
    have CD := Lib.hid (delTab g cap p k B (L.flatMap OTab.cells) W' o2 (oneC_cells oneC_tab _) hcapm)
    have row2 := HR3.out.aft HAY.out
    have hgin : g ∈ ht.blk := Hd.mem_blk.2 (by rw [hv]; rfl)
    have hgb : g ≠ n3 := HNE.out g (List.mem_append.2 (.inr (List.mem_append.2 (.inl hgin))))
    have hglt : g < w.heap.size := (HOB.out.lt g (List.mem_append.2 (.inr (List.mem_append.2 (.inl hgin))))).2
    rw [hvs] at x1
    have zXX : w.heap.size < X.heap.size := hrbX
    have K2 := Lib.hid (show ∀ w3, Kb (fun j => j = g) W' w3 → w3.ownsRow B 29 5 (.slice (some ⟨g, 0, none⟩) (p + k) cap) (p + k) ((L.flatMap OTab.cells).take (p * 5) ++ (L.flatMap OTab.cells).drop ((p + 1) * 5)) → (w3.cell? ⟨n3, 1, none⟩ = some (.slice (some ⟨g, 0, none⟩) (p + 1 + k) cap) ∧ w3.frozen? ⟨n3, 1, none⟩ = false ∧ n3 < w3.heap.size ∧ w3.cell? ⟨w.heap.size, 0, none⟩ = some (.int .i64 0) ∧ w3.frozen? ⟨w.heap.size, 0, none⟩ = false ∧ w.heap.size < w3.heap.size ∧
        Hid (((w3.setCell ⟨n3, 1, none⟩ (.slice (some ⟨g, 0, none⟩) (p + k) cap)).setCell ⟨w.heap.size, 0, none⟩ (.int .i64 0)).heap[D]? = some (.deferred (some [])) ∧
          (((w3.setCell ⟨n3, 1, none⟩ (.slice (some ⟨g, 0, none⟩) (p + k) cap)).setCell ⟨w.heap.size, 0, none⟩ (.int .i64 0)).putObj D (.deferred none)).cell? ⟨w.heap.size, 0, none⟩ = some (.int .i64 0) ∧
          DoP w B n3 (dropTabR s n o) (.returned (.int .i64 0)) (((w3.setCell ⟨n3, 1, none⟩ (.slice (some ⟨g, 0, none⟩) (p + k) cap)).setCell ⟨w.heap.size, 0, none⟩ (.int .i64 0)).putObj D (.deferred none)))) from fun w3 kb o3 => by
      have row3 := kb.row row2 (fun e => hgb e.symm)
      rw [hvs] at row3
      have rb3 := kb.row ((HRB.out.aft HAX.out).aft HXW.out) (fun e => by have e : w.heap.size = g := e; omega)
      have e1 : (L.eraseIdx p).length = p + k := by rw [List.length_eraseIdx_of_lt (by have := HLL.out; omega), HLL.out]; omega
      have n3' : w3.ownsRow B 29 5 (Hd.mk (some ⟨g, 0, none⟩) (p + k) cap).v (L.eraseIdx p).length ((L.eraseIdx p).flatMap OTab.cells) := by
        rw [e1, ← flatMap_erase (size := 5) (fun _ => rfl)]; exact o3
      have ks := Kb.set w3 n3 1 (.slice (some ⟨g, 0, none⟩) (p + k) cap)
      have kr := Kb.set (w3.setCell ⟨n3, 1, none⟩ (.slice (some ⟨g, 0, none⟩) (p + k) cap)) w.heap.size 0 (.int .i64 0)
      have zW3 : X.heap.size ≤ W'.heap.size := HXW.out.size
      have hDlt : D < W'.heap.size := (Array.getElem?_eq_some_iff.1 hK).1
      have hK3 : ((w3.setCell ⟨n3, 1, none⟩ (.slice (some ⟨g, 0, none⟩) (p + k) cap)).setCell ⟨w.heap.size, 0, none⟩ (.int .i64 0)).heap[D]? = some (.deferred (some [])) := by
        rw [kr.block D (by simp; have := kb.size; omega) (fun e => by have e : D = w.heap.size := e; omega), ks.block D (by have := kb.size; omega) (fun e => by have e : D = n3 := e; omega), kb.block D hDlt (fun e => by have e : D = g := e; omega)]
        exact hK
      refine ⟨row3.cell (j := 1) rfl, row3.2.2 1 (by simp), row3.1, rb3.cell (j := 0) rfl, rb3.2.2 0 (by simp), rb3.1, Lib.hid ⟨hK3, ?_, ?_⟩⟩
      · refine (World.cell?_of_block (World.putObj_heap_other (k := w.heap.size) (by omega))).trans (World.cell?_setCell_same' _ _ _ ?_)
        rw [ks.cell (rb3.cell (j := 0) rfl) (fun e => by have e : w.heap.size = n3 := e; omega)]
        rfl
      rw [HE.out, if_neg (show ¬ (p : Int) < 0 by omega), HU.out]
      simp only [Bool.false_eq_true, if_false, Int.toNat_natCast]
      have obn := r2.cutTab kb (h' := ⟨some ⟨g, 0, none⟩, p + k, cap⟩) (p := p) hgin n3' (fun j hj => by
        rw [blk_some, List.mem_singleton] at hj
        exact hj)
      have hbl : ∀ a ∈ hs.blk ++ ((Hd.mk (some ⟨g, 0, none⟩) (p + k) cap).blk ++ (L.eraseIdx p).flatMap OTab.blks), a ≠ n3 ∧ a < w.heap.size := fun a ha => by
        have : a ∈ hs.blk ++ (ht.blk ++ L.flatMap OTab.blks) := by
          rcases List.mem_append.1 ha with h1 | h1
          · exact List.mem_append.2 (.inl h1)
          · rcases List.mem_append.1 h1 with h2 | h2
            · rw [blk_some, List.mem_singleton] at h2
              have h2 : a = g := h2
              rw [h2]
              exact List.mem_append.2 (.inr (List.mem_append.2 (.inl hgin)))
            · exact List.mem_append.2 (.inr (List.mem_append.2 (.inr ((sublist_flat OTab.blks (List.eraseIdx_sublist L p)).subset h2))))
        exact ⟨HNE.out a this, (HOB.out.lt a this).2⟩
      refine ⟨rfl, ((((Kb.of_aft HAY.out).trans (kb.mono fun a _ e => by have e : a = g := e; omega)).trans (ks.mono fun a _ e => by have e : a = n3 := e; omega)).trans (kr.mono fun a _ e => by have e : a = w.heap.size := e; omega)).trans (Kb.put.mono fun a _ e => by have e : a = D := e; omega), fun _ => ⟨hs, ⟨some ⟨g, 0, none⟩, p + k, cap⟩, L.eraseIdx p, ?_, ?_, ?_⟩⟩
      · rw [← HL.out]
        exact map_eraseIdx OTab.t L p
      · exact ((obn.kb ks fun a ha e => (hbl a ha).1 e).kb kr fun a ha e => by have := (hbl a ha).2; have e : a = w.heap.size := e; omega).kb Kb.put fun a ha e => by have := (hbl a ha).2; have e : a = D := e; omega
      · have e2 : (o.tables.eraseIdx p).length = p + k := by rw [List.length_eraseIdx_of_lt hpl]; omega
        rw [e2]
        exact Kb.put.row (kr.row (row3.set 1 (.slice (some ⟨g, 0, none⟩) (p + k) cap) (by simp)) (fun e => by have e : n3 = w.heap.size := e; omega)) (fun e => by have e : n3 = D := e; omega))
    clear r2 hv hrow o2 hvs row2 hkk hgb hgin hnc hgB
    go_wp2_with fail
    refine CD.out.mono ?_
    rintro e w3 ⟨rfl, o3, kb⟩
    obtain ⟨f0, f1, f2, f3, f4, f5, HP⟩ := K2.out w3 kb o3
    have hn8 : ¬ n3 = w.heap.size := by omega
    have hn9 : ¬ w.heap.size = n3 := by omega
    clear o3 kb
    go_wp2_with fail
    refine ⟨by simp, .inl ⟨_, _, rfl, run_takeDeferred HP.out.1, ?_⟩⟩
    exact ⟨_, results_cell (v := .int .i64 0) rfl _ rfl (lvErr HP.out.2.1), HP.out.2.2⟩
end Go.Proofs.Yticjnndhpfdajaa
