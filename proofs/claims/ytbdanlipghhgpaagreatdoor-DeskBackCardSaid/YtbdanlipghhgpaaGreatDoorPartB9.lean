/- Contracts of the program, part 9. -/
import Derived.Recover
import Derived.Defers
import Derived.Deep.Cut
import Derived.Lib.SplitLaws
import Derived.Lib.CountLaws
import Derived.Deep.RegionLaw
import Derived.RegionDies
import Derived.Deep.AppendLies
import Derived.Laws.EntriesVeiled
import Derived.WalkKit
import Derived.WalkSpells
import Derived.WalkLawsBesides
import Derived.Laws.Cells
import Derived.Laws.IdiomCopy
import Derived.Test.YtbdanlipghhgpaaGreatDoorRows
import Derived.Lib.Bytealg
import Derived.Lib.Hide
import Derived.ProofKit
import Derived.OpenShut
import Derived.Deep.Slices
import Derived.ChangeOld
import Derived.SizedLaws
import Derived.Deep.QuietTactic
import Derived.BigQuiet
import Derived.Below
import Derived.Deep.Draws
import Derived.StillTailTactics
import Derived.ShutString
import Derived.Lib.Atoi
import Derived.Lib.ItoaNum
import Derived.Lib.Split
import Derived.Lib.CutLaws
import Derived.Lib.Strings
import Derived.Lib.SlTrimSet
import Derived.Deep.Upon
import Derived.OwnWalk
import Derived.Laws.AppendOwn
import Derived.Shelf.Strings.Builder1
import Derived.Shelf.Strings.Builder2
import Derived.Shelf.Strings.OnBuilder
import Derived.Shelf.Strings.Trim
import Derived.Shelf.Small.Utf8
import Derived.Shelf.Small.Strs
import Derived.Shelf.Small.Wraps
import Derived.Shelf.Strconv.Atoi
import Derived.Shelf.Strconv.Itoa0
import Derived.Shelf.Strconv.Itoa1
import Derived.Shelf.LaysM
import Derived.Shelf.Strconv.Itoa2
import Derived.Shelf.Strconv.Itoa3
import Derived.Shelf.Strings.Search1
import Derived.Shelf.Strings.Search2
import Derived.Shelf.Strings.Search3
import Derived.Shelf.Strings.Cut
import Derived.Shelf.Strings.Count
import Derived.Shelf.Strings.Shaped
import Derived.Shelf.Strings.Prefix
import Derived.Shelf.Strings.Split
import Derived.Shelf.Strings.Runes
import Derived.Shelf.Strings.AsciiSet
import Derived.Shelf.Unicode.DecodeSlow
import Derived.Shelf.Slices.Equal
import Derived.Shelf.Slices.Empties2
import Derived.Shelf.Strings.SlTrimAscii
import Derived.Test.YtbdanlipghhgpaaGreatDoorProg
import Derived.Deep.DeepCutAuto
import Derived.Deep.CutRange
import Derived.Deep.RegionHeld3
import Derived.Test.YtbdanlipghhgpaaGreatDoorPartB1
import Derived.Test.YtbdanlipghhgpaaGreatDoorPartB2
import Derived.Test.YtbdanlipghhgpaaGreatDoorPartB3
import Derived.Test.YtbdanlipghhgpaaGreatDoorPartB4
import Derived.Test.YtbdanlipghhgpaaGreatDoorPartB5
import Derived.Test.YtbdanlipghhgpaaGreatDoorPartB6
import Derived.Test.YtbdanlipghhgpaaGreatDoorPartB7
import Derived.Test.YtbdanlipghhgpaaGreatDoorPartB8
namespace Go.Proofs.YtbdanlipghhgpaaGreatDoor
open Go.RowKit Go.Deep
set_option maxRecDepth 100000
set_option linter.unusedVariables false
theorem ix_hit : ∀ {l : Bts} {c : UInt8} {i : Nat}, Lib.indexByte l c = i → c ∉ l.take i ∧ l = l.take i ++ c :: l.drop (i + 1) ∧ i < l.length := by
  intro l c i h
  obtain ⟨h1, h2⟩ := Lib.indexByte_some h
  obtain ⟨hl, h3⟩ := List.getElem?_eq_some_iff.1 h1
  refine ⟨fun hm => ?_, ?_, hl⟩
  · obtain ⟨k, hk, he⟩ := List.mem_iff_getElem.1 hm
    simp only [List.length_take] at hk
    refine h2 k (by omega) ?_
    rw [List.getElem?_eq_some_iff]
    exact ⟨by omega, by simpa using he⟩
  · conv => lhs; rw [← List.take_append_drop i l]
    rw [List.drop_eq_getElem_cons hl, h3]
theorem ix_miss {l : Bts} {c : UInt8} (h : Lib.indexByte l c = -1) : c ∉ l := fun hm => by
  obtain ⟨k, hk, he⟩ := List.mem_iff_getElem.1 hm
  exact Lib.indexByte_none h k (by rw [List.getElem?_eq_some_iff]; exact ⟨hk, he⟩)
def spB : ByteArray := ⟨#[32]⟩
theorem ixB (s : ByteArray) : Lib.indexB s spB = Lib.indexByte s.data.toList 32 := Lib.index_one _ _
theorem split_words : ∀ (k : Nat) (s : ByteArray), Lib.countB s spB = k → Lib.splitB spB 0 k s = wordsB s := by
  intro k
  induction k with
  | zero =>
    intro s hk
    have hm : Lib.indexB s spB = -1 := by
      rcases Lib.indexB_cases s spB with h | ⟨i, h, _⟩
      · exact h
      · rw [Lib.countB_hit s spB i (by decide) h] at hk; omega
    rw [Lib.splitB_zero, wordsB, cut_free 32 _ (ix_miss (by rw [← ixB]; exact hm))]
    simp [wd_of]
  | succ k ih =>
    intro s hk
    rcases Lib.indexB_cases s spB with h | ⟨i, h, _⟩
    · rw [Lib.countB_miss s spB h] at hk; omega
    · have h' := h
      rw [ixB] at h'
      obtain ⟨q1, q2, q3⟩ := ix_hit h'
      have hk2 : Lib.countB (s.extract (i + spB.size) s.size) spB = k := by
        have := Lib.countB_hit s spB i (by decide) h
        omega
      rw [Lib.splitB_hit spB 0 k s i h, ih _ hk2]
      unfold wordsB
      conv => rhs; rw [q2, cut_pre 32 _ _ q1]
      rw [List.map_cons]
      congr 1
      · refine ba_ext ?_
        rw [wd_data, Nat.add_zero, Lib.extract_upto]
      · rw [Lib.extract_to_end]
        rfl
theorem words_len (s : ByteArray) : (wordsB s).length ≤ s.size + 1 := by
  unfold wordsB
  rw [List.length_map, Lib.size_eq]
  exact cut_len 32 _
theorem cut_each (b : UInt8) : ∀ (l w : Bts), w ∈ cutL b l → w.length ≤ l.length
  | [], w, h => by
    simp only [cutL, List.mem_singleton] at h
    subst h; simp
  | c :: l, w, h => by
    have ih := cut_each b l
    unfold cutL at h
    split at h
    · rcases List.mem_cons.1 h with rfl | h
      · simp
      · have := ih w h; simp; omega
    · split at h
      · simp only [List.mem_singleton] at h
        subst h; simp
      · rename_i v r hq
        rcases List.mem_cons.1 h with rfl | h
        · have := ih v (by rw [hq]; simp); simp; omega
        · have := ih w (by rw [hq]; simp [h]); simp; omega
theorem words_each {s x : ByteArray} (h : x ∈ wordsB s) : x.size ≤ s.size := by
  unfold wordsB at h
  obtain ⟨l, hl, rfl⟩ := List.mem_map.1 h
  rw [wd_size, Lib.size_eq]
  exact cut_each 32 _ _ hl
def zs33 : List Value := [.int .i64 0, .int .i64 0, .int .i64 0, .int .i64 0, .int .i64 0, .int .i64 0, .string ⟨#[]⟩, .string ⟨#[]⟩, .string ⟨#[]⟩, .string ⟨#[]⟩, .string ⟨#[]⟩, .slice none 0 0, .string ⟨#[]⟩, .int .i64 0, .slice none 0 0, .int .i64 0, .int .i64 0, .string ⟨#[]⟩, .string ⟨#[]⟩, .string ⟨#[]⟩, .int .i64 0, .bool false, .int .i64 0, .int .i64 0, .int .i64 0, .string ⟨#[]⟩, .string ⟨#[]⟩, .string ⟨#[]⟩, .slice none 0 0, .string ⟨#[]⟩, .int .i64 0, .int .i64 0, .string ⟨#[]⟩]
theorem caught_panic (q : Nat) (x : Value) (w : World) (rq : RowAt w q [x]) :
    CallsD Tryz.prog 15 #[.pointer (some ⟨q, 0, none⟩)] (.panicking [{ v := .iface 74 (.agg #[]), recovered := false }]) w fun e u' w' =>
      e = .returned (.tuple #[]) ∧ u' = .panicking [{ v := .iface 74 (.agg #[]), recovered := true }] ∧ Kb (fun g => g = q) w w' ∧ RowAt w' q [.int .i64 230] := by
  refine callsD_of_wpS Tryz.func15 rfl fun c₀ cs hu => ?_
  apply wpS_seq
  apply wpS_region
  simp [wpOpsS, go_sem, recoverD, hu, Tryz.ntmps15, Exit.thenS]
  have e : (#[Value.pointer (some ⟨q, 0, none⟩)] ++ ((Array.replicate 9 undef).setIfInBounds 2 (Value.iface 74 (Value.agg #[]))).setIfInBounds 1 (Value.iface 74 (Value.agg #[]))) = #[Value.pointer (some ⟨q, 0, none⟩), undef, Value.iface 74 (Value.agg #[]), Value.iface 74 (Value.agg #[]), undef, undef, undef, undef, undef, undef] := rfl
  rw [e]
  clear e
  have HQ := Lib.hid rq
  have y0 := rq.cell (j := 0) rfl
  have g0 := rq.2.2 0 (by simp)
  have yz := rq.1
  clear rq
  have hta : ∀ V : World, (Instr.typeAssert (Value.iface 74 (Value.agg #[])) 20 74 false).run Tryz.prog V = .ok (.agg #[]) V := fun V => by first | rfl | kernel_rfl
  refine wpS_of_wp ?_
  go_wp2_with fail
  refine ⟨rfl, _, rfl, .tuple #[], ?_, rfl, rfl, Kb.set _ _ _ _ |>.mono (fun g _ e => e), ?_⟩
  · exact results_none rfl _ _ _
  · exact HQ.out.set 0 _ (by simp)
theorem zero_act (p q : Nat) (k : Int) (xs : List Value) (hk : k ≠ 0) (u : FrameMode) (w : World) (rp : RowAt w p xs) (hl : xs.length = 33) (rq : RowAt w q [.int .i64 k]) (hpq : p ≠ q) :
    CallsD Tryz.prog 14 #[.pointer (some ⟨q, 0, none⟩), .pointer (some ⟨p, 0, none⟩)] u w fun e u' w' =>
      u' = u ∧ e = .returned (.tuple #[]) ∧ w' = w.setCells p 0 zs33 := by
  have y0 := rq.cell (j := 0) rfl
  have hst : (svAct ⟨p, 0, none⟩ (.agg #[.int .i64 0, .int .i64 0, .int .i64 0, .int .i64 0, .int .i64 0, .int .i64 0, .string ⟨#[]⟩, .string ⟨#[]⟩, .string ⟨#[]⟩, .string ⟨#[]⟩, .string ⟨#[]⟩, .slice none 0 0, .string ⟨#[]⟩, .int .i64 0, .slice none 0 0, .int .i64 0, .int .i64 0, .string ⟨#[]⟩, .string ⟨#[]⟩, .string ⟨#[]⟩, .int .i64 0, .bool false, .int .i64 0, .int .i64 0, .int .i64 0, .string ⟨#[]⟩, .string ⟨#[]⟩, .string ⟨#[]⟩, .slice none 0 0, .string ⟨#[]⟩, .int .i64 0, .int .i64 0, .string ⟨#[]⟩])).run Tryz.prog w = .ok () (w.setCells p 0 zs33) := sv_row (T := 43) (k := 33) (vs := zs33) (by kernel_rfl) rp hl rfl (by simp [zs33, Value.oneCell'])
  have hne : (k != 0) = true := by simpa using hk
  clear rq rp
  go_enter_d Tryz.func14, Tryz.ntmps14
  go_wp2_with fail
  · go_end0
    exact ⟨rfl, rfl⟩
theorem keep_act (p q : Nat) (u : FrameMode) (w : World) (rq : RowAt w q [.int .i64 0]) :
    CallsD Tryz.prog 14 #[.pointer (some ⟨q, 0, none⟩), .pointer (some ⟨p, 0, none⟩)] u w fun e u' w' =>
      u' = u ∧ e = .returned (.tuple #[]) ∧ w' = w := by
  have y0 := rq.cell (j := 0) rfl
  clear rq
  go_enter_d Tryz.func14, Tryz.ntmps14
  go_wp2_with fail
  go_end0
  exact ⟨rfl, rfl⟩
theorem caught_idle (q : Addr) (w : World) :
    CallsD Tryz.prog 15 #[.pointer (some q)] .returning w fun e u' w' => e = .returned (.tuple #[]) ∧ u' = .returning ∧ w' = w := by
  refine callsD_of_wpS Tryz.func15 rfl fun c₀ cs hu => ?_
  apply wpS_seq
  apply wpS_region
  simp [wpOpsS, go_sem, recoverD, hu, Tryz.ntmps15, Exit.thenS]
  have e : (#[Value.pointer (some q)] ++ ((Array.replicate 9 undef).setIfInBounds 2 Value.nilIface).setIfInBounds 1 Value.nilIface) = #[Value.pointer (some q), undef, Value.nilIface, Value.nilIface, undef, undef, undef, undef, undef, undef] := rfl
  rw [e]
  clear e
  refine wpS_of_wp ?_
  go_wp2_with fail
  cases c₀
  refine ⟨rfl, _, ?_, .tuple #[], ?_, rfl, rfl, rfl⟩
  · simp only at hu
    subst hu
    rfl
  · exact results_none rfl _ _ _
theorem results_cellsD2 {fn : Func} {a u : Tmp} {t s : TypeId} (h : fn.results = #[.cell a t, .cell u s]) (tmps : Array Value) {P : Program} {w : World} {p q : Addr} {v x : Value} (ha : tmps.getD a undef = .pointer (some p)) (hu : tmps.getD u undef = .pointer (some q)) (hl : (loadVar t p).run P w = .ok v w) (hm : (loadVar s q).run P w = .ok x w) :
    (results fn tmps).run P w = .ok (.tuple #[v, x]) w := by
  rw [Array.getD_eq_getD_getElem?] at ha hu
  simp [results, h, ha, hu, asAddr, hl, hm]
theorem lvErrD_row {V : World} {q : Nat} {k : Int} (h : RowAt V q [.int .i64 k]) : (loadVar 44 ⟨q, 0, none⟩).run Tryz.prog V = .ok (.int .i64 k) V := by
  have y0 := h.cell (j := 0) rfl
  simp [go_sem, y0]
def parseDs (p q : Nat) : List Deferred := [{ target := Target.fn (Fn.func 15) #[], args := #[.pointer (some ⟨q, 0, none⟩)] }, { target := Target.fn (Fn.func 14) #[.pointer (some ⟨q, 0, none⟩), .pointer (some ⟨p, 0, none⟩)], args := #[] }]
theorem desk_dies {tmps : Array Value} {R : Ending → World → Prop} {p q : Nat} {xs : List Value} {x : Value} {V : World} (h2 : tmps.getD 2 undef = .pointer (some ⟨p, 0, none⟩)) (h3 : tmps.getD 3 undef = .pointer (some ⟨q, 0, none⟩)) (rp : RowAt V p xs) (hl : xs.length = 33) (rq : RowAt V q [x]) (hpq : p ≠ q)
    (hR : ∀ w', Kb (fun g => g = p ∨ g = q) V w' → R (.returned (.tuple #[.agg zs33.toArray, .int .i64 230])) w') :
    Leaves Tryz.prog Tryz.f6 tmps R (parseDs p q) (.panicking [{ v := .iface 74 (.agg #[]), recovered := false }]) V := by
  refine leaves_cons (f := 15) (args := #[.pointer (some ⟨q, 0, none⟩)]) (by simp) (by simp [go_sem]) ?_
  refine (caught_panic q x V rq).mono ?_
  rintro e u' w1 ⟨rfl, rfl, kb, r1⟩
  have rp1 := kb.row rp hpq
  refine leaves_cons (f := 14) (args := #[.pointer (some ⟨q, 0, none⟩), .pointer (some ⟨p, 0, none⟩)]) (by simp [settle]) (by simp [go_sem]) ?_
  refine (zero_act p q 230 xs (by decide) _ w1 rp1 hl r1 hpq).mono ?_
  rintro e u' w2 ⟨rfl, rfl, rfl⟩
  have k2 := kb_setCellsD p zs33 w1 0
  have r2 : RowAt (w1.setCells p 0 zs33) p zs33 := by simpa using row_setCells zs33 w1 [] xs rp1 hl
  have r3 := k2.row r1 (fun e => hpq e.symm)
  exact ⟨_, results_cellsD2 rfl tmps h2 h3 (lvAct_row r2 rfl) (lvErrD_row r3), hR _ ((kb.mono fun g _ e => .inr e).trans (k2.mono fun g _ e => .inl e))⟩
theorem desk_goes {tmps : Array Value} {R : Ending → World → Prop} {p q : Nat} {cs : List Value} {V : World} (h2 : tmps.getD 2 undef = .pointer (some ⟨p, 0, none⟩)) (h3 : tmps.getD 3 undef = .pointer (some ⟨q, 0, none⟩)) (rp : RowAt V p cs) (hl : cs.length = 33) (rq : RowAt V q [.int .i64 0])
    (hR : R (.returned (.tuple #[.agg cs.toArray, .int .i64 0])) V) :
    Leaves Tryz.prog Tryz.f6 tmps R (parseDs p q) .returning V := by
  refine leaves_cons (f := 15) (args := #[.pointer (some ⟨q, 0, none⟩)]) (by simp) (by simp [go_sem]) ?_
  refine (caught_idle ⟨q, 0, none⟩ V).mono ?_
  rintro e u' w1 ⟨rfl, rfl, rfl⟩
  refine leaves_cons (f := 14) (args := #[.pointer (some ⟨q, 0, none⟩), .pointer (some ⟨p, 0, none⟩)]) (by simp [settle]) (by simp [go_sem]) ?_
  refine (keep_act p q _ w1 rq).mono ?_
  rintro e u' w2 ⟨rfl, rfl, rfl⟩
  exact ⟨_, results_cellsD2 rfl tmps h2 h3 (lvAct_row rp hl) (lvErrD_row rq), hR⟩
def ParseQ (w : World) (o : Option Dact) (e : Ending) (w' : World) : Prop :=
  Aft w w' ∧ match o with
  | some a => ∃ b B v, w.heap.size ≤ b ∧ ActV b B w' v a ∧ e = .returned (.tuple #[v, .int .i64 0])
  | none => e = .returned (.tuple #[.agg zs33.toArray, .int .i64 230])
theorem split_in (s : ByteArray) (w : World) (hs : s.size ≤ 4096) (hl : LibV w) :
    Calls Tryz.prog 16 #[.string s, .string ⟨#[32]⟩] w fun e w' => e = .returned (.slice (some ⟨w.heap.size, 0, none⟩) (wordsB s).length (wordsB s).length) ∧ Aft w w' ∧ Pcs w' w.heap.size 0 (wordsB s).length (wordsB s) ∧ w'.heap.size = w.heap.size + 1 ∧ LibV w' := by
  obtain ⟨m, hm⟩ := hl
  refine (Tryz.strings_Split s spB m w (by omega) hm (by decide)).mono ?_
  rintro e w' ⟨rfl, rfl⟩
  have e1 : Lib.splitB spB 0 (Lib.countB s spB) s = wordsB s := split_words _ s rfl
  have e2 : Lib.countB s spB + 1 = (wordsB s).length := by rw [← e1, Lib.splitB_all spB (by decide) 0 _ s rfl]
  rw [e1, e2]
  refine ⟨rfl, (Aft.refl w).alloc _, ⟨Nat.le_refl _, by simp, fun i hi => ⟨?_, Nat.le_trans (words_each (List.getElem_mem hi)) hs⟩⟩, by simp, LibV.kb (P := fun _ => False) ⟨m, hm⟩ (Kb.of_aft ((Aft.refl w).alloc _)) id⟩
  have r := rowAt_newD w ((wordsB s).map Value.string) 9
  rw [Nat.zero_add]
  exact r.cell (j := i) (by simp [hi])
structure PSt (w : World) (b p : Nat) (a : Dact) (W' : Ws) (v : Value) (zs : List Value) (V : World) : Prop where
  act : ∃ B, w.heap.size + 1 < B ∧ ActV b B V v a
  wds : WdS V b p W'
  aft : Aft w V
  lb : w.heap.size + 1 < b
  lp : w.heap.size + 1 < p
  lm : 0 < w.heap.size
  row : RowAt V w.heap.size zs
  len : zs.length = 33
  err : RowAt V (w.heap.size + 1) [.int .i64 0]
theorem PSt.free {w : World} {b p : Nat} {a : Dact} {W' : Ws} {v : Value} {zs : List Value} {V : World} (h : PSt w b p a W' v zs V) : V.frozen? ⟨w.heap.size + 1, 0, none⟩ = false := h.err.2.2 0 (by simp)
theorem PSt.fin {w : World} {b p : Nat} {a : Dact} {W' : Ws} {A : Option Addr} {k : Nat} {A2 : Option Addr} {k2 : Nat} {A3 : Option Addr} {k3 : Nat} {zs : List Value} {V : World} (h : PSt w b p a W' (.agg (actV a A k A2 k2 A3 k3).toArray) zs V) :
    ∃ V', (svAct ⟨w.heap.size, 0, none⟩ (.agg (actV a A k A2 k2 A3 k3).toArray)).run Tryz.prog V = .ok () V' ∧ PSt w b p a W' (.agg (actV a A k A2 k2 A3 k3).toArray) (actV a A k A2 k2 A3 k3) V' := by
  have kb := kb_setCellsD w.heap.size (actV a A k A2 k2 A3 k3) V 0
  have := h.lb
  have := h.lp
  have := h.lm
  obtain ⟨B, hB, B1, n1, B2, n2, B3, n3, hv, q1, q2, q3, q4, q5⟩ := h.act
  refine ⟨_, svAct_row h.row h.len rfl (actV_one a A k A2 k2 A3 k3), ⟨⟨B, hB, B1, n1, B2, n2, B3, n3, hv, q1.hi kb (fun g e => by have : g = w.heap.size := e; omega), q2.hi kb (fun g e => by have : g = w.heap.size := e; omega), ⟨q3.1.hi kb (fun g e => by have : g = w.heap.size := e; omega), q3.2⟩, q4, q5⟩, h.wds.kb kb (by omega) (by omega) (by omega), kb.to_aft h.aft (fun g hg e => by have : g = w.heap.size := e; omega), h.lb, h.lp, h.lm, ?_, rfl, kb.row h.err (by omega)⟩⟩
  simpa using row_setCells (actV a A k A2 k2 A3 k3) V [] zs h.row h.len
set_option maxHeartbeats 4000000 in
theorem parse_in (s : ByteArray) (w : World) (hs : Small s.size) (hl : LibV w) (hm : 0 < w.heap.size) :
    Calls Tryz.prog 6 #[.string s] w (ParseQ w (parseB s)) := by
  have hmf : ∀ (fn : Fn) (first cap : Array Value) (w : World), (Instr.makeFunc fn first cap).run Tryz.prog w = .ok (.func fn first cap) w := fun _ _ _ _ => rfl
  have hlen := hs
  obtain ⟨W, hW⟩ : ∃ W, W = ((w.alloc (.cells #[.int .i64 0, .int .i64 0, .int .i64 0, .int .i64 0, .int .i64 0, .int .i64 0, .string ⟨#[]⟩, .string ⟨#[]⟩, .string ⟨#[]⟩, .string ⟨#[]⟩, .string ⟨#[]⟩, .slice none 0 0, .string ⟨#[]⟩, .int .i64 0, .slice none 0 0, .int .i64 0, .int .i64 0, .string ⟨#[]⟩, .string ⟨#[]⟩, .string ⟨#[]⟩, .int .i64 0, .bool false, .int .i64 0, .int .i64 0, .int .i64 0, .string ⟨#[]⟩, .string ⟨#[]⟩, .string ⟨#[]⟩, .slice none 0 0, .string ⟨#[]⟩, .int .i64 0, .int .i64 0, .string ⟨#[]⟩] 43)).alloc (.cells #[.int .i64 0] 44)) := ⟨_, rfl⟩
  have aW : Aft w W := by rw [hW]; exact ((Aft.refl w).alloc _).alloc _
  dsimp only at hW
  have rp : RowAt W w.heap.size zs33 := by
    rw [hW]
    exact Kb.row (P := fun _ => False) (Kb.of_aft ((Aft.refl _).alloc _)) (rowAt_newD w zs33 _) id
  have rq : RowAt W (w.heap.size + 1) [.int .i64 0] := by
    rw [hW]
    have := rowAt_newD (w.alloc (.cells zs33.toArray 43)) [.int .i64 0] 44
    rw [show (w.alloc (.cells zs33.toArray 43)).heap.size = w.heap.size + 1 by simp] at this
    exact this
  have zW : W.heap.size = w.heap.size + 2 := by rw [hW]; simp
  have HLW := Lib.hid (hl.kb (P := fun _ => False) (Kb.of_aft aW) id)
  by_cases h4 : s.size ≤ 4096
  · have h5 : ¬ (4096 : Int) < (s.size : Int) := by omega
    have HP := Lib.hid rp
    have HQ := Lib.hid rq
    have HSP := Lib.hid (split_in s W h4 HLW.out)
    have HAW := Lib.hid aW
    have HZW := Lib.hid zW
    have HPB := Lib.hid (show parseB s = parseW (wordsB s) from by unfold parseB; rw [if_pos h4])
    have DIE := Lib.hid (show ∀ (V : World) (xs : List Value) (x : Value) (tmps : Array Value), Aft w V → RowAt V w.heap.size xs → xs.length = 33 → RowAt V (w.heap.size + 1) [x] → tmps.getD 2 undef = .pointer (some ⟨w.heap.size, 0, none⟩) → tmps.getD 3 undef = .pointer (some ⟨w.heap.size + 1, 0, none⟩) → parseB s = none → Leaves Tryz.prog Tryz.f6 tmps (ParseQ w (parseB s)) (parseDs w.heap.size (w.heap.size + 1)) (.panicking [{ v := .iface 74 (.agg #[]), recovered := false }]) V from
      fun V xs x tmps a r1 hl r2 t2 t3 he => desk_dies t2 t3 r1 hl r2 (by omega) fun w' kb => by
        rw [he]
        exact ⟨kb.to_aft a (fun g hg e => by omega), rfl⟩)
    have HWD := Lib.hid (show ∀ w1, Aft W w1 ∧ Pcs w1 W.heap.size 0 (wordsB s).length (wordsB s) ∧ w1.heap.size = W.heap.size + 1 ∧ LibV w1 → WdS (w1.alloc (.cells #[.slice (some ⟨W.heap.size, 0, none⟩) (wordsB s).length (wordsB s).length] 59)) w1.heap.size W.heap.size (wordsB s) ∧ Aft W (w1.alloc (.cells #[.slice (some ⟨W.heap.size, 0, none⟩) (wordsB s).length (wordsB s).length] 59)) from fun w1 ⟨a1, p1, z1, l1⟩ => by
      have a2 : Aft w1 (w1.alloc (.cells #[.slice (some ⟨W.heap.size, 0, none⟩) (wordsB s).length (wordsB s).length] 59)) := (Aft.refl w1).alloc _
      have r := rowAt_newD w1 [.slice (some ⟨W.heap.size, 0, none⟩) (wordsB s).length (wordsB s).length] 59
      have k2 := Kb.of_aft (P := fun _ => False) a2
      exact ⟨⟨⟨0, (wordsB s).length, r.cell (j := 0) rfl, p1.kb k2 id⟩, r.1, r.2.2 0 (by simp), by omega, by have := words_len s; omega, l1.kb k2 id, by have := HZW.out; omega⟩, a1.trans a2⟩)
    clear rp rq aW zW hl
    cases hact : actP (wordsB s) with
    | none =>
      have HAC := Lib.hid (show ∀ w1, Aft W w1 ∧ Pcs w1 W.heap.size 0 (wordsB s).length (wordsB s) ∧ w1.heap.size = W.heap.size + 1 ∧ LibV w1 → Calls Tryz.prog 17 #[.pointer (some ⟨w1.heap.size, 0, none⟩)] (w1.alloc (.cells #[.slice (some ⟨W.heap.size, 0, none⟩) (wordsB s).length (wordsB s).length] 59)) fun e w' => e = .panicked [{ v := .iface 74 (.agg #[]), recovered := false }] ∧ Aft w w' ∧ RowAt w' w.heap.size zs33 ∧ RowAt w' (w.heap.size + 1) [.int .i64 0] from fun w1 h => by
        obtain ⟨d, a2⟩ := HWD.out w1 h
        refine (act_rd _ _ _ _ d).mono ?_
        rintro e w' q
        rw [hact] at q
        obtain ⟨k, rfl⟩ := q
        have kb := (Kb.of_aft (P := fun k => k = w1.heap.size) a2).trans k
        have := HZW.out
        have := h.2.2.1
        exact ⟨rfl, kb.to_aft HAW.out (fun g hg e => by have : g = w1.heap.size := e; omega), kb.row HP.out (by omega), kb.row HQ.out (by omega)⟩)
      have HN := Lib.hid (show parseB s = none from by rw [HPB.out]; unfold parseW; rw [hact]; rfl)
      clear hact
      go_enter_defers Tryz.func6, Tryz.ntmps6
      go_upto_region 1 with fail
      rw [← hW]
      clear hW
      go_wp2_with (first
        | (go_at_call 16; with_reducible refine HSP.out.mono ?_; rintro e w1 ⟨rfl, q⟩; have HS1 := Lib.hid q; clear q)
        | (go_at_call 17; with_reducible refine (HAC.out _ HS1.out).mono ?_; rintro e w2 ⟨rfl, q⟩; have HS2 := Lib.hid q; clear q))
      exact DIE.out _ _ _ _ HS2.out.1 HS2.out.2.1 rfl HS2.out.2.2 rfl rfl HN.out
    | some y =>
      obtain ⟨a, W'⟩ := y
      have HAC := Lib.hid (show ∀ w1, Aft W w1 ∧ Pcs w1 W.heap.size 0 (wordsB s).length (wordsB s) ∧ w1.heap.size = W.heap.size + 1 ∧ LibV w1 → Calls Tryz.prog 17 #[.pointer (some ⟨w1.heap.size, 0, none⟩)] (w1.alloc (.cells #[.slice (some ⟨W.heap.size, 0, none⟩) (wordsB s).length (wordsB s).length] 59)) fun e w' => ∃ A k A2 k2 A3 k3, e = .returned (.agg (actV a A k A2 k2 A3 k3).toArray) ∧ PSt w w1.heap.size W.heap.size a W' (.agg (actV a A k A2 k2 A3 k3).toArray) zs33 w' from fun w1 h => by
        obtain ⟨d, a2⟩ := HWD.out w1 h
        refine (act_rd _ _ _ _ d).mono ?_
        rintro e w' q
        rw [hact] at q
        obtain ⟨k, v, rfl, ⟨A, q1, A2, q2, A3, q3, rfl, g⟩, d2⟩ := q
        have kb := (Kb.of_aft (P := fun k => k = w1.heap.size) a2).trans k
        have := HZW.out
        have := h.2.2.1
        exact ⟨A, q1, A2, q2, A3, q3, rfl, ⟨_, by simp; omega, A, q1, A2, q2, A3, q3, rfl, g⟩, d2, kb.to_aft HAW.out (fun g hg e => by have : g = w1.heap.size := e; omega), by omega, by omega, hm, kb.row HP.out (by omega), rfl, kb.row HQ.out (by omega)⟩)
      have HN := Lib.hid (show parseB s = if W' = [] then some a else none from by rw [HPB.out]; unfold parseW; rw [hact]; rfl)
      clear hact
      cases W' with
      | nil =>
        go_enter_defers Tryz.func6, Tryz.ntmps6
        go_upto_region 1 with fail
        rw [← hW]
        clear hW
        go_wp2_with (first
          | (go_at_call 16; with_reducible refine HSP.out.mono ?_; rintro e w1 ⟨rfl, q⟩; have HS1 := Lib.hid q; clear q)
          | (go_at_call 17; with_reducible refine (HAC.out _ HS1.out).mono ?_; rintro e w2 ⟨A, k, A2, k2, A3, k3, rfl, q⟩; go_loud (obtain ⟨V3, e3, q3⟩ := q.fin; have e4 := lvAct_row q3.row q3.len; have HS3 := Lib.hid q3; have HMO := Lib.hid (more_no _ _ _ q3.wds); obtain ⟨V4, e5, q4⟩ := q3.fin; have y0 := q4.err.cell (j := 0) rfl; have y1 := q4.free; have HS4 := Lib.hid q4; clear q q3 q4))
          | (go_at_call 19; with_reducible refine HMO.out.mono ?_; rintro e w3 ⟨rfl, rfl⟩)
          | (go_at_call 18; with_reducible refine (dis_ok _).mono ?_; rintro e w3 ⟨rfl, rfl⟩))
        refine desk_goes (cs := actV a A k A2 k2 A3 k3) rfl rfl ((Kb.set _ _ _ _).row HS4.out.row (by omega)) rfl (HS4.out.err.set 0 _ (by simp)) ?_
        rw [HN.out]
        have q4 := HS4.out
        obtain ⟨B, hB, B1, n1, B2, n2, B3, n3, hv, g1, g2, g3, g4, g5⟩ := q4.act
        have kb := Kb.set V4 (w.heap.size + 1) 0 (.int .i64 0)
        have hlb := q4.lb
        refine ⟨q4.aft.setCell _ _ (by simp), _, _, _, by omega, ⟨B1, n1, B2, n2, B3, n3, hv, g1.hi kb ?_, g2.hi kb ?_, ⟨g3.1.hi kb ?_, g3.2⟩, g4, g5⟩, rfl⟩
        all_goals exact fun g e => by have : g = w.heap.size + 1 := e; omega
      | cons x W' =>
        have HN2 := Lib.hid (show parseB s = none from by rw [HN.out]; rfl)
        go_enter_defers Tryz.func6, Tryz.ntmps6
        go_upto_region 1 with fail
        rw [← hW]
        clear hW
        go_wp2_with (first
          | (go_at_call 16; with_reducible refine HSP.out.mono ?_; rintro e w1 ⟨rfl, q⟩; have HS1 := Lib.hid q; clear q)
          | (go_at_call 17; with_reducible refine (HAC.out _ HS1.out).mono ?_; rintro e w2 ⟨A, k, A2, k2, A3, k3, rfl, q⟩; obtain ⟨V3, e3, q3⟩ := q.fin; have HS3 := Lib.hid q3; have HMO := Lib.hid (more_yes _ _ _ _ _ q3.wds); clear q q3)
          | (go_at_call 19; with_reducible refine HMO.out.mono ?_; rintro e w3 ⟨rfl, rfl⟩)
          | (go_at_call 18; with_reducible refine (dis_no _).mono ?_; rintro e w3 ⟨he, rfl⟩; unfold NoL at he; subst he))
        exact DIE.out _ _ _ _ HS3.out.aft HS3.out.row rfl HS3.out.err rfl rfl HN2.out
  · have h5 : (4096 : Int) < (s.size : Int) := by omega
    have hst : (svAct ⟨w.heap.size, 0, none⟩ (.agg #[.int .i64 0, .int .i64 0, .int .i64 0, .int .i64 0, .int .i64 0, .int .i64 0, .string ⟨#[]⟩, .string ⟨#[]⟩, .string ⟨#[]⟩, .string ⟨#[]⟩, .string ⟨#[]⟩, .slice none 0 0, .string ⟨#[]⟩, .int .i64 0, .slice none 0 0, .int .i64 0, .int .i64 0, .string ⟨#[]⟩, .string ⟨#[]⟩, .string ⟨#[]⟩, .int .i64 0, .bool false, .int .i64 0, .int .i64 0, .int .i64 0, .string ⟨#[]⟩, .string ⟨#[]⟩, .string ⟨#[]⟩, .slice none 0 0, .string ⟨#[]⟩, .int .i64 0, .int .i64 0, .string ⟨#[]⟩])).run Tryz.prog W = .ok () (W.setCells w.heap.size 0 zs33) := sv_row (T := 43) (k := 33) (vs := zs33) (by kernel_rfl) rp rfl rfl (by simp [zs33, Value.oneCell'])
    dsimp only at hst
    have kb := kb_setCellsD w.heap.size zs33 W 0
    have r1 : RowAt (W.setCells w.heap.size 0 zs33) w.heap.size zs33 := by simpa using row_setCells zs33 W [] zs33 rp rfl
    have r2 := kb.row rq (by omega)
    have a2 := kb.to_aft aW (fun g hg e => by have : g = w.heap.size := e; omega)
    generalize W.setCells w.heap.size 0 zs33 = V at hst kb r1 r2 a2
    have y0 := r2.cell (j := 0) rfl
    have y1 := r2.2.2 0 (by simp)
    have HR := Lib.hid (And.intro r1 (And.intro r2 a2))
    have HN := Lib.hid (show parseB s = none from by unfold parseB; rw [if_neg h4])
    clear rp rq aW zW kb r1 r2 a2 hl
    go_enter_defers Tryz.func6, Tryz.ntmps6
    go_upto_region 1 with fail
    rw [← hW]
    clear hW
    go_wp2_with fail
    refine ⟨_, results_cellsD2 rfl _ rfl rfl (lvAct_row (cs := zs33) ?_ rfl) (lvErrD_row (k := 230) ?_), ?_⟩
    · exact (Kb.set _ _ _ _).row HR.out.1 (by omega)
    · exact HR.out.2.1.set 0 _ (by simp)
    · rw [HN.out]
      exact ⟨HR.out.2.2.setCell _ _ (by simp), rfl⟩
end Go.Proofs.YtbdanlipghhgpaaGreatDoor

namespace Go.Proofs.YtbdanlipghhgpaaGreatDoor
open Go.RowKit Go.Deep
set_option maxRecDepth 100000
set_option linter.unusedVariables false
structure ActX (w : World) (a : Dact) (A : Option Addr) (k : Nat) (A2 : Option Addr) (k2 : Nat) (A3 : Option Addr) (k3 : Nat) : Prop where
  cols : SlAt w 3 ColR A k a.cmd.cols
  nms : SlAt w 1 StrR A2 k2 a.cmd.rule.cols
  vals : SlAt w 3 ValR A3 k3 a.row.row
  z1 : Small a.cmd.rule.name.size
  z2 : Small a.cmd.rule.schema.size
  z3 : Small a.cmd.rule.table.size
  z4 : Small a.cmd.rule.key.size
theorem ActX.aft {w w' : World} {a : Dact} {A : Option Addr} {k : Nat} {A2 : Option Addr} {k2 : Nat} {A3 : Option Addr} {k3 : Nat} (h : ActX w a A k A2 k2 A3 k3) (hw : Aft w w') : ActX w' a A k A2 k2 A3 k3 :=
  ⟨cols_aft hw h.cols, strs_aft hw h.nms, vals_aft hw h.vals, h.z1, h.z2, h.z3, h.z4⟩
def eqG2 (k n k' n' : Int) : Bool := k == k' && n == n'
theorem run_eqChg (w : World) (k n k' n' : Int) :
    (Op.equalIn 10000 34 (.agg #[.int .i64 k, .int .i64 n]) (.agg #[.int .i64 k', .int .i64 n'])).run Tryz.prog w = .ok (eqG2 k n k' n') w := by
  cases h1 : (k == k') <;> cases h2 : (n == n') <;> go_simp <;> simp_all [eqG2]
@[go_sem ↓] theorem run_neqChg (w : World) (k n k' n' : Int) :
    (binOp .neq 34 (.agg #[.int .i64 k, .int .i64 n]) (.agg #[.int .i64 k', .int .i64 n'])).run Tryz.prog w = .ok (.bool (!eqG2 k n k' n')) w := by
  rw [run_neq_struct, run_eqChg]; rfl
@[go_sem ↓] theorem run_eqlChg (w : World) (k n k' n' : Int) :
    (binOp .eql 34 (.agg #[.int .i64 k, .int .i64 n]) (.agg #[.int .i64 k', .int .i64 n'])).run Tryz.prog w = .ok (.bool (eqG2 k n k' n')) w := by
  rw [run_eql_struct, run_eqChg]; rfl
theorem eqG_iff (k n k' n' : Int) : eqG2 k n k' n' = true ↔ k = k' ∧ n = n' := by simp [eqG2]
theorem slAt_rul {w : World} {g : Nat} {r : Rul} {A2 : Option Addr} {k2 : Nat} (h : RowAt w g [.string r.name, .int .i64 r.kind, .slice A2 r.cols.length k2, .int .i64 r.low, .int .i64 r.high, .string r.schema, .string r.table, .string r.key]) (hs : SlAt w 1 StrR A2 k2 r.cols) (z1 : Small r.name.size) (z2 : Small r.schema.size) (z3 : Small r.table.size) (z4 : Small r.key.size) : SlAt w 8 RulR (some ⟨g, 0, none⟩) 1 [r] := by
  refine ⟨by simp, by unfold Small; simp, fun i hi => ?_⟩
  have : i = 0 := by simpa using hi
  subst this
  refine ⟨g, 0, _, rfl, h.1, rfl, ⟨A2, k2, rfl, hs, z1, z2, z3, z4⟩, fun j hj => ?_⟩
  have := h.2.1 j (by simpa using hj)
  simpa using this
theorem cmd_same {x y : Cmd} (h0 : x.kind = y.kind) (h1 : x.actor = y.actor) (h2 : x.schema = y.schema) (h3 : x.table = y.table) (h4 : x.name = y.name) (h5 : x.role = y.role) (h6 : x.cols = y.cols) (h7 : x.rule = y.rule) (h8 : x.right = y.right) (h9 : x.opt = y.opt) : x = y := by
  cases x; cases y; simp_all
theorem rop_same {x y : ROp} (h0 : x.kind = y.kind) (h1 : x.role = y.role) (h2 : x.schema = y.schema) (h3 : x.table = y.table) (h4 : x.row = y.row) (h5 : x.col = y.col) (h6 : x.v = y.v) : x = y := by
  cases x; cases y; simp_all
theorem act_same {a b : Dact} (h0 : a.kind = b.kind) (h1 : a.node = b.node) (h2 : a.n = b.n) (h3 : a.client = b.client) (h4 : a.number = b.number) (h5 : a.cmd = b.cmd) (h6 : a.ck = b.ck ∧ a.cn = b.cn) (h7 : a.row = b.row) : a = b := by
  cases a; cases b; simp_all
theorem samet_no {r : Bool} {p : Prop} {α : Type} {x y : α} (hr : r = true ↔ (p ∧ [x] = [y])) (h : ¬ (p ∧ x = y)) : Ending.returned (.bool r) = .returned (.bool false) := by
  cases r
  · rfl
  · exact absurd ((hr.1 rfl).imp id (fun e => by simpa using e)) h
theorem box2_rowsD {w W : World} {c d : List Value} {t u : TypeId} (h : Aft ((w.alloc (.cells c.toArray t)).alloc (.cells d.toArray u)) W) : RowAt W w.heap.size c ∧ RowAt W (w.heap.size + 1) d := by
  obtain ⟨h1, h2, hz, _⟩ := aft_box2 h
  refine ⟨⟨hz.1, fun j hj => by rw [h1]; simp, fun j hj => ?_⟩, ⟨hz.2, fun j hj => by rw [h2]; simp, fun j hj => ?_⟩⟩
  · exact (Below.frozen h (p := ⟨w.heap.size, j, none⟩) (by simp; omega)).trans ((World.frozen?_alloc_past _ _ _ (by simp)).trans (World.frozen?_alloc_at _ _ _ _ rfl))
  · exact (Below.frozen h (p := ⟨w.heap.size + 1, j, none⟩) (by simp)).trans (World.frozen?_alloc_at _ _ _ _ (by simp))
set_option maxHeartbeats 16000000 in
theorem same24 (a b : Dact) (A : Option Addr) (k : Nat) (A2 : Option Addr) (k2 : Nat) (A3 : Option Addr) (k3 : Nat) (B : Option Addr) (m : Nat) (B2 : Option Addr) (m2 : Nat) (B3 : Option Addr) (m3 : Nat) (w : World) (ha : ActX w a A k A2 k2 A3 k3) (hb : ActX w b B m B2 m2 B3 m3) :
    Calls Tryz.prog 9 #[.agg (actV a A k A2 k2 A3 k3).toArray, .agg (actV b B m B2 m2 B3 m3).toArray] w (SameQ w (a = b)) := by
  rw [show (actV a A k A2 k2 A3 k3).toArray = #[.int .i64 a.kind, .int .i64 a.node, .int .i64 a.n, .int .i64 a.client, .int .i64 a.number, .int .i64 a.cmd.kind, .string a.cmd.actor, .string a.cmd.schema, .string a.cmd.table, .string a.cmd.name, .string a.cmd.role, .slice A a.cmd.cols.length k, .string a.cmd.rule.name, .int .i64 a.cmd.rule.kind, .slice A2 a.cmd.rule.cols.length k2, .int .i64 a.cmd.rule.low, .int .i64 a.cmd.rule.high, .string a.cmd.rule.schema, .string a.cmd.rule.table, .string a.cmd.rule.key, .int .i64 a.cmd.right, .bool a.cmd.opt, .int .i64 a.ck, .int .i64 a.cn, .int .i64 a.row.kind, .string a.row.role, .string a.row.schema, .string a.row.table, .slice A3 a.row.row.length k3, .string a.row.col, .int .i64 a.row.v.kind, .int .i64 a.row.v.int, .string a.row.v.text] from rfl, show (actV b B m B2 m2 B3 m3).toArray = #[.int .i64 b.kind, .int .i64 b.node, .int .i64 b.n, .int .i64 b.client, .int .i64 b.number, .int .i64 b.cmd.kind, .string b.cmd.actor, .string b.cmd.schema, .string b.cmd.table, .string b.cmd.name, .string b.cmd.role, .slice B b.cmd.cols.length m, .string b.cmd.rule.name, .int .i64 b.cmd.rule.kind, .slice B2 b.cmd.rule.cols.length m2, .int .i64 b.cmd.rule.low, .int .i64 b.cmd.rule.high, .string b.cmd.rule.schema, .string b.cmd.rule.table, .string b.cmd.rule.key, .int .i64 b.cmd.right, .bool b.cmd.opt, .int .i64 b.ck, .int .i64 b.cn, .int .i64 b.row.kind, .string b.row.role, .string b.row.schema, .string b.row.table, .slice B3 b.row.row.length m3, .string b.row.col, .int .i64 b.row.v.kind, .int .i64 b.row.v.int, .string b.row.v.text] from rfl]
  have hlen := ha.vals.len
  have hlen2 := hb.vals.len
  have HXA := Lib.hid ha
  have HXB := Lib.hid hb
  clear ha hb
  obtain ⟨W, hW⟩ : ∃ W, W = (w.alloc (.cells #[.int .i64 a.kind, .int .i64 a.node, .int .i64 a.n, .int .i64 a.client, .int .i64 a.number, .int .i64 a.cmd.kind, .string a.cmd.actor, .string a.cmd.schema, .string a.cmd.table, .string a.cmd.name, .string a.cmd.role, .slice A a.cmd.cols.length k, .string a.cmd.rule.name, .int .i64 a.cmd.rule.kind, .slice A2 a.cmd.rule.cols.length k2, .int .i64 a.cmd.rule.low, .int .i64 a.cmd.rule.high, .string a.cmd.rule.schema, .string a.cmd.rule.table, .string a.cmd.rule.key, .int .i64 a.cmd.right, .bool a.cmd.opt, .int .i64 a.ck, .int .i64 a.cn, .int .i64 a.row.kind, .string a.row.role, .string a.row.schema, .string a.row.table, .slice A3 a.row.row.length k3, .string a.row.col, .int .i64 a.row.v.kind, .int .i64 a.row.v.int, .string a.row.v.text] 43)).alloc (.cells #[.int .i64 b.kind, .int .i64 b.node, .int .i64 b.n, .int .i64 b.client, .int .i64 b.number, .int .i64 b.cmd.kind, .string b.cmd.actor, .string b.cmd.schema, .string b.cmd.table, .string b.cmd.name, .string b.cmd.role, .slice B b.cmd.cols.length m, .string b.cmd.rule.name, .int .i64 b.cmd.rule.kind, .slice B2 b.cmd.rule.cols.length m2, .int .i64 b.cmd.rule.low, .int .i64 b.cmd.rule.high, .string b.cmd.rule.schema, .string b.cmd.rule.table, .string b.cmd.rule.key, .int .i64 b.cmd.right, .bool b.cmd.opt, .int .i64 b.ck, .int .i64 b.cn, .int .i64 b.row.kind, .string b.row.role, .string b.row.schema, .string b.row.table, .slice B3 b.row.row.length m3, .string b.row.col, .int .i64 b.row.v.kind, .int .i64 b.row.v.int, .string b.row.v.text] 43) := ⟨_, rfl⟩
  have aW : Aft w W := by rw [hW]; exact ((Aft.refl w).alloc _).alloc _
  obtain ⟨ra, rb⟩ := box2_rowsD (w := w) (W := W) (by rw [← hW]; exact Aft.refl W)
  have HAW := Lib.hid aW
  have HZ := Lib.hid (show w.heap.size + 1 < W.heap.size from rb.1)
  go_enter Tryz.func9, Tryz.ntmps9
  go_upto_region 1 with fail
  rw [← hW]
  clear hW
  have p0 : W.cell? ⟨w.heap.size, 0, none⟩ = some (.int .i64 a.kind) := ra.cell (j := 0) rfl
  have p1 : W.cell? ⟨w.heap.size, 1, none⟩ = some (.int .i64 a.node) := ra.cell (j := 1) rfl
  have p2 : W.cell? ⟨w.heap.size, 2, none⟩ = some (.int .i64 a.n) := ra.cell (j := 2) rfl
  have p3 : W.cell? ⟨w.heap.size, 3, none⟩ = some (.int .i64 a.client) := ra.cell (j := 3) rfl
  have p4 : W.cell? ⟨w.heap.size, 4, none⟩ = some (.int .i64 a.number) := ra.cell (j := 4) rfl
  have p5 : W.cell? ⟨w.heap.size, 5, none⟩ = some (.int .i64 a.cmd.kind) := ra.cell (j := 5) rfl
  have p6 : W.cell? ⟨w.heap.size, 6, none⟩ = some (.string a.cmd.actor) := ra.cell (j := 6) rfl
  have p7 : W.cell? ⟨w.heap.size, 7, none⟩ = some (.string a.cmd.schema) := ra.cell (j := 7) rfl
  have p8 : W.cell? ⟨w.heap.size, 8, none⟩ = some (.string a.cmd.table) := ra.cell (j := 8) rfl
  have p9 : W.cell? ⟨w.heap.size, 9, none⟩ = some (.string a.cmd.name) := ra.cell (j := 9) rfl
  have p10 : W.cell? ⟨w.heap.size, 10, none⟩ = some (.string a.cmd.role) := ra.cell (j := 10) rfl
  have p11 : W.cell? ⟨w.heap.size, 11, none⟩ = some (.slice A a.cmd.cols.length k) := ra.cell (j := 11) rfl
  have p12 : W.cell? ⟨w.heap.size, 12, none⟩ = some (.string a.cmd.rule.name) := ra.cell (j := 12) rfl
  have p13 : W.cell? ⟨w.heap.size, 13, none⟩ = some (.int .i64 a.cmd.rule.kind) := ra.cell (j := 13) rfl
  have p14 : W.cell? ⟨w.heap.size, 14, none⟩ = some (.slice A2 a.cmd.rule.cols.length k2) := ra.cell (j := 14) rfl
  have p15 : W.cell? ⟨w.heap.size, 15, none⟩ = some (.int .i64 a.cmd.rule.low) := ra.cell (j := 15) rfl
  have p16 : W.cell? ⟨w.heap.size, 16, none⟩ = some (.int .i64 a.cmd.rule.high) := ra.cell (j := 16) rfl
  have p17 : W.cell? ⟨w.heap.size, 17, none⟩ = some (.string a.cmd.rule.schema) := ra.cell (j := 17) rfl
  have p18 : W.cell? ⟨w.heap.size, 18, none⟩ = some (.string a.cmd.rule.table) := ra.cell (j := 18) rfl
  have p19 : W.cell? ⟨w.heap.size, 19, none⟩ = some (.string a.cmd.rule.key) := ra.cell (j := 19) rfl
  have p20 : W.cell? ⟨w.heap.size, 20, none⟩ = some (.int .i64 a.cmd.right) := ra.cell (j := 20) rfl
  have p21 : W.cell? ⟨w.heap.size, 21, none⟩ = some (.bool a.cmd.opt) := ra.cell (j := 21) rfl
  have p22 : W.cell? ⟨w.heap.size, 22, none⟩ = some (.int .i64 a.ck) := ra.cell (j := 22) rfl
  have p23 : W.cell? ⟨w.heap.size, 23, none⟩ = some (.int .i64 a.cn) := ra.cell (j := 23) rfl
  have p24 : W.cell? ⟨w.heap.size, 24, none⟩ = some (.int .i64 a.row.kind) := ra.cell (j := 24) rfl
  have p25 : W.cell? ⟨w.heap.size, 25, none⟩ = some (.string a.row.role) := ra.cell (j := 25) rfl
  have p26 : W.cell? ⟨w.heap.size, 26, none⟩ = some (.string a.row.schema) := ra.cell (j := 26) rfl
  have p27 : W.cell? ⟨w.heap.size, 27, none⟩ = some (.string a.row.table) := ra.cell (j := 27) rfl
  have p28 : W.cell? ⟨w.heap.size, 28, none⟩ = some (.slice A3 a.row.row.length k3) := ra.cell (j := 28) rfl
  have p29 : W.cell? ⟨w.heap.size, 29, none⟩ = some (.string a.row.col) := ra.cell (j := 29) rfl
  have p30 : W.cell? ⟨w.heap.size, 30, none⟩ = some (.int .i64 a.row.v.kind) := ra.cell (j := 30) rfl
  have p31 : W.cell? ⟨w.heap.size, 31, none⟩ = some (.int .i64 a.row.v.int) := ra.cell (j := 31) rfl
  have p32 : W.cell? ⟨w.heap.size, 32, none⟩ = some (.string a.row.v.text) := ra.cell (j := 32) rfl
  have q0 : W.cell? ⟨w.heap.size + 1, 0, none⟩ = some (.int .i64 b.kind) := rb.cell (j := 0) rfl
  have q1 : W.cell? ⟨w.heap.size + 1, 1, none⟩ = some (.int .i64 b.node) := rb.cell (j := 1) rfl
  have q2 : W.cell? ⟨w.heap.size + 1, 2, none⟩ = some (.int .i64 b.n) := rb.cell (j := 2) rfl
  have q3 : W.cell? ⟨w.heap.size + 1, 3, none⟩ = some (.int .i64 b.client) := rb.cell (j := 3) rfl
  have q4 : W.cell? ⟨w.heap.size + 1, 4, none⟩ = some (.int .i64 b.number) := rb.cell (j := 4) rfl
  have q5 : W.cell? ⟨w.heap.size + 1, 5, none⟩ = some (.int .i64 b.cmd.kind) := rb.cell (j := 5) rfl
  have q6 : W.cell? ⟨w.heap.size + 1, 6, none⟩ = some (.string b.cmd.actor) := rb.cell (j := 6) rfl
  have q7 : W.cell? ⟨w.heap.size + 1, 7, none⟩ = some (.string b.cmd.schema) := rb.cell (j := 7) rfl
  have q8 : W.cell? ⟨w.heap.size + 1, 8, none⟩ = some (.string b.cmd.table) := rb.cell (j := 8) rfl
  have q9 : W.cell? ⟨w.heap.size + 1, 9, none⟩ = some (.string b.cmd.name) := rb.cell (j := 9) rfl
  have q10 : W.cell? ⟨w.heap.size + 1, 10, none⟩ = some (.string b.cmd.role) := rb.cell (j := 10) rfl
  have q11 : W.cell? ⟨w.heap.size + 1, 11, none⟩ = some (.slice B b.cmd.cols.length m) := rb.cell (j := 11) rfl
  have q12 : W.cell? ⟨w.heap.size + 1, 12, none⟩ = some (.string b.cmd.rule.name) := rb.cell (j := 12) rfl
  have q13 : W.cell? ⟨w.heap.size + 1, 13, none⟩ = some (.int .i64 b.cmd.rule.kind) := rb.cell (j := 13) rfl
  have q14 : W.cell? ⟨w.heap.size + 1, 14, none⟩ = some (.slice B2 b.cmd.rule.cols.length m2) := rb.cell (j := 14) rfl
  have q15 : W.cell? ⟨w.heap.size + 1, 15, none⟩ = some (.int .i64 b.cmd.rule.low) := rb.cell (j := 15) rfl
  have q16 : W.cell? ⟨w.heap.size + 1, 16, none⟩ = some (.int .i64 b.cmd.rule.high) := rb.cell (j := 16) rfl
  have q17 : W.cell? ⟨w.heap.size + 1, 17, none⟩ = some (.string b.cmd.rule.schema) := rb.cell (j := 17) rfl
  have q18 : W.cell? ⟨w.heap.size + 1, 18, none⟩ = some (.string b.cmd.rule.table) := rb.cell (j := 18) rfl
  have q19 : W.cell? ⟨w.heap.size + 1, 19, none⟩ = some (.string b.cmd.rule.key) := rb.cell (j := 19) rfl
  have q20 : W.cell? ⟨w.heap.size + 1, 20, none⟩ = some (.int .i64 b.cmd.right) := rb.cell (j := 20) rfl
  have q21 : W.cell? ⟨w.heap.size + 1, 21, none⟩ = some (.bool b.cmd.opt) := rb.cell (j := 21) rfl
  have q22 : W.cell? ⟨w.heap.size + 1, 22, none⟩ = some (.int .i64 b.ck) := rb.cell (j := 22) rfl
  have q23 : W.cell? ⟨w.heap.size + 1, 23, none⟩ = some (.int .i64 b.cn) := rb.cell (j := 23) rfl
  have q24 : W.cell? ⟨w.heap.size + 1, 24, none⟩ = some (.int .i64 b.row.kind) := rb.cell (j := 24) rfl
  have q25 : W.cell? ⟨w.heap.size + 1, 25, none⟩ = some (.string b.row.role) := rb.cell (j := 25) rfl
  have q26 : W.cell? ⟨w.heap.size + 1, 26, none⟩ = some (.string b.row.schema) := rb.cell (j := 26) rfl
  have q27 : W.cell? ⟨w.heap.size + 1, 27, none⟩ = some (.string b.row.table) := rb.cell (j := 27) rfl
  have q28 : W.cell? ⟨w.heap.size + 1, 28, none⟩ = some (.slice B3 b.row.row.length m3) := rb.cell (j := 28) rfl
  have q29 : W.cell? ⟨w.heap.size + 1, 29, none⟩ = some (.string b.row.col) := rb.cell (j := 29) rfl
  have q30 : W.cell? ⟨w.heap.size + 1, 30, none⟩ = some (.int .i64 b.row.v.kind) := rb.cell (j := 30) rfl
  have q31 : W.cell? ⟨w.heap.size + 1, 31, none⟩ = some (.int .i64 b.row.v.int) := rb.cell (j := 31) rfl
  have q32 : W.cell? ⟨w.heap.size + 1, 32, none⟩ = some (.string b.row.v.text) := rb.cell (j := 32) rfl
  clear aW ra rb
  cases s0 : (a.kind == b.kind)
  · have HN := Lib.hid (show ¬ a = b from fun e => eqI_no s0 (by rw [e]))
    have s0x : (a.kind != b.kind) = true := by simp [bne, s0]
    go_wp2_with fail
    go_ret
    exact .no HN.out HAW.out
  · have s0x : (a.kind != b.kind) = false := by simp [bne, s0]
    cases s1 : (a.node == b.node)
    · have HN := Lib.hid (show ¬ a = b from fun e => eqI_no s1 (by rw [e]))
      have s1x : (a.node != b.node) = true := by simp [bne, s1]
      go_wp2_with fail
      go_ret
      exact .no HN.out HAW.out
    · have s1x : (a.node != b.node) = false := by simp [bne, s1]
      cases s2 : (a.n == b.n)
      · have HN := Lib.hid (show ¬ a = b from fun e => eqI_no s2 (by rw [e]))
        have s2x : (a.n != b.n) = true := by simp [bne, s2]
        go_wp2_with fail
        go_ret
        exact .no HN.out HAW.out
      · have s2x : (a.n != b.n) = false := by simp [bne, s2]
        cases s3 : (a.client == b.client)
        · have HN := Lib.hid (show ¬ a = b from fun e => eqI_no s3 (by rw [e]))
          have s3x : (a.client != b.client) = true := by simp [bne, s3]
          go_wp2_with fail
          go_ret
          exact .no HN.out HAW.out
        · have s3x : (a.client != b.client) = false := by simp [bne, s3]
          cases s4 : (a.number == b.number)
          · have HN := Lib.hid (show ¬ a = b from fun e => eqI_no s4 (by rw [e]))
            have s4x : (a.number != b.number) = true := by simp [bne, s4]
            go_wp2_with fail
            go_ret
            exact .no HN.out HAW.out
          · have s4x : (a.number != b.number) = false := by simp [bne, s4]
            cases s5 : eqG2 a.ck a.cn b.ck b.cn
            · have HN := Lib.hid (show ¬ a = b from fun e => by rw [show eqG2 a.ck a.cn b.ck b.cn = true from (eqG_iff _ _ _ _).2 (by rw [e]; exact ⟨rfl, rfl⟩)] at s5; cases s5)
              go_wp2_with fail
              go_ret
              exact .no HN.out HAW.out
            · obtain ⟨V, hV⟩ : ∃ V, V = (W.alloc (.cells #[.int .i64 a.cmd.kind, .string a.cmd.actor, .string a.cmd.schema, .string a.cmd.table, .string a.cmd.name, .string a.cmd.role, .slice A a.cmd.cols.length k, .string a.cmd.rule.name, .int .i64 a.cmd.rule.kind, .slice A2 a.cmd.rule.cols.length k2, .int .i64 a.cmd.rule.low, .int .i64 a.cmd.rule.high, .string a.cmd.rule.schema, .string a.cmd.rule.table, .string a.cmd.rule.key, .int .i64 a.cmd.right, .bool a.cmd.opt] 31)).alloc (.cells #[.int .i64 b.cmd.kind, .string b.cmd.actor, .string b.cmd.schema, .string b.cmd.table, .string b.cmd.name, .string b.cmd.role, .slice B b.cmd.cols.length m, .string b.cmd.rule.name, .int .i64 b.cmd.rule.kind, .slice B2 b.cmd.rule.cols.length m2, .int .i64 b.cmd.rule.low, .int .i64 b.cmd.rule.high, .string b.cmd.rule.schema, .string b.cmd.rule.table, .string b.cmd.rule.key, .int .i64 b.cmd.right, .bool b.cmd.opt] 31) := ⟨_, rfl⟩
              have aV : Aft W V := by rw [hV]; exact ((Aft.refl W).alloc _).alloc _
              obtain ⟨v1, v2⟩ := box2_rowsD (w := W) (W := V) (by rw [← hV]; exact Aft.refl V)
              have hz1 : w.heap.size + 1 < W.heap.size := HZ.out
              have hz0 : w.heap.size < W.heap.size := by omega
              have hzw : w.heap.size < W.heap.size + 1 := by have := HZ.out; omega
              have hzw2 : w.heap.size + 1 < W.heap.size + 1 := by have := HZ.out; omega
              go_upto_region 5 with fail
              rw [← hV]
              clear hV
              have hv1 : W.heap.size + 1 < V.heap.size := v2.1
              have hv0 : W.heap.size < V.heap.size := by omega
              have hv2 : W.heap.size + 1 < V.heap.size + 1 := by omega
              have x5 : V.cell? ⟨W.heap.size, 0, none⟩ = some (.int .i64 a.cmd.kind) := v1.cell (j := 0) rfl
              have x6 : V.cell? ⟨W.heap.size, 1, none⟩ = some (.string a.cmd.actor) := v1.cell (j := 1) rfl
              have x7 : V.cell? ⟨W.heap.size, 2, none⟩ = some (.string a.cmd.schema) := v1.cell (j := 2) rfl
              have x8 : V.cell? ⟨W.heap.size, 3, none⟩ = some (.string a.cmd.table) := v1.cell (j := 3) rfl
              have x9 : V.cell? ⟨W.heap.size, 4, none⟩ = some (.string a.cmd.name) := v1.cell (j := 4) rfl
              have x10 : V.cell? ⟨W.heap.size, 5, none⟩ = some (.string a.cmd.role) := v1.cell (j := 5) rfl
              have x11 : V.cell? ⟨W.heap.size, 6, none⟩ = some (.slice A a.cmd.cols.length k) := v1.cell (j := 6) rfl
              have x12 : V.cell? ⟨W.heap.size, 7, none⟩ = some (.string a.cmd.rule.name) := v1.cell (j := 7) rfl
              have x13 : V.cell? ⟨W.heap.size, 8, none⟩ = some (.int .i64 a.cmd.rule.kind) := v1.cell (j := 8) rfl
              have x14 : V.cell? ⟨W.heap.size, 9, none⟩ = some (.slice A2 a.cmd.rule.cols.length k2) := v1.cell (j := 9) rfl
              have x15 : V.cell? ⟨W.heap.size, 10, none⟩ = some (.int .i64 a.cmd.rule.low) := v1.cell (j := 10) rfl
              have x16 : V.cell? ⟨W.heap.size, 11, none⟩ = some (.int .i64 a.cmd.rule.high) := v1.cell (j := 11) rfl
              have x17 : V.cell? ⟨W.heap.size, 12, none⟩ = some (.string a.cmd.rule.schema) := v1.cell (j := 12) rfl
              have x18 : V.cell? ⟨W.heap.size, 13, none⟩ = some (.string a.cmd.rule.table) := v1.cell (j := 13) rfl
              have x19 : V.cell? ⟨W.heap.size, 14, none⟩ = some (.string a.cmd.rule.key) := v1.cell (j := 14) rfl
              have x20 : V.cell? ⟨W.heap.size, 15, none⟩ = some (.int .i64 a.cmd.right) := v1.cell (j := 15) rfl
              have x21 : V.cell? ⟨W.heap.size, 16, none⟩ = some (.bool a.cmd.opt) := v1.cell (j := 16) rfl
              have y5 : V.cell? ⟨W.heap.size + 1, 0, none⟩ = some (.int .i64 b.cmd.kind) := v2.cell (j := 0) rfl
              have y6 : V.cell? ⟨W.heap.size + 1, 1, none⟩ = some (.string b.cmd.actor) := v2.cell (j := 1) rfl
              have y7 : V.cell? ⟨W.heap.size + 1, 2, none⟩ = some (.string b.cmd.schema) := v2.cell (j := 2) rfl
              have y8 : V.cell? ⟨W.heap.size + 1, 3, none⟩ = some (.string b.cmd.table) := v2.cell (j := 3) rfl
              have y9 : V.cell? ⟨W.heap.size + 1, 4, none⟩ = some (.string b.cmd.name) := v2.cell (j := 4) rfl
              have y10 : V.cell? ⟨W.heap.size + 1, 5, none⟩ = some (.string b.cmd.role) := v2.cell (j := 5) rfl
              have y11 : V.cell? ⟨W.heap.size + 1, 6, none⟩ = some (.slice B b.cmd.cols.length m) := v2.cell (j := 6) rfl
              have y12 : V.cell? ⟨W.heap.size + 1, 7, none⟩ = some (.string b.cmd.rule.name) := v2.cell (j := 7) rfl
              have y13 : V.cell? ⟨W.heap.size + 1, 8, none⟩ = some (.int .i64 b.cmd.rule.kind) := v2.cell (j := 8) rfl
              have y14 : V.cell? ⟨W.heap.size + 1, 9, none⟩ = some (.slice B2 b.cmd.rule.cols.length m2) := v2.cell (j := 9) rfl
              have y15 : V.cell? ⟨W.heap.size + 1, 10, none⟩ = some (.int .i64 b.cmd.rule.low) := v2.cell (j := 10) rfl
              have y16 : V.cell? ⟨W.heap.size + 1, 11, none⟩ = some (.int .i64 b.cmd.rule.high) := v2.cell (j := 11) rfl
              have y17 : V.cell? ⟨W.heap.size + 1, 12, none⟩ = some (.string b.cmd.rule.schema) := v2.cell (j := 12) rfl
              have y18 : V.cell? ⟨W.heap.size + 1, 13, none⟩ = some (.string b.cmd.rule.table) := v2.cell (j := 13) rfl
              have y19 : V.cell? ⟨W.heap.size + 1, 14, none⟩ = some (.string b.cmd.rule.key) := v2.cell (j := 14) rfl
              have y20 : V.cell? ⟨W.heap.size + 1, 15, none⟩ = some (.int .i64 b.cmd.right) := v2.cell (j := 15) rfl
              have y21 : V.cell? ⟨W.heap.size + 1, 16, none⟩ = some (.bool b.cmd.opt) := v2.cell (j := 16) rfl
              replace p24 := aV.cell_kept p24
              replace p25 := aV.cell_kept p25
              replace p26 := aV.cell_kept p26
              replace p27 := aV.cell_kept p27
              replace p28 := aV.cell_kept p28
              replace p29 := aV.cell_kept p29
              replace p30 := aV.cell_kept p30
              replace p31 := aV.cell_kept p31
              replace p32 := aV.cell_kept p32
              replace q24 := aV.cell_kept q24
              replace q25 := aV.cell_kept q25
              replace q26 := aV.cell_kept q26
              replace q27 := aV.cell_kept q27
              replace q28 := aV.cell_kept q28
              replace q29 := aV.cell_kept q29
              replace q30 := aV.cell_kept q30
              replace q31 := aV.cell_kept q31
              replace q32 := aV.cell_kept q32
              clear p0 p1 p2 p3 p4 p5 p6 p7 p8 p9 p10 p11 p12 p13 p14 p15 p16 p17 p18 p19 p20 p21 p22 p23 q0 q1 q2 q3 q4 q5 q6 q7 q8 q9 q10 q11 q12 q13 q14 q15 q16 q17 q18 q19 q20 q21 q22 q23 v1 v2
              have HAV := Lib.hid (HAW.out.trans aV)
              have HVW := Lib.hid (Aft.refl V)
              have HSB := Lib.hid (show ∀ X, Aft V X → Calls Tryz.prog 22 #[.agg #[.string ⟨#[]⟩, .string ⟨#[]⟩, .string ⟨#[]⟩, .slice A a.cmd.cols.length k, .slice (some ⟨X.heap.size, 0, none⟩) 1 1], .agg #[.string ⟨#[]⟩, .string ⟨#[]⟩, .string ⟨#[]⟩, .slice B b.cmd.cols.length m, .slice (some ⟨X.heap.size + 1, 0, none⟩) 1 1]] ((X.alloc (.cells #[.string a.cmd.rule.name, .int .i64 a.cmd.rule.kind, .slice A2 a.cmd.rule.cols.length k2, .int .i64 a.cmd.rule.low, .int .i64 a.cmd.rule.high, .string a.cmd.rule.schema, .string a.cmd.rule.table, .string a.cmd.rule.key] 28)).alloc (.cells #[.string b.cmd.rule.name, .int .i64 b.cmd.rule.kind, .slice B2 b.cmd.rule.cols.length m2, .int .i64 b.cmd.rule.low, .int .i64 b.cmd.rule.high, .string b.cmd.rule.schema, .string b.cmd.rule.table, .string b.cmd.rule.key] 28)) (SameQ ((X.alloc (.cells #[.string a.cmd.rule.name, .int .i64 a.cmd.rule.kind, .slice A2 a.cmd.rule.cols.length k2, .int .i64 a.cmd.rule.low, .int .i64 a.cmd.rule.high, .string a.cmd.rule.schema, .string a.cmd.rule.table, .string a.cmd.rule.key] 28)).alloc (.cells #[.string b.cmd.rule.name, .int .i64 b.cmd.rule.kind, .slice B2 b.cmd.rule.cols.length m2, .int .i64 b.cmd.rule.low, .int .i64 b.cmd.rule.high, .string b.cmd.rule.schema, .string b.cmd.rule.table, .string b.cmd.rule.key] 28)) (a.cmd.cols = b.cmd.cols ∧ [a.cmd.rule] = [b.cmd.rule])) from fun X aX => by
                have aY := ((Aft.refl X).alloc (.cells #[.string a.cmd.rule.name, .int .i64 a.cmd.rule.kind, .slice A2 a.cmd.rule.cols.length k2, .int .i64 a.cmd.rule.low, .int .i64 a.cmd.rule.high, .string a.cmd.rule.schema, .string a.cmd.rule.table, .string a.cmd.rule.key] 28)).alloc (.cells #[.string b.cmd.rule.name, .int .i64 b.cmd.rule.kind, .slice B2 b.cmd.rule.cols.length m2, .int .i64 b.cmd.rule.low, .int .i64 b.cmd.rule.high, .string b.cmd.rule.schema, .string b.cmd.rule.table, .string b.cmd.rule.key] 28)
                obtain ⟨r1, r2⟩ := box2_rowsD (Aft.refl ((X.alloc (.cells #[.string a.cmd.rule.name, .int .i64 a.cmd.rule.kind, .slice A2 a.cmd.rule.cols.length k2, .int .i64 a.cmd.rule.low, .int .i64 a.cmd.rule.high, .string a.cmd.rule.schema, .string a.cmd.rule.table, .string a.cmd.rule.key] 28)).alloc (.cells #[.string b.cmd.rule.name, .int .i64 b.cmd.rule.kind, .slice B2 b.cmd.rule.cols.length m2, .int .i64 b.cmd.rule.low, .int .i64 b.cmd.rule.high, .string b.cmd.rule.schema, .string b.cmd.rule.table, .string b.cmd.rule.key] 28)))
                have xa := HXA.out.aft ((HAV.out.trans aX).trans aY)
                have xb := HXB.out.aft ((HAV.out.trans aX).trans aY)
                exact samet24 a.cmd.cols b.cmd.cols [a.cmd.rule] [b.cmd.rule] A k _ 1 B m _ 1 _ xa.cols (slAt_rul r1 xa.nms xa.z1 xa.z2 xa.z3 xa.z4) xb.cols (slAt_rul r2 xb.nms xb.z1 xb.z2 xb.z3 xb.z4) rfl)
              clear aV
              cases s6 : (a.cmd.kind == b.cmd.kind)
              · have HN := Lib.hid (show ¬ a = b from fun e => eqI_no s6 (by rw [e]))
                have s6x : (a.cmd.kind != b.cmd.kind) = true := by simp [bne, s6]
                go_wp2_with fail
                go_ret
                exact .no HN.out HAV.out
              · have s6x : (a.cmd.kind != b.cmd.kind) = false := by simp [bne, s6]
                cases s7 : (a.cmd.actor.toList == b.cmd.actor.toList)
                · have HN := Lib.hid (show ¬ a = b from fun e => eqL_no s7 (by rw [e]))
                  go_wp2_with fail
                  go_ret
                  exact .no HN.out HAV.out
                · cases s8 : (a.cmd.schema.toList == b.cmd.schema.toList)
                  · have HN := Lib.hid (show ¬ a = b from fun e => eqL_no s8 (by rw [e]))
                    go_wp2_with fail
                    go_ret
                    exact .no HN.out HAV.out
                  · cases s9 : (a.cmd.table.toList == b.cmd.table.toList)
                    · have HN := Lib.hid (show ¬ a = b from fun e => eqL_no s9 (by rw [e]))
                      go_wp2_with fail
                      go_ret
                      exact .no HN.out HAV.out
                    · cases s10 : (a.cmd.name.toList == b.cmd.name.toList)
                      · have HN := Lib.hid (show ¬ a = b from fun e => eqL_no s10 (by rw [e]))
                        go_wp2_with fail
                        go_ret
                        exact .no HN.out HAV.out
                      · cases s11 : (a.cmd.role.toList == b.cmd.role.toList)
                        · have HN := Lib.hid (show ¬ a = b from fun e => eqL_no s11 (by rw [e]))
                          go_wp2_with fail
                          go_ret
                          exact .no HN.out HAV.out
                        · cases s12 : (a.cmd.right == b.cmd.right)
                          · have HN := Lib.hid (show ¬ a = b from fun e => eqI_no s12 (by rw [e]))
                            have s12x : (a.cmd.right != b.cmd.right) = true := by simp [bne, s12]
                            go_wp2_with fail
                            go_ret
                            exact .no HN.out HAV.out
                          · have s12x : (a.cmd.right != b.cmd.right) = false := by simp [bne, s12]
                            cases s13 : (a.cmd.opt == b.cmd.opt)
                            · have HN := Lib.hid (show ¬ a = b from fun e => eqB_no s13 (by rw [e]))
                              have s13x : (a.cmd.opt != b.cmd.opt) = true := by simp [bne, s13]
                              go_wp2_with fail
                              go_ret
                              exact .no HN.out HAV.out
                            · have s13x : (a.cmd.opt != b.cmd.opt) = false := by simp [bne, s13]
                              by_cases hT : a.cmd.cols = b.cmd.cols ∧ a.cmd.rule = b.cmd.rule
                              · have HCM := Lib.hid (show a.cmd = b.cmd from cmd_same (eqI_yes s6) ((eqL_iff _ _).1 s7) ((eqL_iff _ _).1 s8) ((eqL_iff _ _).1 s9) ((eqL_iff _ _).1 s10) ((eqL_iff _ _).1 s11) hT.1 hT.2 (eqI_yes s12) (eqB_yes s13))
                                have HST := Lib.hid (show ∀ X, Aft V X → Calls Tryz.prog 22 #[.agg #[.string ⟨#[]⟩, .string ⟨#[]⟩, .string ⟨#[]⟩, .slice A a.cmd.cols.length k, .slice (some ⟨X.heap.size, 0, none⟩) 1 1], .agg #[.string ⟨#[]⟩, .string ⟨#[]⟩, .string ⟨#[]⟩, .slice B b.cmd.cols.length m, .slice (some ⟨X.heap.size + 1, 0, none⟩) 1 1]] ((X.alloc (.cells #[.string a.cmd.rule.name, .int .i64 a.cmd.rule.kind, .slice A2 a.cmd.rule.cols.length k2, .int .i64 a.cmd.rule.low, .int .i64 a.cmd.rule.high, .string a.cmd.rule.schema, .string a.cmd.rule.table, .string a.cmd.rule.key] 28)).alloc (.cells #[.string b.cmd.rule.name, .int .i64 b.cmd.rule.kind, .slice B2 b.cmd.rule.cols.length m2, .int .i64 b.cmd.rule.low, .int .i64 b.cmd.rule.high, .string b.cmd.rule.schema, .string b.cmd.rule.table, .string b.cmd.rule.key] 28)) fun e w1 => e = .returned (.bool true) ∧ Aft X w1 from fun X aX => (HSB.out X aX).mono fun e w1 ⟨a1, r, he, hr⟩ => ⟨by rw [he, hr.2 (by rw [hT.1, hT.2]; exact ⟨rfl, rfl⟩)], (((Aft.refl X).alloc _).alloc _).trans a1⟩)
                                clear hT
                                go_upto_region 9 with (first
                                  | (go_at_call 22; refine (HST.out _ (Aft.refl _)).mono ?_; rintro e w1 ⟨rfl, a1⟩; have HA1 := Lib.hid (HAV.out.trans a1); have HAW1 := Lib.hid (HVW.out.trans a1); clear a1))
                                have hw1 := HAW1.out
                                replace p24 := hw1.cell_kept p24
                                replace p25 := hw1.cell_kept p25
                                replace p26 := hw1.cell_kept p26
                                replace p27 := hw1.cell_kept p27
                                replace p28 := hw1.cell_kept p28
                                replace p29 := hw1.cell_kept p29
                                replace p30 := hw1.cell_kept p30
                                replace p31 := hw1.cell_kept p31
                                replace p32 := hw1.cell_kept p32
                                replace q24 := hw1.cell_kept q24
                                replace q25 := hw1.cell_kept q25
                                replace q26 := hw1.cell_kept q26
                                replace q27 := hw1.cell_kept q27
                                replace q28 := hw1.cell_kept q28
                                replace q29 := hw1.cell_kept q29
                                replace q30 := hw1.cell_kept q30
                                replace q31 := hw1.cell_kept q31
                                replace q32 := hw1.cell_kept q32
                                clear hw1
                                cases s14 : (a.row.kind == b.row.kind)
                                · have HN := Lib.hid (show ¬ a = b from fun e => eqI_no s14 (by rw [e]))
                                  have s14x : (a.row.kind != b.row.kind) = true := by simp [bne, s14]
                                  go_wp2_with fail
                                  go_ret
                                  exact .no HN.out HA1.out
                                · have s14x : (a.row.kind != b.row.kind) = false := by simp [bne, s14]
                                  cases s15 : (a.row.role.toList == b.row.role.toList)
                                  · have HN := Lib.hid (show ¬ a = b from fun e => eqL_no s15 (by rw [e]))
                                    go_wp2_with fail
                                    go_ret
                                    exact .no HN.out HA1.out
                                  · cases s16 : (a.row.schema.toList == b.row.schema.toList)
                                    · have HN := Lib.hid (show ¬ a = b from fun e => eqL_no s16 (by rw [e]))
                                      go_wp2_with fail
                                      go_ret
                                      exact .no HN.out HA1.out
                                    · cases s17 : (a.row.table.toList == b.row.table.toList)
                                      · have HN := Lib.hid (show ¬ a = b from fun e => eqL_no s17 (by rw [e]))
                                        go_wp2_with fail
                                        go_ret
                                        exact .no HN.out HA1.out
                                      · cases s18 : (a.row.col.toList == b.row.col.toList)
                                        · have HN := Lib.hid (show ¬ a = b from fun e => eqL_no s18 (by rw [e]))
                                          go_wp2_with fail
                                          go_ret
                                          exact .no HN.out HA1.out
                                        · cases s19 : eqV3 a.row.v.kind a.row.v.int a.row.v.text b.row.v.kind b.row.v.int b.row.v.text
                                          · have HN := Lib.hid (show ¬ a = b from fun e => by rw [show eqV3 a.row.v.kind a.row.v.int a.row.v.text b.row.v.kind b.row.v.int b.row.v.text = true from (eqVd_iff a.row.v b.row.v).2 (by rw [e])] at s19; cases s19)
                                            go_wp2_with fail
                                            go_ret
                                            exact .no HN.out HA1.out
                                          · by_cases hl : a.row.row.length = b.row.row.length
                                            · have e1 : ((a.row.row.length : Int) != (b.row.row.length : Int)) = false := by simp [hl]
                                              have HL := Lib.hid hl
                                              have HSM := Lib.hid (show a.row.row = b.row.row → a = b from fun er => act_same (eqI_yes s0) (eqI_yes s1) (eqI_yes s2) (eqI_yes s3) (eqI_yes s4) HCM.out ((eqG_iff _ _ _ _).1 s5) (rop_same (eqI_yes s14) ((eqL_iff _ _).1 s15) ((eqL_iff _ _).1 s16) ((eqL_iff _ _).1 s17) er ((eqL_iff _ _).1 s18) ((eqVd_iff _ _).1 s19)))
                                              clear hl
                                              go_wp2_with fail
                                              go_loopw [7] (fun i wr => ∃ k : Nat, k ≤ a.row.row.length ∧ i = .int .i64 k ∧ Aft w1 wr ∧ ∀ j, j < k → ∀ (hj : j < a.row.row.length) (hj2 : j < b.row.row.length), a.row.row[j] = b.row.row[j]) (fun i _ => a.row.row.length - (intOf i).toNat)
                                              case atStart => exact ⟨0, Nat.zero_le _, rfl, Aft.refl _, fun j hj => absurd hj (Nat.not_lt_zero j)⟩
                                              case round =>
                                                obtain ⟨k, hk, rfl, ha, hp⟩ := hrel
                                                have HA := Lib.hid ha
                                                have HP := Lib.hid hp; clear hp
                                                have p28' := ha.cell_kept p28
                                                have q28' := ha.cell_kept q28
                                                by_cases hlt : k < a.row.row.length
                                                · have hlt2 : k < b.row.row.length := by have := HL.out; omega
                                                  have hav := HA1.out.trans ha
                                                  obtain ⟨g, off, hA3, hb, c0, c1, c2, _⟩ := val_at (vals_aft hav HXA.out.vals) hlt
                                                  obtain ⟨g2, off2, hB3, hb2, d0, d1, d2, _⟩ := val_at (vals_aft hav HXB.out.vals) hlt2
                                                  subst hA3
                                                  subst hB3
                                                  have lx := World.block_lt_of_cell? _ _ p28'
                                                  have ly := World.block_lt_of_cell? _ _ q28'
                                                  clear ha hav
                                                  cases h9 : eqV3 a.row.row[k].kind a.row.row[k].int a.row.row[k].text b.row.row[k].kind b.row.row[k].int b.row.row[k].text
                                                  · have HN := Lib.hid (show ¬ a = b from fun e => list_ne hlt hlt2 (fun e => by rw [(eqVd_iff a.row.row[k] b.row.row[k]).2 e] at h9; cases h9) (by rw [e]))
                                                    go_wp2_with fail
                                                    refine wp_region_lat (by kernel_rfl) (by kernel_rfl) ?_
                                                    repeat (go_big_quiet_step (fail))
                                                    refine wpQuiet_nil ?_
                                                    intro _ hw'
                                                    obtain ⟨x, hw''⟩ := hw'
                                                    subst hw''
                                                    go_wp2_with fail
                                                    go_ret
                                                    exact .no HN.out (HA1.out.trans (HA.out.lat x))
                                                  · have HN := Lib.hid (ext_lt (p := fun j => ∀ (hj : j < a.row.row.length) (hj2 : j < b.row.row.length), a.row.row[j] = b.row.row[j]) HP.out (fun _ _ => (eqVd_iff a.row.row[k] b.row.row[k]).1 h9))
                                                    go_wp2_with fail
                                                    refine wp_region_lat (by kernel_rfl) (by kernel_rfl) ?_
                                                    repeat (go_big_quiet_step (fail))
                                                    refine wpQuiet_nil ?_
                                                    intro _ hw'
                                                    obtain ⟨x, hw''⟩ := hw'
                                                    subst hw''
                                                    go_wp2_with fail
                                                    go_roundw
                                                    case rel => exact ⟨k + 1, by omega, by go_num, HA.out.lat x, HN.out⟩
                                                    case measure => simp [intOf]; omega
                                                · have HN := Lib.hid (HSM.out (list_eq HL.out fun j hj _ hj2 => HP.out j (by omega) hj hj2))
                                                  clear ha
                                                  go_wp2_with fail
                                                  go_ret
                                                  exact .yes HN.out (HA1.out.trans HA.out)
                                            · have e1 : ((a.row.row.length : Int) != (b.row.row.length : Int)) = true := by simp; omega
                                              have HN := Lib.hid (show ¬ a = b from fun e => hl (by rw [e]))
                                              clear hl
                                              go_wp2_with fail
                                              go_ret
                                              exact .no HN.out HA1.out
                              · have HN := Lib.hid (show ¬ a = b from fun e => hT (by rw [e]; exact ⟨rfl, rfl⟩))
                                have HST := Lib.hid (show ∀ X, Aft V X → Calls Tryz.prog 22 #[.agg #[.string ⟨#[]⟩, .string ⟨#[]⟩, .string ⟨#[]⟩, .slice A a.cmd.cols.length k, .slice (some ⟨X.heap.size, 0, none⟩) 1 1], .agg #[.string ⟨#[]⟩, .string ⟨#[]⟩, .string ⟨#[]⟩, .slice B b.cmd.cols.length m, .slice (some ⟨X.heap.size + 1, 0, none⟩) 1 1]] ((X.alloc (.cells #[.string a.cmd.rule.name, .int .i64 a.cmd.rule.kind, .slice A2 a.cmd.rule.cols.length k2, .int .i64 a.cmd.rule.low, .int .i64 a.cmd.rule.high, .string a.cmd.rule.schema, .string a.cmd.rule.table, .string a.cmd.rule.key] 28)).alloc (.cells #[.string b.cmd.rule.name, .int .i64 b.cmd.rule.kind, .slice B2 b.cmd.rule.cols.length m2, .int .i64 b.cmd.rule.low, .int .i64 b.cmd.rule.high, .string b.cmd.rule.schema, .string b.cmd.rule.table, .string b.cmd.rule.key] 28)) fun e w1 => e = .returned (.bool false) ∧ Aft X w1 from fun X aX => (HSB.out X aX).mono fun e w1 ⟨a1, r, he, hr⟩ => ⟨he.trans (samet_no hr hT), (((Aft.refl X).alloc _).alloc _).trans a1⟩)
                                clear hT
                                go_wp2_with (first
                                  | (go_at_call 22; refine (HST.out _ (Aft.refl _)).mono ?_; rintro e w1 ⟨rfl, a1⟩; have HA1 := Lib.hid (HAV.out.trans a1); clear a1))
                                go_ret
                                exact .no HN.out HA1.out
end Go.Proofs.YtbdanlipghhgpaaGreatDoor

namespace Go.Proofs.YtbdanlipghhgpaaGreatDoor
open Go.RowKit Go.Deep
set_option maxRecDepth 100000
set_option linter.unusedVariables false
theorem rul_same {x y : Rul} (h0 : x.name = y.name) (h1 : x.kind = y.kind) (h2 : x.low = y.low) (h3 : x.high = y.high) (h4 : x.schema = y.schema) (h5 : x.table = y.table) (h6 : x.key = y.key) (h7 : x.cols = y.cols) : x = y := by
  cases x; cases y; simp_all
set_option maxHeartbeats 16000000 in
theorem dsame_in (a b : Dact) (A : Option Addr) (k : Nat) (A2 : Option Addr) (k2 : Nat) (A3 : Option Addr) (k3 : Nat) (B : Option Addr) (m : Nat) (B2 : Option Addr) (m2 : Nat) (B3 : Option Addr) (m3 : Nat) (w : World) (ha : ActX w a A k A2 k2 A3 k3) (hb : ActX w b B m B2 m2 B3 m3) :
    Calls Tryz.prog 24 #[.agg #[.int .i64 a.kind, .int .i64 a.node, .int .i64 a.n, .int .i64 a.client, .int .i64 a.number, .int .i64 a.cmd.kind, .string a.cmd.actor, .string a.cmd.schema, .string a.cmd.table, .string a.cmd.name, .string a.cmd.role, .slice A a.cmd.cols.length k, .string a.cmd.rule.name, .int .i64 a.cmd.rule.kind, .slice A2 a.cmd.rule.cols.length k2, .int .i64 a.cmd.rule.low, .int .i64 a.cmd.rule.high, .string a.cmd.rule.schema, .string a.cmd.rule.table, .string a.cmd.rule.key, .int .i64 a.cmd.right, .bool a.cmd.opt, .int .i64 a.ck, .int .i64 a.cn, .int .i64 a.row.kind, .string a.row.role, .string a.row.schema, .string a.row.table, .slice A3 a.row.row.length k3, .string a.row.col, .int .i64 a.row.v.kind, .int .i64 a.row.v.int, .string a.row.v.text], .agg #[.int .i64 b.kind, .int .i64 b.node, .int .i64 b.n, .int .i64 b.client, .int .i64 b.number, .int .i64 b.cmd.kind, .string b.cmd.actor, .string b.cmd.schema, .string b.cmd.table, .string b.cmd.name, .string b.cmd.role, .slice B b.cmd.cols.length m, .string b.cmd.rule.name, .int .i64 b.cmd.rule.kind, .slice B2 b.cmd.rule.cols.length m2, .int .i64 b.cmd.rule.low, .int .i64 b.cmd.rule.high, .string b.cmd.rule.schema, .string b.cmd.rule.table, .string b.cmd.rule.key, .int .i64 b.cmd.right, .bool b.cmd.opt, .int .i64 b.ck, .int .i64 b.cn, .int .i64 b.row.kind, .string b.row.role, .string b.row.schema, .string b.row.table, .slice B3 b.row.row.length m3, .string b.row.col, .int .i64 b.row.v.kind, .int .i64 b.row.v.int, .string b.row.v.text]] w (SameQ w (a = b)) := by
  have HXA := Lib.hid ha
  have HXB := Lib.hid hb
  clear ha hb
  obtain ⟨W, hW⟩ : ∃ W, W = (w.alloc (.cells #[.int .i64 a.kind, .int .i64 a.node, .int .i64 a.n, .int .i64 a.client, .int .i64 a.number, .int .i64 a.cmd.kind, .string a.cmd.actor, .string a.cmd.schema, .string a.cmd.table, .string a.cmd.name, .string a.cmd.role, .slice A a.cmd.cols.length k, .string a.cmd.rule.name, .int .i64 a.cmd.rule.kind, .slice A2 a.cmd.rule.cols.length k2, .int .i64 a.cmd.rule.low, .int .i64 a.cmd.rule.high, .string a.cmd.rule.schema, .string a.cmd.rule.table, .string a.cmd.rule.key, .int .i64 a.cmd.right, .bool a.cmd.opt, .int .i64 a.ck, .int .i64 a.cn, .int .i64 a.row.kind, .string a.row.role, .string a.row.schema, .string a.row.table, .slice A3 a.row.row.length k3, .string a.row.col, .int .i64 a.row.v.kind, .int .i64 a.row.v.int, .string a.row.v.text] 43)).alloc (.cells #[.int .i64 b.kind, .int .i64 b.node, .int .i64 b.n, .int .i64 b.client, .int .i64 b.number, .int .i64 b.cmd.kind, .string b.cmd.actor, .string b.cmd.schema, .string b.cmd.table, .string b.cmd.name, .string b.cmd.role, .slice B b.cmd.cols.length m, .string b.cmd.rule.name, .int .i64 b.cmd.rule.kind, .slice B2 b.cmd.rule.cols.length m2, .int .i64 b.cmd.rule.low, .int .i64 b.cmd.rule.high, .string b.cmd.rule.schema, .string b.cmd.rule.table, .string b.cmd.rule.key, .int .i64 b.cmd.right, .bool b.cmd.opt, .int .i64 b.ck, .int .i64 b.cn, .int .i64 b.row.kind, .string b.row.role, .string b.row.schema, .string b.row.table, .slice B3 b.row.row.length m3, .string b.row.col, .int .i64 b.row.v.kind, .int .i64 b.row.v.int, .string b.row.v.text] 43) := ⟨_, rfl⟩
  have aW : Aft w W := by rw [hW]; exact ((Aft.refl w).alloc _).alloc _
  obtain ⟨ra, rb⟩ := box2_rowsD (w := w) (W := W) (by rw [← hW]; exact Aft.refl W)
  have HRA := Lib.hid ra
  have HRB := Lib.hid rb
  have HAW := Lib.hid aW
  have hz1 : w.heap.size + 1 < W.heap.size := rb.1
  have hz0 : w.heap.size < W.heap.size := ra.1
  have hz2 : w.heap.size < W.heap.size + 1 := by omega
  have hz3 : w.heap.size + 1 < W.heap.size + 1 := by omega
  have hz4 : W.heap.size < W.heap.size + 1 + 1 := by omega
  have HZ1 := Lib.hid hz1
  have HZ0 := Lib.hid hz0
  go_enter Tryz.func24, Tryz.ntmps24
  go_upto_region 1 with fail
  rw [← hW]
  clear hW aW
  have p5 := ra.cell (j := 5) rfl
  have p6 := ra.cell (j := 6) rfl
  have p7 := ra.cell (j := 7) rfl
  have p8 := ra.cell (j := 8) rfl
  have p9 := ra.cell (j := 9) rfl
  have p10 := ra.cell (j := 10) rfl
  have p11 := ra.cell (j := 11) rfl
  have p12 := ra.cell (j := 12) rfl
  have p13 := ra.cell (j := 13) rfl
  have p14 := ra.cell (j := 14) rfl
  have p15 := ra.cell (j := 15) rfl
  have p16 := ra.cell (j := 16) rfl
  have p17 := ra.cell (j := 17) rfl
  have p18 := ra.cell (j := 18) rfl
  have p19 := ra.cell (j := 19) rfl
  have p20 := ra.cell (j := 20) rfl
  have p21 := ra.cell (j := 21) rfl
  have q5 := rb.cell (j := 5) rfl
  have q6 := rb.cell (j := 6) rfl
  have q7 := rb.cell (j := 7) rfl
  have q8 := rb.cell (j := 8) rfl
  have q9 := rb.cell (j := 9) rfl
  have q10 := rb.cell (j := 10) rfl
  have q11 := rb.cell (j := 11) rfl
  have q12 := rb.cell (j := 12) rfl
  have q13 := rb.cell (j := 13) rfl
  have q14 := rb.cell (j := 14) rfl
  have q15 := rb.cell (j := 15) rfl
  have q16 := rb.cell (j := 16) rfl
  have q17 := rb.cell (j := 17) rfl
  have q18 := rb.cell (j := 18) rfl
  have q19 := rb.cell (j := 19) rfl
  have q20 := rb.cell (j := 20) rfl
  have q21 := rb.cell (j := 21) rfl
  clear ra rb
  generalize Value.agg #[.int .i64 a.kind, .int .i64 a.node, .int .i64 a.n, .int .i64 a.client, .int .i64 a.number, .int .i64 a.cmd.kind, .string a.cmd.actor, .string a.cmd.schema, .string a.cmd.table, .string a.cmd.name, .string a.cmd.role, .slice A a.cmd.cols.length k, .string a.cmd.rule.name, .int .i64 a.cmd.rule.kind, .slice A2 a.cmd.rule.cols.length k2, .int .i64 a.cmd.rule.low, .int .i64 a.cmd.rule.high, .string a.cmd.rule.schema, .string a.cmd.rule.table, .string a.cmd.rule.key, .int .i64 a.cmd.right, .bool a.cmd.opt, .int .i64 a.ck, .int .i64 a.cn, .int .i64 a.row.kind, .string a.row.role, .string a.row.schema, .string a.row.table, .slice A3 a.row.row.length k3, .string a.row.col, .int .i64 a.row.v.kind, .int .i64 a.row.v.int, .string a.row.v.text] = va
  generalize Value.agg #[.int .i64 b.kind, .int .i64 b.node, .int .i64 b.n, .int .i64 b.client, .int .i64 b.number, .int .i64 b.cmd.kind, .string b.cmd.actor, .string b.cmd.schema, .string b.cmd.table, .string b.cmd.name, .string b.cmd.role, .slice B b.cmd.cols.length m, .string b.cmd.rule.name, .int .i64 b.cmd.rule.kind, .slice B2 b.cmd.rule.cols.length m2, .int .i64 b.cmd.rule.low, .int .i64 b.cmd.rule.high, .string b.cmd.rule.schema, .string b.cmd.rule.table, .string b.cmd.rule.key, .int .i64 b.cmd.right, .bool b.cmd.opt, .int .i64 b.ck, .int .i64 b.cn, .int .i64 b.row.kind, .string b.row.role, .string b.row.schema, .string b.row.table, .slice B3 b.row.row.length m3, .string b.row.col, .int .i64 b.row.v.kind, .int .i64 b.row.v.int, .string b.row.v.text] = vb
  go_cut [5, 6] from 13 to 16 (fun c5 c6 wx => ∃ bx bY : Nat, c5 = .pointer (some ⟨bx, 0, none⟩) ∧ c6 = .pointer (some ⟨bY, 0, none⟩) ∧ RowAt wx bx [.int .i64 a.cmd.kind, .string a.cmd.actor, .string a.cmd.schema, .string a.cmd.table, .string a.cmd.name, .string a.cmd.role, .slice A a.cmd.cols.length k, .string a.cmd.rule.name, .int .i64 a.cmd.rule.kind, .slice A2 a.cmd.rule.cols.length k2, .int .i64 a.cmd.rule.low, .int .i64 a.cmd.rule.high, .string a.cmd.rule.schema, .string a.cmd.rule.table, .string a.cmd.rule.key, .int .i64 a.cmd.right, .bool a.cmd.opt] ∧ RowAt wx bY [.int .i64 b.cmd.kind, .string b.cmd.actor, .string b.cmd.schema, .string b.cmd.table, .string b.cmd.name, .string b.cmd.role, .slice B b.cmd.cols.length m, .string b.cmd.rule.name, .int .i64 b.cmd.rule.kind, .slice B2 b.cmd.rule.cols.length m2, .int .i64 b.cmd.rule.low, .int .i64 b.cmd.rule.high, .string b.cmd.rule.schema, .string b.cmd.rule.table, .string b.cmd.rule.key, .int .i64 b.cmd.right, .bool b.cmd.opt] ∧ Aft W wx)
  case first =>
    go_region
    · go_wp2_with fail
      go_meet
      case rel =>
        have r2 := box2_rowsD ((Aft.refl ((W.alloc (.cells #[.int .i64 a.cmd.kind, .string a.cmd.actor, .string a.cmd.schema, .string a.cmd.table, .string a.cmd.name, .string a.cmd.role, .slice A a.cmd.cols.length k, .string a.cmd.rule.name, .int .i64 a.cmd.rule.kind, .slice A2 a.cmd.rule.cols.length k2, .int .i64 a.cmd.rule.low, .int .i64 a.cmd.rule.high, .string a.cmd.rule.schema, .string a.cmd.rule.table, .string a.cmd.rule.key, .int .i64 a.cmd.right, .bool a.cmd.opt] 31)).alloc (.cells #[.int .i64 b.cmd.kind, .string b.cmd.actor, .string b.cmd.schema, .string b.cmd.table, .string b.cmd.name, .string b.cmd.role, .slice B b.cmd.cols.length m, .string b.cmd.rule.name, .int .i64 b.cmd.rule.kind, .slice B2 b.cmd.rule.cols.length m2, .int .i64 b.cmd.rule.low, .int .i64 b.cmd.rule.high, .string b.cmd.rule.schema, .string b.cmd.rule.table, .string b.cmd.rule.key, .int .i64 b.cmd.right, .bool b.cmd.opt] 31))).drew)
        exact ⟨_, _, rfl, rfl, r2.1, r2.2, (((Aft.refl W).alloc _).alloc _).drew⟩
    · go_wp2_with fail
      go_meet
      case rel =>
        have r2 := box2_rowsD ((Aft.refl ((W.alloc (.cells #[.int .i64 b.cmd.kind, .string b.cmd.actor, .string b.cmd.schema, .string b.cmd.table, .string b.cmd.name, .string b.cmd.role, .slice B b.cmd.cols.length m, .string b.cmd.rule.name, .int .i64 b.cmd.rule.kind, .slice B2 b.cmd.rule.cols.length m2, .int .i64 b.cmd.rule.low, .int .i64 b.cmd.rule.high, .string b.cmd.rule.schema, .string b.cmd.rule.table, .string b.cmd.rule.key, .int .i64 b.cmd.right, .bool b.cmd.opt] 31)).alloc (.cells #[.int .i64 a.cmd.kind, .string a.cmd.actor, .string a.cmd.schema, .string a.cmd.table, .string a.cmd.name, .string a.cmd.role, .slice A a.cmd.cols.length k, .string a.cmd.rule.name, .int .i64 a.cmd.rule.kind, .slice A2 a.cmd.rule.cols.length k2, .int .i64 a.cmd.rule.low, .int .i64 a.cmd.rule.high, .string a.cmd.rule.schema, .string a.cmd.rule.table, .string a.cmd.rule.key, .int .i64 a.cmd.right, .bool a.cmd.opt] 31))).drew)
        exact ⟨_, _, rfl, rfl, r2.2, r2.1, (((Aft.refl W).alloc _).alloc _).drew⟩
  case rest =>
    obtain ⟨bx, bY, rfl, rfl, rx, ry, aV⟩ := hcut
    clear hz2 hz3 hz4 p5 p6 p7 p8 p9 p10 p11 p12 p13 p14 p15 p16 p17 p18 p19 p20 p21 q5 q6 q7 q8 q9 q10 q11 q12 q13 q14 q15 q16 q17 q18 q19 q20 q21
    have HRX := Lib.hid rx
    have HRY := Lib.hid ry
    have HAV := Lib.hid (HAW.out.trans aV)
    have HWV := Lib.hid aV
    obtain ⟨V, hV⟩ : ∃ V, V = wc := ⟨_, rfl⟩
    rw [← hV] at rx ry aV HRX HRY HAV HWV ⊢
    clear hV wc aV
    have x0 := rx.cell (j := 0) rfl
    have x1 := rx.cell (j := 1) rfl
    have x2 := rx.cell (j := 2) rfl
    have x3 := rx.cell (j := 3) rfl
    have x4 := rx.cell (j := 4) rfl
    have x5 := rx.cell (j := 5) rfl
    have x6 := rx.cell (j := 6) rfl
    have x7 := rx.cell (j := 7) rfl
    have x8 := rx.cell (j := 8) rfl
    have x9 := rx.cell (j := 9) rfl
    have x10 := rx.cell (j := 10) rfl
    have x11 := rx.cell (j := 11) rfl
    have x12 := rx.cell (j := 12) rfl
    have x13 := rx.cell (j := 13) rfl
    have x14 := rx.cell (j := 14) rfl
    have x15 := rx.cell (j := 15) rfl
    have x16 := rx.cell (j := 16) rfl
    have y0 := ry.cell (j := 0) rfl
    have y1 := ry.cell (j := 1) rfl
    have y2 := ry.cell (j := 2) rfl
    have y3 := ry.cell (j := 3) rfl
    have y4 := ry.cell (j := 4) rfl
    have y5 := ry.cell (j := 5) rfl
    have y6 := ry.cell (j := 6) rfl
    have y7 := ry.cell (j := 7) rfl
    have y8 := ry.cell (j := 8) rfl
    have y9 := ry.cell (j := 9) rfl
    have y10 := ry.cell (j := 10) rfl
    have y11 := ry.cell (j := 11) rfl
    have y12 := ry.cell (j := 12) rfl
    have y13 := ry.cell (j := 13) rfl
    have y14 := ry.cell (j := 14) rfl
    have y15 := ry.cell (j := 15) rfl
    have y16 := ry.cell (j := 16) rfl
    have lbx := rx.1
    have lby := ry.1
    clear rx ry
    go_upto_region 2 with fail
    go_cut [7] from 17 to 49 (fun c wx => ∃ r, c = .bool r ∧ (r = true ↔ (a.cmd.actor = b.cmd.actor ∧ a.cmd.schema = b.cmd.schema ∧ a.cmd.table = b.cmd.table ∧ a.cmd.name = b.cmd.name ∧ a.cmd.role = b.cmd.role)) ∧ wx = V)
    case first =>
      cases n0 : (a.cmd.actor.toList == b.cmd.actor.toList)
      · have HNN := Lib.hid (show ¬ (a.cmd.actor = b.cmd.actor ∧ a.cmd.schema = b.cmd.schema ∧ a.cmd.table = b.cmd.table ∧ a.cmd.name = b.cmd.name ∧ a.cmd.role = b.cmd.role) from fun e => eqL_no n0 (e.1))
        go_wp2_with fail
        go_meet
        case rel => exact ⟨false, rfl, ⟨fun e => (by cases e), fun e => absurd e HNN.out⟩, rfl⟩
      · cases n1 : (a.cmd.schema.toList == b.cmd.schema.toList)
        · have HNN := Lib.hid (show ¬ (a.cmd.actor = b.cmd.actor ∧ a.cmd.schema = b.cmd.schema ∧ a.cmd.table = b.cmd.table ∧ a.cmd.name = b.cmd.name ∧ a.cmd.role = b.cmd.role) from fun e => eqL_no n1 (e.2.1))
          go_wp2_with fail
          go_meet
          case rel => exact ⟨false, rfl, ⟨fun e => (by cases e), fun e => absurd e HNN.out⟩, rfl⟩
        · cases n2 : (a.cmd.table.toList == b.cmd.table.toList)
          · have HNN := Lib.hid (show ¬ (a.cmd.actor = b.cmd.actor ∧ a.cmd.schema = b.cmd.schema ∧ a.cmd.table = b.cmd.table ∧ a.cmd.name = b.cmd.name ∧ a.cmd.role = b.cmd.role) from fun e => eqL_no n2 (e.2.2.1))
            go_wp2_with fail
            go_meet
            case rel => exact ⟨false, rfl, ⟨fun e => (by cases e), fun e => absurd e HNN.out⟩, rfl⟩
          · cases n3 : (a.cmd.name.toList == b.cmd.name.toList)
            · have HNN := Lib.hid (show ¬ (a.cmd.actor = b.cmd.actor ∧ a.cmd.schema = b.cmd.schema ∧ a.cmd.table = b.cmd.table ∧ a.cmd.name = b.cmd.name ∧ a.cmd.role = b.cmd.role) from fun e => eqL_no n3 (e.2.2.2.1))
              go_wp2_with fail
              go_meet
              case rel => exact ⟨false, rfl, ⟨fun e => (by cases e), fun e => absurd e HNN.out⟩, rfl⟩
            · cases n4 : (a.cmd.role.toList == b.cmd.role.toList)
              · have HNN := Lib.hid (show ¬ (a.cmd.actor = b.cmd.actor ∧ a.cmd.schema = b.cmd.schema ∧ a.cmd.table = b.cmd.table ∧ a.cmd.name = b.cmd.name ∧ a.cmd.role = b.cmd.role) from fun e => eqL_no n4 (e.2.2.2.2))
                go_wp2_with fail
                go_meet
                case rel => exact ⟨false, rfl, ⟨fun e => (by cases e), fun e => absurd e HNN.out⟩, rfl⟩
              · have HNN := Lib.hid (show (a.cmd.actor = b.cmd.actor ∧ a.cmd.schema = b.cmd.schema ∧ a.cmd.table = b.cmd.table ∧ a.cmd.name = b.cmd.name ∧ a.cmd.role = b.cmd.role) from ⟨(eqL_iff _ _).1 n0, (eqL_iff _ _).1 n1, (eqL_iff _ _).1 n2, (eqL_iff _ _).1 n3, (eqL_iff _ _).1 n4⟩)
                go_wp2_with fail
                go_meet
                case rel => exact ⟨true, rfl, ⟨fun _ => HNN.out, fun _ => rfl⟩, rfl⟩
    case rest =>
      obtain ⟨rN, rfl, hN, hwc⟩ := hcut
      rw [hwc]
      clear hwc wc
      have HN7 := Lib.hid hN
      clear hN
      have z1 : bx < V.heap.size + 1 := by omega
      have z2 : bY < V.heap.size + 1 := by omega
      have z3 : V.heap.size < V.heap.size + 1 + 1 := by omega
      go_upto_region 3 with fail
      go_cut [8, 9] from 50 to 53 (fun c8 c9 wx => ∃ gx gY : Nat, c8 = .pointer (some ⟨gx, 0, none⟩) ∧ c9 = .pointer (some ⟨gY, 0, none⟩) ∧ RowAt wx gx [.string a.cmd.rule.name, .int .i64 a.cmd.rule.kind, .slice A2 a.cmd.rule.cols.length k2, .int .i64 a.cmd.rule.low, .int .i64 a.cmd.rule.high, .string a.cmd.rule.schema, .string a.cmd.rule.table, .string a.cmd.rule.key] ∧ RowAt wx gY [.string b.cmd.rule.name, .int .i64 b.cmd.rule.kind, .slice B2 b.cmd.rule.cols.length m2, .int .i64 b.cmd.rule.low, .int .i64 b.cmd.rule.high, .string b.cmd.rule.schema, .string b.cmd.rule.table, .string b.cmd.rule.key] ∧ Aft V wx)
      case first =>
        go_region
        · go_wp2_with fail
          go_meet
          case rel =>
            have r2 := box2_rowsD ((Aft.refl ((V.alloc (.cells #[.string a.cmd.rule.name, .int .i64 a.cmd.rule.kind, .slice A2 a.cmd.rule.cols.length k2, .int .i64 a.cmd.rule.low, .int .i64 a.cmd.rule.high, .string a.cmd.rule.schema, .string a.cmd.rule.table, .string a.cmd.rule.key] 28)).alloc (.cells #[.string b.cmd.rule.name, .int .i64 b.cmd.rule.kind, .slice B2 b.cmd.rule.cols.length m2, .int .i64 b.cmd.rule.low, .int .i64 b.cmd.rule.high, .string b.cmd.rule.schema, .string b.cmd.rule.table, .string b.cmd.rule.key] 28))).drew)
            exact ⟨_, _, rfl, rfl, r2.1, r2.2, (((Aft.refl V).alloc _).alloc _).drew⟩
        · go_wp2_with fail
          go_meet
          case rel =>
            have r2 := box2_rowsD ((Aft.refl ((V.alloc (.cells #[.string b.cmd.rule.name, .int .i64 b.cmd.rule.kind, .slice B2 b.cmd.rule.cols.length m2, .int .i64 b.cmd.rule.low, .int .i64 b.cmd.rule.high, .string b.cmd.rule.schema, .string b.cmd.rule.table, .string b.cmd.rule.key] 28)).alloc (.cells #[.string a.cmd.rule.name, .int .i64 a.cmd.rule.kind, .slice A2 a.cmd.rule.cols.length k2, .int .i64 a.cmd.rule.low, .int .i64 a.cmd.rule.high, .string a.cmd.rule.schema, .string a.cmd.rule.table, .string a.cmd.rule.key] 28))).drew)
            exact ⟨_, _, rfl, rfl, r2.2, r2.1, (((Aft.refl V).alloc _).alloc _).drew⟩
      case rest =>
        obtain ⟨gx, gY, rfl, rfl, rx, ry, aU⟩ := hcut
        clear z1 z2 z3 x0 x1 x2 x3 x4 x5 x6 x7 x8 x9 x10 x11 x12 x13 x14 x15 x16 y0 y1 y2 y3 y4 y5 y6 y7 y8 y9 y10 y11 y12 y13 y14 y15 y16 lbx lby
        obtain ⟨U, hU⟩ : ∃ U, U = wc := ⟨_, rfl⟩
        rw [← hU] at rx ry aU ⊢
        clear hU wc
        have HVU := Lib.hid aU
        have HU := Lib.hid (HAV.out.trans aU)
        clear aU
        have x0 := rx.cell (j := 0) rfl
        have x1 := rx.cell (j := 1) rfl
        have x2 := rx.cell (j := 2) rfl
        have x3 := rx.cell (j := 3) rfl
        have x4 := rx.cell (j := 4) rfl
        have x5 := rx.cell (j := 5) rfl
        have x6 := rx.cell (j := 6) rfl
        have x7 := rx.cell (j := 7) rfl
        have y0 := ry.cell (j := 0) rfl
        have y1 := ry.cell (j := 1) rfl
        have y2 := ry.cell (j := 2) rfl
        have y3 := ry.cell (j := 3) rfl
        have y4 := ry.cell (j := 4) rfl
        have y5 := ry.cell (j := 5) rfl
        have y6 := ry.cell (j := 6) rfl
        have y7 := ry.cell (j := 7) rfl
        clear rx ry
        go_upto_region 4 with fail
        go_cut [10] from 54 to 107 (fun c wx => ∃ r, c = .bool r ∧ (r = true ↔ a.cmd.rule = b.cmd.rule) ∧ Aft U wx)
        case first =>
          cases n0 : (a.cmd.rule.name.toList == b.cmd.rule.name.toList)
          · have HNN := Lib.hid (show ¬ (a.cmd.rule = b.cmd.rule) from fun e => eqL_no n0 (by rw [e]))
            go_wp2_with fail
            go_meet
            case rel => exact ⟨false, rfl, ⟨fun e => (by cases e), fun e => absurd e HNN.out⟩, Aft.refl _⟩
          · cases n1 : (a.cmd.rule.kind == b.cmd.rule.kind)
            · have HNN := Lib.hid (show ¬ (a.cmd.rule = b.cmd.rule) from fun e => eqI_no n1 (by rw [e]))
              go_wp2_with fail
              go_meet
              case rel => exact ⟨false, rfl, ⟨fun e => (by cases e), fun e => absurd e HNN.out⟩, Aft.refl _⟩
            · cases n2 : (a.cmd.rule.low == b.cmd.rule.low)
              · have HNN := Lib.hid (show ¬ (a.cmd.rule = b.cmd.rule) from fun e => eqI_no n2 (by rw [e]))
                go_wp2_with fail
                go_meet
                case rel => exact ⟨false, rfl, ⟨fun e => (by cases e), fun e => absurd e HNN.out⟩, Aft.refl _⟩
              · cases n3 : (a.cmd.rule.high == b.cmd.rule.high)
                · have HNN := Lib.hid (show ¬ (a.cmd.rule = b.cmd.rule) from fun e => eqI_no n3 (by rw [e]))
                  go_wp2_with fail
                  go_meet
                  case rel => exact ⟨false, rfl, ⟨fun e => (by cases e), fun e => absurd e HNN.out⟩, Aft.refl _⟩
                · cases n4 : (a.cmd.rule.schema.toList == b.cmd.rule.schema.toList)
                  · have HNN := Lib.hid (show ¬ (a.cmd.rule = b.cmd.rule) from fun e => eqL_no n4 (by rw [e]))
                    go_wp2_with fail
                    go_meet
                    case rel => exact ⟨false, rfl, ⟨fun e => (by cases e), fun e => absurd e HNN.out⟩, Aft.refl _⟩
                  · cases n5 : (a.cmd.rule.table.toList == b.cmd.rule.table.toList)
                    · have HNN := Lib.hid (show ¬ (a.cmd.rule = b.cmd.rule) from fun e => eqL_no n5 (by rw [e]))
                      go_wp2_with fail
                      go_meet
                      case rel => exact ⟨false, rfl, ⟨fun e => (by cases e), fun e => absurd e HNN.out⟩, Aft.refl _⟩
                    · cases n6 : (a.cmd.rule.key.toList == b.cmd.rule.key.toList)
                      · have HNN := Lib.hid (show ¬ (a.cmd.rule = b.cmd.rule) from fun e => eqL_no n6 (by rw [e]))
                        go_wp2_with fail
                        go_meet
                        case rel => exact ⟨false, rfl, ⟨fun e => (by cases e), fun e => absurd e HNN.out⟩, Aft.refl _⟩
                      · have HEQ := Lib.hid (show a.cmd.rule.cols = b.cmd.rule.cols → a.cmd.rule = b.cmd.rule from fun e => rul_same ((eqL_iff _ _).1 n0) (eqI_yes n1) (eqI_yes n2) (eqI_yes n3) ((eqL_iff _ _).1 n4) ((eqL_iff _ _).1 n5) ((eqL_iff _ _).1 n6) e)
                        have HCE := Lib.hid (eqStrs A2 k2 a.cmd.rule.cols B2 m2 b.cmd.rule.cols U (HXA.out.aft HU.out).nms (HXB.out.aft HU.out).nms)
                        go_wp2_with (first
                          | (go_at_call 38; (with_reducible refine HCE.out.mono ?_); rintro e w5 ⟨a5, rr, rfl, hrr⟩; have H5 := Lib.hid a5; have H6 := Lib.hid hrr; clear a5 hrr))
                        go_meet
                        case rel => exact ⟨rr, rfl, ⟨fun e => HEQ.out (H6.out.1 e), fun e => H6.out.2 (by rw [e])⟩, H5.out⟩
        case rest =>
          obtain ⟨rR, rfl, hR, aT⟩ := hcut
          have HR10 := Lib.hid hR
          obtain ⟨T, hT⟩ : ∃ T, T = wc := ⟨_, rfl⟩
          rw [← hT] at aT ⊢
          clear hT wc hR x0 x1 x2 x3 x4 x5 x6 x7 y0 y1 y2 y3 y4 y5 y6 y7
          have HUT := Lib.hid aT
          have HT := Lib.hid (HU.out.trans aT)
          have rp := HRA.out.aft ((HWV.out.trans HVU.out).trans aT)
          have rq := HRB.out.aft ((HWV.out.trans HVU.out).trans aT)
          clear aT
          have p24 := rp.cell (j := 24) rfl
          have p25 := rp.cell (j := 25) rfl
          have p26 := rp.cell (j := 26) rfl
          have p27 := rp.cell (j := 27) rfl
          have p28 := rp.cell (j := 28) rfl
          have p29 := rp.cell (j := 29) rfl
          have p30 := rp.cell (j := 30) rfl
          have p31 := rp.cell (j := 31) rfl
          have p32 := rp.cell (j := 32) rfl
          have q24 := rq.cell (j := 24) rfl
          have q25 := rq.cell (j := 25) rfl
          have q26 := rq.cell (j := 26) rfl
          have q27 := rq.cell (j := 27) rfl
          have q28 := rq.cell (j := 28) rfl
          have q29 := rq.cell (j := 29) rfl
          have q30 := rq.cell (j := 30) rfl
          have q31 := rq.cell (j := 31) rfl
          have q32 := rq.cell (j := 32) rfl
          clear rp rq
          go_upto_region 5 with fail
          go_cut [11] from 108 to 168 (fun c wx => ∃ r, c = .bool r ∧ (r = true ↔ a.row = b.row) ∧ Aft T wx)
          case first =>
            cases n0 : (a.row.kind == b.row.kind)
            · have HNN := Lib.hid (show ¬ (a.row = b.row) from fun e => eqI_no n0 (by rw [e]))
              go_wp2_with fail
              go_meet
              case rel => exact ⟨false, rfl, ⟨fun e => (by cases e), fun e => absurd e HNN.out⟩, Aft.refl _⟩
            · cases n1 : (a.row.role.toList == b.row.role.toList)
              · have HNN := Lib.hid (show ¬ (a.row = b.row) from fun e => eqL_no n1 (by rw [e]))
                go_wp2_with fail
                go_meet
                case rel => exact ⟨false, rfl, ⟨fun e => (by cases e), fun e => absurd e HNN.out⟩, Aft.refl _⟩
              · cases n2 : (a.row.schema.toList == b.row.schema.toList)
                · have HNN := Lib.hid (show ¬ (a.row = b.row) from fun e => eqL_no n2 (by rw [e]))
                  go_wp2_with fail
                  go_meet
                  case rel => exact ⟨false, rfl, ⟨fun e => (by cases e), fun e => absurd e HNN.out⟩, Aft.refl _⟩
                · cases n3 : (a.row.table.toList == b.row.table.toList)
                  · have HNN := Lib.hid (show ¬ (a.row = b.row) from fun e => eqL_no n3 (by rw [e]))
                    go_wp2_with fail
                    go_meet
                    case rel => exact ⟨false, rfl, ⟨fun e => (by cases e), fun e => absurd e HNN.out⟩, Aft.refl _⟩
                  · cases n4 : (a.row.col.toList == b.row.col.toList)
                    · have HNN := Lib.hid (show ¬ (a.row = b.row) from fun e => eqL_no n4 (by rw [e]))
                      go_wp2_with fail
                      go_meet
                      case rel => exact ⟨false, rfl, ⟨fun e => (by cases e), fun e => absurd e HNN.out⟩, Aft.refl _⟩
                    · cases n5 : eqV3 a.row.v.kind a.row.v.int a.row.v.text b.row.v.kind b.row.v.int b.row.v.text
                      · have HNN := Lib.hid (show ¬ (a.row = b.row) from fun e => (by rw [(eqVd_iff a.row.v b.row.v).2 (by rw [e])] at n5; cases n5))
                        go_wp2_with fail
                        go_meet
                        case rel => exact ⟨false, rfl, ⟨fun e => (by cases e), fun e => absurd e HNN.out⟩, Aft.refl _⟩
                      · have HEQ := Lib.hid (show a.row.row = b.row.row → a.row = b.row from fun e => rop_same (eqI_yes n0) ((eqL_iff _ _).1 n1) ((eqL_iff _ _).1 n2) ((eqL_iff _ _).1 n3) e ((eqL_iff _ _).1 n4) ((eqVd_iff _ _).1 n5))
                        have HCE := Lib.hid (eqVal_any A3 k3 a.row.row B3 m3 b.row.row T (HXA.out.aft HT.out).vals (HXB.out.aft HT.out).vals)
                        have HBE := Lib.hid (eqVs_iff a.row.row b.row.row)
                        go_wp2_with (first
                          | (go_at_call 39; (with_reducible refine HCE.out.mono ?_); rintro e w5 ⟨rfl, a5⟩; have H5 := Lib.hid a5; clear a5))
                        go_meet
                        case rel => exact ⟨eqVs a.row.row b.row.row, rfl, ⟨fun e => HEQ.out (HBE.out.1 e), fun e => HBE.out.2 (by rw [e])⟩, H5.out⟩
          case rest =>
            obtain ⟨rO, rfl, hO, aS⟩ := hcut
            have HR11 := Lib.hid hO
            obtain ⟨S, hS⟩ : ∃ S, S = wc := ⟨_, rfl⟩
            rw [← hS] at aS ⊢
            clear hS wc hO p24 p25 p26 p27 p28 p29 p30 p31 p32 q24 q25 q26 q27 q28 q29 q30 q31 q32
            have HS := Lib.hid (HT.out.trans aS)
            have rp := HRA.out.aft (((HWV.out.trans HVU.out).trans HUT.out).trans aS)
            have rq := HRB.out.aft (((HWV.out.trans HVU.out).trans HUT.out).trans aS)
            have rx := HRX.out.aft ((HVU.out.trans HUT.out).trans aS)
            have ry := HRY.out.aft ((HVU.out.trans HUT.out).trans aS)
            clear aS
            have p0 := rp.cell (j := 0) rfl
            have p1 := rp.cell (j := 1) rfl
            have p2 := rp.cell (j := 2) rfl
            have p3 := rp.cell (j := 3) rfl
            have p4 := rp.cell (j := 4) rfl
            have p22 := rp.cell (j := 22) rfl
            have p23 := rp.cell (j := 23) rfl
            have q0 := rq.cell (j := 0) rfl
            have q1 := rq.cell (j := 1) rfl
            have q2 := rq.cell (j := 2) rfl
            have q3 := rq.cell (j := 3) rfl
            have q4 := rq.cell (j := 4) rfl
            have q22 := rq.cell (j := 22) rfl
            have q23 := rq.cell (j := 23) rfl
            have x0 := rx.cell (j := 0) rfl
            have x6 := rx.cell (j := 6) rfl
            have x15 := rx.cell (j := 15) rfl
            have x16 := rx.cell (j := 16) rfl
            have y0 := ry.cell (j := 0) rfl
            have y6 := ry.cell (j := 6) rfl
            have y15 := ry.cell (j := 15) rfl
            have y16 := ry.cell (j := 16) rfl
            clear rp rq
            have HRX2 := Lib.hid rx
            have HRY2 := Lib.hid ry
            clear rx ry
            go_upto_region 6 with fail
            go_cut [12] from 169 to 208 (fun c wx => ∃ r, c = .bool r ∧ (r = true ↔ (a.kind = b.kind ∧ a.node = b.node ∧ a.n = b.n ∧ a.client = b.client ∧ a.number = b.number ∧ a.ck = b.ck ∧ a.cn = b.cn)) ∧ wx = S)
            case first =>
              cases n0 : (a.kind == b.kind)
              · have HNN := Lib.hid (show ¬ (a.kind = b.kind ∧ a.node = b.node ∧ a.n = b.n ∧ a.client = b.client ∧ a.number = b.number ∧ a.ck = b.ck ∧ a.cn = b.cn) from fun e => eqI_no n0 (e.1))
                go_wp2_with fail
                go_meet
                case rel => exact ⟨false, rfl, ⟨fun e => (by cases e), fun e => absurd e HNN.out⟩, rfl⟩
              · cases n1 : (a.node == b.node)
                · have HNN := Lib.hid (show ¬ (a.kind = b.kind ∧ a.node = b.node ∧ a.n = b.n ∧ a.client = b.client ∧ a.number = b.number ∧ a.ck = b.ck ∧ a.cn = b.cn) from fun e => eqI_no n1 (e.2.1))
                  go_wp2_with fail
                  go_meet
                  case rel => exact ⟨false, rfl, ⟨fun e => (by cases e), fun e => absurd e HNN.out⟩, rfl⟩
                · cases n2 : (a.n == b.n)
                  · have HNN := Lib.hid (show ¬ (a.kind = b.kind ∧ a.node = b.node ∧ a.n = b.n ∧ a.client = b.client ∧ a.number = b.number ∧ a.ck = b.ck ∧ a.cn = b.cn) from fun e => eqI_no n2 (e.2.2.1))
                    go_wp2_with fail
                    go_meet
                    case rel => exact ⟨false, rfl, ⟨fun e => (by cases e), fun e => absurd e HNN.out⟩, rfl⟩
                  · cases n3 : (a.client == b.client)
                    · have HNN := Lib.hid (show ¬ (a.kind = b.kind ∧ a.node = b.node ∧ a.n = b.n ∧ a.client = b.client ∧ a.number = b.number ∧ a.ck = b.ck ∧ a.cn = b.cn) from fun e => eqI_no n3 (e.2.2.2.1))
                      go_wp2_with fail
                      go_meet
                      case rel => exact ⟨false, rfl, ⟨fun e => (by cases e), fun e => absurd e HNN.out⟩, rfl⟩
                    · cases n4 : (a.number == b.number)
                      · have HNN := Lib.hid (show ¬ (a.kind = b.kind ∧ a.node = b.node ∧ a.n = b.n ∧ a.client = b.client ∧ a.number = b.number ∧ a.ck = b.ck ∧ a.cn = b.cn) from fun e => eqI_no n4 (e.2.2.2.2.1))
                        go_wp2_with fail
                        go_meet
                        case rel => exact ⟨false, rfl, ⟨fun e => (by cases e), fun e => absurd e HNN.out⟩, rfl⟩
                      · cases n5 : eqG2 a.ck a.cn b.ck b.cn
                        · have HNN := Lib.hid (show ¬ (a.kind = b.kind ∧ a.node = b.node ∧ a.n = b.n ∧ a.client = b.client ∧ a.number = b.number ∧ a.ck = b.ck ∧ a.cn = b.cn) from fun e => (by rw [(eqG_iff _ _ _ _).2 e.2.2.2.2.2] at n5; cases n5))
                          go_wp2_with fail
                          go_meet
                          case rel => exact ⟨false, rfl, ⟨fun e => (by cases e), fun e => absurd e HNN.out⟩, rfl⟩
                        · have HNN := Lib.hid (show (a.kind = b.kind ∧ a.node = b.node ∧ a.n = b.n ∧ a.client = b.client ∧ a.number = b.number ∧ a.ck = b.ck ∧ a.cn = b.cn) from ⟨eqI_yes n0, eqI_yes n1, eqI_yes n2, eqI_yes n3, eqI_yes n4, (eqG_iff _ _ _ _).1 n5⟩)
                          go_wp2_with fail
                          go_meet
                          case rel => exact ⟨true, rfl, ⟨fun _ => HNN.out, fun _ => rfl⟩, rfl⟩
            case rest =>
              obtain ⟨rA, rfl, hA, hwc⟩ := hcut
              rw [hwc]
              clear hwc wc
              have HR12 := Lib.hid hA
              clear hA
              cases rA
              · have HNN := Lib.hid (show ¬ a = b from fun e => (by have := HR12.out.2 (by rw [e]; exact ⟨rfl, rfl, rfl, rfl, rfl, rfl, rfl⟩); cases this))
                go_wp2_with fail
                go_ret
                exact .no HNN.out HS.out
              · cases rN
                · have HNN := Lib.hid (show ¬ a = b from fun e => (by have := HN7.out.2 (by rw [e]; exact ⟨rfl, rfl, rfl, rfl, rfl⟩); cases this))
                  go_wp2_with fail
                  go_ret
                  exact .no HNN.out HS.out
                · cases rR
                  · have HNN := Lib.hid (show ¬ a = b from fun e => (by have := HR10.out.2 (by rw [e]); cases this))
                    go_wp2_with fail
                    go_ret
                    exact .no HNN.out HS.out
                  · cases rO
                    · have HNN := Lib.hid (show ¬ a = b from fun e => (by have := HR11.out.2 (by rw [e]); cases this))
                      go_wp2_with fail
                      go_ret
                      exact .no HNN.out HS.out
                    · have HR12 := Lib.hid (HR12.out.1 rfl)
                      have HN7' := Lib.hid (HN7.out.1 rfl)
                      have HR10' := Lib.hid (HR10.out.1 rfl)
                      have HR11' := Lib.hid (HR11.out.1 rfl)
                      have HCC := Lib.hid (eqCols A k a.cmd.cols B m b.cmd.cols S (HXA.out.aft HS.out).cols (HXB.out.aft HS.out).cols)
                      cases g0 : (a.cmd.kind == b.cmd.kind)
                      · have HNN := Lib.hid (show ¬ a = b from fun e => eqI_no g0 (by rw [e]))
                        go_wp2_with fail
                        go_ret
                        exact .no HNN.out HS.out
                      · by_cases hcol : a.cmd.cols = b.cmd.cols
                        · have HCE := Lib.hid (HCC.out.mono fun e w1 (h : SameQ _ _ _ _) => (show e = .returned (.bool true) ∧ Aft S w1 from ⟨by obtain ⟨_, r, he, hr⟩ := h; rw [he, hr.2 hcol], h.1⟩))
                          have HCOL := Lib.hid hcol
                          clear hcol
                          cases g1 : (a.cmd.right == b.cmd.right)
                          · have HNN := Lib.hid (show ¬ a = b from fun e => eqI_no g1 (by rw [e]))
                            go_wp2_with (first
                              | (go_at_call 40; (with_reducible refine HCE.out.mono ?_); rintro e w5 ⟨rfl, a5⟩; have H5 := Lib.hid a5; have x15 := (HRX2.out.aft a5).cell (j := 15) rfl; have x16 := (HRX2.out.aft a5).cell (j := 16) rfl; have y15 := (HRY2.out.aft a5).cell (j := 15) rfl; have y16 := (HRY2.out.aft a5).cell (j := 16) rfl; clear a5))
                            go_ret
                            exact .no HNN.out (HS.out.trans H5.out)
                          · cases g2 : (a.cmd.opt == b.cmd.opt)
                            · have HNN := Lib.hid (show ¬ a = b from fun e => eqB_no g2 (by rw [e]))
                              go_wp2_with (first
                                | (go_at_call 40; (with_reducible refine HCE.out.mono ?_); rintro e w5 ⟨rfl, a5⟩; have H5 := Lib.hid a5; have x15 := (HRX2.out.aft a5).cell (j := 15) rfl; have x16 := (HRX2.out.aft a5).cell (j := 16) rfl; have y15 := (HRY2.out.aft a5).cell (j := 15) rfl; have y16 := (HRY2.out.aft a5).cell (j := 16) rfl; clear a5))
                              go_ret
                              exact .no HNN.out (HS.out.trans H5.out)
                            · have HNN := Lib.hid (show a = b from act_same HR12.out.1 HR12.out.2.1 HR12.out.2.2.1 HR12.out.2.2.2.1 HR12.out.2.2.2.2.1 (cmd_same (eqI_yes g0) HN7'.out.1 HN7'.out.2.1 HN7'.out.2.2.1 HN7'.out.2.2.2.1 HN7'.out.2.2.2.2 HCOL.out HR10'.out (eqI_yes g1) (eqB_yes g2)) HR12.out.2.2.2.2.2 HR11'.out)
                              go_wp2_with (first
                                | (go_at_call 40; (with_reducible refine HCE.out.mono ?_); rintro e w5 ⟨rfl, a5⟩; have H5 := Lib.hid a5; have x15 := (HRX2.out.aft a5).cell (j := 15) rfl; have x16 := (HRX2.out.aft a5).cell (j := 16) rfl; have y15 := (HRY2.out.aft a5).cell (j := 15) rfl; have y16 := (HRY2.out.aft a5).cell (j := 16) rfl; clear a5))
                              go_ret
                              exact .yes HNN.out (HS.out.trans H5.out)
                        · have HNN := Lib.hid (show ¬ a = b from fun e => hcol (by rw [e]))
                          have HCE := Lib.hid (HCC.out.mono fun e w1 (h : SameQ _ _ _ _) => (show e = .returned (.bool false) ∧ Aft S w1 from ⟨by
                            obtain ⟨_, r, he, hr⟩ := h
                            rw [he]
                            cases r
                            · rfl
                            · exact absurd (hr.1 rfl) hcol, h.1⟩))
                          clear hcol
                          go_wp2_with (first
                            | (go_at_call 40; (with_reducible refine HCE.out.mono ?_); rintro e w5 ⟨rfl, a5⟩; have H5 := Lib.hid a5; clear a5))
                          go_ret
                          exact .no HNN.out (HS.out.trans H5.out)
end Go.Proofs.YtbdanlipghhgpaaGreatDoor

