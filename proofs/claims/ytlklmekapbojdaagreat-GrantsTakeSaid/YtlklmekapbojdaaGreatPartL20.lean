/- Contracts of the program, part 20. -/
import Derived.WalkKit
import Derived.WalkSpells
import Derived.WalkLawsBesides
import Derived.Lib.Hide
import Derived.Deep.QuietTactic
import Derived.BigQuiet
import Derived.Below
import Derived.Deep.Draws
import Derived.StillTailTactics
import Derived.Laws.Cells
import Derived.Laws.IdiomCopy
import Derived.Test.YtlklmekapbojdaaGreatRows
import Derived.Deep.Upon
import Derived.OneCell
import Derived.OwnWalk
import Derived.Laws.AppendOwn
import Derived.ProofKit
import Derived.OpenShut
import Derived.Deep.Slices
import Derived.ChangeOld
import Derived.SizedLaws
import Derived.Deep.AppendLies
import Derived.Lib.Bytealg
import Derived.Deep.DeepMust
import Derived.Lib.Walk
import Derived.Laws.EntriesVeiled
import Derived.Maps.Own
import Derived.Maps.Views
import Derived.OrdersHeld
import Derived.Deep.RegionHeld3
import Derived.IntWalk
import Derived.Lib.SliceRun
import Derived.Test.YtlklmekapbojdaaGreatPartL1
import Derived.Test.YtlklmekapbojdaaGreatPartL2
import Derived.Test.YtlklmekapbojdaaGreatPartL3
import Derived.Test.YtlklmekapbojdaaGreatPartL4
import Derived.Test.YtlklmekapbojdaaGreatPartL5
import Derived.Test.YtlklmekapbojdaaGreatPartL6
namespace Go.Proofs.YtlklmekapbojdaaGreat
open Go.RowKit

instance (w : World) : Nonempty (Lat w) := ⟨⟨w, Below.refl _ _⟩⟩
section
variable {P : Program}
theorem Calls.lat_same {f : FuncId} {args : Array Value} {w : World} {x : Lat w} {v : Value}
    (h : Calls P f args (lat w x) fun e w' => e = .returned v ∧ lat w x = w') : Calls P f args (lat w x) fun e w'' => e = .returned v ∧ ∃ y : Lat w, w'' = lat w y :=
  h.mono fun _ _ ⟨he, hm⟩ => ⟨he, x, hm.symm⟩
end
end Go.Proofs.YtlklmekapbojdaaGreat

namespace Go.Proofs.YtlklmekapbojdaaGreat
open Go.RowKit Go.Deep
set_option linter.unusedVariables false
/-- append, with the word on the new row's block -/
theorem run_append_own2h {P : Program} (w : World) (base : Nat) (t ty e : TypeId) (i : TypeInfo) (z : Value) (size bytes : Nat) (ht : P.underlying t = some (.slice e)) (hi : P.info? e = some i) (hz : i.zero = some z)
    (hsize : i.size = size) (hby : i.bytes = bytes) (hzs : z.cells.size = size) (hsz : 0 < size)
    (v : Value) (n : Nat) (xs : List Value) (hown : w.ownsRow base e size v n xs)
    (A : Option Addr) (m c : Nat) (news : List Value) (hl : news.length = m * size) (hA : A = none → m = 0) (hnews : ∀ a, A = some a → ∀ j u, news[j]? = some u → w.cell? (a.add j) = some u) (h1 : ∀ u ∈ news, u.oneCell' = true)
    (h63 : n + m ≤ maxLen) (hbytes : (n + m) * bytes ≤ 140737488355328) (hbase : base ≤ w.heap.size) :
    ∃ (h : Hd) (w' : World), (Builtin.append_ #[t, t] ty #[v, .slice A m c]).run P w = .ok h.v w' ∧ w'.ownsRow base e size h.v (n + m) (xs ++ news) ∧ w.grownBy w' v.ownBlock ∧ ∀ g ∈ h.blk, v.ownBlock = some g ∨ w.heap.size ≤ g := by
  cases A with
  | none =>
    obtain rfl := hA rfl
    have hn : news = [] := List.eq_nil_of_length_eq_zero (by simpa using hl)
    subst hn
    obtain ⟨h, hv, hhn⟩ := own_head hown
    refine ⟨h, w, ?_, ?_, World.grownBy.refl w _, fun g hg => .inl (by rw [hv]; exact Hd.mem_blk.1 hg)⟩
    · rw [← hv]
      rcases hown.2 with ⟨rfl, _⟩ | ⟨g, cap, cur, rfl, _, _, hnc, _⟩
      · exact run_append_nothing w t t ty e i ht hi none 0 0 (Nat.le_refl _) _ (Src.ofNil w ht c)
      · exact run_append_nothing w t t ty e i ht hi _ n cap hnc _ (Src.ofNil w ht c)
    · rw [← hv]; simpa using hown
  | some a =>
    obtain ⟨v', w', hr, h2, h3, h4⟩ := run_append_own (P := P) w base t ty e i z size bytes ht hi hz hsize hby hzs hsz v n xs hown a m c news hl (hnews a rfl) h1 h63 hbytes hbase
    obtain ⟨h, hv, hhn⟩ := own_head h2
    subst hv
    refine ⟨h, w', hr, h2, h3, fun g hg => ?_⟩
    have hg' := Hd.mem_blk.1 hg
    subst hsize
    subst hby
    rcases hown.2 with ⟨rfl, rfl⟩ | ⟨g0, cap, cur, rfl, hbg, hg0, hnc, hcm, hcs, htake⟩
    · obtain ⟨v'', w'', hr', h2', _⟩ := run_append_own (P := P) w w.heap.size t ty e i z i.size i.bytes ht hi hz rfl rfl hzs hsz (.slice none 0 0) 0 xs ⟨by simpa using hown.1, .inl ⟨rfl, rfl⟩⟩ a m c news hl (hnews a rfl) h1 h63 hbytes (Nat.le_refl _)
      rw [hr] at hr'
      simp only [Result.ok.injEq] at hr'
      rw [← hr'.1] at h2'
      exact .inr (h2'.lt g hg').1
    · by_cases hroom : n + m ≤ cap
      · have hfit : n * i.size + news.length ≤ cur.size := by rw [hl, hcs, ← Nat.add_mul]; exact Nat.mul_le_mul_right _ hroom
        have hr' := run_append_room (P := P) w t ty e i ht hi g0 n cap cur hg0 a m c news hl (hnews a rfl) h1 hroom hfit
        rw [hr] at hr'
        simp only [Result.ok.injEq] at hr'
        rw [hr'.1] at hg'
        exact .inl hg'
      · have hr' := run_append_grow (P := P) w t ty e i z ht hi hz ⟨g0, 0, none⟩ n cap xs hown.1 (hown.cells (g := g0) rfl) a m c news hl (hnews a rfl) (by omega) (by simp only [maxLen] at h63; omega) (growslice_fits (by omega) hbytes)
        rw [hr] at hr'
        simp only [Result.ok.injEq] at hr'
        rw [hr'.1] at hg'
        simp only [Value.ownBlock, Option.some.injEq] at hg'
        exact .inr (by omega)
theorem run_append_own2 {P : Program} (w : World) (base : Nat) (t ty e : TypeId) (i : TypeInfo) (z : Value) (size bytes : Nat) (ht : P.underlying t = some (.slice e)) (hi : P.info? e = some i) (hz : i.zero = some z)
    (hsize : i.size = size) (hby : i.bytes = bytes) (hzs : z.cells.size = size) (hsz : 0 < size)
    (v : Value) (n : Nat) (xs : List Value) (hown : w.ownsRow base e size v n xs)
    (A : Option Addr) (m c : Nat) (news : List Value) (hl : news.length = m * size) (hA : A = none → m = 0) (hnews : ∀ a, A = some a → ∀ j u, news[j]? = some u → w.cell? (a.add j) = some u) (h1 : ∀ u ∈ news, u.oneCell' = true)
    (h63 : n + m ≤ maxLen) (hbytes : (n + m) * bytes ≤ 140737488355328) (hbase : base ≤ w.heap.size) :
    ∃ (A' : Option Addr) (cap' : Nat) (w' : World), (Builtin.append_ #[t, t] ty #[v, .slice A m c]).run P w = .ok (.slice A' (n + m) cap') w' ∧ w'.ownsRow base e size (.slice A' (n + m) cap') (n + m) (xs ++ news) ∧ w.grownBy w' v.ownBlock ∧ ∀ g ∈ (Hd.mk A' (n + m) cap').blk, v.ownBlock = some g ∨ w.heap.size ≤ g := by
  obtain ⟨h, w', hr, h2, h3, h4⟩ := run_append_own2h w base t ty e i z size bytes ht hi hz hsize hby hzs hsz v n xs hown A m c news hl hA hnews h1 h63 hbytes hbase
  obtain ⟨A', n', cap'⟩ := h
  have hn : n' = n + m := own_n h2
  subst hn
  exact ⟨A', cap', w', hr, h2, h3, h4⟩
theorem wpList_append_own2 {P : Program} (w : World) {ops : Array Oper} {rest : List Oper} {o : Oper} {a : Act} {Q : Exit → Act → World → Prop} (hgd : o.guard = none) (s x : Operand) (t : TypeId)
    (ho : o.op = .call { callee := .builtin .append, args := #[s, x], argTypes := #[t, t] })
    (base : Nat) (e : TypeId) (i : TypeInfo) (z : Value) (size bytes : Nat) (ht : P.underlying t = some (.slice e)) (hi : P.info? e = some i) (hz : i.zero = some z)
    (hsize : i.size = size) (hby : i.bytes = bytes) (hzs : z.cells.size = size) (hsz : 0 < size)
    (v : Value) (n : Nat) (xs : List Value) (hs : a.eval s = v) (hown : w.ownsRow base e size v n xs)
    (A : Option Addr) (m c : Nat) (news : List Value) (hx : a.eval x = .slice A m c) (hl : news.length = m * size) (hA : A = none → m = 0) (hnews : ∀ ad, A = some ad → ∀ j u, news[j]? = some u → w.cell? (ad.add j) = some u) (h1 : ∀ u ∈ news, u.oneCell' = true)
    (h63 : n + m ≤ maxLen) (hbytes : (n + m) * bytes ≤ 140737488355328) (hbase : base ≤ w.heap.size)
    (h : ∀ (A' : Option Addr) (cap' : Nat) (w' : World), w'.ownsRow base e size (.slice A' (n + m) cap') (n + m) (xs ++ news) → w.grownBy w' v.ownBlock → (∀ g ∈ (Hd.mk A' (n + m) cap').blk, v.ownBlock = some g ∨ w.heap.size ≤ g) → wpList P ops Q rest (a.put o.dst (.slice A' (n + m) cap')) w') : wpList P ops Q (o :: rest) a w :=
  wpList_plain hgd fun _ hK => by
    obtain ⟨A', cap', w', hr, h2, h3, h4⟩ := run_append_own2 (P := P) w base t o.type e i z size bytes ht hi hz hsize hby hzs hsz v n xs hown A m c news hl hA hnews h1 h63 hbytes hbase
    unfold Oper.wp execOp
    simp only [ho, resolve, invoke, builtin, Sem.run_bind, Sem.run_pure, Result.andThen_ok, List.map_toArray, List.map_cons, List.map_nil, hs, hx, hr]
    exact hK _ _ (h A' cap' w' h2 h3 h4)
/-- append onto nil: a row all new -/
theorem wpList_append_new {P : Program} (w : World) {ops : Array Oper} {rest : List Oper} {o : Oper} {a : Act} {Q : Exit → Act → World → Prop} (hgd : o.guard = none) (s x : Operand) (t : TypeId)
    (ho : o.op = .call { callee := .builtin .append, args := #[s, x], argTypes := #[t, t] })
    (e : TypeId) (i : TypeInfo) (z : Value) (size bytes : Nat) (ht : P.underlying t = some (.slice e)) (hi : P.info? e = some i) (hz : i.zero = some z)
    (hsize : i.size = size) (hby : i.bytes = bytes) (hzs : z.cells.size = size) (hsz : 0 < size)
    (hs : a.eval s = .slice none 0 0)
    (A : Option Addr) (m c : Nat) (news : List Value) (hx : a.eval x = .slice A m c) (hl : news.length = m * size) (hA : A = none → m = 0) (hnews : ∀ ad, A = some ad → ∀ j u, news[j]? = some u → w.cell? (ad.add j) = some u) (h1 : ∀ u ∈ news, u.oneCell' = true)
    (h63 : m ≤ maxLen) (hbytes : m * bytes ≤ 140737488355328)
    (h : ∀ (A' : Option Addr) (cap' : Nat) (w' : World), w'.ownsRow w.heap.size e size (.slice A' m cap') m news → Aft w w' → wpList P ops Q rest (a.put o.dst (.slice A' m cap')) w') : wpList P ops Q (o :: rest) a w := by
  refine wpList_append_own2 w hgd s x t ho w.heap.size e i z size bytes ht hi hz hsize hby hzs hsz _ 0 [] hs (own_nil w _ _ _) A m c news hx hl hA hnews h1 (by rw [Nat.zero_add]; exact h63) (by rw [Nat.zero_add]; exact hbytes) (Nat.le_refl _) ?_
  intro A' cap' w' o2 g2 b2
  simp only [Nat.zero_add, List.nil_append] at o2 b2 ⊢
  exact h A' cap' w' o2 ⟨g2.os, g2.tape, g2.output, g2.size, fun k hk => g2.block k hk (by simp [Value.ownBlock])⟩
end Go.Proofs.YtlklmekapbojdaaGreat

namespace Go.Proofs.YtlklmekapbojdaaGreat
open Go.RowKit Go.Deep
set_option linter.unusedVariables false
theorem oneC_name (s : ByteArray) : ∀ u ∈ nameC s, u.oneCell' = true := by intro u hu; simp only [nameC, List.mem_cons, List.not_mem_nil, or_false] at hu; subst hu; simp [Value.oneCell']
theorem oneC_col (s : Col) : ∀ u ∈ colC s, u.oneCell' = true := by intro u hu; simp only [colC, List.mem_cons, List.not_mem_nil, or_false] at hu; rcases hu with rfl | rfl | rfl <;> simp [Value.oneCell']
theorem oneC_sch (s : Sch) : ∀ u ∈ schC s, u.oneCell' = true := by intro u hu; simp only [schC, List.mem_cons, List.not_mem_nil, or_false] at hu; rcases hu with rfl | rfl <;> simp [Value.oneCell']
/-- the cells of a slice that came in -/
theorem sl_cells {α : Type} {w w' : World} {size : Nat} {R : World → List Value → α → Prop} {f : α → List Value} {A : Option Addr} {cap : Nat} {l : List α} (h : SlAt w size R A cap l) (hs : 0 < size) (hf : ∀ cs x, R w cs x → cs = f x) (a : Aft w w') : ∀ ad, A = some ad → ∀ j u, (l.flatMap f)[j]? = some u → w'.cell? (ad.add j) = some u := by
  intro ad hA j u hj
  by_cases h0 : 0 < l.length
  · obtain ⟨b, off, css, hA', hb', hch, hc⟩ := h.css h0 hs
    rw [hA] at hA'
    simp only [Option.some.injEq] at hA'
    subst hA'
    rw [← chunks_flat hf hch] at hj
    have hlt : j < l.length * size := by rw [← hch.len]; exact (List.getElem?_eq_some_iff.1 hj).1
    rw [add_mk]; exact a.cell_kept ((hc j hlt).trans hj)
  · have hl0 : l = [] := List.eq_nil_of_length_eq_zero (by omega)
    subst hl0
    simp at hj
theorem sl_none {α : Type} {w : World} {size : Nat} {R : World → List Value → α → Prop} {A : Option Addr} {cap : Nat} {l : List α} (h : SlAt w size R A cap l) : A = none → l.length = 0 := by
  intro hA
  cases l with
  | nil => rfl
  | cons x l => obtain ⟨b, off, cs, hA', _⟩ := h.2.2 0 (by simp); rw [hA] at hA'; cases hA'
theorem info2Tab : (Tryz.prog.info? 89).map (fun i => (i.zero, i.size, i.bytes)) = some (some (.agg #[.string ByteArray.empty, .string ByteArray.empty, .string ByteArray.empty, .slice none 0 0, .slice none 0 0]), 5, 96) := by kernel_rfl
theorem info2Sch2 : (Tryz.prog.info? 101).map (fun i => (i.zero, i.size, i.bytes)) = some (some (.agg #[.string ByteArray.empty, .string ByteArray.empty]), 2, 32) := by kernel_rfl
theorem info2Rul2 : (Tryz.prog.info? 121).map (fun i => (i.zero, i.size, i.bytes)) = some (some (.agg #[.string ByteArray.empty, .int .i64 0, .slice none 0 0, .int .i64 0, .int .i64 0, .string ByteArray.empty, .string ByteArray.empty, .string ByteArray.empty]), 8, 112) := by kernel_rfl
theorem info2Col2 : (Tryz.prog.info? 106).map (fun i => (i.zero, i.size, i.bytes)) = some (some (.agg #[.string ByteArray.empty, .int .i64 0, .bool false]), 3, 32) := by kernel_rfl
/-- objects in memory of their own -/
def OwnO (w : World) (o : Objs) (e : Ending) (w' : World) : Prop :=
  ∃ hs ht L, L.map OTab.t = o.tables ∧ e = .returned (.agg #[.slice hs.a o.schemas.length hs.c, .slice ht.a o.tables.length ht.c]) ∧ Aft w w' ∧ ObjIn w' w.heap.size hs ht o.schemas L
end Go.Proofs.YtlklmekapbojdaaGreat

namespace Go.Proofs.YtlklmekapbojdaaGreat

theorem isLet_iff (c : UInt8) : isLet c = true ↔ 97 ≤ (c.toNat : Int) ∧ (c.toNat : Int) ≤ 122 := by
  simp [isLet, UInt8.le_iff_toNat_le]; omega
theorem isPl_iff (c : UInt8) : isPl c = true ↔ (97 ≤ (c.toNat : Int) ∧ (c.toNat : Int) ≤ 122) ∨ (48 ≤ (c.toNat : Int) ∧ (c.toNat : Int) ≤ 57) ∨ (c.toNat : Int) = 95 := by
  simp [isPl, isLet, UInt8.le_iff_toNat_le, ← UInt8.toNat_inj]; omega
end Go.Proofs.YtlklmekapbojdaaGreat

namespace Go.Proofs.YtlklmekapbojdaaGreat
open Go.RowKit
set_option maxRecDepth 100000

theorem isPl_false (c : UInt8) : isPl c = false ↔ ¬ ((97 ≤ (c.toNat : Int) ∧ (c.toNat : Int) ≤ 122) ∨ (48 ≤ (c.toNat : Int) ∧ (c.toNat : Int) ≤ 57) ∨ (c.toNat : Int) = 95) := by
  rw [← isPl_iff]; simp
set_option maxHeartbeats 400000 in
theorem rname_no (s : ByteArray) (w : World) (hs : s.size ≤ maxLen) (hn : nameB s = false) (hx : s.size = 0 ∨ 16 < s.size ∨ ∃ h : 0 < s.size, (s[0].toNat : Int) < 97 ∨ 122 < (s[0].toNat : Int)) :
    Calls Tryz.prog 124 #[.string s] w fun e w' => e = .returned (.bool (nameB s)) ∧ w = w' := by
  unfold maxLen at hs
  have H := Lib.hid hn
  clear hn
  rcases hx with hx | hx | ⟨h0, hx⟩
  · have hx' : (s.size : Int) < 1 := by omega
    clear hx
    go_enter Tryz.func124, Tryz.ntmps124
    go_wp2_with fail
    go_ret
    exact ⟨by rw [H.out]; rfl, rfl⟩
  · go_enter Tryz.func124, Tryz.ntmps124
    go_wp2_with fail
    go_ret
    exact ⟨by rw [H.out]; rfl, rfl⟩
  · by_cases h1 : s.size ≤ 16
    · rcases hx with hx | hx
      all_goals
        go_enter Tryz.func124, Tryz.ntmps124
        go_wp2_with fail
        go_ret
        exact ⟨by rw [H.out]; rfl, rfl⟩
    · go_enter Tryz.func124, Tryz.ntmps124
      go_wp2_with fail
      go_ret
      exact ⟨by rw [H.out]; rfl, rfl⟩
set_option maxHeartbeats 1000000 in
theorem rname_yes (s : ByteArray) (w : World) (hs : s.size ≤ maxLen) (h0 : 0 < s.size) (h1 : s.size ≤ 16) (h2 : 97 ≤ (s[0].toNat : Int)) (h3 : (s[0].toNat : Int) ≤ 122) (hn : nameB s = plB s) :
    Calls Tryz.prog 124 #[.string s] w fun e w' => e = .returned (.bool (nameB s)) ∧ w = w' := by
  unfold maxLen at hs
  have H := Lib.hid hn
  clear hn
  go_enter Tryz.func124, Tryz.ntmps124
  go_wp2_with fail
  go_loop [3] (fun i => ∃ k : Nat, k ≤ s.size ∧ i = .int .i64 k ∧ (s.data.toList.take k).all isPl = true) (fun i => s.size - (intOf i).toNat)
  case atStart => exact ⟨0, Nat.zero_le _, rfl, rfl⟩
  case round =>
    obtain ⟨k, hk, rfl, ha⟩ := hrel
    have HA := Lib.hid ha; clear ha
    by_cases hlt : k < s.size
    · have hp := isPl_false s[k]
      have hps := pl_succ s k hlt
      cases hq : isPl s[k]
      · have H2 := Lib.hid (pl_false s k hlt hq)
        have hb0 := hp.1 hq
        have hb : (s[k].toNat : Int) < 48 ∨ (58 ≤ (s[k].toNat : Int) ∧ (s[k].toNat : Int) < 95) ∨ (96 ≤ (s[k].toNat : Int) ∧ (s[k].toNat : Int) < 97) ∨ 122 < (s[k].toNat : Int) := by omega
        have hne : ((s[k].toNat : Int) != 95) = true := by rw [bne_iff_ne]; omega
        clear hp hq hps hb0
        rcases hb with hb | hb | hb | hb
        all_goals
          go_wp2_with fail
          go_ret
          exact ⟨by rw [H.out, H2.out]; rfl, rfl⟩
      · rw [hq] at hps hp
        have HS := Lib.hid hps
        have hb : ((97 ≤ (s[k].toNat : Int) ∧ (s[k].toNat : Int) ≤ 122) ∨ (48 ≤ (s[k].toNat : Int) ∧ (s[k].toNat : Int) ≤ 57) ∨ (s[k].toNat : Int) = 95) := by
          rw [← isPl_iff, hq]
        clear hp hq hps
        have fin : (List.take (k + 1) s.data.toList).all isPl = true := by rw [HS.out, HA.out]; rfl
        have FIN := Lib.hid fin
        clear fin
        rcases hb with hb | hb | hb
        all_goals
          go_wp2_with fail
          go_round
          case rel => exact ⟨k + 1, by omega, by go_num, FIN.out⟩
          case measure => simp [intOf]; omega
    · go_wp2_with fail
      go_ret
      exact ⟨by rw [H.out, pl_true s k hlt HA.out]; rfl, rfl⟩
theorem rname_any (s : ByteArray) (w : World) (hs : s.size ≤ maxLen) :
    Calls Tryz.prog 124 #[.string s] w fun e w' => e = .returned (.bool (nameB s)) ∧ w = w' := by
  by_cases h0 : 0 < s.size
  · by_cases h1 : s.size ≤ 16
    · by_cases h2 : 97 ≤ (s[0].toNat : Int)
      · by_cases h3 : (s[0].toNat : Int) ≤ 122
        · exact rname_yes s w hs h0 h1 h2 h3 (by rw [nameB_of s h0, decide_eq_true h1, (isLet_iff _).2 ⟨h2, h3⟩]; rfl)
        · refine rname_no s w hs ?_ (.inr (.inr ⟨h0, .inr (by omega)⟩))
          rw [nameB_of s h0, show isLet s[0] = false by rw [← Bool.not_eq_true, isLet_iff]; omega]; simp
      · refine rname_no s w hs ?_ (.inr (.inr ⟨h0, .inl (by omega)⟩))
        rw [nameB_of s h0, show isLet s[0] = false by rw [← Bool.not_eq_true, isLet_iff]; omega]; simp
    · exact rname_no s w hs (by rw [nameB_of s h0, decide_eq_false h1]; rfl) (.inr (.inl (by omega)))
  · exact rname_no s w hs (by simp [nameB, h0]) (.inl (by omega))
end Go.Proofs.YtlklmekapbojdaaGreat

namespace Go.Proofs.YtlklmekapbojdaaGreat
open Go.RowKit
set_option maxRecDepth 100000
theorem anyP_false {α : Type} (p : α → Bool) (l : List α) (h : ∀ i (hi : i < l.length), p l[i] = false) : l.any p = false := by
  rw [Bool.eq_false_iff]
  intro ha
  obtain ⟨x, hx, hp⟩ := List.any_eq_true.1 ha
  obtain ⟨i, hi, rfl⟩ := List.getElem_of_mem hx
  rw [h i hi] at hp; cases hp
set_option maxHeartbeats 1000000 in
theorem rcol_any (A : Option Addr) (cap : Nat) (l : List Col) (name : ByteArray) (w : World) (h : SlAt w 3 ColR A cap l) :
    Calls Tryz.prog 60 #[.slice A l.length cap, .string name] w fun e w' => e = .returned (.int .i64 (idxP (fun c => eqS c.name name) l)) ∧ w = w' := by
  have hlen := h.len
  go_enter Tryz.func60, Tryz.ntmps60
  go_wp2_with fail
  go_loop [5] (fun i => ∃ k : Nat, k ≤ l.length ∧ i = .int .i64 k ∧ ∀ j, j < k → ∀ (hj : j < l.length), eqS l[j].name name = false) (fun i => l.length - (intOf i).toNat)
  case atStart => exact ⟨0, Nat.zero_le _, rfl, fun j hj => absurd hj (Nat.not_lt_zero j)⟩
  case round =>
    obtain ⟨k, hk, rfl, hp⟩ := hrel
    have HP := Lib.hid hp; clear hp
    by_cases hlt : k < l.length
    · obtain ⟨b, off, rfl, hb, c0, c1, c2, hs⟩ := col_at h hlt
      cases heq : eqS l[k].name name
      · have h2 : (l[k].name.toList == name.toList) = false := heq
        have HN := Lib.hid (ext_lt (p := fun j => ∀ (hj : j < l.length), eqS l[j].name name = false) HP.out (fun _ => heq))
        clear heq
        go_wp2_with fail
        go_round
        case rel => exact ⟨k + 1, by omega, by go_num, HN.out⟩
        case measure => simp [intOf]; omega
      · have h2 : (l[k].name.toList == name.toList) = true := heq
        have HQ := Lib.hid heq
        clear heq
        go_wp2_with fail
        go_ret
        have heq := HQ.out
        exact ⟨by rw [idxP_some (fun c => eqS c.name name) l k hlt heq (fun i hi => HP.out i hi (by omega))]; rfl, rfl⟩
    · go_wp2_with fail
      go_ret
      exact ⟨by rw [idxP_none (fun c => eqS c.name name) l (fun i hi => HP.out i (by omega) hi)]; rfl, rfl⟩
set_option maxHeartbeats 1000000 in
theorem rrul_any (A : Option Addr) (cap : Nat) (l : List Rul) (name : ByteArray) (w : World) (h : SlAt w 8 RulR A cap l) :
    Calls Tryz.prog 73 #[.slice A l.length cap, .string name] w fun e w' => e = .returned (.int .i64 (idxP (fun c => eqS c.name name) l)) ∧ w = w' := by
  have hlen := h.len
  go_enter Tryz.func73, Tryz.ntmps73
  go_wp2_with fail
  go_loop [5] (fun i => ∃ k : Nat, k ≤ l.length ∧ i = .int .i64 k ∧ ∀ j, j < k → ∀ (hj : j < l.length), eqS l[j].name name = false) (fun i => l.length - (intOf i).toNat)
  case atStart => exact ⟨0, Nat.zero_le _, rfl, fun j hj => absurd hj (Nat.not_lt_zero j)⟩
  case round =>
    obtain ⟨k, hk, rfl, hp⟩ := hrel
    have HP := Lib.hid hp; clear hp
    by_cases hlt : k < l.length
    · obtain ⟨b, off, A2, cap2, rfl, hb, c0, c1, c2, c3, c4, c5, c6, c7, hs⟩ := rul_at h hlt
      cases heq : eqS l[k].name name
      · have h2 : (l[k].name.toList == name.toList) = false := heq
        have HN := Lib.hid (ext_lt (p := fun j => ∀ (hj : j < l.length), eqS l[j].name name = false) HP.out (fun _ => heq))
        clear heq
        go_wp2_with fail
        go_round
        case rel => exact ⟨k + 1, by omega, by go_num, HN.out⟩
        case measure => simp [intOf]; omega
      · have h2 : (l[k].name.toList == name.toList) = true := heq
        have HQ := Lib.hid heq
        clear heq
        go_wp2_with fail
        go_ret
        have heq := HQ.out
        exact ⟨by rw [idxP_some (fun c => eqS c.name name) l k hlt heq (fun i hi => HP.out i hi (by omega))]; rfl, rfl⟩
    · go_wp2_with fail
      go_ret
      exact ⟨by rw [idxP_none (fun c => eqS c.name name) l (fun i hi => HP.out i (by omega) hi)]; rfl, rfl⟩
set_option maxHeartbeats 1000000 in
theorem rin_any (A : Option Addr) (cap : Nat) (l : List ByteArray) (name : ByteArray) (w : World) (h : SlAt w 1 StrR A cap l) :
    Calls Tryz.prog 91 #[.slice A l.length cap, .string name] w fun e w' => e = .returned (.bool (l.any fun c => eqS c name)) ∧ w = w' := by
  have hlen := h.len
  go_enter Tryz.func91, Tryz.ntmps91
  go_wp2_with fail
  go_loop [5] (fun i => ∃ k : Nat, k ≤ l.length ∧ i = .int .i64 k ∧ ∀ j, j < k → ∀ (hj : j < l.length), eqS l[j] name = false) (fun i => l.length - (intOf i).toNat)
  case atStart => exact ⟨0, Nat.zero_le _, rfl, fun j hj => absurd hj (Nat.not_lt_zero j)⟩
  case round =>
    obtain ⟨k, hk, rfl, hp⟩ := hrel
    have HP := Lib.hid hp; clear hp
    by_cases hlt : k < l.length
    · obtain ⟨b, off, rfl, hb, c0, hs⟩ := str_at h hlt
      cases heq : eqS l[k] name
      · have h2 : (l[k].toList == name.toList) = false := heq
        have HN := Lib.hid (ext_lt (p := fun j => ∀ (hj : j < l.length), eqS l[j] name = false) HP.out (fun _ => heq))
        clear heq
        go_wp2_with fail
        go_round
        case rel => exact ⟨k + 1, by omega, by go_num, HN.out⟩
        case measure => simp [intOf]; omega
      · have h2 : (l[k].toList == name.toList) = true := heq
        have HQ := Lib.hid heq
        clear heq
        go_wp2_with fail
        go_ret
        have heq := HQ.out
        exact ⟨by rw [anyP_true (fun c => eqS c name) l k hlt heq]; rfl, rfl⟩
    · go_wp2_with fail
      go_ret
      exact ⟨by rw [anyP_false (fun c => eqS c name) l (fun i hi => HP.out i (by omega) hi)]; rfl, rfl⟩
end Go.Proofs.YtlklmekapbojdaaGreat

namespace Go.Proofs.YtlklmekapbojdaaGreat
open Go.RowKit
set_option linter.unusedVariables false
def ltS (a b : ByteArray) : Bool := Op.bytesLess a.toList b.toList
theorem cmpB_lt : ∀ (a b : List UInt8), decide (Lib.compareBytes a b < 0) = Op.bytesLess a b
  | [], [] => rfl
  | [], _ :: _ => rfl
  | _ :: _, [] => rfl
  | x :: a, y :: b => by
    unfold Lib.compareBytes Op.bytesLess
    by_cases h : x < y
    · simp [h]
    · by_cases h2 : y < x
      · have h3 : ¬ x = y := fun e => by subst e; exact UInt8.lt_irrefl _ h2
        simp [h, h2, h3]
      · have h3 : x = y := UInt8.le_antisymm (UInt8.not_lt.1 h2) (UInt8.not_lt.1 h)
        subst h3
        have := cmpB_lt a b
        simp [UInt8.lt_irrefl, this]
theorem cmpS_lt (a b : ByteArray) : decide (cmpS a b < 0) = ltS a b := by
  unfold cmpS ltS
  rw [Lib.toList_data, Lib.toList_data]; exact cmpB_lt _ _
theorem cmpS_lt_iff (a b : ByteArray) : cmpS a b < 0 ↔ ltS a b = true := by rw [← cmpS_lt]; simp
/-- the order of pairs: less, spelt as the document does -/
theorem or2_lt (a b c d : ByteArray) : decide (or2 (cmpS a b) (cmpS c d) < 0) = (!(!(ltS a b || eqS a b)) && !(eqS a b && !(ltS c d))) := by
  unfold or2
  by_cases h : cmpS a b = 0
  · have he := (cmpS_eq a b).1 h
    have hl : ltS a b = false := by rw [← cmpS_lt, h]; rfl
    simp only [h, beq_self_eq_true, if_true, he, hl]
    rw [← cmpS_lt c d]; simp
  · have he : eqS a b = false := by rw [Bool.eq_false_iff]; intro e; exact h ((cmpS_eq a b).2 e)
    have h' : (cmpS a b == 0) = false := beq_eq_false_iff_ne.2 h
    simp only [h', he]
    rw [← cmpS_lt a b]; simp
end Go.Proofs.YtlklmekapbojdaaGreat

namespace Go.Proofs.YtlklmekapbojdaaGreat
open Go.RowKit Go.Deep
set_option maxRecDepth 100000
set_option linter.unusedVariables false
theorem RolIn.vn {w : World} {B : Nat} {hn hm : Hd} {r : Rls} (h : RolIn w B hn hm r) : hn.v = .slice hn.a r.names.length hn.c := own_slice h.nam
theorem RolIn.vm {w : World} {B : Nat} {hn hm : Hd} {r : Rls} (h : RolIn w B hn hm r) : hm.v = .slice hm.a r.members.length hm.c := own_slice h.mem
theorem lvRol_row {W : World} {b : Nat} {a c : Value} (h : RowAt W b [a, c]) : (loadVar 63 ⟨b, 0, none⟩).run Tryz.prog W = .ok (.agg #[a, c]) W := by
  have e0 := h.cell (j := 0) rfl
  have e1 := h.cell (j := 1) rfl
  have h1 := run_lvRol W b 0 (by rw [e0]; rfl) (by rw [e1]; rfl)
  rw [e0, e1] at h1
  exact h1
theorem rowAt_new8 (w : World) (c : List Value) (t : TypeId) : RowAt (w.alloc (.cells c.toArray t)) w.heap.size c := by
  refine ⟨by simp, fun j hj => ?_, fun j hj => ?_⟩
  · rw [World.cell?_alloc_at _ _ _ _ rfl]; simp
  · exact World.frozen?_alloc_at _ _ _ _ rfl
end Go.Proofs.YtlklmekapbojdaaGreat

namespace Go.Proofs.YtlklmekapbojdaaGreat
open Go.RowKit Go.Deep
set_option maxRecDepth 100000
set_option linter.unusedVariables false
def OwnP8 (r : Rls) (w : World) (e : Ending) (w' : World) : Prop := ∃ hn hm : Hd, e = .returned (.agg #[hn.v, hm.v]) ∧ Aft w w' ∧ RolIn w' w.heap.size hn hm r
theorem oneC_mbr (m : Mbr) : ∀ u ∈ mbrC m, u.oneCell' = true := by intro u hu; simp only [mbrC, List.mem_cons, List.not_mem_nil, or_false] at hu; rcases hu with rfl | rfl <;> simp [Value.oneCell']
theorem nameC_len8 (l : List ByteArray) : (l.flatMap nameC).length = l.length * 1 := flatMap_len (size := 1) (fun _ => rfl) l
theorem mbrC_len8 (l : List Mbr) : (l.flatMap mbrC).length = l.length * 2 := flatMap_len (size := 2) (fun _ => rfl) l
theorem setR_row {w : World} {b : Nat} {xs : List Value} (h : RowAt w b xs) (hl : xs.length = 2) (v0 v1 : Value) : RowAt ((w.setCell ⟨b, 0, none⟩ v0).setCell ⟨b, 1, none⟩ v1) b [v0, v1] := by
  match xs, hl with
  | [x0, x1], _ =>
    have h1 := h.set 0 v0 (by simp)
    have h2 := h1.set 1 v1 (by simp)
    simpa using h2
end Go.Proofs.YtlklmekapbojdaaGreat

namespace Go.Proofs.YtlklmekapbojdaaGreat
open Go.RowKit Go.Deep
set_option maxRecDepth 100000
set_option linter.unusedVariables false
theorem filter_snoc8 {α : Type} {p : α → Bool} {l : List α} {k : Nat} (hk : k < l.length) : (l.take (k + 1)).filter p = (l.take k).filter p ++ (if p l[k] then [l[k]] else []) := by
  rw [List.take_succ_eq_append_getElem hk, List.filter_append]
  congr 1
  cases h : p l[k] <;> simp [h]
def Shut (ms : List Mbr) (S : List ByteArray) (k : Nat) : Prop := ∀ j, j < k → ∀ (h : j < ms.length), inB S ms[j].role = true → inB S ms[j].of = true
/-- what comes back: the names that are reached, in memory of their own -/
def ReachP (w : World) (r : Rls) (role : ByteArray) (e : Ending) (w' : World) : Prop :=
  ∃ h : Hd, e = .returned h.v ∧ Aft w w' ∧ w'.ownsRow w.heap.size 9 1 h.v (r.names.filter (reachB r.members role)).length ((r.names.filter (reachB r.members role)).flatMap nameC)
set_option maxHeartbeats 8000000 in
theorem rreach (r : Rls) (An : Option Addr) (capn : Nat) (Am : Option Addr) (capm : Nat) (role : ByteArray) (w : World) (hn : SlAt w 1 StrR An capn r.names) (hm : SlAt w 2 MbrR Am capm r.members) (hrs : Small role.size) (hmm : r.members.length * 16 ≤ 140737488351000) :
    Calls Tryz.prog 158 #[.agg #[.slice An r.names.length capn, .slice Am r.members.length capm], .string role] w (ReachP w r role) := by
  have hlen := hn.len
  have l1 : w.heap.size < w.heap.size + 1 := by omega
  have l2 : w.heap.size < w.heap.size + 1 + 1 := by omega
  obtain ⟨W0, hW0⟩ : ∃ W0, W0 = w.alloc (.cells #[.slice An r.names.length capn, .slice Am r.members.length capm] 63) := ⟨_, rfl⟩
  have HW0 := Lib.hid hW0
  have zW0 : W0.heap.size = w.heap.size + 1 := by rw [hW0]; simp
  have HR0 := Lib.hid (show ∀ w', Aft W0 w' → (w'.cell? ⟨w.heap.size, 0, none⟩ = some (.slice An r.names.length capn) ∧ w'.cell? ⟨w.heap.size, 1, none⟩ = some (.slice Am r.members.length capm) ∧ w.heap.size < w'.heap.size) from fun w' a => by
    rw [hW0] at a
    obtain ⟨hb, _, hz, _, _⟩ := aft_box a
    exact ⟨by rw [hb]; rfl, by rw [hb]; rfl, hz.1⟩)
  have HS0 := Lib.hid (show ReS w W0 (W0.alloc (.cells #[.string role] 9)) r.members role ⟨some ⟨w.heap.size + 1, 0, none⟩, 1, 1⟩ [role] from
    ⟨(Aft.refl _).alloc _, ⟨by simp [nameC], .inr ⟨W0.heap.size, 1, #[.string role], by rw [zW0]; rfl, by omega, heap_alloc_new W0 _, Nat.le_refl _, by unfold maxLen; omega, rfl, by simp [nameC]⟩⟩, Fnd.start _ _, fun x hx => by simp at hx; subst hx; exact hrs⟩)
  have HNM := Lib.hid (And.intro hn hm)
  have HAW := Lib.hid (show Aft w W0 by rw [hW0]; exact (Aft.refl w).alloc _)
  rw [hW0] at HS0
  clear hn hm hW0
  go_enter Tryz.func158, Tryz.ntmps158
  go_wp2_with fail
  go_loopw [5, 6] (fun u5 u6 wr => ∃ (n : Nat) (h : Hd) (S : List ByteArray), u5 = .slice h.a S.length h.c ∧ u6 = .int .i64 n ∧ n ≤ S.length ∧ ReS w W0 wr r.members role h S ∧ (n = S.length → Shut r.members S r.members.length)) (fun _ u6 _ => r.members.length + 2 - (intOf u6).toNat)
  case atStart => exact ⟨0, ⟨some ⟨w.heap.size + 1, 0, none⟩, 1, 1⟩, [role], rfl, rfl, by simp, by rw [HW0.out]; exact HS0.out, fun h => by simp at h⟩
  case round =>
    clear HS0
    obtain ⟨n, h, S, rfl, rfl, hnS, hs, hsh⟩ := hrel
    have HS := Lib.hid hs
    have HSH := Lib.hid hsh
    have hSl := hs.fnd.len
    clear hs hsh
    by_cases hlt : n < S.length
    · go_wp2_with fail
      go_loopw [5, 7] (fun u5 u7 wr => ∃ (k : Nat) (h : Hd) (S' : List ByteArray), u5 = .slice h.a S'.length h.c ∧ u7 = .int .i64 k ∧ k ≤ r.members.length ∧ S.length ≤ S'.length ∧ ReS w W0 wr r.members role h S' ∧ (S.length = S'.length → Shut r.members S' k)) (fun _ u7 _ => r.members.length - (intOf u7).toNat)
      case atStart => exact ⟨0, h, S, rfl, rfl, Nat.zero_le _, Nat.le_refl _, HS.out, fun _ j hj => absurd hj (Nat.not_lt_zero j)⟩
      case round =>
        obtain ⟨k, h', S', rfl, rfl, hk, hSS, hs', hsh'⟩ := hrel
        have HS' := Lib.hid hs'
        have HSH' := Lib.hid hsh'
        obtain ⟨e0, e1, e2⟩ := HR0.out wr hs'.aft
        have hSl' := hs'.fnd.len
        clear hs' hsh'
        by_cases hlt2 : k < r.members.length
        · obtain ⟨b, off, rfl, hb, t0, t1, hs1, hs2⟩ := mbr_at (mbrs_aft (HAW.out.trans HS'.out.aft) HNM.out.2) hlt2
          obtain ⟨m, hm2⟩ : ∃ m, r.members[k] = m := ⟨_, rfl⟩
          rw [hm2] at t0 t1 hs1 hs2
          have HMM := Lib.hid hm2
          have hlenS : S'.length * 16 ≤ 140737488351232 := by omega
          have aX : Aft wr (wr.alloc (.cells #[.string m.role, .string m.of] 176)) := (Aft.refl _).alloc _
          obtain ⟨i1, hi1⟩ : ∃ i, inB S' m.role = i := ⟨_, rfl⟩
          obtain ⟨i2, hi2⟩ : ∃ i, inB S' m.of = i := ⟨_, rfl⟩
          have K1 := Lib.hid (show ∀ w', Aft wr w' → Calls Tryz.prog 91 #[.slice h'.a S'.length h'.c, .string m.role] w' fun e w'' => e = .returned (.bool i1) ∧ w' = w'' from fun w' a => hi1 ▸ rin_any h'.a h'.c S' m.role w' (strs_aft a (HS'.out.sl hmm)))
          have K2 := Lib.hid (show ∀ w', Aft wr w' → Calls Tryz.prog 91 #[.slice h'.a S'.length h'.c, .string m.of] w' fun e w'' => e = .returned (.bool i2) ∧ w' = w'' from fun w' a => hi2 ▸ rin_any h'.a h'.c S' m.of w' (strs_aft a (HS'.out.sl hmm)))
          have HI := Lib.hid (And.intro hi1 hi2)
          clear hm2 hi1 hi2
          cases i1
          · go_wp2_with (go_at_call 91; refine (K1.out _ aX).mono ?_; rintro e w4 ⟨rfl, rfl⟩)
            go_roundw
            case rel =>
              refine ⟨k + 1, h', S', rfl, by go_num, by omega, hSS, HS'.out.to aX, fun e j hj hj2 => ?_⟩
              rcases Nat.lt_or_ge j k with h1 | h1
              · exact HSH'.out e j h1 hj2
              · have : j = k := by omega
                subst this
                rw [HMM.out, HI.out.1]
                exact fun h => Bool.noConfusion h
            case measure => simp [intOf]; omega
          cases i2
          · have HMEM := Lib.hid (show m ∈ r.members by rw [← HMM.out]; exact List.getElem_mem hlt2)
            have HV := Lib.hid (own_slice HS'.out.own)
            have HOW := Lib.hid (show (wr.alloc (.cells #[.string m.role, .string m.of] 176)).ownsRow (w.heap.size + 1) 9 1 (.slice h'.a S'.length h'.c) S'.length (S'.flatMap nameC) by rw [← HV.out]; exact own_aft HS'.out.own aX)
            obtain ⟨i0, hi0, hz0, hz1, hz2⟩ := info_parts info2Str2
            have HI0 := Lib.hid hi0
            have HZ := Lib.hid (And.intro hz0 (And.intro hz1 hz2))
            have hq7 : S'.length + 1 ≤ maxLen := by unfold maxLen; omega
            have hq8 : (S'.length + 1) * 16 ≤ 140737488355328 := by omega
            clear hi0 hz0 hz1 hz2
            go_wp2_with (first
              | (go_at_call 91; first | (with_reducible refine (K1.out _ aX).mono ?_; rintro e w4 ⟨rfl, rfl⟩) | (with_reducible refine (K2.out _ aX).mono ?_; rintro e w4 ⟨rfl, rfl⟩))
              | (at_builtin; go_must (refine wpList_append_lies _ rfl _ _ 60 rfl (w.heap.size + 1) 9 i0 _ 1 16 Tryz.underlying60 HI0.out HZ.out.1 HZ.out.2.1 HZ.out.2.2 rfl (by decide) (.slice h'.a S'.length h'.c) S'.length (S'.flatMap nameC) rfl (HOW.out.alloc _) ⟨wr.heap.size + 1, 0, none⟩ 1 1 [.string m.of] rfl rfl ?qn (by simp [Value.oneCell']) (by omega) hq7 hq8 ?qb (wr.heap.size + 1 + 1) (by simp) ?_); rotate_left 2; intro gg cap' w5 hown5 hgrow hat hgl))
            case qn => exact World.news_of_block (cs := #[.string m.of]) (t := 9) (fr := (0, 0)) (by have := heap_alloc_new (wr.alloc (.cells #[.string m.role, .string m.of] 176)) (.cells #[.string m.of] 9); simpa using this)
            case qb => simp; omega
            have HS5 := Lib.hid (show ReS w W0 w5 r.members role ⟨some ⟨gg, 0, none⟩, S'.length + 1, cap'⟩ (S' ++ [m.of]) from by
              have o5 : (wr.alloc (.cells #[.string m.role, .string m.of] 176)).ownsRow W0.heap.size 9 1 (.slice h'.a S'.length h'.c) S'.length (S'.flatMap nameC) := by rw [zW0]; exact HOW.out
              refine ⟨aft_grown (o5.alloc _) ((HS'.out.aft.trans aX).alloc _) hgrow, ?_, HS'.out.fnd.add HMEM.out HI.out.1 HI.out.2, fun x hx => ?_⟩
              · rw [List.length_append, List.flatMap_append]; exact hown5
              · rcases List.mem_append.1 hx with h1 | h1
                · exact HS'.out.sm x h1
                · rw [List.mem_singleton] at h1; rw [h1]; exact hs2)
            clear hown5 hgrow hat hgl
            go_wp2_with fail
            go_roundw
            case rel =>
              refine ⟨k + 1, ⟨some ⟨gg, 0, none⟩, S'.length + 1, cap'⟩, S' ++ [m.of], by simp, by go_num, by omega, by simp; omega, HS5.out, fun e => by simp at e; omega⟩
            case measure => simp [intOf]; omega
          · go_wp2_with (go_at_call 91; first | (with_reducible refine (K1.out _ aX).mono ?_; rintro e w4 ⟨rfl, rfl⟩) | (with_reducible refine (K2.out _ aX).mono ?_; rintro e w4 ⟨rfl, rfl⟩))
            go_roundw
            case rel =>
              refine ⟨k + 1, h', S', rfl, by go_num, by omega, hSS, HS'.out.to aX, fun e j hj hj2 => ?_⟩
              rcases Nat.lt_or_ge j k with h1 | h1
              · exact HSH'.out e j h1 hj2
              · have : j = k := by omega
                subst this
                rw [HMM.out, HI.out.2]
                exact fun _ => rfl
            case measure => simp [intOf]; omega
        · go_wp2_with fail
          go_roundw
          case rel =>
            have hkk : k = r.members.length := by omega
            exact ⟨S.length, h', S', rfl, rfl, hSS, HS'.out, fun e => hkk ▸ HSH'.out e⟩
          case measure => simp [intOf]; omega
    · have hnn : n = S.length := by omega
      have HALL := Lib.hid (HS.out.fnd.all fun m hm => by
        obtain ⟨j, hj, rfl⟩ := List.getElem_of_mem hm
        exact HSH.out hnn j hj hj)
      subst hnn
      obtain ⟨q, hq⟩ : ∃ q : ByteArray → Bool, q = reachB r.members role := ⟨_, rfl⟩
      have HQ := Lib.hid hq
      clear hq
      obtain ⟨Wf, rfl⟩ : ∃ Wf, Wf = wr := ⟨_, rfl⟩
      go_wp2_with fail
      go_loopw [9, 10] (fun u9 u10 wr => ∃ (k : Nat) (g : Hd), u9 = .slice g.a ((r.names.take k).filter q).length g.c ∧ u10 = .int .i64 k ∧ k ≤ r.names.length ∧ Aft Wf wr ∧ wr.ownsRow Wf.heap.size 9 1 g.v ((r.names.take k).filter q).length (((r.names.take k).filter q).flatMap nameC)) (fun _ u10 _ => r.names.length - (intOf u10).toNat)
      case atStart => exact ⟨0, ⟨none, 0, 0⟩, rfl, rfl, Nat.zero_le _, Aft.refl _, own_nil _ _ _ _⟩
      case round =>
        obtain ⟨k, g, rfl, rfl, hk, ha, hown⟩ := hrel
        have HA := Lib.hid ha
        have HOWN := Lib.hid hown
        obtain ⟨e0, e1, e2⟩ := HR0.out wr (HS.out.aft.trans ha)
        obtain ⟨lk0, hlk0⟩ : ∃ lk0, ((r.names.take k).filter q) = lk0 := ⟨_, rfl⟩
        rw [hlk0] at HOWN
        have hlkl : lk0.length ≤ r.names.length := by rw [← hlk0]; exact Nat.le_trans (List.length_filter_le _ _) (by rw [List.length_take]; omega)
        rw [hlk0]
        have HLK := Lib.hid hlk0
        clear hlk0 hown ha
        by_cases hlt2 : k < r.names.length
        · obtain ⟨b, off, rfl, hb, c0, hs⟩ := str_at (strs_aft (HAW.out.trans (HS.out.aft.trans HA.out)) HNM.out.1) hlt2
          obtain ⟨x, hx⟩ : ∃ x, r.names[k] = x := ⟨_, rfl⟩
          rw [hx] at c0 hs
          obtain ⟨i, hi⟩ : ∃ i, inB S x = i := ⟨_, rfl⟩
          have HNF := Lib.hid (show ((r.names.take (k + 1)).filter q) = lk0 ++ (if i then [x] else []) by rw [filter_snoc8 hlt2, HLK.out, hx, HQ.out, ← HALL.out, hi])
          have K := Lib.hid (show ∀ w', Aft wr w' → Calls Tryz.prog 91 #[.slice h.a S.length h.c, .string x] w' fun e w'' => e = .returned (.bool i) ∧ w' = w'' from fun w' a => hi ▸ rin_any h.a h.c S x w' (strs_aft (HA.out.trans a) (HS.out.sl hmm)))
          clear hx hi
          cases i
          · go_wp2_with (go_at_call 91; refine (K.out _ (Aft.refl _)).mono ?_; rintro e w4 ⟨rfl, rfl⟩)
            go_roundw
            case rel =>
              refine ⟨k + 1, g, ?_, by go_num, by omega, HA.out, ?_⟩
              · rw [HNF.out]; simp
              · rw [HNF.out]; simpa using HOWN.out
            case measure => simp [intOf]; omega
          · have HV := Lib.hid (own_slice HOWN.out)
            have HOW := Lib.hid (show wr.ownsRow Wf.heap.size 9 1 (.slice g.a lk0.length g.c) lk0.length (lk0.flatMap nameC) by rw [← HV.out]; exact HOWN.out)
            obtain ⟨i0, hi0, hz0, hz1, hz2⟩ := info_parts info2Str2
            have HI0 := Lib.hid hi0
            have HZ := Lib.hid (And.intro hz0 (And.intro hz1 hz2))
            have hq7 : lk0.length + 1 ≤ maxLen := by unfold maxLen; omega
            have hq8 : (lk0.length + 1) * 16 ≤ 140737488355328 := by omega
            have l6 : b < wr.heap.size + 1 := by omega
            clear hi0 hz0 hz1 hz2
            go_wp2_with (first
              | (go_at_call 91; refine (K.out _ (Aft.refl _)).mono ?_; rintro e w4 ⟨rfl, rfl⟩)
              | (at_builtin; go_must (refine wpList_append_lies _ rfl _ _ 60 rfl Wf.heap.size 9 i0 _ 1 16 Tryz.underlying60 HI0.out HZ.out.1 HZ.out.2.1 HZ.out.2.2 rfl (by decide) (.slice g.a lk0.length g.c) lk0.length (lk0.flatMap nameC) rfl (HOW.out.alloc _) ⟨wr.heap.size, 0, none⟩ 1 1 [.string x] rfl rfl ?qn (by simp [Value.oneCell']) (by omega) hq7 hq8 ?qb (wr.heap.size + 1) (by simp) ?_); rotate_left 2; intro gg cap' w5 hown5 hgrow hat hgl))
            case qn => exact World.news_of_block (cs := #[.string x]) (t := 9) (fr := (0, 0)) (heap_alloc_new wr _)
            case qb => have := HA.out.size; simp; omega
            have HA5 := Lib.hid (show Aft Wf w5 from aft_grown (HOW.out.alloc _) (HA.out.alloc _) hgrow)
            have HO5 := Lib.hid hown5
            clear hown5 hgrow hat hgl
            go_wp2_with fail
            go_roundw
            case rel =>
              refine ⟨k + 1, ⟨some ⟨gg, 0, none⟩, lk0.length + 1, cap'⟩, ?_, by go_num, by omega, HA5.out, ?_⟩
              · rw [HNF.out]; simp
              · rw [HNF.out]
                simp only [if_true, List.length_append, List.length_singleton, List.flatMap_append]
                exact HO5.out
            case measure => simp [intOf]; omega
        · have HP := Lib.hid (show ReachP w r role (.returned (.slice g.a lk0.length g.c)) wr from by
            have hl : lk0 = r.names.filter (reachB r.members role) := by rw [← HLK.out, List.take_of_length_le (by omega), HQ.out]
            refine ⟨g, by rw [own_slice HOWN.out], HAW.out.trans (HS.out.aft.trans HA.out), ?_⟩
            rw [← hl]
            exact own_down HOWN.out (by have := (HAW.out.trans HS.out.aft).size; omega))
          go_wp2_with fail
          go_ret
          exact HP.out
end Go.Proofs.YtlklmekapbojdaaGreat

namespace Go.Proofs.YtlklmekapbojdaaGreat
open Go.RowKit Go.Deep
set_option maxRecDepth 100000
set_option linter.unusedVariables false
def mIn (r : Rls) (m : Mbr) : Bool := inB r.names m.role && inB r.names m.of
def rowsR (r : Rls) : Bool := r.names.all nameB && risesB cmpS r.names && (r.members.all (mIn r) && risesB cmpM r.members)
theorem rightR_rows (r : Rls) : rightR r = (decide (r.names.length ≤ 16) && decide (r.members.length ≤ 256) && (rowsR r && r.members.all fun m => !reachB r.members m.of m.role)) := by
  have e : r.members.all (mbrOk r) = (r.members.all (mIn r) && r.members.all fun m => !reachB r.members m.of m.role) := by
    rw [Bool.eq_iff_iff]
    simp only [Bool.and_eq_true, List.all_eq_true]
    constructor
    · intro h
      refine ⟨fun m hm => ?_, fun m hm => ?_⟩
      · have := h m hm; unfold mbrOk at this; unfold mIn; simp only [Bool.and_eq_true] at this ⊢; exact this.1
      · have := h m hm; unfold mbrOk at this; simp only [Bool.and_eq_true] at this; exact this.2
    · intro h m hm
      have h1 := h.1 m hm
      have h2 := h.2 m hm
      unfold mIn at h1; unfold mbrOk
      simp only [Bool.and_eq_true] at h1 ⊢
      exact ⟨h1, h2⟩
  unfold rightR rowsR
  rw [e]
  generalize decide (r.names.length ≤ 16) = a
  generalize decide (r.members.length ≤ 256) = b
  generalize risesB cmpS r.names = c
  generalize risesB cmpM r.members = d
  generalize r.names.all nameB = x
  generalize r.members.all (mIn r) = y
  generalize (r.members.all fun m => !reachB r.members m.of m.role) = z
  revert a b c d x y z
  decide
theorem reachB_eq {ms : List Mbr} {s a b : ByteArray} (h : eqS a b = true) : reachB ms s a = reachB ms s b := by
  unfold reachB
  rw [(eqS_txt a b).1 h]
theorem inB_filter (ms : List Mbr) (s t : ByteArray) (l : List ByteArray) : inB (l.filter (reachB ms s)) t = (reachB ms s t && inB l t) := by
  unfold inB
  induction l with
  | nil => simp
  | cons x l ih =>
    rw [List.filter_cons, List.any_cons]
    cases h : eqS x t
    · cases h2 : reachB ms s x
      · simp [ih]
      · simp [ih, h]
    · cases h2 : reachB ms s x
      · rw [reachB_eq h] at h2
        rw [if_neg (by simp), ih, h2]; simp
      · have h3 := h2
        rw [reachB_eq h] at h3
        rw [if_pos (by simp), List.any_cons, h, h3]; simp
theorem rowsR_name (r : Rls) (k : Nat) (hk : k < r.names.length) (h : nameB r.names[k] = false) : rowsR r = false := by
  unfold rowsR; rw [all_false _ _ k hk h]; rfl
theorem rowsR_nrise (r : Rls) (k : Nat) (hk : k < r.names.length) (h0 : 0 < k) (h : ltS (r.names[k - 1]'(by omega)) r.names[k] = false) : rowsR r = false := by
  have h1 : k - 1 + 1 < r.names.length := by omega
  have e : (r.names[k - 1 + 1]'h1) = r.names[k] := by congr 1; omega
  unfold rowsR
  rw [risesB_false cmpS _ (k - 1) h1]
  · simp
  · rw [e]
    rw [← cmpS_lt] at h
    have := of_decide_eq_false h
    omega
theorem rowsR_in (r : Rls) (k : Nat) (hk : k < r.members.length) (h : mIn r r.members[k] = false) : rowsR r = false := by
  unfold rowsR; rw [all_false _ _ k hk h]; simp
theorem rowsR_mrise (r : Rls) (k : Nat) (hk : k < r.members.length) (h0 : 0 < k) (h : ¬ cmpM (r.members[k - 1]'(by omega)) r.members[k] < 0) : rowsR r = false := by
  have h1 : k - 1 + 1 < r.members.length := by omega
  have e : (r.members[k - 1 + 1]'h1) = r.members[k] := by congr 1; omega
  unfold rowsR
  rw [risesB_false cmpM _ (k - 1) h1]
  · simp
  · rw [e]; omega
theorem rises_pred8 {α : Type} (c : α → α → Int) (l : List α) (h : ∀ k, 1 ≤ k → ∀ (hk : k < l.length), c (l[k - 1]'(by omega)) l[k] < 0) : risesB c l = true :=
  (risesB_iff c l).2 fun k hk => h (k + 1) (by omega) hk
set_option maxHeartbeats 8000000 in
theorem rrows8 (r : Rls) (An : Option Addr) (capn : Nat) (Am : Option Addr) (capm : Nat) (w : World) (hn : SlAt w 1 StrR An capn r.names) (hm : SlAt w 2 MbrR Am capm r.members) :
    Calls Tryz.prog 216 #[.agg #[.slice An r.names.length capn, .slice Am r.members.length capm]] w fun e w' => e = .returned (.bool (rowsR r)) ∧ Aft w w' := by
  have hlen := hn.len
  have hlen2 := hm.len
  have HN := Lib.hid hn
  have HM := Lib.hid hm
  clear hn hm
  go_enter Tryz.func216, Tryz.ntmps216
  go_wp2_with fail
  go_loopw [3] (fun i wr => ∃ k : Nat, k ≤ r.names.length ∧ i = .int .i64 k ∧ Aft (w.alloc (.cells #[.slice An r.names.length capn, .slice Am r.members.length capm] 63)) wr ∧ ∀ j, j < k → ∀ (hj : j < r.names.length), nameB r.names[j] = true ∧ (0 < j → ltS (r.names[j - 1]'(by omega)) r.names[j] = true)) (fun i _ => r.names.length - (intOf i).toNat)
  case atStart => exact ⟨0, Nat.zero_le _, rfl, Aft.refl _, fun j hj => absurd hj (Nat.not_lt_zero j)⟩
  case round =>
    obtain ⟨k, hk, rfl, ha, hp⟩ := hrel
    have HP := Lib.hid hp; clear hp
    obtain ⟨hbox, hfr, hz, hzk, HA⟩ := aft_box ha
    have HAB := Lib.hid ha
    clear ha
    by_cases hlt : k < r.names.length
    · obtain ⟨b, off, rfl, hb, c0, hs⟩ := str_at (strs_aft HA.out HN.out) hlt
      obtain ⟨x, hx⟩ : ∃ x, r.names[k] = x := ⟨_, rfl⟩
      rw [hx] at c0 hs
      have HX := Lib.hid hx
      obtain ⟨q, hq⟩ : ∃ q, nameB x = q := ⟨_, rfl⟩
      have HQ := Lib.hid (show nameB r.names[k] = q by rw [hx]; exact hq)
      have CN := Lib.hid (show ∀ y : Lat wr, Calls Tryz.prog 124 #[.string x] (lat wr y) fun e w'' => e = .returned (.bool q) ∧ lat wr y = w'' from fun y => hq ▸ rname_any x (lat wr y) hs.max)
      clear hx hq
      cases q
      · have HF := Lib.hid (rowsR_name r k hlt HQ.out)
        go_wp2_with fail
        refine wp_region_lat (by kernel_rfl) (by kernel_rfl) ?_
        repeat (go_big_quiet_step ((go_at_call 124; exact Calls.lat_same (CN.out _))))
        refine wpQuiet_nil ?_
        intro _ hw'
        obtain ⟨y, hw''⟩ := hw'
        subst hw''
        go_wp2_with fail
        go_ret
        exact ⟨by rw [HF.out]; rfl, HA.out.lat y⟩
      by_cases h0 : 0 < k
      · have hk1 : k - 1 < r.names.length := by omega
        obtain ⟨b', off', hA', hb', e0, _⟩ := str_at (strs_aft HA.out HN.out) hk1
        simp only [Option.some.injEq, Addr.mk.injEq, and_true] at hA'
        obtain ⟨rfl, rfl⟩ := hA'
        obtain ⟨x', hx'⟩ : ∃ x', (r.names[k - 1]'hk1) = x' := ⟨_, rfl⟩
        rw [hx'] at e0
        have HX' := Lib.hid hx'
        have w1 : IntKind.i64.wrap ((k : Int) - 1) = (k : Int) - 1 := IntWalk.i64_in _ (by omega)
        have w2 : (0 : Int) ≤ (k : Int) - 1 := by omega
        have w3 : ((k : Int) - 1).toNat = k - 1 := by omega
        have w4 : (k : Int) - 1 < (r.names.length : Int) := by omega
        have w5 : decide ((0 : Int) < (k : Int)) = true := decide_eq_true (by omega)
        clear hx'
        cases hL : ltS x' x
        · have hL' : Op.bytesLess x'.toList x.toList = false := hL
          have HF := Lib.hid (rowsR_nrise r k hlt h0 (by rw [HX.out, HX'.out]; exact hL))
          clear hL
          go_wp2_with fail
          refine wp_region_lat (by kernel_rfl) (by kernel_rfl) ?_
          repeat (go_big_quiet_step ((go_at_call 124; exact Calls.lat_same (CN.out _))))
          refine wpQuiet_nil ?_
          intro _ hw'
          obtain ⟨y, hw''⟩ := hw'
          subst hw''
          go_wp2_with fail
          go_ret
          exact ⟨by rw [HF.out]; rfl, HA.out.lat y⟩
        · have hL' : Op.bytesLess x'.toList x.toList = true := hL
          have HNX := Lib.hid (ext_lt (p := fun j => ∀ (hj : j < r.names.length), nameB r.names[j] = true ∧ (0 < j → ltS (r.names[j - 1]'(by omega)) r.names[j] = true)) HP.out (fun _ => ⟨HQ.out, fun _ => by rw [HX.out, HX'.out]; exact hL⟩))
          clear hL
          go_wp2_with fail
          refine wp_region_lat (by kernel_rfl) (by kernel_rfl) ?_
          repeat (go_big_quiet_step ((go_at_call 124; exact Calls.lat_same (CN.out _))))
          refine wpQuiet_nil ?_
          intro _ hw'
          obtain ⟨y, hw''⟩ := hw'
          subst hw''
          go_wp2_with fail
          go_roundw
          case rel => exact ⟨k + 1, by omega, by go_num, HAB.out.lat y, HNX.out⟩
          case measure => simp [intOf]; omega
      · have w5 : decide ((0 : Int) < (k : Int)) = false := decide_eq_false (by omega)
        have HNX := Lib.hid (ext_lt (p := fun j => ∀ (hj : j < r.names.length), nameB r.names[j] = true ∧ (0 < j → ltS (r.names[j - 1]'(by omega)) r.names[j] = true)) HP.out (fun _ => ⟨HQ.out, fun h => absurd h h0⟩))
        go_wp2_with fail
        refine wp_region_lat (by kernel_rfl) (by kernel_rfl) ?_
        repeat (go_big_quiet_step ((go_at_call 124; exact Calls.lat_same (CN.out _))))
        refine wpQuiet_nil ?_
        intro _ hw'
        obtain ⟨y, hw''⟩ := hw'
        subst hw''
        go_wp2_with fail
        go_roundw
        case rel => exact ⟨k + 1, by omega, by go_num, HAB.out.lat y, HNX.out⟩
        case measure => simp [intOf]; omega
    have HR := Lib.hid (show rowsR r = (r.members.all (mIn r) && risesB cmpM r.members) by
      unfold rowsR
      rw [all_true _ _ fun j hj => (HP.out j (by omega) hj).1, rises_pred8 cmpS _ fun j hj1 hj => (cmpS_lt_iff _ _).2 ((HP.out j (by omega) hj).2 (by omega))]
      rfl)
    clear HP
    go_wp2_with fail
    go_loopw [4] (fun i wr => ∃ k : Nat, k ≤ r.members.length ∧ i = .int .i64 k ∧ Aft (w.alloc (.cells #[.slice An r.names.length capn, .slice Am r.members.length capm] 63)) wr ∧ ∀ j, j < k → ∀ (hj : j < r.members.length), mIn r r.members[j] = true ∧ (0 < j → cmpM (r.members[j - 1]'(by omega)) r.members[j] < 0)) (fun i _ => r.members.length - (intOf i).toNat)
    case atStart => exact ⟨0, Nat.zero_le _, rfl, HAB.out, fun j hj => absurd hj (Nat.not_lt_zero j)⟩
    case round =>
      clear hbox hfr hz hzk HA HAB
      obtain ⟨k2, hk2, rfl, ha, hp⟩ := hrel
      have HP := Lib.hid hp; clear hp
      obtain ⟨hbox, hfr, hz, hzk, HA⟩ := aft_box ha
      have HAB := Lib.hid ha
      clear ha
      by_cases hlt2 : k2 < r.members.length
      · obtain ⟨b, off, rfl, hb, c0, c1, hs1, hs2⟩ := mbr_at (mbrs_aft HA.out HM.out) hlt2
        obtain ⟨p, hpp⟩ : ∃ p, r.members[k2] = p := ⟨_, rfl⟩
        rw [hpp] at c0 c1 hs1 hs2
        have HPP := Lib.hid hpp
        obtain ⟨i1, hi1⟩ : ∃ i, inB r.names p.role = i := ⟨_, rfl⟩
        obtain ⟨i2, hi2⟩ : ∃ i, inB r.names p.of = i := ⟨_, rfl⟩
        have aX : Aft w (wr.alloc (.cells #[.string p.role, .string p.of] 176)) := HA.out.alloc _
        have K1 := Lib.hid (show Calls Tryz.prog 91 #[.slice An r.names.length capn, .string p.role] (wr.alloc (.cells #[.string p.role, .string p.of] 176)) fun e w'' => e = .returned (.bool i1) ∧ _ = w'' from (rin_any An capn r.names p.role _ (strs_aft aX HN.out)).mono fun e w'' ⟨he, hw⟩ => ⟨by rw [he, ← hi1]; rfl, hw⟩)
        have K2 := Lib.hid (show Calls Tryz.prog 91 #[.slice An r.names.length capn, .string p.of] (wr.alloc (.cells #[.string p.role, .string p.of] 176)) fun e w'' => e = .returned (.bool i2) ∧ _ = w'' from (rin_any An capn r.names p.of _ (strs_aft aX HN.out)).mono fun e w'' ⟨he, hw⟩ => ⟨by rw [he, ← hi2]; rfl, hw⟩)
        have HI := Lib.hid (show mIn r r.members[k2] = (i1 && i2) by rw [hpp]; unfold mIn; rw [hi1, hi2])
        have HAX := Lib.hid aX
        clear hpp hi1 hi2 aX
        cases i1
        · have HF := Lib.hid (rowsR_in r k2 hlt2 (by rw [HI.out]; rfl))
          go_wp2_with (go_at_call 91; refine K1.out.mono ?_; rintro e w4 ⟨rfl, rfl⟩)
          go_ret
          exact ⟨by rw [HF.out]; rfl, HAX.out⟩
        cases i2
        · have HF := Lib.hid (rowsR_in r k2 hlt2 (by rw [HI.out]; rfl))
          go_wp2_with (go_at_call 91; first | (with_reducible refine K1.out.mono ?_; rintro e w4 ⟨rfl, rfl⟩) | (with_reducible refine K2.out.mono ?_; rintro e w4 ⟨rfl, rfl⟩))
          go_ret
          exact ⟨by rw [HF.out]; rfl, HAX.out⟩
        have l5 : b < wr.heap.size + 1 := by omega
        by_cases h0 : 0 < k2
        · have hk1 : k2 - 1 < r.members.length := by omega
          obtain ⟨b', off', hA', hb', e0, e1, _, _⟩ := mbr_at (mbrs_aft HA.out HM.out) hk1
          simp only [Option.some.injEq, Addr.mk.injEq, and_true] at hA'
          obtain ⟨rfl, rfl⟩ := hA'
          obtain ⟨p', hpp'⟩ : ∃ p', (r.members[k2 - 1]'hk1) = p' := ⟨_, rfl⟩
          rw [hpp'] at e0 e1
          have HO := Lib.hid (show cmpM (r.members[k2 - 1]'hk1) r.members[k2] = or2 (cmpS p'.role p.role) (cmpS p'.of p.of) by rw [HPP.out, hpp']; rfl)
          have HOL := Lib.hid (or2_lt p'.role p.role p'.of p.of)
          clear hpp'
          have w1 : IntKind.i64.wrap ((k2 : Int) - 1) = (k2 : Int) - 1 := IntWalk.i64_in _ (by omega)
          have w2 : (0 : Int) ≤ (k2 : Int) - 1 := by omega
          have w3 : ((k2 : Int) - 1).toNat = k2 - 1 := by omega
          have w4 : (k2 : Int) - 1 < (r.members.length : Int) := by omega
          have w5 : decide ((0 : Int) < (k2 : Int)) = true := decide_eq_true (by omega)
          cases hG : (!(ltS p'.role p.role || eqS p'.role p.role))
          · have hG' : (Op.bytesLess p'.role.toList p.role.toList || p'.role.toList == p.role.toList) = true := by have h1 := hG; rw [Bool.not_eq_false'] at h1; exact h1
            cases hE : eqS p'.role p.role
            · have hE' : (p'.role.toList == p.role.toList) = false := hE
              have hG2 : Op.bytesLess p'.role.toList p.role.toList = true := by rw [hE'] at hG'; simpa using hG'
              have HNX := Lib.hid (ext_lt (p := fun j => ∀ (hj : j < r.members.length), mIn r r.members[j] = true ∧ (0 < j → cmpM (r.members[j - 1]'(by omega)) r.members[j] < 0)) HP.out (fun _ => ⟨by rw [HI.out]; rfl, fun _ => by rw [HO.out]; exact of_decide_eq_true (by rw [HOL.out, hG, hE]; rfl)⟩))
              clear hG hE
              go_wp2_with (go_at_call 91; first | (with_reducible refine K1.out.mono ?_; rintro e w4 ⟨rfl, rfl⟩) | (with_reducible refine K2.out.mono ?_; rintro e w4 ⟨rfl, rfl⟩))
              refine wp_region_lat (by kernel_rfl) (by kernel_rfl) ?_
              repeat (go_big_quiet_step (fail))
              refine wpQuiet_nil ?_
              intro _ hw'
              obtain ⟨y, hw''⟩ := hw'
              subst hw''
              go_wp2_with fail
              go_roundw
              case rel => exact ⟨k2 + 1, by omega, by go_num, (HAB.out.alloc _).lat y, HNX.out⟩
              case measure => simp [intOf]; omega
            · have hE' : (p'.role.toList == p.role.toList) = true := hE
              cases hL : ltS p'.of p.of
              · have hL' : Op.bytesLess p'.of.toList p.of.toList = false := hL
                have HF := Lib.hid (rowsR_mrise r k2 hlt2 h0 (by rw [HO.out]; exact of_decide_eq_false (by rw [HOL.out, hG, hE, hL]; rfl)))
                clear hG hE hL
                go_wp2_with (go_at_call 91; first | (with_reducible refine K1.out.mono ?_; rintro e w4 ⟨rfl, rfl⟩) | (with_reducible refine K2.out.mono ?_; rintro e w4 ⟨rfl, rfl⟩))
                refine wp_region_lat (by kernel_rfl) (by kernel_rfl) ?_
                repeat (go_big_quiet_step (fail))
                refine wpQuiet_nil ?_
                intro _ hw'
                obtain ⟨y, hw''⟩ := hw'
                subst hw''
                go_wp2_with fail
                go_ret
                exact ⟨by rw [HF.out]; rfl, HAX.out.lat y⟩
              · have hL' : Op.bytesLess p'.of.toList p.of.toList = true := hL
                have HNX := Lib.hid (ext_lt (p := fun j => ∀ (hj : j < r.members.length), mIn r r.members[j] = true ∧ (0 < j → cmpM (r.members[j - 1]'(by omega)) r.members[j] < 0)) HP.out (fun _ => ⟨by rw [HI.out]; rfl, fun _ => by rw [HO.out]; exact of_decide_eq_true (by rw [HOL.out, hG, hE, hL]; rfl)⟩))
                clear hG hE hL
                go_wp2_with (go_at_call 91; first | (with_reducible refine K1.out.mono ?_; rintro e w4 ⟨rfl, rfl⟩) | (with_reducible refine K2.out.mono ?_; rintro e w4 ⟨rfl, rfl⟩))
                refine wp_region_lat (by kernel_rfl) (by kernel_rfl) ?_
                repeat (go_big_quiet_step (fail))
                refine wpQuiet_nil ?_
                intro _ hw'
                obtain ⟨y, hw''⟩ := hw'
                subst hw''
                go_wp2_with fail
                go_roundw
                case rel => exact ⟨k2 + 1, by omega, by go_num, (HAB.out.alloc _).lat y, HNX.out⟩
                case measure => simp [intOf]; omega
          · have hG' : (Op.bytesLess p'.role.toList p.role.toList || p'.role.toList == p.role.toList) = false := by have h1 := hG; rw [Bool.not_eq_true'] at h1; exact h1
            have HF := Lib.hid (rowsR_mrise r k2 hlt2 h0 (by rw [HO.out]; exact of_decide_eq_false (by rw [HOL.out, hG]; rfl)))
            clear hG
            go_wp2_with (go_at_call 91; first | (with_reducible refine K1.out.mono ?_; rintro e w4 ⟨rfl, rfl⟩) | (with_reducible refine K2.out.mono ?_; rintro e w4 ⟨rfl, rfl⟩))
            refine wp_region_lat (by kernel_rfl) (by kernel_rfl) ?_
            repeat (go_big_quiet_step (fail))
            refine wpQuiet_nil ?_
            intro _ hw'
            obtain ⟨y, hw''⟩ := hw'
            subst hw''
            go_wp2_with fail
            go_ret
            exact ⟨by rw [HF.out]; rfl, HAX.out.lat y⟩
        · have w5 : decide ((0 : Int) < (k2 : Int)) = false := decide_eq_false (by omega)
          have HNX := Lib.hid (ext_lt (p := fun j => ∀ (hj : j < r.members.length), mIn r r.members[j] = true ∧ (0 < j → cmpM (r.members[j - 1]'(by omega)) r.members[j] < 0)) HP.out (fun _ => ⟨by rw [HI.out]; rfl, fun h => absurd h h0⟩))
          go_wp2_with (go_at_call 91; first | (with_reducible refine K1.out.mono ?_; rintro e w4 ⟨rfl, rfl⟩) | (with_reducible refine K2.out.mono ?_; rintro e w4 ⟨rfl, rfl⟩))
          refine wp_region_lat (by kernel_rfl) (by kernel_rfl) ?_
          repeat (go_big_quiet_step (fail))
          refine wpQuiet_nil ?_
          intro _ hw'
          obtain ⟨y, hw''⟩ := hw'
          subst hw''
          go_wp2_with fail
          go_roundw
          case rel => exact ⟨k2 + 1, by omega, by go_num, (HAB.out.alloc _).lat y, HNX.out⟩
          case measure => simp [intOf]; omega
      · have HF := Lib.hid (show rowsR r = true by
          rw [HR.out, all_true _ _ fun j hj => (HP.out j (by omega) hj).1, rises_pred8 cmpM _ fun j hj1 hj => (HP.out j (by omega) hj).2 (by omega)]
          rfl)
        go_wp2_with fail
        go_ret
        exact ⟨by rw [HF.out]; rfl, HA.out⟩
end Go.Proofs.YtlklmekapbojdaaGreat

namespace Go.Proofs.YtlklmekapbojdaaGreat
open Go.RowKit
set_option maxRecDepth 100000
set_option linter.unusedVariables false

set_option maxHeartbeats 1000000 in
theorem rone_any (name : ByteArray) (kind : Int) (null : Bool) (w : World) (hs : name.size ≤ maxLen) :
    Calls Tryz.prog 177 #[.agg #[.string name, .int .i64 kind, .bool null]] w fun e w' => e = .returned (.bool (colOk ⟨name, kind, null⟩)) ∧ Aft w w' := by
  go_enter Tryz.func177, Tryz.ntmps177
  go_wp2_with (go_at_call 124; refine (rname_any _ _ hs).mono ?_; rintro e w' ⟨rfl, rfl⟩)
  all_goals
    go_ret
    refine ⟨Eq.trans (b := .returned (.bool _)) rfl (ret_of (bool_of ?_)), (Aft.refl _).alloc _⟩
    simp_all [colOk]

set_option maxHeartbeats 2000000 in
theorem rcols_any (A : Option Addr) (cap : Nat) (l : List Col) (w : World) (h : SlAt w 3 ColR A cap l) :
    Calls Tryz.prog 116 #[.slice A l.length cap] w fun e w' => e = .returned (.bool (colsOk l)) ∧ Aft w w' := by
  have hlen := h.len
  by_cases h1 : l.length < 1 ∨ 8 < l.length
  · have H := Lib.hid (show colsOk l = false by unfold colsOk; rcases h1 with h1 | h1 <;> simp <;> intros <;> omega)
    rcases h1 with h1 | h1
    all_goals
      go_enter Tryz.func116, Tryz.ntmps116
      go_wp2_with fail
      go_ret
      exact ⟨by rw [H.out]; rfl, Aft.refl _⟩
  · have g1 : 1 ≤ l.length := by omega
    have g8 : l.length ≤ 8 := by omega
    clear h1
    go_enter Tryz.func116, Tryz.ntmps116
    go_wp2_with fail
    go_loopw [3] (fun i wr => ∃ k : Nat, k ≤ l.length ∧ i = .int .i64 k ∧ Aft w wr ∧ ∀ j, j < k → ∀ (hj : j < l.length), (colOk l[j] && decide (idxP (fun d => eqS d.name l[j].name) (l.take j) < 0)) = true) (fun i _ => l.length - (intOf i).toNat)
    case atStart => exact ⟨0, Nat.zero_le _, rfl, Aft.refl _, fun j hj => absurd hj (Nat.not_lt_zero j)⟩
    case round =>
      obtain ⟨k, hk, rfl, ha, hp⟩ := hrel
      have HA := Lib.hid ha
      have HP := Lib.hid hp; clear hp
      by_cases hlt : k < l.length
      · have hsl := cols_aft ha h
        clear ha
        obtain ⟨b, off, rfl, hb, c0, c1, c2, hs⟩ := col_at hsl hlt
        have Cone := Lib.hid (fun w => rone_any l[k].name l[k].kind l[k].null w hs.max)
        obtain ⟨r, hr⟩ : ∃ r, idxP (fun d => eqS d.name l[k].name) (l.take k) = r := ⟨_, rfl⟩
        have Ccol := Lib.hid (show ∀ x : Lat wr, Calls Tryz.prog 60 #[.slice (some ⟨b, off, none⟩) k cap, .string l[k].name] (lat wr x) fun e w' => e = .returned (.int .i64 r) ∧ lat wr x = w' by
          intro x
          have := rcol_any _ _ (l.take k) l[k].name (lat wr x) (cols_aft ((Aft.refl wr).lat x) (hsl.take k))
          rwa [List.length_take, Nat.min_eq_left (by omega), hr] at this)
        have hcap : k ≤ cap := Nat.le_trans hk hsl.1
        have HR := Lib.hid hr
        clear hr hsl
        generalize hcc : colOk ⟨l[k].name, l[k].kind, l[k].null⟩ = cc at Cone
        have HC := Lib.hid hcc
        clear hcc
        cases cc
        · go_wp2_with fail
          refine wp_region_lat (by kernel_rfl) (by kernel_rfl) ?_
          repeat (go_big_quiet_step ((first | (go_at_call 177; exact Calls.lat_of (Cone.out _)) | (go_at_call 60; exact Calls.lat_same (Ccol.out _)))))
          refine wpQuiet_nil ?_
          intro _ hw'
          obtain ⟨x, hw''⟩ := hw'
          subst hw''
          go_wp2_with fail
          go_ret
          exact ⟨by rw [colsOk_false l k hlt (by rw [show colOk l[k] = false from HC.out]; rfl)]; rfl, HA.out.lat x⟩
        · by_cases hr0 : 0 ≤ r
          · go_wp2_with fail
            refine wp_region_lat (by kernel_rfl) (by kernel_rfl) ?_
            repeat (go_big_quiet_step ((first | (go_at_call 177; exact Calls.lat_of (Cone.out _)) | (go_at_call 60; exact Calls.lat_same (Ccol.out _)))))
            refine wpQuiet_nil ?_
            intro _ hw'
            obtain ⟨x, hw''⟩ := hw'
            subst hw''
            go_wp2_with fail
            go_ret
            exact ⟨by rw [colsOk_false l k hlt (by rw [HR.out, decide_eq_false (by omega), Bool.and_false])]; rfl, HA.out.lat x⟩
          · have hr1 : r < 0 := by omega
            go_wp2_with fail
            refine wp_region_lat (by kernel_rfl) (by kernel_rfl) ?_
            repeat (go_big_quiet_step ((first | (go_at_call 177; exact Calls.lat_of (Cone.out _)) | (go_at_call 60; exact Calls.lat_same (Ccol.out _)))))
            refine wpQuiet_nil ?_
            intro _ hw'
            obtain ⟨x, hw''⟩ := hw'
            subst hw''
            go_wp2_with fail
            go_roundw
            case rel => exact ⟨k + 1, by omega, by go_num, HA.out.lat x, ext_lt (p := fun j => ∀ (hj : j < l.length), (colOk l[j] && decide (idxP (fun d => eqS d.name l[j].name) (l.take j) < 0)) = true) HP.out (fun _ => by rw [HR.out, decide_eq_true hr1, show colOk l[k] = true from HC.out]; rfl)⟩
            case measure => simp [intOf]; omega
      · go_wp2_with fail
        go_ret
        exact ⟨by rw [colsOk_true l g1 g8 (fun j hj hj' => HP.out j (by omega) hj')]; rfl, HA.out⟩
end Go.Proofs.YtlklmekapbojdaaGreat

namespace Go.Proofs.YtlklmekapbojdaaGreat
open Go.RowKit
set_option maxRecDepth 100000
set_option linter.unusedVariables false

set_option maxHeartbeats 4000000 in
theorem rfits_any (A : Option Addr) (cap : Nat) (l : List Col) (r : Rul) (A2 : Option Addr) (cap2 : Nat) (w : World) (h : SlAt w 3 ColR A cap l) (h2 : SlAt w 1 StrR A2 cap2 r.cols)
    (hn : Small r.name.size) (hs : Small r.schema.size) (ht : Small r.table.size) (hk' : Small r.key.size) :
    Calls Tryz.prog 131 #[.slice A l.length cap, .agg #[.string r.name, .int .i64 r.kind, .slice A2 r.cols.length cap2, .int .i64 r.low, .int .i64 r.high, .string r.schema, .string r.table, .string r.key]] w
      fun e w' => e = .returned (.bool (fitsOk l r)) ∧ Aft w w' := by
  obtain ⟨name, kind, cs, low, high, schema, table, key⟩ := r
  simp only at h2 hn hs ht hk' ⊢
  have hlen := h.len
  have hlen2 := h2.len
  go_enter Tryz.func131, Tryz.ntmps131
  go_wp2_with fail
  go_loopw [5] (fun i wr => ∃ k : Nat, k ≤ cs.length ∧ i = .int .i64 k ∧ Aft (w.alloc (.cells #[.string name, .int .i64 kind, .slice A2 cs.length cap2, .int .i64 low, .int .i64 high, .string schema, .string table, .string key] 121)) wr ∧ ∀ j, j < k → ∀ (hj : j < cs.length), (decide (0 ≤ colAt l cs[j]) && !(hasS (cs.take j) cs[j])) = true) (fun i _ => cs.length - (intOf i).toNat)
  case atStart => exact ⟨0, Nat.zero_le _, rfl, Aft.refl _, fun j hj => absurd hj (Nat.not_lt_zero j)⟩
  case round =>
    obtain ⟨k, hk, rfl, ha, hp⟩ := hrel
    obtain ⟨hbox, hfr, hz, hzk, HA⟩ := aft_box ha
    have HAB := Lib.hid ha
    have HP := Lib.hid hp; clear hp
    have hsl := cols_aft HA.out h
    have hsl2 := strs_aft HA.out h2
    clear ha
    by_cases hlt : k < cs.length
    · obtain ⟨b, off, rfl, hb, c0, hss⟩ := str_at hsl2 hlt
      obtain ⟨i, hi⟩ : ∃ i, colAt l cs[k] = i := ⟨_, rfl⟩
      obtain ⟨m, hm⟩ : ∃ m, hasS (cs.take k) cs[k] = m := ⟨_, rfl⟩
      have Ccol := Lib.hid (show ∀ x : Lat wr, Calls Tryz.prog 60 #[.slice A l.length cap, .string cs[k]] (lat wr x) fun e w' => e = .returned (.int .i64 i) ∧ lat wr x = w' from
        fun x => (rcol_any A cap l cs[k] (lat wr x) (cols_aft ((Aft.refl wr).lat x) hsl)).mono fun e w' ⟨he, hw⟩ => ⟨he.trans (by rw [← hi]; rfl), hw⟩)
      have Cin := Lib.hid (show ∀ x : Lat wr, Calls Tryz.prog 91 #[.slice (some ⟨b, off, none⟩) k cap2, .string cs[k]] (lat wr x) fun e w' => e = .returned (.bool m) ∧ lat wr x = w' by
        intro x
        have := rin_any _ _ (cs.take k) cs[k] (lat wr x) (strs_aft ((Aft.refl wr).lat x) (hsl2.take k))
        rw [List.length_take, Nat.min_eq_left (by omega)] at this
        exact this.mono fun e w' ⟨he, hw⟩ => ⟨he.trans (by rw [← hm]; rfl), hw⟩)
      have hcap : k ≤ cap2 := Nat.le_trans hk hsl2.1
      have HI := Lib.hid hi
      have HM := Lib.hid hm
      clear hi hm hsl hsl2
      by_cases hi0 : i < 0
      · go_wp2_with fail
        refine wp_region_lat (by kernel_rfl) (by kernel_rfl) ?_
        repeat (go_big_quiet_step ((first | (go_at_call 60; exact Calls.lat_same (Ccol.out _)) | (go_at_call 91; exact Calls.lat_same (Cin.out _)))))
        refine wpQuiet_nil ?_
        intro _ hw'
        obtain ⟨x, hw''⟩ := hw'
        subst hw''
        go_wp2_with fail
        go_ret
        exact ⟨by rw [show fitsOk l ⟨name, kind, cs, low, high, schema, table, key⟩ = false by unfold fitsOk; rw [rcOk_false l cs k hlt (by rw [HI.out, decide_eq_false (by omega)]; rfl)]; rfl]; rfl, HA.out.lat x⟩
      · have hi1 : 0 ≤ i := by omega
        have hd : decide (i < 0) = false := decide_eq_false hi0
        cases m
        · go_wp2_with fail
          refine wp_region_lat (by kernel_rfl) (by kernel_rfl) ?_
          repeat (go_big_quiet_step ((first | (go_at_call 60; exact Calls.lat_same (Ccol.out _)) | (go_at_call 91; exact Calls.lat_same (Cin.out _)))))
          refine wpQuiet_nil ?_
          intro _ hw'
          obtain ⟨x, hw''⟩ := hw'
          subst hw''
          go_wp2_with fail
          go_roundw
          case rel => exact ⟨k + 1, by omega, by go_num, HAB.out.lat x, ext_lt (p := fun j => ∀ (hj : j < cs.length), (decide (0 ≤ colAt l cs[j]) && !(hasS (cs.take j) cs[j])) = true) HP.out (fun _ => by rw [HI.out, HM.out, decide_eq_true hi1]; rfl)⟩
          case measure => simp [intOf]; omega
        · go_wp2_with fail
          refine wp_region_lat (by kernel_rfl) (by kernel_rfl) ?_
          repeat (go_big_quiet_step ((first | (go_at_call 60; exact Calls.lat_same (Ccol.out _)) | (go_at_call 91; exact Calls.lat_same (Cin.out _)))))
          refine wpQuiet_nil ?_
          intro _ hw'
          obtain ⟨x, hw''⟩ := hw'
          subst hw''
          go_wp2_with fail
          go_ret
          exact ⟨by rw [show fitsOk l ⟨name, kind, cs, low, high, schema, table, key⟩ = false by unfold fitsOk; rw [rcOk_false l cs k hlt (by rw [HM.out, Bool.not_true, Bool.and_false])]; rfl]; rfl, HA.out.lat x⟩
    · have hrc := rcOk_true l cs (fun j hj hj' => HP.out j (by omega) hj')
      cases hN : nameB name
      · have HF := Lib.hid (show fitsOk l ⟨name, kind, cs, low, high, schema, table, key⟩ = false by simp [fitsOk, hN])
        clear hrc
        go_wp2_with (go_at_call 124; refine (rname_any _ _ (by first | exact hn.max | exact hs.max | exact ht.max | exact hk'.max)).mono ?_; rintro e w' ⟨rfl, rfl⟩)
        go_ret
        exact ⟨by rw [HF.out]; rfl, HA.out⟩
      · by_cases hz0 : cs.length = 0
        · have HF := Lib.hid (show fitsOk l ⟨name, kind, cs, low, high, schema, table, key⟩ = false by simp [fitsOk, hz0])
          have e0 : ((cs.length : Int) == 0) = true := by simp [hz0]
          clear hrc hz0
          go_wp2_with (go_at_call 124; refine (rname_any _ _ (by first | exact hn.max | exact hs.max | exact ht.max | exact hk'.max)).mono ?_; rintro e w' ⟨rfl, rfl⟩)
          go_ret
          exact ⟨by rw [HF.out]; rfl, HA.out⟩
        · have HF := Lib.hid (show fitsOk l ⟨name, kind, cs, low, high, schema, table, key⟩ = ruleRest l ⟨name, kind, cs, low, high, schema, table, key⟩ by simp [fitsOk, hrc, hN, hz0])
          have e0 : ((cs.length : Int) == 0) = false := beq_eq_false_iff_ne.2 (by omega)
          have hpos : 0 < cs.length := by omega
          have hc0 : 0 ≤ colAt l cs[0] := by have := HP.out 0 (by omega) hpos; simp at this; exact this.1
          clear hrc hz0
          by_cases k1 : kind = 1
          · subst k1
            go_wp2_with (go_at_call 124; refine (rname_any _ _ (by first | exact hn.max | exact hs.max | exact ht.max | exact hk'.max)).mono ?_; rintro e w' ⟨rfl, rfl⟩)
            all_goals
              go_ret
              refine ⟨Eq.trans (b := .returned (.bool _)) rfl (ret_of (bool_of ?_)), HA.out⟩
              rw [HF.out]
              clear HF HA HAB HP hbox hfr hz hzk hsl hsl2 h h2
              simp_all [ruleRest, emp]
          by_cases k2 : kind = 2
          · subst k2
            go_wp2_with (go_at_call 124; refine (rname_any _ _ (by first | exact hn.max | exact hs.max | exact ht.max | exact hk'.max)).mono ?_; rintro e w' ⟨rfl, rfl⟩)
            all_goals
              go_ret
              refine ⟨Eq.trans (b := .returned (.bool _)) rfl (ret_of (bool_of ?_)), HA.out⟩
              rw [HF.out]
              clear HF HA HAB HP hbox hfr hz hzk hsl hsl2 h h2
              simp_all [ruleRest, emp]
          by_cases k4 : kind = 4
          · subst k4
            go_wp2_with (go_at_call 124; refine (rname_any _ _ (by first | exact hn.max | exact hs.max | exact ht.max | exact hk'.max)).mono ?_; rintro e w' ⟨rfl, rfl⟩)
            all_goals
              go_ret
              refine ⟨Eq.trans (b := .returned (.bool _)) rfl (ret_of (bool_of ?_)), HA.out⟩
              rw [HF.out]
              clear HF HA HAB HP hbox hfr hz hzk hsl hsl2 h h2
              simp_all [ruleRest]
          by_cases k3 : kind = 3
          · subst k3
            obtain ⟨q, hq⟩ := Int.eq_ofNat_of_zero_le hc0
            have hql : q < l.length := by have := (idxP_range (fun c => eqS c.name cs[0]) l).2; unfold colAt at hq; omega
            obtain ⟨b, off, rfl, hb, c0, hss⟩ := str_at hsl2 hpos
            obtain ⟨b2, off2, rfl, hb2, d0, d1, d2, hss2⟩ := col_at hsl hql
            have c0' : wr.cell? ⟨b, off, none⟩ = some (.string cs[0]) := by simpa using c0
            have Ccol := Lib.hid (show Calls Tryz.prog 60 #[.slice (some ⟨b2, off2, none⟩) l.length cap, .string cs[0]] wr fun e w' => e = .returned (.int .i64 q) ∧ wr = w' from
              (rcol_any _ cap l cs[0] wr hsl).mono fun e w' ⟨he, hw⟩ => ⟨he.trans (by rw [← show colAt l cs[0] = (q : Int) from hq]; rfl), hw⟩)
            have HK := Lib.hid (show kindAt l (colAt l (cs.headD ByteArray.empty)) = l[q].kind by
              have e1 : cs.headD ByteArray.empty = cs[0] := by cases cs with | nil => simp at hpos | cons a t => rfl
              rw [e1, hq]; simp [kindAt, List.getElem?_eq_getElem hql])
            clear hc0 hq c0
            go_wp2_with (first | (go_at_call 124; refine (rname_any _ _ (by first | exact hn.max | exact hs.max | exact ht.max | exact hk'.max)).mono ?_; rintro e w' ⟨rfl, rfl⟩) | (go_at_call 60; refine Ccol.out.mono ?_; rintro e w' ⟨rfl, rfl⟩))
            all_goals
              go_ret
              refine ⟨Eq.trans (b := .returned (.bool _)) rfl (ret_of (bool_of ?_)), HA.out⟩
              rw [HF.out]
              have hkk := HK.out
              clear HF HA HAB HP hbox hfr hz hzk hsl hsl2 h h2 HK Ccol c0' d0 d1 d2
              simp_all [ruleRest, emp]
          · have q1 : (kind == 1) = false := by simp [k1]
            have q2 : (kind == 2) = false := by simp [k2]
            have q3 : (kind == 3) = false := by simp [k3]
            have q4 : (kind == 4) = false := by simp [k4]
            go_wp2_with (go_at_call 124; refine (rname_any _ _ (by first | exact hn.max | exact hs.max | exact ht.max | exact hk'.max)).mono ?_; rintro e w' ⟨rfl, rfl⟩)
            all_goals
              go_ret
              refine ⟨Eq.trans (b := .returned (.bool _)) rfl (ret_of (bool_of ?_)), HA.out⟩
              rw [HF.out]
              clear HF HA HAB HP hbox hfr hz hzk hsl hsl2 h h2
              simp_all [ruleRest]
end Go.Proofs.YtlklmekapbojdaaGreat

namespace Go.Proofs.YtlklmekapbojdaaGreat
open Go.RowKit
set_option linter.unusedVariables false
theorem pairsOk_true (l l2 : List Col) : ∀ (cs cs2 : List ByteArray), cs2.length = cs.length → (∀ k (h : k < cs.length) (h2 : k < cs2.length), pairB l l2 cs[k] cs2[k] = true) → pairsOk l l2 cs cs2 = true
  | [], [], _, _ => rfl
  | [], b :: ys, h, _ => by simp at h
  | a :: xs, [], h, _ => by simp at h
  | a :: xs, b :: ys, h, hp => by
    have h0 := hp 0 (by simp) (by simp)
    simp only [List.getElem_cons_zero] at h0
    rw [pairsOk, h0, pairsOk_true l l2 xs ys (by simpa using h) (fun k h1 h2 => hp (k + 1) (Nat.succ_lt_succ h1) (Nat.succ_lt_succ h2))]
    rfl
theorem pairsOk_get (l l2 : List Col) : ∀ (cs cs2 : List ByteArray), pairsOk l l2 cs cs2 = true → ∀ k (h : k < cs.length) (h2 : k < cs2.length), pairB l l2 cs[k] cs2[k] = true
  | [], _, _, k, h, _ => by simp at h
  | a :: xs, [], _, k, _, h => by simp at h
  | a :: xs, b :: ys, h, k, h1, h2 => by
    rw [pairsOk, Bool.and_eq_true] at h
    cases k with
    | zero => exact h.1
    | succ k => exact pairsOk_get l l2 xs ys h.2 k (by simpa using h1) (by simpa using h2)
theorem pairsOk_len (l l2 : List Col) (cs cs2 : List ByteArray) (h : ¬ cs2.length = cs.length) : pairsOk l l2 cs cs2 = false := by rw [pairsOk_code]; simp [h]
theorem pairsOk_false (l l2 : List Col) (cs cs2 : List ByteArray) (k : Nat) (h : k < cs.length) (h2 : k < cs2.length) (hp : pairB l l2 cs[k] cs2[k] = false) : pairsOk l l2 cs cs2 = false := by
  rw [Bool.eq_false_iff]; intro ha
  rw [pairsOk_get l l2 cs cs2 ha k h h2] at hp; cases hp

end Go.Proofs.YtlklmekapbojdaaGreat

