/- Contracts of the program, part 17. -/
import Derived.Test.YticjnndhpfdajaaGreatPartG16
import Derived.Test.YticjnndhpfdajaaGreatPartG6
import Derived.Test.YticjnndhpfdajaaGreatPartG9
import Derived.Test.YticjnndhpfdajaaGreatPartG3
import Derived.Deep.RegionHeld3
import Derived.Deep.RegionLaw
/- Are objects right: in plain words. -/
namespace Go.Proofs.YticjnndhpfdajaaGreat
open Go.RowKit
set_option linter.unusedVariables false
/-- do columns go with columns, one by one? -/
def pairB (l : List Col) (l2 : List Col) (a b : ByteArray) : Bool := decide (0 ≤ colAt l a) && decide (0 ≤ colAt l2 b) && (kindAt l (colAt l a) == kindAt l2 (colAt l2 b))
def pairsOk (l : List Col) (l2 : List Col) : List ByteArray → List ByteArray → Bool
  | [], [] => true
  | a :: xs, b :: ys => pairB l l2 a b && pairsOk l l2 xs ys
  | _, _ => false
theorem kindsOf_cons (l : List Col) (a : ByteArray) (cs : List ByteArray) : kindsOf l (a :: cs) = if 0 ≤ colAt l a then kindAt l (colAt l a) :: kindsOf l cs else kindsOf l cs := by
  unfold kindsOf
  by_cases h : 0 ≤ colAt l a <;> simp [h]
theorem pairsOk_code (l l2 : List Col) : ∀ (cs cs2 : List ByteArray), pairsOk l l2 cs cs2 = (decide (cs2.length = cs.length) && decide ((kindsOf l2 cs2).length = cs2.length) && decide (kindsOf l cs = kindsOf l2 cs2))
  | [], [] => by simp [pairsOk, kindsOf]
  | [], b :: ys => by simp [pairsOk]
  | a :: xs, [] => by simp [pairsOk]
  | a :: xs, b :: ys => by
    have ih := pairsOk_code l l2 xs ys
    have hb := kindsOf_le l2 ys
    have ha := kindsOf_le l xs
    rw [pairsOk, ih, kindsOf_cons, kindsOf_cons]
    unfold pairB
    by_cases h1 : 0 ≤ colAt l a
    · by_cases h2 : 0 ≤ colAt l2 b
      · by_cases h3 : kindAt l (colAt l a) = kindAt l2 (colAt l2 b) <;> simp [h1, h2, h3]
      · have h4 : ¬ (kindsOf l2 ys).length = ys.length + 1 := by omega
        simp [h1, h2, h4]
    · by_cases h2 : 0 ≤ colAt l2 b
      · rw [if_neg h1, if_pos h2]
        simp only [h1, decide_false, Bool.false_and]
        symm
        rw [Bool.eq_false_iff]
        intro h
        simp only [Bool.and_eq_true, decide_eq_true_eq, List.length_cons] at h
        obtain ⟨⟨e1, e2⟩, e3⟩ := h
        have := congrArg List.length e3
        simp only [List.length_cons] at this
        omega
      · have h4 : ¬ (kindsOf l2 ys).length = ys.length + 1 := by omega
        simp [h1, h2, h4]
theorem pairsOk_true (l l2 : List Col) : ∀ (cs cs2 : List ByteArray), cs2.length = cs.length → (∀ k (h : k < cs.length) (h2 : k < cs2.length), pairB l l2 cs[k] cs2[k] = true) → pairsOk l l2 cs cs2 = true
  | [], [], _, _ => rfl
  | [], b :: ys, h, _ => by simp at h
  | a :: xs, [], h, _ => by simp at h
  | a :: xs, b :: ys, h, hp => by
    have h0 := hp 0 (by simp) (by simp)
    simp only [List.getElem_cons_zero] at h0
    rw [pairsOk, h0, pairsOk_true l l2 xs ys (by simpa using h) (fun k h1 h2 => hp (k + 1) (Nat.succ_lt_succ h1) (Nat.succ_lt_succ h2))]
    rfl
theorem pairsOk_get (l l2 : List Col) : ∀ (cs cs2 : List ByteArray), pairsOk l l2 cs cs2 = true → ∀ k (h : k < cs.length) (h2 : k < cs2.length), pairB l l2 cs[k] cs2[k] = true
  | [], _, _, k, h, _ => by simp at h
  | a :: xs, [], _, k, _, h => by simp at h
  | a :: xs, b :: ys, h, k, h1, h2 => by
    rw [pairsOk, Bool.and_eq_true] at h
    cases k with
    | zero => exact h.1
    | succ k => exact pairsOk_get l l2 xs ys h.2 k (by simpa using h1) (by simpa using h2)
theorem pairsOk_len (l l2 : List Col) (cs cs2 : List ByteArray) (h : ¬ cs2.length = cs.length) : pairsOk l l2 cs cs2 = false := by rw [pairsOk_code]; simp [h]
theorem pairsOk_false (l l2 : List Col) (cs cs2 : List ByteArray) (k : Nat) (h : k < cs.length) (h2 : k < cs2.length) (hp : pairB l l2 cs[k] cs2[k] = false) : pairsOk l l2 cs cs2 = false := by
  rw [Bool.eq_false_iff]; intro ha
  rw [pairsOk_get l l2 cs cs2 ha k h h2] at hp; cases hp

def rulAt (l : List Rul) (s : ByteArray) : Int := idxP (fun c => eqS c.name s) l
def schAt (l : List Sch) (s : ByteArray) : Int := idxP (fun c => eqS c.name s) l
/-- why a foreign rule has not its key; 0: it has -/
def keyT (t : Tab) (l : List Col) (r : Rul) : Int :=
  match t.rules[(rulAt t.rules r.key).toNat]? with
  | some q => if rulAt t.rules r.key < 0 then 61 else if q.kind == 2 then (if pairsOk l t.cols r.cols q.cols then 0 else 63) else 61
  | none => 61
def keyE (ts : List Tab) (l : List Col) (r : Rul) : Int :=
  match ts[(tabAt ts r.schema r.table).toNat]? with
  | some t => if tabAt ts r.schema r.table < 0 then 61 else keyT t l r
  | none => 61
/-- may a rule be? -/
def ruleOk (ts : List Tab) (l : List Col) (r : Rul) : Bool := fitsOk l r && !(r.kind == 4 && keyE ts l r != 0)
def rightT (o : Objs) (t : Tab) : Bool :=
  nameB t.name && nameB t.owner && colsOk t.cols && decide (t.rules.length ≤ 8) && decide (0 ≤ schAt o.schemas t.schema) && (t.rules.all (ruleOk o.tables t.cols) && risesB (fun a b => cmpS a.name b.name) t.rules)
def schOk (o : Objs) (s : Sch) : Bool := nameB s.name && nameB s.owner && decide (within o.tables s.name ≤ 8)
def headOk (o : Objs) : Bool := decide (o.schemas.length ≤ 8) && decide (o.tables.length ≤ 64) && risesB (fun a b => or2 (cmpS a.schema b.schema) (cmpS a.name b.name)) o.tables && risesB (fun a b => cmpS a.name b.name) o.schemas
def checkO (o : Objs) : Bool := headOk o && (o.schemas.all (schOk o) && o.tables.all (rightT o))
end Go.Proofs.YticjnndhpfdajaaGreat
/- objects.copied: a table in memory of its own. -/
namespace Go.Proofs.YticjnndhpfdajaaGreat
open Go.RowKit Go.Deep
set_option maxRecDepth 100000
set_option linter.unusedVariables false
def ModT (t : Tab) : Prop := t.cols.length ≤ 1000000 ∧ t.rules.length ≤ 1000000 ∧ ∀ r ∈ t.rules, r.cols.length ≤ 1000000
theorem lvTab_row {W : World} {b : Nat} {a c d e f : Value} (h : RowAt W b [a, c, d, e, f]) : (loadVar 50 ⟨b, 0, none⟩).run Tryz.prog W = .ok (.agg #[a, c, d, e, f]) W := by
  have e0 := h.cell (j := 0) rfl
  have e1 := h.cell (j := 1) rfl
  have e2 := h.cell (j := 2) rfl
  have e3 := h.cell (j := 3) rfl
  have e4 := h.cell (j := 4) rfl
  have h1 := run_lvTab W b 0 (by rw [e0]; rfl) (by rw [e1]; rfl) (by rw [e2]; rfl) (by rw [e3]; rfl) (by rw [e4]; rfl)
  rw [e0, e1, e2, e3, e4] at h1
  exact h1
theorem box_row2 {w W : World} {c : List Value} {t : TypeId} (h : Aft (w.alloc (.cells c.toArray t)) W) : RowAt W w.heap.size c := by
  obtain ⟨hb, hf, hz, _, _⟩ := aft_box h
  exact ⟨hz.1, fun j hj => by rw [hb]; simp, fun j _ => hf j⟩
/-- what is true of a table that is being copied: k of its rules have names of their own -/
structure CopyS (w wr : World) (t : Tab) (hc hr : Hd) (L0 L : List ORul) (k : Nat) : Prop where
  aft : Aft w wr
  box : RowAt wr w.heap.size [.string t.schema, .string t.name, .string t.owner, .slice hc.a t.cols.length hc.c, .slice hr.a t.rules.length hr.c]
  out : RowAt wr (w.heap.size + 1) [.string ⟨#[]⟩, .string ⟨#[]⟩, .string ⟨#[]⟩, .slice none 0 0, .slice none 0 0]
  col : wr.ownsRow (w.heap.size + 2) 41 3 hc.v t.cols.length (t.cols.flatMap colC)
  rul : wr.ownsRow (w.heap.size + 2) 29 8 hr.v t.rules.length ((L ++ L0.drop k).flatMap ORul.cells)
  len : L.length = k
  is : L.map (·.r) = t.rules.take k
  each : ∀ x ∈ L, RulIn wr (w.heap.size + 2) x
  nd : (hc.blk ++ (hr.blk ++ L.flatMap (·.h.blk))).Nodup
theorem CopyS.lt {w wr : World} {t : Tab} {hc hr : Hd} {L0 L : List ORul} {k : Nat} (s : CopyS w wr t hc hr L0 L k) : ∀ g ∈ hc.blk ++ (hr.blk ++ L.flatMap (·.h.blk)), w.heap.size + 2 ≤ g ∧ g < wr.heap.size := by
  intro g hg
  simp only [List.mem_append, List.mem_flatMap] at hg
  rcases hg with hg | hg | ⟨r, hr, hg⟩
  · exact blk_lt s.col g hg
  · exact blk_lt s.rul g hg
  · exact blk_lt (s.each r hr).nam g hg
/-- one rule more -/
theorem CopyS.step {w wr w4 : World} {t : Tab} {hc hr h4 : Hd} {L0 L : List ORul} {k gr : Nat} (s : CopyS w wr t hc hr L0 L k) (h0 : L0.map (·.r) = t.rules) (hk : k < t.rules.length) (hgr : hr.a = some ⟨gr, 0, none⟩)
    (a4 : Aft wr w4) (own4 : w4.ownsRow wr.heap.size 9 1 h4.v t.rules[k].cols.length (t.rules[k].cols.flatMap nameC)) : CopyS w (w4.setCell ⟨gr, k * 8 + 2, none⟩ h4.v) t hc hr L0 (L ++ [⟨t.rules[k], h4⟩]) (k + 1) := by
  have hL0 : L0.length = t.rules.length := by rw [← h0]; simp
  have hgb : gr ∈ hr.blk := by rw [Hd.mem_blk]; unfold Hd.v; rw [hgr]; rfl
  have hlt := s.lt
  have hg := hlt gr (by simp [hgb])
  have kb := Kb.set w4 gr (k * 8 + 2) h4.v
  have ka : Kb (fun x => x = gr) wr (w4.setCell ⟨gr, k * 8 + 2, none⟩ h4.v) := (Kb.of_aft a4).trans kb
  have hnd := s.nd
  have hz : wr.heap.size ≤ w.heap.size + 2 ∨ w.heap.size + 2 ≤ wr.heap.size := by omega
  have hcg : ∀ g ∈ hc.blk, ¬ g = gr := fun g hgc e => by
    subst e
    exact (List.nodup_append.1 hnd).2.2 g hgc g (by simp [hgb]) rfl
  have hng : ∀ x ∈ L, ∀ g ∈ x.h.blk, ¬ g = gr := fun x hx g hgc e => by
    subst e
    exact (List.nodup_append.1 (List.nodup_append.1 hnd).2.1).2.2 g hgb g (by simp only [List.mem_flatMap]; exact ⟨x, hx, hgc⟩) rfl
  refine ⟨ka.to_aft s.aft (fun x hx e => by omega), ka.row s.box (by omega), ka.row s.out (by omega), own_kb s.col ka fun g hgo => hcg g (Hd.mem_blk.2 hgo), ?_, by simp [s.len], ?_, ?_, ?_⟩
  · have h1 := own_set (own_aft s.rul a4) (Hd.mem_blk.1 hgb) (k * 8 + 2) h4.v
    have hkl : k < (L ++ L0.drop k).length := by simp [s.len]; omega
    have hget : (L ++ L0.drop k)[k] = L0[k]'(by omega) := by
      rw [List.getElem_append_right (by rw [s.len]; exact Nat.le_refl _)]
      simp [s.len]
    have hrk : (L0[k]'(by omega)).r = t.rules[k] := by
      have : (L0.map (·.r))[k]'(by simpa using (by omega : k < L0.length)) = t.rules[k] := by simp only [h0]
      simpa using this
    rw [flatMap_set (size := 8) (fun _ => rfl) (L ++ L0.drop k) k 2 hkl (by decide) h4.v ⟨t.rules[k], h4⟩ (by rw [hget]; unfold ORul.cells rulC; rw [hrk]; rfl)] at h1
    have hset : (L ++ L0.drop k).set k ⟨t.rules[k], h4⟩ = (L ++ [⟨t.rules[k], h4⟩]) ++ L0.drop (k + 1) := by
      have hd : L0.drop k = L0[k]'(by omega) :: L0.drop (k + 1) := List.drop_eq_getElem_cons (by omega : k < L0.length)
      rw [List.set_append_right _ _ (by rw [s.len]; exact Nat.le_refl _), s.len, Nat.sub_self, hd]
      simp only [List.set_cons_zero, List.append_assoc, List.cons_append, List.nil_append]
    rw [hset] at h1
    exact h1
  · rw [List.map_append, s.is, List.take_succ_eq_append_getElem hk]; rfl
  · intro x hx
    simp only [List.mem_append, List.mem_singleton] at hx
    rcases hx with hx | rfl
    · exact (s.each x hx).kb ka fun g hgo => hng x hx g hgo
    · exact ⟨own_down (own_kb own4 kb fun g hgo e => by have := (own4.lt g hgo).1; omega) (by have := s.out.1; omega)⟩
  · have e : hc.blk ++ (hr.blk ++ (L ++ [ORul.mk t.rules[k] h4]).flatMap (·.h.blk)) = (hc.blk ++ (hr.blk ++ L.flatMap (·.h.blk))) ++ h4.blk := by simp [List.append_assoc]
    rw [e]
    exact nodup_more hnd (blk_nodup h4) (fun g hg => (hlt g hg).2) (fun g hg => (blk_lt own4 g hg).1)
end Go.Proofs.YticjnndhpfdajaaGreat
/- objects.own: objects in memory of their own. -/
namespace Go.Proofs.YticjnndhpfdajaaGreat
open Go.RowKit Go.Deep
set_option maxRecDepth 100000
set_option linter.unusedVariables false
theorem nodup_disj {l m : List Nat} (h : (l ++ m).Nodup) {g : Nat} (h1 : g ∈ l) (h2 : g ∈ m) : False := (List.nodup_append.1 h).2.2 g h1 g h2 rfl
/-- one table more -/
theorem ObjIn.push {wr w4 w5 : World} {B : Nat} {hs ht ht' : Hd} {ss : List Sch} {L : List OTab} {x : OTab} (h : ObjIn wr B hs ht ss L) (a4 : Aft wr w4) (hx : TabIn w4 wr.heap.size x) (nx : x.blks.Nodup) (hB : B ≤ wr.heap.size)
    (hg : w4.grownBy w5 ht.v.ownBlock) (ho : w5.ownsRow B 50 5 ht'.v (L.length + 1) (L.flatMap OTab.cells ++ x.cells)) (hb : ∀ g ∈ ht'.blk, g ∈ ht.blk ∨ w4.heap.size ≤ g) (hn : ∀ g ∈ ht'.blk, g ∉ x.blks) : ObjIn w5 B hs ht' ss (L ++ [x]) := by
  have k1 : Kb (fun g => ht.v.ownBlock = some g) w4 w5 := Kb.of_grown hg
  have k2 : Kb (fun g => ht.v.ownBlock = some g) wr w5 := (Kb.of_aft a4).trans k1
  have hlt := h.lt
  have nd := h.nd
  have nd2 := (List.nodup_append.1 nd).2.1
  have hsl : ∀ g ∈ hs.blk, g < wr.heap.size := fun g hg => (hlt g (by simp [hg])).2
  have htl : ∀ g ∈ ht.blk, g < wr.heap.size := fun g hg => (hlt g (by simp [hg])).2
  have hLl : ∀ g ∈ L.flatMap OTab.blks, g < wr.heap.size := fun g hg => (hlt g (by simp only [List.mem_append]; exact .inr (.inr hg))).2
  have hxl := hx.lt
  have hz := a4.size
  refine ⟨own_kb h.sch k2 fun g hg1 hg2 => nodup_disj nd (Hd.mem_blk.2 hg1) (by simp [Hd.mem_blk.2 hg2]), ?_, ?_, ?_⟩
  · rw [List.length_append, List.flatMap_append]
    simpa using ho
  · intro y hy
    simp only [List.mem_append, List.mem_singleton] at hy
    rcases hy with hy | rfl
    · exact (h.each y hy).kb k2 fun g hg1 hg2 => nodup_disj nd2 (Hd.mem_blk.2 hg2) (List.mem_flatMap.2 ⟨y, hy, hg1⟩)
    · exact (hx.kb k1 fun g hg1 hg2 => by have := (hxl g hg1).1; have := htl g (Hd.mem_blk.2 hg2); omega).down hB
  · rw [List.flatMap_append]
    have hz2 : wr.heap.size ≤ w4.heap.size := a4.size
    have e : [x].flatMap OTab.blks = x.blks := by simp
    rw [e]
    refine List.nodup_append.2 ⟨(List.nodup_append.1 nd).1, List.nodup_append.2 ⟨blk_nodup _, nodup_more (List.nodup_append.1 nd2).2.1 nx hLl (fun g hg => (hxl g hg).1), ?_⟩, ?_⟩
    · intro a ha b hb2 e
      subst e
      rcases List.mem_append.1 hb2 with h1 | h1
      · rcases hb a ha with h2 | h2
        · exact nodup_disj nd2 h2 h1
        · have := hLl a h1; omega
      · exact hn a ha h1
    · intro a ha b hb2 e
      subst e
      have := hsl a ha
      rcases List.mem_append.1 hb2 with h1 | h1
      · rcases hb a h1 with h2 | h2
        · exact nodup_disj nd ha (by simp [h2])
        · omega
      · rcases List.mem_append.1 h1 with h1 | h1
        · exact nodup_disj nd ha (List.mem_append.2 (.inr h1))
        · have := (hxl a h1).1; omega
theorem OTab.cells_of {w : World} {B : Nat} {x : OTab} {p : Tab} (h : TabIn w B x) (ht : x.t = p) : x.cells = [.string p.schema, .string p.name, .string p.owner, .slice x.hc.a p.cols.length x.hc.c, .slice x.hr.a p.rules.length x.hr.c] := by
  subst ht
  unfold OTab.cells
  rw [own_slice h.col, own_slice h.rul]
  simp [OTab.t]
theorem lvObj_row {W : World} {b : Nat} {a c : Value} (h : RowAt W b [a, c]) : (loadVar 25 ⟨b, 0, none⟩).run Tryz.prog W = .ok (.agg #[a, c]) W := by
  have e0 := h.cell (j := 0) rfl
  have e1 := h.cell (j := 1) rfl
  have h1 := run_lvObj W b 0 (by rw [e0]; rfl) (by rw [e1]; rfl)
  rw [e0, e1] at h1
  exact h1
structure OwnS (w wr : World) (o : Objs) (n3 : Nat) (hs ht : Hd) (L : List OTab) (k : Nat) : Prop where
  aft : Aft w wr
  out : RowAt wr (w.heap.size + 1) [.slice none 0 0, .slice none 0 0]
  box : RowAt wr n3 [.slice hs.a o.schemas.length hs.c, .slice ht.a k ht.c]
  obj : ObjIn wr (w.heap.size + 2) hs ht o.schemas L
  ne : ∀ g ∈ hs.blk ++ (ht.blk ++ L.flatMap OTab.blks), g ≠ n3
  is : L.map OTab.t = o.tables.take k
  n3 : w.heap.size + 2 ≤ n3
  len : L.length = k
theorem OwnS.step {w wr w4 w5 : World} {o : Objs} {n3 : Nat} {hs ht ht' : Hd} {L : List OTab} {x : OTab} {k : Nat} (s : OwnS w wr o n3 hs ht L k) (hk : k < o.tables.length) (hxt : x.t = o.tables[k]) (a4 : Aft wr w4) (hx : TabIn w4 wr.heap.size x) (nx : x.blks.Nodup)
    (hg : w4.grownBy w5 ht.v.ownBlock) (ho : w5.ownsRow (w.heap.size + 2) 50 5 ht'.v (k + 1) (L.flatMap OTab.cells ++ x.cells)) (hb : ∀ g ∈ ht'.blk, g ∈ ht.blk ∨ w4.heap.size ≤ g) (hn : ∀ g ∈ ht'.blk, g ∉ x.blks) :
    OwnS w (w5.setCell ⟨n3, 1, none⟩ (.slice ht'.a (k + 1) ht'.c)) o n3 hs ht' (L ++ [x]) (k + 1) := by
  have hz := a4.size
  have hz5 := hg.size
  have hn3 := s.n3
  have hb3 := s.box.1
  have hzz : w.heap.size + 2 ≤ wr.heap.size := by omega
  have ob := s.obj.push a4 hx nx hzz hg (by rw [s.len]; exact ho) hb hn
  have hne : ∀ g ∈ hs.blk ++ (ht'.blk ++ (L ++ [x]).flatMap OTab.blks), g ≠ n3 := by
    intro g hgm e
    subst e
    simp only [List.mem_append, List.flatMap_append] at hgm
    rcases hgm with h1 | h1 | h1 | h1
    · exact s.ne g (by simp [h1]) rfl
    · rcases hb g h1 with h2 | h2
      · exact s.ne g (by simp [h2]) rfl
      · omega
    · exact s.ne g (by simp only [List.mem_append]; exact .inr (.inr h1)) rfl
    · have := (hx.lt g (by simpa using h1)).1; omega
  have k5 : Kb (fun g => g = n3) w5 (w5.setCell ⟨n3, 1, none⟩ (.slice ht'.a (k + 1) ht'.c)) := Kb.set _ _ _ _
  have kg : Kb (fun g => ht.v.ownBlock = some g) w4 w5 := Kb.of_grown hg
  have htge : ∀ g, ht.v.ownBlock = some g → w.heap.size + 2 ≤ g := fun g h1 => (s.obj.tab.lt g h1).1
  refine ⟨k5.to_aft (kg.to_aft (s.aft.trans a4) (fun g hgl h1 => by have := htge g h1; omega)) (fun g hgl e => by omega), k5.row (kg.row (s.out.aft a4) (fun h1 => by have := htge _ h1; omega)) (by omega), ?_, ob.kb k5 (fun g hgm e => hne g hgm e), hne, ?_, hn3, by simp [s.len]⟩
  · have := (kg.row (s.box.aft a4) (fun h1 => s.ne n3 (by simp [Hd.mem_blk.2 h1]) rfl)).set 1 (.slice ht'.a (k + 1) ht'.c) (by simp)
    exact this
  · rw [List.map_append, s.is, List.take_succ_eq_append_getElem hk, ← hxt]; rfl
end Go.Proofs.YticjnndhpfdajaaGreat
/- slices.Equal at kinds of values. -/
namespace Go.Proofs.YticjnndhpfdajaaGreat
open Go.RowKit
set_option maxRecDepth 100000
set_option linter.unusedVariables false
def IntR (_ : World) (cs : List Value) (n : Int) : Prop := cs = [.int .i64 n]
theorem ints_aft {w w' : World} {A : Option Addr} {cap : Nat} {l : List Int} (hw : Aft w w') (h : SlAt w 1 IntR A cap l) : SlAt w' 1 IntR A cap l := h.aft hw fun _ _ h => h
theorem int_at {w : World} {A : Option Addr} {cap : Nat} {l : List Int} (h : SlAt w 1 IntR A cap l) {k : Nat} (hk : k < l.length) :
    ∃ b off, A = some ⟨b, off, none⟩ ∧ b < w.heap.size ∧ w.cell? ⟨b, off + k, none⟩ = some (.int .i64 l[k]) := by
  obtain ⟨b, off, cs, hA, hb, hl, rfl, hc⟩ := h.2.2 k hk
  refine ⟨b, off, hA, hb, ?_⟩
  have := hc 0 (by omega)
  simpa using this
theorem own_ints {w : World} {base : Nat} {e : TypeId} {v : Value} {l : List Int} (h : w.ownsRow base e 1 v l.length (l.map (Value.int .i64))) (hs : Small (l.length * 16)) : ∃ A cap, v = .slice A l.length cap ∧ SlAt w 1 IntR A cap l := by
  refine own_slAt (base := base) (e := e) (fun n => [Value.int .i64 n]) IntR (fun _ => rfl) ?_ (fun _ _ => rfl) hs
  have e1 : l.flatMap (fun n => [Value.int .i64 n]) = l.map (Value.int .i64) := by
    clear h hs
    induction l with
    | nil => rfl
    | cons x l ih => simp [List.flatMap_cons, ih]
  rw [e1]; exact h
theorem ne_of_at {α : Type} (l l2 : List α) (k : Nat) (h : k < l.length) (h2 : k < l2.length) (hn : ¬ l[k] = l2[k]) : ¬ l = l2 := by
  intro e; subst e; exact hn rfl
theorem eq_of_all {α : Type} (l l2 : List α) (hl : l.length = l2.length) (hp : ∀ k (h : k < l.length) (h2 : k < l2.length), l[k] = l2[k]) : l = l2 := List.ext_getElem hl hp
set_option maxHeartbeats 1000000 in
theorem eqK_any (A : Option Addr) (cap : Nat) (l : List Int) (A2 : Option Addr) (cap2 : Nat) (l2 : List Int) (w : World) (h : SlAt w 1 IntR A cap l) (h2 : SlAt w 1 IntR A2 cap2 l2) :
    Calls Tryz.prog 146 #[.slice A l.length cap, .slice A2 l2.length cap2] w fun e w' => e = .returned (.bool (decide (l = l2))) ∧ Aft w w' := by
  have hlen := h.len
  have hlen2 := h2.len
  by_cases hl : l.length = l2.length
  · have e1 : ((l.length : Int) != (l2.length : Int)) = false := by simp [hl]
    go_enter Tryz.func146, Tryz.ntmps146
    go_wp2_with fail
    go_loopw [13] (fun i wr => ∃ k : Nat, k ≤ l.length ∧ i = .int .i64 k ∧ Aft w wr ∧ ∀ j, j < k → ∀ (hj : j < l.length) (hj2 : j < l2.length), l[j] = l2[j]) (fun i _ => l.length - (intOf i).toNat)
    case atStart => exact ⟨0, Nat.zero_le _, rfl, Aft.refl _, fun j hj => absurd hj (Nat.not_lt_zero j)⟩
    case round =>
      obtain ⟨k, hk, rfl, ha, hp⟩ := hrel
      have HA := Lib.hid ha
      have HP := Lib.hid hp; clear hp
      by_cases hlt : k < l.length
      · have hlt2 : k < l2.length := by omega
        obtain ⟨b, off, rfl, hb, c0⟩ := int_at (ints_aft ha h) hlt
        obtain ⟨b2, off2, rfl, hb2, d0⟩ := int_at (ints_aft ha h2) hlt2
        clear ha
        cases heq : (l[k] != l2[k])
        · have HN := Lib.hid (ext_lt (p := fun j => ∀ (hj : j < l.length) (hj2 : j < l2.length), l[j] = l2[j]) HP.out (fun _ _ => by simpa using heq))
          go_wp2_with fail
          refine wp_region_lat (by kernel_rfl) (by kernel_rfl) ?_
          repeat (go_big_quiet_step (fail))
          refine wpQuiet_nil ?_
          intro _ hw'
          obtain ⟨x, hw''⟩ := hw'
          subst hw''
          go_wp2_with fail
          go_roundw
          case rel => exact ⟨k + 1, by omega, by go_num, HA.out.lat x, HN.out⟩
          case measure => simp [intOf]; omega
        · have HN := Lib.hid (show ¬ l = l2 from ne_of_at l l2 k hlt hlt2 (by simpa using heq))
          go_wp2_with fail
          refine wp_region_lat (by kernel_rfl) (by kernel_rfl) ?_
          repeat (go_big_quiet_step (fail))
          refine wpQuiet_nil ?_
          intro _ hw'
          obtain ⟨x, hw''⟩ := hw'
          subst hw''
          go_wp2_with fail
          go_ret
          exact ⟨by rw [decide_eq_false HN.out]; rfl, HA.out.lat x⟩
      · have HN := Lib.hid (show l = l2 from eq_of_all l l2 hl fun j hj hj2 => HP.out j (by omega) hj hj2)
        clear ha
        go_wp2_with fail
        go_ret
        exact ⟨by rw [decide_eq_true HN.out]; rfl, HA.out⟩
  · have e1 : ((l.length : Int) != (l2.length : Int)) = true := by simp; omega
    have HN := Lib.hid (show ¬ l = l2 from fun e => hl (by rw [e]))
    go_enter Tryz.func146, Tryz.ntmps146
    go_wp2_with fail
    go_ret
    exact ⟨by rw [decide_eq_false HN.out]; rfl, Aft.refl _⟩
end Go.Proofs.YticjnndhpfdajaaGreat
