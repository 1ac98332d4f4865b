/- Contracts of the program, part 36. -/
import Derived.Test.YticjnndhpfdajaaGreatPart35
import Derived.Test.YticjnndhpfdajaaGreatPart33
import Derived.Test.YticjnndhpfdajaaGreatPart27
/- The document's DropColumn. -/
namespace Go.Proofs.YticjnndhpfdajaaGreat
open Go.RowKit Go.Deep
set_option maxRecDepth 100000
set_option linter.unusedVariables false
theorem filter_erase {α : Type} {p : α → Bool} {l : List α} {q : Nat} (hq : q < l.length) (hp : p l[q] = true) (hu : ∀ k (hk : k < l.length), p l[k] = true → k = q) : l.filter (fun x => !p x) = l.eraseIdx q := by
  conv => lhs; rw [list_parts l q hq]
  rw [List.filter_append, List.filter_cons, List.eraseIdx_eq_take_drop_succ]
  simp only [hp, Bool.not_true, Bool.false_eq_true, if_false]
  congr 1
  · rw [List.filter_eq_self]
    intro x hx
    obtain ⟨i, hi, rfl⟩ := List.mem_take_iff_getElem.1 hx
    have hil : i < l.length := by omega
    cases h : p l[i]
    · rfl
    · have := hu i hil h; omega
  · rw [List.filter_eq_self]
    intro x hx
    obtain ⟨i, hi, rfl⟩ := List.mem_drop_iff_getElem.1 hx
    have hil : q + 1 + i < l.length := by omega
    cases h : p l[q + 1 + i]
    · rfl
    · have := hu (q + 1 + i) hil h; omega
theorem idx_at {α : Type} {p : α → Bool} {l : List α} {q : Nat} (h : idxP p l = q) : ∃ hq : q < l.length, p l[q] = true := by
  have hq : q < l.length := by have := (idxP_range p l).2; omega
  exact ⟨hq, idxP_at p l q hq h⟩
theorem cols_dist2 {l : List Col} (h : colsOk l = true) {k : Nat} (hk : k < l.length) {s : ByteArray} (hs : eqS l[k].name s = true) : colAt l s = k := by
  have h1 : (colOk l[k] && decide (idxP (fun d => eqS d.name l[k].name) (l.take k) < 0)) = true := by
    cases hc : (colOk l[k] && decide (idxP (fun d => eqS d.name l[k].name) (l.take k) < 0))
    · rw [colsOk_false l k hk hc] at h; cases h
    · rfl
  simp only [Bool.and_eq_true, decide_eq_true_eq] at h1
  have e : (fun d : Col => eqS d.name l[k].name) = fun d => eqS d.name s := by
    funext d
    unfold eqS at hs ⊢
    rw [eq_of_beq hs]
  rw [e] at h1
  exact idxP_hit (fun d => eqS d.name s) l k hk hs h1.2
theorem any_snoc {α : Type} {p : α → Bool} {l : List α} {k : Nat} (hk : k < l.length) : (l.take (k + 1)).any p = ((l.take k).any p || p l[k]) := by
  rw [List.take_succ_eq_append_getElem hk, List.any_append]; simp
theorem filter_snoc {α : Type} {p : α → Bool} {l : List α} {k : Nat} (hk : k < l.length) : (l.take (k + 1)).filter p = (l.take k).filter p ++ (if p l[k] then [l[k]] else []) := by
  rw [List.take_succ_eq_append_getElem hk, List.filter_append, List.filter_cons]; simp
theorem cols_erase {l : List Col} {s : ByteArray} {q : Nat} (hc : colsOk l = true) (h : colAt l s = q) : l.filter (fun c => !eqS c.name s) = l.eraseIdx q := by
  obtain ⟨hq, hp⟩ := idx_at h
  refine filter_erase (p := fun c : Col => eqS c.name s) hq hp fun k hk hk2 => ?_
  have := cols_dist2 hc hk hk2
  omega
theorem check_cols {o : Objs} (h : checkO o = true) {t : Tab} (ht : t ∈ o.tables) : colsOk t.cols = true := by
  unfold checkO at h
  simp only [Bool.and_eq_true, List.all_eq_true] at h
  have := h.2.2 t ht
  unfold rightT at this
  simp only [Bool.and_eq_true] at this
  exact this.1.1.1.2
def usedK (b : Bool) (p : Tab) (s : ByteArray) (k : Nat) : Bool := b || (p.rules.take k).any fun r => r.cols.any fun x => eqS x s
end Go.Proofs.YticjnndhpfdajaaGreat
/- The law ObjectsColumns, walked. -/
namespace Go.Proofs.YticjnndhpfdajaaGreat
open Go.RowKit Go.Deep
set_option maxRecDepth 100000
set_option linter.unusedVariables false
theorem ex_add : chgR oneO (tabR oneO ⟨#[115]⟩ ⟨#[116]⟩ (addColF ⟨⟨#[122]⟩, 2, true⟩)) = ((⟨oneO.schemas, [{ (oneO.tables[0]'(by decide)) with cols := (oneO.tables[0]'(by decide)).cols ++ [⟨⟨#[122]⟩, 2, true⟩] }]⟩ : Objs), (0 : Int)) := by
  have h : addColF ⟨⟨#[122]⟩, 2, true⟩ (oneO.tables[0]'(by decide)) = ({ (oneO.tables[0]'(by decide)) with cols := (oneO.tables[0]'(by decide)).cols ++ [⟨⟨#[122]⟩, 2, true⟩] }, 0) := by
    unfold addColF
    rw [if_neg (by decide +kernel), if_neg (by decide +kernel), if_neg (by decide +kernel)]
  rw [chg_one, h]; rfl
theorem ex_drop1 : chgR oneO (tabR oneO ⟨#[115]⟩ ⟨#[116]⟩ (dropColF ⟨#[120]⟩)) = (zeroO, (62 : Int)) := by
  have h : dropColF ⟨#[120]⟩ (oneO.tables[0]'(by decide)) = ((oneO.tables[0]'(by decide)), 62) := by
    unfold dropColF
    rw [if_neg (by decide +kernel), if_pos (by decide +kernel)]
  rw [chg_one, h]; rfl
theorem ex_drop2 : chgR oneO (tabR oneO ⟨#[115]⟩ ⟨#[116]⟩ (dropColF ⟨#[121]⟩)) = ((⟨oneO.schemas, [{ (oneO.tables[0]'(by decide)) with cols := (oneO.tables[0]'(by decide)).cols.eraseIdx 1 }]⟩ : Objs), (0 : Int)) := by
  have e : (colAt (oneO.tables[0]'(by decide)).cols ⟨#[121]⟩).toNat = 1 := by decide +kernel
  have h : dropColF ⟨#[121]⟩ (oneO.tables[0]'(by decide)) = ({ (oneO.tables[0]'(by decide)) with cols := (oneO.tables[0]'(by decide)).cols.eraseIdx 1 }, 0) := by
    unfold dropColF
    rw [if_neg (by decide +kernel), if_neg (by decide +kernel), e]
  rw [chg_one, h]; rfl
theorem small1 (b : UInt8) : Small (ByteArray.size ⟨#[b]⟩) := by simp [Small, ByteArray.size]
set_option maxHeartbeats 4000000 in
theorem columns_any (w : World) : Calls Tryz.prog 27 #[] w fun e w' => e = .returned (.bool true) ∧ Aft w w' := by
  have CA := Lib.hid (show ∀ (As : Option Addr) (caps : Nat) (At : Option Addr) (capt : Nat) (w' : World), SlAt w' 2 SchR As caps oneO.schemas → SlAt w' 5 TabR At capt oneO.tables → Calls Tryz.prog 22 #[.agg #[.slice As 1 caps, .slice At 1 capt], .string ⟨#[115]⟩, .string ⟨#[116]⟩, .agg #[.string ⟨#[122]⟩, .int .i64 2, .bool true]] w' (OneP w' 1 { (oneO.tables[0]'(by decide)) with cols := (oneO.tables[0]'(by decide)).cols ++ [⟨⟨#[122]⟩, 2, true⟩] } 0) from
    fun As caps At capt w' h1 h2 => (addColumn_in ⟨#[122]⟩ 2 true oneO As caps At capt ⟨#[115]⟩ ⟨#[116]⟩ w' h1 h2 (small1 _)).mono fun e w'' h => objP_one (by rw [ex_add] at h; exact h) rfl)
  have CD1 := Lib.hid (show ∀ (As : Option Addr) (caps : Nat) (At : Option Addr) (capt : Nat) (w' : World), SlAt w' 2 SchR As caps oneO.schemas → SlAt w' 5 TabR At capt oneO.tables → Calls Tryz.prog 24 #[.agg #[.slice As 1 caps, .slice At 1 capt], .string ⟨#[115]⟩, .string ⟨#[116]⟩, .string ⟨#[120]⟩] w' (ErrP w' 62) from
    fun As caps At capt w' h1 h2 => (dropColumn_in ⟨#[120]⟩ oneO As caps At capt ⟨#[115]⟩ ⟨#[116]⟩ w' h1 h2).mono fun e w'' h => objP_err (by rw [ex_drop1] at h; exact h))
  have CD2 := Lib.hid (show ∀ (As : Option Addr) (caps : Nat) (At : Option Addr) (capt : Nat) (w' : World), SlAt w' 2 SchR As caps oneO.schemas → SlAt w' 5 TabR At capt oneO.tables → Calls Tryz.prog 24 #[.agg #[.slice As 1 caps, .slice At 1 capt], .string ⟨#[115]⟩, .string ⟨#[116]⟩, .string ⟨#[121]⟩] w' (OneP w' 1 { (oneO.tables[0]'(by decide)) with cols := (oneO.tables[0]'(by decide)).cols.eraseIdx 1 } 0) from
    fun As caps At capt w' h1 h2 => (dropColumn_in ⟨#[121]⟩ oneO As caps At capt ⟨#[115]⟩ ⟨#[116]⟩ w' h1 h2).mono fun e w'' h => objP_one (by rw [ex_drop2] at h; exact h) rfl)
  go_enter Tryz.func27, Tryz.ntmps27
  go_wp2_with fail
  refine (one_any _).mono ?_
  rintro e w1 ⟨As, caps, At, capt, rfl, a1, h1, h2⟩
  have C1 := Lib.hid (CA.out As caps At capt w1 h1 h2)
  have HA1 := Lib.hid a1
  clear a1 h1 h2 CA
  go_wp2_with fail
  refine C1.out.mono ?_
  rintro e w2 ⟨S1, cS1, gt1, ct1, A1, cA1, A2, cA2, rfl, a2, z1, x0, x1, x3, x4⟩
  have x3 : w2.cell? ⟨gt1, 3, none⟩ = some (.slice A1 3 cA1) := x3
  have HA2 := Lib.hid (HA1.out.trans a2)
  clear a2 C1 x0 x1 x4
  go_wp2_with fail
  refine (one_any _).mono ?_
  rintro e w3 ⟨As, caps, At, capt, rfl, a3, h1, h2⟩
  have rb := box_row2 (c := [.slice S1 1 cS1, .slice (some ⟨gt1, 0, none⟩) 1 ct1]) a3
  have a23 := ((Aft.refl w2).alloc _).trans a3
  have x3 := a23.cell_kept x3
  have z1 := Nat.lt_of_lt_of_le z1 a23.size
  have C2 := Lib.hid (CD1.out As caps At capt w3 h1 h2)
  have HA3 := Lib.hid (HA2.out.trans a23)
  have HB := Lib.hid rb
  clear a3 h1 h2 CD1 rb a23
  go_wp2_with fail
  refine C2.out.mono ?_
  rintro e w4 ⟨S2, cS2, T2, cT2, rfl, a4⟩
  have x3 := a4.cell_kept x3
  have z1 := Nat.lt_of_lt_of_le z1 a4.size
  have HA4 := Lib.hid (HA3.out.trans a4)
  have HB4 := Lib.hid (HB.out.aft a4)
  clear a4 C2
  go_wp2_with fail
  refine (one_any _).mono ?_
  rintro e w5 ⟨As, caps, At, capt, rfl, a5, h1, h2⟩
  have a45 := ((Aft.refl w4).alloc _).trans a5
  have x3 := a45.cell_kept x3
  have z1 := Nat.lt_of_lt_of_le z1 a45.size
  have C3 := Lib.hid (CD2.out As caps At capt w5 h1 h2)
  have HA5 := Lib.hid (HA4.out.trans a45)
  have HB5 := Lib.hid (HB4.out.aft a45)
  clear a5 h1 h2 CD2 a45
  go_wp2_with fail
  refine C3.out.mono ?_
  rintro e w6 ⟨S3, cS3, gt3, ct3, A3, cA3, A4, cA4, rfl, a6, z3, y0, y1, y3, y4⟩
  have y3 : w6.cell? ⟨gt3, 3, none⟩ = some (.slice A3 1 cA3) := y3
  have x3 := a6.cell_kept x3
  have z1 := Nat.lt_of_lt_of_le z1 a6.size
  have HA6 := Lib.hid (HA5.out.trans a6)
  have rb := HB5.out.aft a6
  have b0 := rb.cell (j := 0) rfl
  have b1 := rb.cell (j := 1) rfl
  have bz := rb.1
  have l1 : gt1 < w6.heap.size + 1 := by omega
  have l3 : gt3 < w6.heap.size + 1 := by omega
  have l4 : w2.heap.size < w6.heap.size + 1 := by omega
  clear a6 C3 y0 y1 y4 rb
  go_wp2_with fail
  go_ret
  exact ⟨rfl, HA6.out.alloc _⟩
end Go.Proofs.YticjnndhpfdajaaGreat
/- The law ObjectsBack. -/
namespace Go.Proofs.YticjnndhpfdajaaGreat
open Go.RowKit Go.Deep
set_option maxRecDepth 100000
set_option linter.unusedVariables false
theorem chk_chgB {o : Objs} {x : Objs × Int} (hc : checkO o = true → x.2 = 0 → checkO x.1 = true) (hz : (chgR o x).2 = 0) : checkO o = true ∧ x.2 = 0 ∧ (chgR o x).1 = x.1 ∧ checkO x.1 = true := by
  unfold chgR at hz ⊢
  by_cases h1 : checkO o = true
  · rw [if_pos h1] at hz ⊢
    exact ⟨h1, hz, rfl, hc h1 hz⟩
  · rw [if_neg h1] at hz
    exact absurd hz (by decide)
theorem smT_addC {t : Tab} {c : Col} (h : SmT t) (hc : Small c.name.size) (hz : (addColF c t).2 = 0) : SmT (addColF c t).1 := by
  unfold addColF at hz ⊢
  split
  · exact h
  · split
    · exact h
    · split
      · exact h
      · rename_i h8
        refine ⟨⟨?_, fun x hx => ?_⟩, h.2.1, h.2.2.1, h.2.2.2.1, h.2.2.2.2⟩
        · show Small ((t.cols ++ [c]).length * 16)
          simp [Small]; omega
        · rcases List.mem_append.1 hx with e | e
          · exact h.1.2 x e
          · rw [List.mem_singleton] at e; rw [e]; exact hc
set_option maxHeartbeats 16000000 in
theorem law_back (o : Objs) (s n : ByteArray) (c : Col) (r : Rul) (An : Option Addr) (cn : Nat) (As : Option Addr) (caps : Nat) (At : Option Addr) (capt : Nat) (w : World) (hsch : SlAt w 2 SchR As caps o.schemas) (htab : SlAt w 5 TabR At capt o.tables)
    (hns : SlAt w 1 StrR An cn r.cols) (sr : Small r.name.size ∧ Small r.schema.size ∧ Small r.table.size ∧ Small r.key.size) (s1 : Small c.name.size) (s2 : Small s.size) (s3 : Small n.size) :
    Calls Tryz.prog 4 #[.agg #[.slice As o.schemas.length caps, .slice At o.tables.length capt], .string s, .string n, .agg #[.string c.name, .int .i64 c.kind, .bool c.null], .agg #[.string r.name, .int .i64 r.kind, .slice An r.cols.length cn, .int .i64 r.low, .int .i64 r.high, .string r.schema, .string r.table, .string r.key]] w
      fun e w' => e = .returned (.bool true) ∧ Aft w w' := by
  have sm : SmO o := ⟨sm_schs hsch, sm_tabs htab⟩
  have hlen3 := hns.len
  have l1 : w.heap.size < w.heap.size + 1 := by omega
  have l2 : w.heap.size < w.heap.size + 1 + 1 := by omega
  have l3 : w.heap.size < w.heap.size + 1 + 1 + 1 := by omega
  obtain ⟨W, hW⟩ : ∃ W, W = ((w.alloc (.cells #[.slice As o.schemas.length caps, .slice At o.tables.length capt] 25)).alloc (.cells #[.string c.name, .int .i64 c.kind, .bool c.null] 41)).alloc (.cells #[.string r.name, .int .i64 r.kind, .slice An r.cols.length cn, .int .i64 r.low, .int .i64 r.high, .string r.schema, .string r.table, .string r.key] 29) := ⟨_, rfl⟩
  have aW : Aft w W := by rw [hW]; exact (((Aft.refl w).alloc _).alloc _).alloc _
  have r0 : RowAt W (w.heap.size) [.slice As o.schemas.length caps, .slice At o.tables.length capt] := by rw [hW]; exact (box_row2 (Aft.refl _)).aft (((Aft.refl _).alloc _).alloc _)
  have r1 : RowAt W (w.heap.size + 1) [.string c.name, .int .i64 c.kind, .bool c.null] := by
    rw [hW]
    have := (box_row2 (w := w.alloc (.cells #[.slice As o.schemas.length caps, .slice At o.tables.length capt] 25)) (c := [.string c.name, .int .i64 c.kind, .bool c.null]) (t := 41) (Aft.refl _)).aft ((Aft.refl _).alloc (.cells #[.string r.name, .int .i64 r.kind, .slice An r.cols.length cn, .int .i64 r.low, .int .i64 r.high, .string r.schema, .string r.table, .string r.key] 29))
    simpa using this
  have r2 : RowAt W (w.heap.size + 1 + 1) [.string r.name, .int .i64 r.kind, .slice An r.cols.length cn, .int .i64 r.low, .int .i64 r.high, .string r.schema, .string r.table, .string r.key] := by
    rw [hW]
    have := (box_row2 (w := (w.alloc (.cells #[.slice As o.schemas.length caps, .slice At o.tables.length capt] 25)).alloc (.cells #[.string c.name, .int .i64 c.kind, .bool c.null] 41)) (c := [.string r.name, .int .i64 r.kind, .slice An r.cols.length cn, .int .i64 r.low, .int .i64 r.high, .string r.schema, .string r.table, .string r.key]) (t := 29) (Aft.refl _))
    simpa using this
  have KF := Lib.hid (show ∀ V, Aft W V → (V.cell? ⟨w.heap.size, 0, none⟩ = some (.slice As o.schemas.length caps) ∧ V.cell? ⟨w.heap.size, 1, none⟩ = some (.slice At o.tables.length capt) ∧ w.heap.size < V.heap.size) ∧ (V.cell? ⟨w.heap.size + 1, 0, none⟩ = some (.string c.name) ∧ V.cell? ⟨w.heap.size + 1, 1, none⟩ = some (.int .i64 c.kind) ∧ V.cell? ⟨w.heap.size + 1, 2, none⟩ = some (.bool c.null) ∧ w.heap.size + 1 < V.heap.size) ∧ (V.cell? ⟨w.heap.size + 1 + 1, 0, none⟩ = some (.string r.name) ∧ V.cell? ⟨w.heap.size + 1 + 1, 1, none⟩ = some (.int .i64 r.kind) ∧ V.cell? ⟨w.heap.size + 1 + 1, 2, none⟩ = some (.slice An r.cols.length cn) ∧ V.cell? ⟨w.heap.size + 1 + 1, 3, none⟩ = some (.int .i64 r.low) ∧ V.cell? ⟨w.heap.size + 1 + 1, 4, none⟩ = some (.int .i64 r.high) ∧ V.cell? ⟨w.heap.size + 1 + 1, 5, none⟩ = some (.string r.schema) ∧ V.cell? ⟨w.heap.size + 1 + 1, 6, none⟩ = some (.string r.table) ∧ V.cell? ⟨w.heap.size + 1 + 1, 7, none⟩ = some (.string r.key) ∧ w.heap.size + 1 + 1 < V.heap.size) from fun V a => by
    have p0 := r0.aft a
    have p1 := r1.aft a
    have p2 := r2.aft a
    exact ⟨⟨p0.cell (j := 0) rfl, p0.cell (j := 1) rfl, p0.1⟩, ⟨p1.cell (j := 0) rfl, p1.cell (j := 1) rfl, p1.cell (j := 2) rfl, p1.1⟩, ⟨p2.cell (j := 0) rfl, p2.cell (j := 1) rfl, p2.cell (j := 2) rfl, p2.cell (j := 3) rfl, p2.cell (j := 4) rfl, p2.cell (j := 5) rfl, p2.cell (j := 6) rfl, p2.cell (j := 7) rfl, p2.1⟩⟩)
  have CL := Lib.hid (show ∀ V, Aft W V → _ from fun V a => large_mod o As caps At capt V (schs_aft (aW.trans a) hsch) (tabs_aft (aW.trans a) htab))
  have CS := Lib.hid (show ∀ (hs ht : Hd) (L : List OTab) (B : Nat) (V : World), Aft W V → L.map OTab.t = o.tables → ObjIn V B hs ht o.schemas L → Calls Tryz.prog 25 #[.agg #[.slice hs.a o.schemas.length hs.c, .slice ht.a o.tables.length ht.c], .agg #[.slice As o.schemas.length caps, .slice At o.tables.length capt]] V fun e w'' => e = .returned (.bool true) ∧ Aft V w'' from
    fun hs ht L B V a hL ob => by
      have e1 : objOf o.schemas L = o := by unfold objOf; rw [hL]
      have g1 := ob.schs (by rw [e1]; exact sm)
      have g2 := ob.tabs (by rw [e1]; exact sm)
      rw [hL] at g2
      exact sameO_any o hs.a hs.c ht.a ht.c As caps At capt V g1 g2 (schs_aft (aW.trans a) hsch) (tabs_aft (aW.trans a) htab))
  obtain ⟨⟨X1, g1⟩, hX1⟩ : ∃ fr, chgR o (tabR o s n (addColF c)) = fr := ⟨_, rfl⟩
  have HS1 : SmO X1 := by have : SmO (chgR o (tabR o s n (addColF c))).1 := smO_chgX fun _ => smO_tabX sm fun t ht hz => smT_addC (sm.2.2 t ht) s1 hz; rw [hX1] at this; exact this
  have HD1' := Lib.hid (show g1 = 0 → ∀ (hs ht : Hd) (L : List OTab) (B : Nat) (V : World), L.map OTab.t = X1.tables → ObjIn V B hs ht X1.schemas L → Calls Tryz.prog 24 #[.agg #[.slice hs.a X1.schemas.length hs.c, .slice ht.a X1.tables.length ht.c], .string s, .string n, .string c.name] V (ObjP V (o, 0)) from fun hz9 hs ht L B V hL ob => by
    obtain ⟨hc, hz, he, hx⟩ := chk_chgB (o := o) (x := tabR o s n (addColF c)) (fun h hz => chk_addCol h hz) (by rw [hX1]; exact hz9)
    rw [hX1] at he
    have he : X1 = (tabR o s n (addColF c)).1 := he
    have e1 : objOf X1.schemas L = X1 := by unfold objOf; rw [hL]
    have g1 := ob.schs (by rw [e1]; exact HS1)
    have g2 := ob.tabs (by rw [e1]; exact HS1)
    rw [hL] at g2
    have hfin : chgR X1 (tabR X1 s n (dropColF c.name)) = (o, 0) := by
      unfold chgR
      rw [if_pos (by rw [he]; exact hx), he]
      exact back_col hc hz
    have := dropColumn_in c.name X1 hs.a hs.c ht.a ht.c s n V g1 g2
    rw [hfin] at this
    exact this)
  have C1 := Lib.hid (show ∀ V, Aft W V → Calls Tryz.prog 22 #[.agg #[.slice As o.schemas.length caps, .slice At o.tables.length capt], .string s, .string n, .agg #[.string c.name, .int .i64 c.kind, .bool c.null]] V (ObjP V (X1, g1)) from fun V a => hX1 ▸ addColumn_in c.name c.kind c.null o As caps At capt s n V (schs_aft (aW.trans a) hsch) (tabs_aft (aW.trans a) htab) s1)
  obtain ⟨⟨X2, g2⟩, hX2⟩ : ∃ fr, chgR o (tabR o s n (addRulF o.tables r)) = fr := ⟨_, rfl⟩
  have HS2 : SmO X2 := by have : SmO (chgR o (tabR o s n (addRulF o.tables r))).1 := smO_chgX fun _ => smO_tabX sm fun t ht hz => smT_addRul (sm.2.2 t ht) ⟨(sm_names hns).1, (sm_names hns).2, sr.1, sr.2.1, sr.2.2.1, sr.2.2.2⟩ hz; rw [hX2] at this; exact this
  have HD2' := Lib.hid (show g2 = 0 → ∀ (hs ht : Hd) (L : List OTab) (B : Nat) (V : World), L.map OTab.t = X2.tables → ObjIn V B hs ht X2.schemas L → Calls Tryz.prog 18 #[.agg #[.slice hs.a X2.schemas.length hs.c, .slice ht.a X2.tables.length ht.c], .string s, .string n, .string r.name] V (ObjP V (o, 0)) from fun hz9 hs ht L B V hL ob => by
    obtain ⟨hc, hz, he, hx⟩ := chk_chgB (o := o) (x := tabR o s n (addRulF o.tables r)) (fun h hz => chk_addRul h hz) (by rw [hX2]; exact hz9)
    rw [hX2] at he
    have he : X2 = (tabR o s n (addRulF o.tables r)).1 := he
    have e1 : objOf X2.schemas L = X2 := by unfold objOf; rw [hL]
    have g1 := ob.schs (by rw [e1]; exact HS2)
    have g2 := ob.tabs (by rw [e1]; exact HS2)
    rw [hL] at g2
    have hfin : chgR X2 (tabR X2 s n (dropRulF X2.tables s n r.name)) = (o, 0) := by
      unfold chgR
      rw [if_pos (by rw [he]; exact hx), he]
      exact back_rul hc hz
    have := dropRule_in X2 hs.a hs.c ht.a ht.c s n r.name V g1 g2
    rw [hfin] at this
    exact this)
  have C2 := Lib.hid (show ∀ V, Aft W V → Calls Tryz.prog 16 #[.agg #[.slice As o.schemas.length caps, .slice At o.tables.length capt], .string s, .string n, .agg #[.string r.name, .int .i64 r.kind, .slice An r.cols.length cn, .int .i64 r.low, .int .i64 r.high, .string r.schema, .string r.table, .string r.key]] V (ObjP V (X2, g2)) from fun V a => hX2 ▸ addRule_in o As caps At capt r An cn s n V (schs_aft (aW.trans a) hsch) (tabs_aft (aW.trans a) htab) (strs_aft (aW.trans a) hns) sr.1 sr.2.1 sr.2.2.1 sr.2.2.2)
  obtain ⟨⟨X3, g3⟩, hX3⟩ : ∃ fr, chgR o (addSchR s n o) = fr := ⟨_, rfl⟩
  have HS3 : SmO X3 := by have : SmO (chgR o (addSchR s n o)).1 := smO_chg (smO_addSch sm s2 s3); rw [hX3] at this; exact this
  have HD3' := Lib.hid (show g3 = 0 → ∀ (hs ht : Hd) (L : List OTab) (B : Nat) (V : World), L.map OTab.t = X3.tables → ObjIn V B hs ht X3.schemas L → Calls Tryz.prog 26 #[.agg #[.slice hs.a X3.schemas.length hs.c, .slice ht.a X3.tables.length ht.c], .string s] V (ObjP V (o, 0)) from fun hz9 hs ht L B V hL ob => by
    obtain ⟨hc, hz, he, hx⟩ := chk_chgB (o := o) (x := addSchR s n o) (fun h hz => chk_addSch h hz) (by rw [hX3]; exact hz9)
    rw [hX3] at he
    have he : X3 = (addSchR s n o).1 := he
    have e1 : objOf X3.schemas L = X3 := by unfold objOf; rw [hL]
    have g1 := ob.schs (by rw [e1]; exact HS3)
    have g2 := ob.tabs (by rw [e1]; exact HS3)
    rw [hL] at g2
    have hfin : chgR X3 (dropSchR s X3) = (o, 0) := by
      unfold chgR
      rw [if_pos (by rw [he]; exact hx), he]
      exact back_sch hc hz
    have := dropSchema_in X3 hs.a hs.c ht.a ht.c s V g1 g2
    rw [hfin] at this
    exact this)
  have C3 := Lib.hid (show ∀ V, Aft W V → Calls Tryz.prog 23 #[.agg #[.slice As o.schemas.length caps, .slice At o.tables.length capt], .string s, .string n] V (ObjP V (X3, g3)) from fun V a => hX3 ▸ addSchema_in o As caps At capt s n V (schs_aft (aW.trans a) hsch) (tabs_aft (aW.trans a) htab) s2 s3)
  have HAW := Lib.hid aW
  clear sm hsch htab hns sr s1 s2 s3 aW r0 r1 r2 hX1 HS1 hX2 HS2 hX3 HS3
  go_enter Tryz.func4, Tryz.ntmps4
  go_wp2_with fail
  rw [← hW]
  clear hW
  refine (CL.out W (Aft.refl W)).mono ?_
  rintro e w2 ⟨b, rfl, hmod, a2⟩
  have HA2 := Lib.hid a2
  obtain ⟨⟨q00, q01, q0z⟩, ⟨q10, q11, q12, q1z⟩, ⟨q20, q21, q22, q23, q24, q25, q26, q27, q2z⟩⟩ := KF.out w2 a2
  clear a2 CL hmod
  cases b
  case true =>
    go_wp2_with fail
    go_ret
    exact ⟨rfl, HAW.out.trans HA2.out⟩
  by_cases m3 : 3000 < r.cols.length
  · have m3' : (3000 : Int) < (r.cols.length : Int) := by omega
    go_wp2_with fail
    go_ret
    exact ⟨rfl, HAW.out.trans HA2.out⟩
  have m3' : ¬ (3000 : Int) < (r.cols.length : Int) := by omega
  clear m3
  go_wp2_with fail
  refine (C1.out w2 HA2.out).mono ?_
  rintro e w3 ⟨hs3, ht3, L3, hL3, rfl, a3, ob3⟩
  (try dsimp only)
  obtain ⟨W3, hW3⟩ : ∃ V, V = w3.alloc (.cells #[.slice hs3.a X1.schemas.length hs3.c, .slice ht3.a X1.tables.length ht3.c] 25) := ⟨_, rfl⟩
  have aW3 : Aft w3 W3 := by rw [hW3]; exact (Aft.refl _).alloc _
  have HB3 := Lib.hid (show RowAt W3 w3.heap.size [.slice hs3.a X1.schemas.length hs3.c, .slice ht3.a X1.tables.length ht3.c] by rw [hW3]; exact box_row2 (Aft.refl _))
  have HO3 := Lib.hid (ob3.aft aW3)
  have HL3 := Lib.hid (show L3.map OTab.t = X1.tables from hL3)
  have HA3 := Lib.hid (HA2.out.trans (a3.trans aW3))
  have HE3 := Lib.hid (a3.trans aW3)
  obtain ⟨⟨q00, q01, q0z⟩, ⟨q10, q11, q12, q1z⟩, ⟨q20, q21, q22, q23, q24, q25, q26, q27, q2z⟩⟩ := KF.out w3 (HA2.out.trans a3)
  have zz0 : w.heap.size < w3.heap.size + 1 := by omega
  have zz1 : w.heap.size + 1 < w3.heap.size + 1 := by omega
  have zz2 : w.heap.size + 1 + 1 < w3.heap.size + 1 := by omega
  clear a3 aW3 ob3 hL3
  go_wp2_with fail
  rw [← hW3]
  clear hW3
  refine (C2.out W3 HA3.out).mono ?_
  rintro e w4 ⟨hs4, ht4, L4, hL4, rfl, a4, ob4⟩
  (try dsimp only)
  obtain ⟨W4, hW4⟩ : ∃ V, V = w4.alloc (.cells #[.slice hs4.a X2.schemas.length hs4.c, .slice ht4.a X2.tables.length ht4.c] 25) := ⟨_, rfl⟩
  have aW4 : Aft w4 W4 := by rw [hW4]; exact (Aft.refl _).alloc _
  have HB4 := Lib.hid (show RowAt W4 w4.heap.size [.slice hs4.a X2.schemas.length hs4.c, .slice ht4.a X2.tables.length ht4.c] by rw [hW4]; exact box_row2 (Aft.refl _))
  have HO4 := Lib.hid (ob4.aft aW4)
  have HL4 := Lib.hid (show L4.map OTab.t = X2.tables from hL4)
  have HA4 := Lib.hid (HA3.out.trans (a4.trans aW4))
  have HE4 := Lib.hid (a4.trans aW4)
  obtain ⟨⟨q00, q01, q0z⟩, ⟨q10, q11, q12, q1z⟩, ⟨q20, q21, q22, q23, q24, q25, q26, q27, q2z⟩⟩ := KF.out w4 (HA3.out.trans a4)
  have zz0 : w.heap.size < w4.heap.size + 1 := by omega
  have zz1 : w.heap.size + 1 < w4.heap.size + 1 := by omega
  have zz2 : w.heap.size + 1 + 1 < w4.heap.size + 1 := by omega
  clear a4 aW4 ob4 hL4
  go_wp2_with fail
  rw [← hW4]
  clear hW4
  refine (C3.out W4 HA4.out).mono ?_
  rintro e w5 ⟨hs5, ht5, L5, hL5, rfl, a5, ob5⟩
  (try dsimp only)
  obtain ⟨W5, hW5⟩ : ∃ V, V = w5.alloc (.cells #[.slice hs5.a X3.schemas.length hs5.c, .slice ht5.a X3.tables.length ht5.c] 25) := ⟨_, rfl⟩
  have aW5 : Aft w5 W5 := by rw [hW5]; exact (Aft.refl _).alloc _
  have HB5 := Lib.hid (show RowAt W5 w5.heap.size [.slice hs5.a X3.schemas.length hs5.c, .slice ht5.a X3.tables.length ht5.c] by rw [hW5]; exact box_row2 (Aft.refl _))
  have HO5 := Lib.hid (ob5.aft aW5)
  have HL5 := Lib.hid (show L5.map OTab.t = X3.tables from hL5)
  have HA5 := Lib.hid (HA4.out.trans (a5.trans aW5))
  have HE5 := Lib.hid (a5.trans aW5)
  obtain ⟨⟨q00, q01, q0z⟩, ⟨q10, q11, q12, q1z⟩, ⟨q20, q21, q22, q23, q24, q25, q26, q27, q2z⟩⟩ := KF.out w5 (HA4.out.trans a5)
  have zz0 : w.heap.size < w5.heap.size + 1 := by omega
  have zz1 : w.heap.size + 1 < w5.heap.size + 1 := by omega
  have zz2 : w.heap.size + 1 + 1 < w5.heap.size + 1 := by omega
  clear a5 aW5 ob5 hL5
  have KB1 := Lib.hid (show ∀ V, Aft W5 V → (V.cell? ⟨w3.heap.size, 0, none⟩ = some (.slice hs3.a X1.schemas.length hs3.c) ∧ V.cell? ⟨w3.heap.size, 1, none⟩ = some (.slice ht3.a X1.tables.length ht3.c) ∧ w3.heap.size < V.heap.size) from fun V a => ⟨((HB3.out.aft (HE4.out.trans HE5.out)).aft a).cell (j := 0) rfl, ((HB3.out.aft (HE4.out.trans HE5.out)).aft a).cell (j := 1) rfl, ((HB3.out.aft (HE4.out.trans HE5.out)).aft a).1⟩)
  have CD1 := Lib.hid (show g1 = 0 → ∀ V, Aft W5 V → _ from fun h V a => HD1'.out h hs3 ht3 L3 _ V HL3.out (HO3.out.aft (Aft.trans (HE4.out.trans HE5.out) a)))
  have KB2 := Lib.hid (show ∀ V, Aft W5 V → (V.cell? ⟨w4.heap.size, 0, none⟩ = some (.slice hs4.a X2.schemas.length hs4.c) ∧ V.cell? ⟨w4.heap.size, 1, none⟩ = some (.slice ht4.a X2.tables.length ht4.c) ∧ w4.heap.size < V.heap.size) from fun V a => ⟨((HB4.out.aft (HE5.out)).aft a).cell (j := 0) rfl, ((HB4.out.aft (HE5.out)).aft a).cell (j := 1) rfl, ((HB4.out.aft (HE5.out)).aft a).1⟩)
  have CD2 := Lib.hid (show g2 = 0 → ∀ V, Aft W5 V → _ from fun h V a => HD2'.out h hs4 ht4 L4 _ V HL4.out (HO4.out.aft (Aft.trans (HE5.out) a)))
  have KB3 := Lib.hid (show ∀ V, Aft W5 V → (V.cell? ⟨w5.heap.size, 0, none⟩ = some (.slice hs5.a X3.schemas.length hs5.c) ∧ V.cell? ⟨w5.heap.size, 1, none⟩ = some (.slice ht5.a X3.tables.length ht5.c) ∧ w5.heap.size < V.heap.size) from fun V a => ⟨((HB5.out.aft (Aft.refl _)).aft a).cell (j := 0) rfl, ((HB5.out.aft (Aft.refl _)).aft a).cell (j := 1) rfl, ((HB5.out.aft (Aft.refl _)).aft a).1⟩)
  have CD3 := Lib.hid (show g3 = 0 → ∀ V, Aft W5 V → _ from fun h V a => HD3'.out h hs5 ht5 L5 _ V HL5.out (HO5.out.aft (Aft.trans (Aft.refl _) a)))
  rename_i K1 hK1 K2 hK2
  have HKR := Lib.hid hK1
  clear hK1
  go_wp2_with fail
  rw [← hW5]
  clear hW5
  refine HKR.out _ _ ?_
  clear HKR C1 C2 C3
  by_cases z1 : g1 = 0
  · have D1 := Lib.hid (CD1.out z1)
    have zb1 : (g1 == 0) = true := by simpa using z1
    clear z1
    obtain ⟨y0, y1, yz⟩ := KB1.out W5 (Aft.refl _)
    obtain ⟨⟨q00, q01, q0z⟩, ⟨q10, q11, q12, q1z⟩, ⟨q20, q21, q22, q23, q24, q25, q26, q27, q2z⟩⟩ := KF.out W5 (HA5.out.trans (Aft.refl _))
    go_wp2_with fail
    refine (D1.out W5 (Aft.refl _)).mono ?_
    rintro e u1 ⟨hs1', ht1', L1', hL1', rfl, au1, obu1⟩
    (try dsimp only)
    obtain ⟨U1, hU1⟩ : ∃ V, V = u1.alloc (.cells #[.slice hs1'.a o.schemas.length hs1'.c, .slice ht1'.a o.tables.length ht1'.c] 25) := ⟨_, rfl⟩
    have aU1 : Aft u1 U1 := by rw [hU1]; exact (Aft.refl _).alloc _
    have HU1 := Lib.hid (Aft.trans (Aft.refl _) (au1.trans aU1))
    have S1 := Lib.hid (CS.out hs1' ht1' L1' _ U1 (HA5.out.trans HU1.out) hL1' (obu1.aft aU1))
    obtain ⟨⟨q00, q01, q0z⟩, ⟨q10, q11, q12, q1z⟩, ⟨q20, q21, q22, q23, q24, q25, q26, q27, q2z⟩⟩ := KF.out u1 (HA5.out.trans (Aft.trans (Aft.refl _) au1))
    have zz0 : w.heap.size < u1.heap.size + 1 := by omega
    clear au1 aU1 obu1 hL1' D1
    go_wp2_with fail
    rw [← hU1]
    clear hU1
    refine S1.out.mono ?_
    rintro e t1 ⟨rfl, at1⟩
    have HT1 := Lib.hid (HU1.out.trans at1)
    clear at1 S1
    by_cases z2 : g2 = 0
    · have D2 := Lib.hid (CD2.out z2)
      have zb2 : (g2 == 0) = true := by simpa using z2
      clear z2
      obtain ⟨y0, y1, yz⟩ := KB2.out t1 (HT1.out)
      obtain ⟨⟨q00, q01, q0z⟩, ⟨q10, q11, q12, q1z⟩, ⟨q20, q21, q22, q23, q24, q25, q26, q27, q2z⟩⟩ := KF.out t1 (HA5.out.trans (HT1.out))
      go_wp2_with fail
      refine (D2.out t1 (HT1.out)).mono ?_
      rintro e u2 ⟨hs2', ht2', L2', hL2', rfl, au2, obu2⟩
      (try dsimp only)
      obtain ⟨U2, hU2⟩ : ∃ V, V = u2.alloc (.cells #[.slice hs2'.a o.schemas.length hs2'.c, .slice ht2'.a o.tables.length ht2'.c] 25) := ⟨_, rfl⟩
      have aU2 : Aft u2 U2 := by rw [hU2]; exact (Aft.refl _).alloc _
      have HU2 := Lib.hid (Aft.trans (HT1.out) (au2.trans aU2))
      have S2 := Lib.hid (CS.out hs2' ht2' L2' _ U2 (HA5.out.trans HU2.out) hL2' (obu2.aft aU2))
      obtain ⟨⟨q00, q01, q0z⟩, ⟨q10, q11, q12, q1z⟩, ⟨q20, q21, q22, q23, q24, q25, q26, q27, q2z⟩⟩ := KF.out u2 (HA5.out.trans (Aft.trans (HT1.out) au2))
      have zz0 : w.heap.size < u2.heap.size + 1 := by omega
      clear au2 aU2 obu2 hL2' D2
      go_wp2_with fail
      rw [← hU2]
      clear hU2
      refine S2.out.mono ?_
      rintro e t2 ⟨rfl, at2⟩
      have HT2 := Lib.hid (HU2.out.trans at2)
      clear at2 S2
      by_cases z3 : g3 = 0
      · have D3 := Lib.hid (CD3.out z3)
        have zb3 : (g3 == 0) = true := by simpa using z3
        clear z3
        obtain ⟨y0, y1, yz⟩ := KB3.out t2 (HT2.out)
        obtain ⟨⟨q00, q01, q0z⟩, ⟨q10, q11, q12, q1z⟩, ⟨q20, q21, q22, q23, q24, q25, q26, q27, q2z⟩⟩ := KF.out t2 (HA5.out.trans (HT2.out))
        go_wp2_with fail
        refine (D3.out t2 (HT2.out)).mono ?_
        rintro e u3 ⟨hs3', ht3', L3', hL3', rfl, au3, obu3⟩
        (try dsimp only)
        obtain ⟨U3, hU3⟩ : ∃ V, V = u3.alloc (.cells #[.slice hs3'.a o.schemas.length hs3'.c, .slice ht3'.a o.tables.length ht3'.c] 25) := ⟨_, rfl⟩
        have aU3 : Aft u3 U3 := by rw [hU3]; exact (Aft.refl _).alloc _
        have HU3 := Lib.hid (Aft.trans (HT2.out) (au3.trans aU3))
        have S3 := Lib.hid (CS.out hs3' ht3' L3' _ U3 (HA5.out.trans HU3.out) hL3' (obu3.aft aU3))
        obtain ⟨⟨q00, q01, q0z⟩, ⟨q10, q11, q12, q1z⟩, ⟨q20, q21, q22, q23, q24, q25, q26, q27, q2z⟩⟩ := KF.out u3 (HA5.out.trans (Aft.trans (HT2.out) au3))
        have zz0 : w.heap.size < u3.heap.size + 1 := by omega
        clear au3 aU3 obu3 hL3' D3
        go_wp2_with fail
        rw [← hU3]
        clear hU3
        refine S3.out.mono ?_
        rintro e t3 ⟨rfl, at3⟩
        have HT3 := Lib.hid (HU3.out.trans at3)
        clear at3 S3
        go_wp2_with fail
        refine (columns_any _).mono ?_
        rintro e v1 ⟨rfl, b1⟩
        have H1 := Lib.hid ((HAW.out.trans HA5.out).trans ((HT3.out).trans b1))
        clear b1
        go_wp2_with fail
        refine (rules_any _).mono ?_
        rintro e v2 ⟨rfl, b2⟩
        have H2 := Lib.hid (H1.out.trans b2)
        clear b2
        go_wp2_with fail
        refine (schemas_any _).mono ?_
        rintro e v3 ⟨rfl, b3⟩
        have H3 := Lib.hid (H2.out.trans b3)
        clear b3
        go_wp2_with fail
        go_ret
        exact ⟨rfl, H3.out⟩
      · have zb3 : (g3 == 0) = false := by simpa using z3
        clear z3
        go_wp2_with fail
        refine (columns_any _).mono ?_
        rintro e v1 ⟨rfl, b1⟩
        have H1 := Lib.hid ((HAW.out.trans HA5.out).trans ((HT2.out).trans b1))
        clear b1
        go_wp2_with fail
        refine (rules_any _).mono ?_
        rintro e v2 ⟨rfl, b2⟩
        have H2 := Lib.hid (H1.out.trans b2)
        clear b2
        go_wp2_with fail
        refine (schemas_any _).mono ?_
        rintro e v3 ⟨rfl, b3⟩
        have H3 := Lib.hid (H2.out.trans b3)
        clear b3
        go_wp2_with fail
        go_ret
        exact ⟨rfl, H3.out⟩
    · have zb2 : (g2 == 0) = false := by simpa using z2
      clear z2
      by_cases z3 : g3 = 0
      · have D3 := Lib.hid (CD3.out z3)
        have zb3 : (g3 == 0) = true := by simpa using z3
        clear z3
        obtain ⟨y0, y1, yz⟩ := KB3.out t1 (HT1.out)
        obtain ⟨⟨q00, q01, q0z⟩, ⟨q10, q11, q12, q1z⟩, ⟨q20, q21, q22, q23, q24, q25, q26, q27, q2z⟩⟩ := KF.out t1 (HA5.out.trans (HT1.out))
        go_wp2_with fail
        refine (D3.out t1 (HT1.out)).mono ?_
        rintro e u3 ⟨hs3', ht3', L3', hL3', rfl, au3, obu3⟩
        (try dsimp only)
        obtain ⟨U3, hU3⟩ : ∃ V, V = u3.alloc (.cells #[.slice hs3'.a o.schemas.length hs3'.c, .slice ht3'.a o.tables.length ht3'.c] 25) := ⟨_, rfl⟩
        have aU3 : Aft u3 U3 := by rw [hU3]; exact (Aft.refl _).alloc _
        have HU3 := Lib.hid (Aft.trans (HT1.out) (au3.trans aU3))
        have S3 := Lib.hid (CS.out hs3' ht3' L3' _ U3 (HA5.out.trans HU3.out) hL3' (obu3.aft aU3))
        obtain ⟨⟨q00, q01, q0z⟩, ⟨q10, q11, q12, q1z⟩, ⟨q20, q21, q22, q23, q24, q25, q26, q27, q2z⟩⟩ := KF.out u3 (HA5.out.trans (Aft.trans (HT1.out) au3))
        have zz0 : w.heap.size < u3.heap.size + 1 := by omega
        clear au3 aU3 obu3 hL3' D3
        go_wp2_with fail
        rw [← hU3]
        clear hU3
        refine S3.out.mono ?_
        rintro e t3 ⟨rfl, at3⟩
        have HT3 := Lib.hid (HU3.out.trans at3)
        clear at3 S3
        go_wp2_with fail
        refine (columns_any _).mono ?_
        rintro e v1 ⟨rfl, b1⟩
        have H1 := Lib.hid ((HAW.out.trans HA5.out).trans ((HT3.out).trans b1))
        clear b1
        go_wp2_with fail
        refine (rules_any _).mono ?_
        rintro e v2 ⟨rfl, b2⟩
        have H2 := Lib.hid (H1.out.trans b2)
        clear b2
        go_wp2_with fail
        refine (schemas_any _).mono ?_
        rintro e v3 ⟨rfl, b3⟩
        have H3 := Lib.hid (H2.out.trans b3)
        clear b3
        go_wp2_with fail
        go_ret
        exact ⟨rfl, H3.out⟩
      · have zb3 : (g3 == 0) = false := by simpa using z3
        clear z3
        go_wp2_with fail
        refine (columns_any _).mono ?_
        rintro e v1 ⟨rfl, b1⟩
        have H1 := Lib.hid ((HAW.out.trans HA5.out).trans ((HT1.out).trans b1))
        clear b1
        go_wp2_with fail
        refine (rules_any _).mono ?_
        rintro e v2 ⟨rfl, b2⟩
        have H2 := Lib.hid (H1.out.trans b2)
        clear b2
        go_wp2_with fail
        refine (schemas_any _).mono ?_
        rintro e v3 ⟨rfl, b3⟩
        have H3 := Lib.hid (H2.out.trans b3)
        clear b3
        go_wp2_with fail
        go_ret
        exact ⟨rfl, H3.out⟩
  · have zb1 : (g1 == 0) = false := by simpa using z1
    clear z1
    by_cases z2 : g2 = 0
    · have D2 := Lib.hid (CD2.out z2)
      have zb2 : (g2 == 0) = true := by simpa using z2
      clear z2
      obtain ⟨y0, y1, yz⟩ := KB2.out W5 (Aft.refl _)
      obtain ⟨⟨q00, q01, q0z⟩, ⟨q10, q11, q12, q1z⟩, ⟨q20, q21, q22, q23, q24, q25, q26, q27, q2z⟩⟩ := KF.out W5 (HA5.out.trans (Aft.refl _))
      go_wp2_with fail
      refine (D2.out W5 (Aft.refl _)).mono ?_
      rintro e u2 ⟨hs2', ht2', L2', hL2', rfl, au2, obu2⟩
      (try dsimp only)
      obtain ⟨U2, hU2⟩ : ∃ V, V = u2.alloc (.cells #[.slice hs2'.a o.schemas.length hs2'.c, .slice ht2'.a o.tables.length ht2'.c] 25) := ⟨_, rfl⟩
      have aU2 : Aft u2 U2 := by rw [hU2]; exact (Aft.refl _).alloc _
      have HU2 := Lib.hid (Aft.trans (Aft.refl _) (au2.trans aU2))
      have S2 := Lib.hid (CS.out hs2' ht2' L2' _ U2 (HA5.out.trans HU2.out) hL2' (obu2.aft aU2))
      obtain ⟨⟨q00, q01, q0z⟩, ⟨q10, q11, q12, q1z⟩, ⟨q20, q21, q22, q23, q24, q25, q26, q27, q2z⟩⟩ := KF.out u2 (HA5.out.trans (Aft.trans (Aft.refl _) au2))
      have zz0 : w.heap.size < u2.heap.size + 1 := by omega
      clear au2 aU2 obu2 hL2' D2
      go_wp2_with fail
      rw [← hU2]
      clear hU2
      refine S2.out.mono ?_
      rintro e t2 ⟨rfl, at2⟩
      have HT2 := Lib.hid (HU2.out.trans at2)
      clear at2 S2
      by_cases z3 : g3 = 0
      · have D3 := Lib.hid (CD3.out z3)
        have zb3 : (g3 == 0) = true := by simpa using z3
        clear z3
        obtain ⟨y0, y1, yz⟩ := KB3.out t2 (HT2.out)
        obtain ⟨⟨q00, q01, q0z⟩, ⟨q10, q11, q12, q1z⟩, ⟨q20, q21, q22, q23, q24, q25, q26, q27, q2z⟩⟩ := KF.out t2 (HA5.out.trans (HT2.out))
        go_wp2_with fail
        refine (D3.out t2 (HT2.out)).mono ?_
        rintro e u3 ⟨hs3', ht3', L3', hL3', rfl, au3, obu3⟩
        (try dsimp only)
        obtain ⟨U3, hU3⟩ : ∃ V, V = u3.alloc (.cells #[.slice hs3'.a o.schemas.length hs3'.c, .slice ht3'.a o.tables.length ht3'.c] 25) := ⟨_, rfl⟩
        have aU3 : Aft u3 U3 := by rw [hU3]; exact (Aft.refl _).alloc _
        have HU3 := Lib.hid (Aft.trans (HT2.out) (au3.trans aU3))
        have S3 := Lib.hid (CS.out hs3' ht3' L3' _ U3 (HA5.out.trans HU3.out) hL3' (obu3.aft aU3))
        obtain ⟨⟨q00, q01, q0z⟩, ⟨q10, q11, q12, q1z⟩, ⟨q20, q21, q22, q23, q24, q25, q26, q27, q2z⟩⟩ := KF.out u3 (HA5.out.trans (Aft.trans (HT2.out) au3))
        have zz0 : w.heap.size < u3.heap.size + 1 := by omega
        clear au3 aU3 obu3 hL3' D3
        go_wp2_with fail
        rw [← hU3]
        clear hU3
        refine S3.out.mono ?_
        rintro e t3 ⟨rfl, at3⟩
        have HT3 := Lib.hid (HU3.out.trans at3)
        clear at3 S3
        go_wp2_with fail
        refine (columns_any _).mono ?_
        rintro e v1 ⟨rfl, b1⟩
        have H1 := Lib.hid ((HAW.out.trans HA5.out).trans ((HT3.out).trans b1))
        clear b1
        go_wp2_with fail
        refine (rules_any _).mono ?_
        rintro e v2 ⟨rfl, b2⟩
        have H2 := Lib.hid (H1.out.trans b2)
        clear b2
        go_wp2_with fail
        refine (schemas_any _).mono ?_
        rintro e v3 ⟨rfl, b3⟩
        have H3 := Lib.hid (H2.out.trans b3)
        clear b3
        go_wp2_with fail
        go_ret
        exact ⟨rfl, H3.out⟩
      · have zb3 : (g3 == 0) = false := by simpa using z3
        clear z3
        go_wp2_with fail
        refine (columns_any _).mono ?_
        rintro e v1 ⟨rfl, b1⟩
        have H1 := Lib.hid ((HAW.out.trans HA5.out).trans ((HT2.out).trans b1))
        clear b1
        go_wp2_with fail
        refine (rules_any _).mono ?_
        rintro e v2 ⟨rfl, b2⟩
        have H2 := Lib.hid (H1.out.trans b2)
        clear b2
        go_wp2_with fail
        refine (schemas_any _).mono ?_
        rintro e v3 ⟨rfl, b3⟩
        have H3 := Lib.hid (H2.out.trans b3)
        clear b3
        go_wp2_with fail
        go_ret
        exact ⟨rfl, H3.out⟩
    · have zb2 : (g2 == 0) = false := by simpa using z2
      clear z2
      by_cases z3 : g3 = 0
      · have D3 := Lib.hid (CD3.out z3)
        have zb3 : (g3 == 0) = true := by simpa using z3
        clear z3
        obtain ⟨y0, y1, yz⟩ := KB3.out W5 (Aft.refl _)
        obtain ⟨⟨q00, q01, q0z⟩, ⟨q10, q11, q12, q1z⟩, ⟨q20, q21, q22, q23, q24, q25, q26, q27, q2z⟩⟩ := KF.out W5 (HA5.out.trans (Aft.refl _))
        go_wp2_with fail
        refine (D3.out W5 (Aft.refl _)).mono ?_
        rintro e u3 ⟨hs3', ht3', L3', hL3', rfl, au3, obu3⟩
        (try dsimp only)
        obtain ⟨U3, hU3⟩ : ∃ V, V = u3.alloc (.cells #[.slice hs3'.a o.schemas.length hs3'.c, .slice ht3'.a o.tables.length ht3'.c] 25) := ⟨_, rfl⟩
        have aU3 : Aft u3 U3 := by rw [hU3]; exact (Aft.refl _).alloc _
        have HU3 := Lib.hid (Aft.trans (Aft.refl _) (au3.trans aU3))
        have S3 := Lib.hid (CS.out hs3' ht3' L3' _ U3 (HA5.out.trans HU3.out) hL3' (obu3.aft aU3))
        obtain ⟨⟨q00, q01, q0z⟩, ⟨q10, q11, q12, q1z⟩, ⟨q20, q21, q22, q23, q24, q25, q26, q27, q2z⟩⟩ := KF.out u3 (HA5.out.trans (Aft.trans (Aft.refl _) au3))
        have zz0 : w.heap.size < u3.heap.size + 1 := by omega
        clear au3 aU3 obu3 hL3' D3
        go_wp2_with fail
        rw [← hU3]
        clear hU3
        refine S3.out.mono ?_
        rintro e t3 ⟨rfl, at3⟩
        have HT3 := Lib.hid (HU3.out.trans at3)
        clear at3 S3
        go_wp2_with fail
        refine (columns_any _).mono ?_
        rintro e v1 ⟨rfl, b1⟩
        have H1 := Lib.hid ((HAW.out.trans HA5.out).trans ((HT3.out).trans b1))
        clear b1
        go_wp2_with fail
        refine (rules_any _).mono ?_
        rintro e v2 ⟨rfl, b2⟩
        have H2 := Lib.hid (H1.out.trans b2)
        clear b2
        go_wp2_with fail
        refine (schemas_any _).mono ?_
        rintro e v3 ⟨rfl, b3⟩
        have H3 := Lib.hid (H2.out.trans b3)
        clear b3
        go_wp2_with fail
        go_ret
        exact ⟨rfl, H3.out⟩
      · have zb3 : (g3 == 0) = false := by simpa using z3
        clear z3
        go_wp2_with fail
        refine (columns_any _).mono ?_
        rintro e v1 ⟨rfl, b1⟩
        have H1 := Lib.hid ((HAW.out.trans HA5.out).trans ((Aft.refl _).trans b1))
        clear b1
        go_wp2_with fail
        refine (rules_any _).mono ?_
        rintro e v2 ⟨rfl, b2⟩
        have H2 := Lib.hid (H1.out.trans b2)
        clear b2
        go_wp2_with fail
        refine (schemas_any _).mono ?_
        rintro e v3 ⟨rfl, b3⟩
        have H3 := Lib.hid (H2.out.trans b3)
        clear b3
        go_wp2_with fail
        go_ret
        exact ⟨rfl, H3.out⟩
end Go.Proofs.YticjnndhpfdajaaGreat
