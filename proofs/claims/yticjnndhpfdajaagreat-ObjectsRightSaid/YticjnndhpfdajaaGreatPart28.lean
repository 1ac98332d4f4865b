/- Contracts of the program, part 28. -/
import Derived.Test.YticjnndhpfdajaaGreatPart24
import Derived.Test.YticjnndhpfdajaaGreatPart21
import Derived.Test.YticjnndhpfdajaaGreatPart10
/- objects.DropTable, whole. -/
namespace Go.Proofs.YticjnndhpfdajaaGreat
open Go.RowKit Go.Deep
set_option maxRecDepth 100000
set_option linter.unusedVariables false
theorem dropTabR_zero {s n : ByteArray} {o : Objs} : (dropTabR s n o).2 ≠ 0 → (dropTabR s n o).1 = zeroO := by
  unfold dropTabR
  repeat (split; exact fun _ => rfl)
  exact fun h => absurd rfl h
set_option maxHeartbeats 8000000 in
theorem dropTable_in (o : Objs) (As : Option Addr) (caps : Nat) (At : Option Addr) (capt : Nat) (s n : ByteArray) (w : World) (hsch : SlAt w 2 SchR As caps o.schemas) (htab : SlAt w 5 TabR At capt o.tables) :
    Calls Tryz.prog 30 #[.agg #[.slice As o.schemas.length caps, .slice At o.tables.length capt], .string s, .string n] w (ObjP w (chgR o (dropTabR s n o))) := by
  have hlen := hsch.len
  have hlen2 := htab.len
  have sm : SmO o := ⟨sm_schs hsch, sm_tabs htab⟩
  have hent := enters (P := Tryz.prog) Tryz.func106 (by kernel_rfl) rfl
  have l1 : w.heap.size < w.heap.size + 1 := by omega
  have l2 : w.heap.size < w.heap.size + 1 + 1 := by omega
  have l3 : w.heap.size < w.heap.size + 1 + 1 + 1 := by omega
  obtain ⟨W, hW⟩ : ∃ W, W = (((w.alloc (.cells #[.slice As o.schemas.length caps, .slice At o.tables.length capt] 25)).alloc (.cells #[.string s] 9)).alloc (.cells #[.string n] 9)).alloc (.cells #[.slice none 0 0, .slice none 0 0] 25) := ⟨_, rfl⟩
  have aW : Aft w W := by rw [hW]; exact ((((Aft.refl w).alloc _).alloc _).alloc _).alloc _
  have rs0 : RowAt W (w.heap.size + 1) [.string s] := by
    rw [hW]
    have := (box_row2 (w := (w.alloc (.cells #[.slice As o.schemas.length caps, .slice At o.tables.length capt] 25))) (c := [.string s]) (t := 9) (Aft.refl _)).aft (((Aft.refl _).alloc (.cells #[.string n] 9)).alloc (.cells #[.slice none 0 0, .slice none 0 0] 25))
    simpa using this
  have rs1 : RowAt W (w.heap.size + 1 + 1) [.string n] := by
    rw [hW]
    have := (box_row2 (w := ((w.alloc (.cells #[.slice As o.schemas.length caps, .slice At o.tables.length capt] 25)).alloc (.cells #[.string s] 9))) (c := [.string n]) (t := 9) (Aft.refl _)).aft ((Aft.refl _).alloc (.cells #[.slice none 0 0, .slice none 0 0] 25))
    simpa using this
  have r2 : RowAt W (w.heap.size + 1 + 1 + 1) [.slice none 0 0, .slice none 0 0] := by
    rw [hW]
    have := (box_row2 (w := (((w.alloc (.cells #[.slice As o.schemas.length caps, .slice At o.tables.length capt] 25)).alloc (.cells #[.string s] 9)).alloc (.cells #[.string n] 9))) (c := [.slice none 0 0, .slice none 0 0]) (t := 25) (Aft.refl _))
    simpa using this
  have zW : W.heap.size = w.heap.size + 4 := by rw [hW]; simp
  have CT := Lib.hid (changed_in o As caps At capt 106 #[.pointer (some ⟨w.heap.size + 1, 0, none⟩), .pointer (some ⟨w.heap.size + 1 + 1, 0, none⟩)] (dropTabR s n o) W (schs_aft aW hsch) (tabs_aft aW htab) hent
    dropTabR_zero (fun hck w1 hs ht L B n3 a hB hn hL ob hne r3 => dropTab1_in s n o w1 hs ht L B n3 (w.heap.size + 1) (w.heap.size + 1 + 1) hn hL ob hne r3 ((rs0.aft a).cell (j := 0) rfl) ((rs1.aft a).cell (j := 0) rfl) sm))
  obtain ⟨rr, hrr⟩ : ∃ rr, chgR o (dropTabR s n o) = rr := ⟨_, rfl⟩
  rw [hrr] at CT ⊢
  have HAW := Lib.hid aW
  have HR2 := Lib.hid r2
  have HZ := Lib.hid zW
  clear hrr hsch htab r2 aW zW rs0 rs1 sm
  go_enter Tryz.func30, Tryz.ntmps30
  go_wp2_with fail
  rw [← hW]
  clear hW
  refine CT.out.mono ?_
  rintro e w3 ⟨hs, ht, L, hL, rfl, a3, ob⟩
  have b2 := HR2.out.aft a3
  have d0 := b2.cell (j := 0) rfl
  have d1 := b2.cell (j := 1) rfl
  have f0 := b2.2.2 0 (by simp)
  have f1 := b2.2.2 1 (by simp)
  have z2 := b2.1
  have HB3 := Lib.hid b2
  have HA3 := Lib.hid (HAW.out.trans a3)
  have HO := Lib.hid ob
  have HL := Lib.hid hL
  clear b2 a3 ob hL
  go_wp2_with fail
  refine bodyPost_ret (results_cell_tmp (v := .agg #[.slice hs.a rr.1.schemas.length hs.c, .slice ht.a rr.1.tables.length ht.c]) rfl _ rfl (lvObj_row (setO_row HB3.out rfl _ _))) rfl ?_
  exact objP_set HA3.out HL.out HO.out (by omega) (by have := HZ.out; omega) rfl
end Go.Proofs.YticjnndhpfdajaaGreat
/- The document's names: has a table a rule that names another one? -/
namespace Go.Proofs.YticjnndhpfdajaaGreat
open Go.RowKit Go.Deep
set_option maxRecDepth 100000
set_option linter.unusedVariables false
theorem any_no {α : Type} {p : α → Bool} {l : List α} (h : ∀ j, j < l.length → ∀ hj : j < l.length, p l[j] = false) : l.any p = false := by
  rw [List.any_eq_false]
  intro x hx
  obtain ⟨j, hj, rfl⟩ := List.mem_iff_getElem.1 hx
  rw [h j hj hj]; simp
set_option maxHeartbeats 8000000 in
theorem rnames_in (t : Tab) (v0 : Value) (A2 : Option Addr) (cap2 : Nat) (s n : ByteArray) (w : World) (h2 : SlAt w 8 RulR A2 cap2 t.rules) :
    Calls Tryz.prog 79 #[.agg #[.string t.schema, .string t.name, .string t.owner, v0, .slice A2 t.rules.length cap2], .string s, .string n, .string ⟨#[]⟩] w fun e w' => e = .returned (.bool (t.rules.any (namesR s n))) ∧ Aft w w' := by
  have hlen := h2.len
  obtain ⟨W, hW⟩ : ∃ W, W = w.alloc (.cells #[.string t.schema, .string t.name, .string t.owner, v0, .slice A2 t.rules.length cap2] 50) := ⟨_, rfl⟩
  have aW : Aft w W := by rw [hW]; exact (Aft.refl w).alloc _
  have r0 : RowAt W w.heap.size [.string t.schema, .string t.name, .string t.owner, v0, .slice A2 t.rules.length cap2] := by rw [hW]; exact box_row2 (Aft.refl _)
  have HAW := Lib.hid aW
  have KF := Lib.hid (show ∀ V, Aft W V → (V.cell? ⟨w.heap.size, 4, none⟩ = some (.slice A2 t.rules.length cap2) ∧ w.heap.size < V.heap.size) from fun V a => ⟨(r0.aft a).cell (j := 4) rfl, (r0.aft a).1⟩)
  have HR := Lib.hid h2
  clear aW r0 h2
  go_enter Tryz.func79, Tryz.ntmps79
  go_wp2_with fail
  rw [← hW]
  clear hW
  go_loopw [9] (fun i wr => ∃ k : Nat, k ≤ t.rules.length ∧ i = .int .i64 k ∧ Aft W wr ∧ ∀ j, j < k → ∀ (hj : j < t.rules.length), namesR s n t.rules[j] = false) (fun i _ => t.rules.length - (intOf i).toNat)
  case atStart => exact ⟨0, Nat.zero_le _, rfl, Aft.refl W, fun j hj => absurd hj (Nat.not_lt_zero j)⟩
  case round =>
    obtain ⟨k, hk, rfl, ha, hp⟩ := hrel
    have HA := Lib.hid ha
    have HP := Lib.hid hp
    obtain ⟨x4, xz⟩ := KF.out wr ha
    clear ha hp
    by_cases hlt : k < t.rules.length
    · obtain ⟨b, off, D2, capD2, rfl, hb, c0, c1, c2, c3, c4, c5, c6, c7, hcs, s0, s1, s2, s3⟩ := rul_at (ruls_aft (HAW.out.trans HA.out) HR.out) hlt
      obtain ⟨p, hpp⟩ : ∃ p, t.rules[k] = p := ⟨_, rfl⟩
      rw [hpp] at c0 c1 c2 c3 c4 c5 c6 c7
      have HPP := Lib.hid hpp
      have hb0 : (0 : Int) ≤ (k : Int) := by omega
      have hb1 : (k : Int) < (t.rules.length : Int) := by omega
      clear hcs s0 s1 s2 s3 hpp
      obtain ⟨q, hq⟩ : ∃ q, namesR s n p = q := ⟨_, rfl⟩
      have HN := Lib.hid (show q = false → ∀ j, j < k + 1 → ∀ (hj : j < t.rules.length), namesR s n t.rules[j] = false from fun h => ext_lt (p := fun j => ∀ (hj : j < t.rules.length), namesR s n t.rules[j] = false) HP.out (fun _ => by rw [HPP.out, hq, h]))
      have HY := Lib.hid (show q = true → t.rules.any (namesR s n) = true from fun h => List.any_eq_true.2 ⟨t.rules[k], List.getElem_mem hlt, by rw [HPP.out, hq, h]⟩)
      have hcase : (¬ p.kind = 4 ∧ q = false) ∨ (p.kind = 4 ∧ (p.schema.toList == s.toList) = false ∧ q = false) ∨ (p.kind = 4 ∧ (p.schema.toList == s.toList) = true ∧ (p.table.toList == n.toList) = false ∧ q = false) ∨ (p.kind = 4 ∧ (p.schema.toList == s.toList) = true ∧ (p.table.toList == n.toList) = true ∧ q = true) := by
        have hq : (p.kind == 4 && ((p.schema.toList == s.toList) && (p.table.toList == n.toList))) = q := hq
        by_cases e1 : p.kind = 4
        · rw [e1] at hq
          cases e2 : (p.schema.toList == s.toList)
          · rw [e2] at hq; exact .inr (.inl ⟨e1, rfl, by rw [← hq]; rfl⟩)
          · cases e3 : (p.table.toList == n.toList)
            · rw [e2, e3] at hq; exact .inr (.inr (.inl ⟨e1, rfl, rfl, by rw [← hq]; rfl⟩))
            · rw [e2, e3] at hq; exact .inr (.inr (.inr ⟨e1, rfl, rfl, by rw [← hq]; rfl⟩))
        · exact .inl ⟨e1, by rw [← hq, show (p.kind == 4) = false from by simpa using e1]; rfl⟩
      clear hq
      rcases hcase with ⟨e1, rfl⟩ | ⟨e1, e2, rfl⟩ | ⟨e1, e2, e3, rfl⟩ | ⟨e1, e2, e3, rfl⟩
      case inl =>
        have HN2 := Lib.hid (HN.out rfl)
        clear HY HN
        go_wp2_with fail
        go_roundw
        case rel => exact ⟨k + 1, by omega, by go_num, HA.out.alloc _, HN2.out⟩
        case measure => simp [intOf]; omega
      case inr.inl =>
        have HN2 := Lib.hid (HN.out rfl)
        clear HY HN
        rw [e1] at c1
        go_wp2_with fail
        go_roundw
        case rel => exact ⟨k + 1, by omega, by go_num, HA.out.alloc _, HN2.out⟩
        case measure => simp [intOf]; omega
      case inr.inr.inl =>
        have HN2 := Lib.hid (HN.out rfl)
        clear HY HN
        rw [e1] at c1
        go_wp2_with fail
        go_roundw
        case rel => exact ⟨k + 1, by omega, by go_num, HA.out.alloc _, HN2.out⟩
        case measure => simp [intOf]; omega
      case inr.inr.inr =>
        have HY2 := Lib.hid (HY.out rfl)
        clear HY HN
        rw [e1] at c1
        go_wp2_with fail
        go_ret
        exact ⟨by rw [HY2.out]; rfl, HAW.out.trans (HA.out.alloc _)⟩
    · go_wp2_with fail
      go_ret
      exact ⟨by rw [any_no (p := namesR s n) (l := t.rules) fun j hj _ => HP.out j (by omega) hj]; rfl, HAW.out.trans HA.out⟩
end Go.Proofs.YticjnndhpfdajaaGreat
/- The document's names: has a table a rule that names another one's key? -/
namespace Go.Proofs.YticjnndhpfdajaaGreat
open Go.RowKit Go.Deep
set_option maxRecDepth 100000
set_option linter.unusedVariables false
def namesK (s n key : ByteArray) (r : Rul) : Bool := namesR s n r && eqS r.key key
set_option maxHeartbeats 8000000 in
theorem rnamesK_in (t : Tab) (v0 : Value) (A2 : Option Addr) (cap2 : Nat) (s n key : ByteArray) (hkey : emp key = false) (w : World) (h2 : SlAt w 8 RulR A2 cap2 t.rules) :
    Calls Tryz.prog 79 #[.agg #[.string t.schema, .string t.name, .string t.owner, v0, .slice A2 t.rules.length cap2], .string s, .string n, .string key] w fun e w' => e = .returned (.bool (t.rules.any (namesK s n key))) ∧ Aft w w' := by
  have hlen := h2.len
  have hke : (key.toList == ([] : List UInt8)) = false := by unfold emp at hkey; cases hl : key.toList with
    | nil => rw [hl] at hkey; cases hkey
    | cons a l => rfl
  obtain ⟨W, hW⟩ : ∃ W, W = w.alloc (.cells #[.string t.schema, .string t.name, .string t.owner, v0, .slice A2 t.rules.length cap2] 50) := ⟨_, rfl⟩
  have aW : Aft w W := by rw [hW]; exact (Aft.refl w).alloc _
  have r0 : RowAt W w.heap.size [.string t.schema, .string t.name, .string t.owner, v0, .slice A2 t.rules.length cap2] := by rw [hW]; exact box_row2 (Aft.refl _)
  have HAW := Lib.hid aW
  have KF := Lib.hid (show ∀ V, Aft W V → (V.cell? ⟨w.heap.size, 4, none⟩ = some (.slice A2 t.rules.length cap2) ∧ w.heap.size < V.heap.size) from fun V a => ⟨(r0.aft a).cell (j := 4) rfl, (r0.aft a).1⟩)
  have HR := Lib.hid h2
  clear aW r0 h2
  go_enter Tryz.func79, Tryz.ntmps79
  go_wp2_with fail
  rw [← hW]
  clear hW
  go_loopw [9] (fun i wr => ∃ k : Nat, k ≤ t.rules.length ∧ i = .int .i64 k ∧ Aft W wr ∧ ∀ j, j < k → ∀ (hj : j < t.rules.length), namesK s n key t.rules[j] = false) (fun i _ => t.rules.length - (intOf i).toNat)
  case atStart => exact ⟨0, Nat.zero_le _, rfl, Aft.refl W, fun j hj => absurd hj (Nat.not_lt_zero j)⟩
  case round =>
    obtain ⟨k, hk, rfl, ha, hp⟩ := hrel
    have HA := Lib.hid ha
    have HP := Lib.hid hp
    obtain ⟨x4, xz⟩ := KF.out wr ha
    clear ha hp
    by_cases hlt : k < t.rules.length
    · obtain ⟨b, off, D2, capD2, rfl, hb, c0, c1, c2, c3, c4, c5, c6, c7, hcs, s0, s1, s2, s3⟩ := rul_at (ruls_aft (HAW.out.trans HA.out) HR.out) hlt
      obtain ⟨p, hpp⟩ : ∃ p, t.rules[k] = p := ⟨_, rfl⟩
      rw [hpp] at c0 c1 c2 c3 c4 c5 c6 c7
      have HPP := Lib.hid hpp
      have hb0 : (0 : Int) ≤ (k : Int) := by omega
      have hb1 : (k : Int) < (t.rules.length : Int) := by omega
      clear hcs s0 s1 s2 s3 hpp
      obtain ⟨q, hq⟩ : ∃ q, namesK s n key p = q := ⟨_, rfl⟩
      have HN := Lib.hid (show q = false → ∀ j, j < k + 1 → ∀ (hj : j < t.rules.length), namesK s n key t.rules[j] = false from fun h => ext_lt (p := fun j => ∀ (hj : j < t.rules.length), namesK s n key t.rules[j] = false) HP.out (fun _ => by rw [HPP.out, hq, h]))
      have HY := Lib.hid (show q = true → t.rules.any (namesK s n key) = true from fun h => List.any_eq_true.2 ⟨t.rules[k], List.getElem_mem hlt, by rw [HPP.out, hq, h]⟩)
      have hcase : (¬ p.kind = 4 ∧ q = false) ∨ (p.kind = 4 ∧ (p.schema.toList == s.toList) = false ∧ q = false) ∨ (p.kind = 4 ∧ (p.schema.toList == s.toList) = true ∧ (p.table.toList == n.toList) = false ∧ q = false) ∨ (p.kind = 4 ∧ (p.schema.toList == s.toList) = true ∧ (p.table.toList == n.toList) = true ∧ (p.key.toList == key.toList) = q) := by
        have hq : ((p.kind == 4 && ((p.schema.toList == s.toList) && (p.table.toList == n.toList))) && (p.key.toList == key.toList)) = q := hq
        by_cases e1 : p.kind = 4
        · rw [e1] at hq
          cases e2 : (p.schema.toList == s.toList)
          · rw [e2] at hq; exact .inr (.inl ⟨e1, rfl, by rw [← hq]; rfl⟩)
          · cases e3 : (p.table.toList == n.toList)
            · rw [e2, e3] at hq; exact .inr (.inr (.inl ⟨e1, rfl, rfl, by rw [← hq]; rfl⟩))
            · rw [e2, e3] at hq; exact .inr (.inr (.inr ⟨e1, rfl, rfl, by rw [← hq]; rfl⟩))
        · exact .inl ⟨e1, by rw [← hq, show (p.kind == 4) = false from by simpa using e1]; rfl⟩
      clear hq
      rcases hcase with ⟨e1, rfl⟩ | ⟨e1, e2, rfl⟩ | ⟨e1, e2, e3, rfl⟩ | ⟨e1, e2, e3, e4⟩
      case inl =>
        have HN2 := Lib.hid (HN.out rfl)
        clear HY HN
        go_wp2_with fail
        go_roundw
        case rel => exact ⟨k + 1, by omega, by go_num, HA.out.alloc _, HN2.out⟩
        case measure => simp [intOf]; omega
      case inr.inl =>
        have HN2 := Lib.hid (HN.out rfl)
        clear HY HN
        rw [e1] at c1
        go_wp2_with fail
        go_roundw
        case rel => exact ⟨k + 1, by omega, by go_num, HA.out.alloc _, HN2.out⟩
        case measure => simp [intOf]; omega
      case inr.inr.inl =>
        have HN2 := Lib.hid (HN.out rfl)
        clear HY HN
        rw [e1] at c1
        go_wp2_with fail
        go_roundw
        case rel => exact ⟨k + 1, by omega, by go_num, HA.out.alloc _, HN2.out⟩
        case measure => simp [intOf]; omega
      case inr.inr.inr =>
        rw [e1] at c1
        cases q
        · have HN2 := Lib.hid (HN.out rfl)
          clear HY HN
          go_wp2_with fail
          go_roundw
          case rel => exact ⟨k + 1, by omega, by go_num, HA.out.alloc _, HN2.out⟩
          case measure => simp [intOf]; omega
        · have HY2 := Lib.hid (HY.out rfl)
          clear HY HN
          go_wp2_with fail
          go_ret
          exact ⟨by rw [HY2.out]; rfl, HAW.out.trans (HA.out.alloc _)⟩
    · go_wp2_with fail
      go_ret
      exact ⟨by rw [any_no (p := namesK s n key) (l := t.rules) fun j hj _ => HP.out j (by omega) hj]; rfl, HAW.out.trans HA.out⟩
end Go.Proofs.YticjnndhpfdajaaGreat
