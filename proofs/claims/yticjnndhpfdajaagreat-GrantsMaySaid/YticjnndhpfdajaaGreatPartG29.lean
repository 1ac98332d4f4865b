/- Contracts of the program, part 29. -/
import Derived.Test.YticjnndhpfdajaaGreatPartG18
import Derived.Test.YticjnndhpfdajaaGreatPartG2
import Derived.Test.YticjnndhpfdajaaGreatPartG3
import Derived.Test.YticjnndhpfdajaaGreatPartG23
import Derived.Test.YticjnndhpfdajaaGreatPartG27
import Derived.Test.YticjnndhpfdajaaGreatPartG26
/- law07's large: it says yes or no; and the document's O. -/
namespace Go.Proofs.YticjnndhpfdajaaGreat
open Go.RowKit
set_option maxRecDepth 100000
set_option linter.unusedVariables false
end Go.Proofs.YticjnndhpfdajaaGreat
/- law07's large: what it lets by is no great thing. -/
namespace Go.Proofs.YticjnndhpfdajaaGreat
open Go.RowKit
set_option maxRecDepth 100000
set_option linter.unusedVariables false
def ModTs (l : List Tab) : Prop := ∀ t ∈ l, t.cols.length ≤ 3000 ∧ t.rules.length ≤ 3000 ∧ ∀ r ∈ t.rules, r.cols.length ≤ 3000
theorem ModTs.snoc {l : List Tab} {k : Nat} (hk : k < l.length) (h : ModTs (l.take k)) (h1 : l[k].cols.length ≤ 3000) (h2 : l[k].rules.length ≤ 3000) (h3 : ∀ r ∈ l[k].rules, r.cols.length ≤ 3000) : ModTs (l.take (k + 1)) := by
  intro t ht
  rw [List.take_succ_eq_append_getElem hk, List.mem_append, List.mem_singleton] at ht
  rcases ht with ht | rfl
  · exact h t ht
  · exact ⟨h1, h2, h3⟩
theorem mem_snoc_all {α : Type} {l : List α} {k : Nat} (hk : k < l.length) {P : α → Prop} (h : ∀ r ∈ l.take k, P r) (h1 : P l[k]) : ∀ r ∈ l.take (k + 1), P r := by
  intro r hr
  rw [List.take_succ_eq_append_getElem hk, List.mem_append, List.mem_singleton] at hr
  rcases hr with hr | rfl
  · exact h r hr
  · exact h1
end Go.Proofs.YticjnndhpfdajaaGreat
/- folkmootkeep.Large: what it lets by is no great thing. -/
namespace Go.Proofs.YticjnndhpfdajaaGreat
open Go.RowKit
set_option maxRecDepth 100000
set_option linter.unusedVariables false
structure ModC (c : Cat) : Prop where
  obj : ModO c.objs
  nam : c.rols.names.length ≤ 3000
  mem : c.rols.members.length ≤ 3000
  gra : c.grants.length ≤ 3000
def LargeC (w : World) (c : Cat) (e : Ending) (w' : World) : Prop := ∃ b : Bool, e = .returned (.bool b) ∧ (b = false → ModC c) ∧ Aft w w'
set_option maxHeartbeats 8000000 in
theorem large9 (c : Cat) (As : Option Addr) (caps : Nat) (At : Option Addr) (capt : Nat) (An : Option Addr) (capn : Nat) (Am : Option Addr) (capm : Nat) (Ag : Option Addr) (capg : Nat) (w : World) (H : CatAt w c As caps At capt An capn Am capm Ag capg) :
    Calls Tryz.prog 33 #[.agg #[.int .i64 c.epoch, .int .i64 c.version, .slice As c.objs.schemas.length caps, .slice At c.objs.tables.length capt, .slice An c.rols.names.length capn, .slice Am c.rols.members.length capm, .slice Ag c.grants.length capg]] w (LargeC w c) := by
  have hlen := H.sch.len
  have hlen2 := H.tab.len
  have hlen3 := H.nam.len
  have hlen4 : c.rols.members.length * 16 ≤ 140737488351232 := H.mem.2.1
  have hlen5 : c.grants.length * 16 ≤ 140737488351232 := H.gra.2.1
  obtain ⟨W, hW⟩ : ∃ W, W = (w.alloc (.cells #[.int .i64 c.epoch, .int .i64 c.version, .slice As c.objs.schemas.length caps, .slice At c.objs.tables.length capt, .slice An c.rols.names.length capn, .slice Am c.rols.members.length capm, .slice Ag c.grants.length capg] 59)).alloc (.cells #[.slice As c.objs.schemas.length caps, .slice At c.objs.tables.length capt] 25) := ⟨_, rfl⟩
  have aW : Aft w W := by rw [hW]; exact ((Aft.refl w).alloc _).alloc _
  have r0 : RowAt W (w.heap.size) [.int .i64 c.epoch, .int .i64 c.version, .slice As c.objs.schemas.length caps, .slice At c.objs.tables.length capt, .slice An c.rols.names.length capn, .slice Am c.rols.members.length capm, .slice Ag c.grants.length capg] := by rw [hW]; exact RowAt.up (box_at (Aft.refl _) (by simp))
  have r1 : RowAt W (w.heap.size + 1) [.slice As c.objs.schemas.length caps, .slice At c.objs.tables.length capt] := by rw [hW]; exact box_at (Aft.refl _) (by simp)
  have HR := Lib.hid r1
  have HAW := Lib.hid aW
  have HT := Lib.hid H.tab
  clear H r0 r1 aW
  go_enter Tryz.func33, Tryz.ntmps33
  go_wp2_with fail
  rw [← hW]
  go_loopw [4, 5] (fun n i wr => ∃ (k : Nat) (z : Int), k ≤ c.objs.tables.length ∧ n = .int .i64 z ∧ i = .int .i64 k ∧ 0 ≤ z ∧ z ≤ 140737488351232 ∧ (z ≤ 3000 → (c.objs.schemas.length ≤ 3000 ∧ c.objs.tables.length ≤ 3000 ∧ c.rols.names.length ≤ 3000 ∧ c.rols.members.length ≤ 3000 ∧ c.grants.length ≤ 3000) ∧ ModTs (c.objs.tables.take k)) ∧ Aft W wr) (fun _ i _ => c.objs.tables.length - (intOf i).toNat)
  case atStart => exact ⟨0, _, Nat.zero_le _, rfl, rfl, by omega, by omega, fun h => ⟨⟨by omega, by omega, by omega, by omega, by omega⟩, fun t ht => by simp at ht⟩, Aft.refl _⟩
  case round =>
    clear hW
    obtain ⟨k, z, hk, rfl, rfl, hz1, hz2, hmod, ha⟩ := hrel
    have HA := Lib.hid ha
    have p0 := HR.out.aft ha
    have x1 := p0.cell (j := 1) rfl
    have xz := p0.1
    have HM := Lib.hid hmod
    clear hmod p0
    by_cases hlt : k < c.objs.tables.length
    · by_cases hz0 : z ≤ 3000
      · obtain ⟨b, off, B2, capB2, B3, capB3, rfl, hb, c0, c1, c2, c3, c4, hcols, hrules, hss⟩ := tab_at (tabs_aft (HAW.out.trans ha) HT.out) hlt
        obtain ⟨t, ht0⟩ : ∃ t, c.objs.tables[k] = t := ⟨_, rfl⟩
        rw [ht0] at c0 c1 c2 c3 c4 hcols hrules
        have HTT := Lib.hid ht0
        clear ht0 hss ha
        have hl2 := hcols.len
        have hl3 := hrules.len
        go_wp2_with fail
        go_loop [4, 7] (fun n i => ∃ (m : Nat) (z : Int), m ≤ t.rules.length ∧ n = .int .i64 z ∧ i = .int .i64 m ∧ 0 ≤ z ∧ z ≤ 140737488351232 ∧ (z ≤ 3000 → (t.cols.length ≤ 3000 ∧ t.rules.length ≤ 3000) ∧ ∀ r ∈ t.rules.take m, r.cols.length ≤ 3000)) (fun _ i => t.rules.length - (intOf i).toNat)
        case atStart => exact ⟨0, _, Nat.zero_le _, rfl, rfl, by omega, by omega, fun h => ⟨⟨by omega, by omega⟩, fun r hr => by simp at hr⟩⟩
        case round =>
          obtain ⟨m, z2, hm, rfl, rfl, hy1, hy2, hmod⟩ := hrel
          have HN := Lib.hid hmod
          clear hmod
          by_cases hlt2 : m < t.rules.length
          · by_cases hz2 : z2 ≤ 3000
            · obtain ⟨b3, off3, D2, capD2, rfl, hb3, e0, e1, e2, e3, e4, e5, e6, e7, hcs, hss3⟩ := rul_at hrules hlt2
              have hl4 := hcs.len
              go_wp2_with fail
              go_round
              case rel => exact ⟨m + 1, _, by omega, rfl, by go_num, by omega, by omega, fun h => ⟨(HN.out hz2).1, mem_snoc_all (P := fun r : Rul => r.cols.length ≤ 3000) hlt2 (HN.out hz2).2 (by omega)⟩⟩
              case measure => simp [intOf]; omega
            · go_wp2_with fail
              go_roundw
              case rel => exact ⟨k + 1, _, by omega, rfl, by go_num, hy1, hy2, fun h => absurd h hz2, HA.out.alloc _⟩
              case measure => simp [intOf]; omega
          · go_wp2_with fail
            go_roundw
            case rel =>
              refine ⟨k + 1, _, by omega, rfl, by go_num, hy1, hy2, fun h => ⟨(HM.out hz0).1, ?_⟩, HA.out.alloc _⟩
              have hn := HN.out h
              rw [List.take_of_length_le (by omega)] at hn
              exact (HM.out hz0).2.snoc hlt (by rw [HTT.out]; exact hn.1.1) (by rw [HTT.out]; exact hn.1.2) (by rw [HTT.out]; exact hn.2)
            case measure => simp [intOf]; omega
      · clear ha
        go_wp2_with fail
        go_ret
        exact ⟨_, rfl, fun h => absurd h (by first | (simp; done) | (simp; omega)), HAW.out.trans HA.out⟩
    · clear ha
      go_wp2_with fail
      go_ret
      refine ⟨_, rfl, fun h => ?_, HAW.out.trans HA.out⟩
      have h3 : z ≤ 3000 := by simpa using h
      obtain ⟨h1, h2⟩ := HM.out h3
      rw [List.take_of_length_le (by omega)] at h2
      exact ⟨⟨by omega, by omega, fun t ht => ⟨by have := (h2 t ht).1; omega, by have := (h2 t ht).2.1; omega, fun r hr => by have := (h2 t ht).2.2 r hr; omega⟩⟩, h1.2.2.1, h1.2.2.2.1, h1.2.2.2.2⟩
end Go.Proofs.YticjnndhpfdajaaGreat
/- The document's given and boss. -/
namespace Go.Proofs.YticjnndhpfdajaaGreat
open Go.RowKit Go.Deep
set_option maxRecDepth 100000
set_option linter.unusedVariables false
noncomputable def reachL (c : Cat) (role : ByteArray) : List ByteArray := c.rols.names.filter (reachB c.rols.members role)
theorem any_true_g (l : List Gra) (R : List ByteArray) (s n : ByteArray) (rt : Int) (op : Bool) (k : Nat) (hk : k < l.length) (h : (eqS l[k].schema s && eqS l[k].table n && (l[k].right == rt) && (l[k].opt || !op) && inB R l[k].to) = true) : givesB l R s n rt op = true := any_true _ l k hk h
set_option maxHeartbeats 8000000 in
theorem rgiven (c : Cat) (As : Option Addr) (caps : Nat) (At : Option Addr) (capt : Nat) (An : Option Addr) (capn : Nat) (Am : Option Addr) (capm : Nat) (Ag : Option Addr) (capg : Nat) (l : List Gra) (Al : Option Addr) (capl : Nat) (role s n : ByteArray) (rt : Int) (op : Bool) (w : World) (H : CatAt w c As caps At capt An capn Am capm Ag capg) (hl : SlAt w 6 GraR Al capl l) (hrs : Small role.size) (hmm : c.rols.members.length * 16 ≤ 140737488351000) :
    Calls Tryz.prog 126 #[.agg #[.int .i64 c.epoch, .int .i64 c.version, .slice As c.objs.schemas.length caps, .slice At c.objs.tables.length capt, .slice An c.rols.names.length capn, .slice Am c.rols.members.length capm, .slice Ag c.grants.length capg], .slice Al l.length capl, .string role, .string s, .string n, .int .i64 rt, .bool op] w fun e w' => e = .returned (.bool (givesB l (reachL c role) s n rt op)) ∧ Aft w w' := by
  have hlen := hl.len
  obtain ⟨W, hW⟩ : ∃ W, W = w.alloc (.cells #[.int .i64 c.epoch, .int .i64 c.version, .slice As c.objs.schemas.length caps, .slice At c.objs.tables.length capt, .slice An c.rols.names.length capn, .slice Am c.rols.members.length capm, .slice Ag c.grants.length capg] 59) := ⟨_, rfl⟩
  have aW : Aft w W := by rw [hW]; exact (Aft.refl w).alloc _
  have r0 : RowAt W (w.heap.size) [.int .i64 c.epoch, .int .i64 c.version, .slice As c.objs.schemas.length caps, .slice At c.objs.tables.length capt, .slice An c.rols.names.length capn, .slice Am c.rols.members.length capm, .slice Ag c.grants.length capg] := by rw [hW]; exact box_at (Aft.refl _) (by simp)
  have CR := Lib.hid (show Calls Tryz.prog 186 #[.agg #[.slice An c.rols.names.length capn, .slice Am c.rols.members.length capm], .string role] W (ReachP W c.rols role) from rreach c.rols An capn Am capm role W (strs_aft aW H.nam) (mbrs_aft aW H.mem) hrs hmm)
  have HSN := Lib.hid (sm_names H.nam)
  have HL := Lib.hid (gras_aft aW hl)
  have HAW := Lib.hid aW
  have x4 := r0.cell (j := 4) rfl
  have x5 := r0.cell (j := 5) rfl
  have xz := r0.1
  clear H hl r0 aW hrs hmm
  go_enter Tryz.func126, Tryz.ntmps126
  go_wp2_with fail
  rw [← hW]
  clear hW
  refine CR.out.mono ?_
  rintro e w1 ⟨h, rfl, a1, ho⟩
  have HA1 := Lib.hid a1
  have hsl := own_slice ho
  have SL := Lib.hid (show SlAt w1 1 StrR h.a h.c (reachL c role) from own_slf (R := StrR) nameC ho (fun x hx => ⟨rfl, rfl, HSN.out.2 x (List.mem_filter.1 hx).1⟩) (by show Small ((c.rols.names.filter (reachB c.rols.members role)).length * 16); have h1 := HSN.out.1; have h2 := List.length_filter_le (reachB c.rols.members role) c.rols.names; unfold Small at *; omega))
  rw [hsl, show (c.rols.names.filter (reachB c.rols.members role)) = reachL c role from rfl]
  obtain ⟨R, hR⟩ : ∃ R, reachL c role = R := ⟨_, rfl⟩
  have HRL := Lib.hid hR
  rw [hR] at SL ⊢
  clear a1 ho hsl CR hR x4 x5 xz
  go_wp2_with fail
  go_loopw [16] (fun i wr => ∃ k : Nat, k ≤ l.length ∧ i = .int .i64 k ∧ Aft w1 wr ∧ ∀ j, j < k → ∀ (hj : j < l.length), (eqS l[j].schema s && eqS l[j].table n && (l[j].right == rt) && (l[j].opt || !op) && inB R l[j].to) = false) (fun i _ => l.length - (intOf i).toNat)
  case atStart => exact ⟨0, Nat.zero_le _, rfl, Aft.refl _, fun j hj => absurd hj (Nat.not_lt_zero j)⟩
  case round =>
    obtain ⟨k, hk, rfl, ha, hp⟩ := hrel
    have HA := Lib.hid ha
    have HP := Lib.hid hp
    by_cases hlt : k < l.length
    case neg =>
      clear ha hp
      go_wp2_with fail
      go_ret
      exact ⟨by rw [HRL.out, show givesB l R s n rt op = false from any_false _ l fun j hj => HP.out j (by omega) hj]; rfl, HAW.out.trans (HA1.out.trans HA.out)⟩
    obtain ⟨b, off, rfl, hb, t0, t1, t2, t3, t4, t5, _⟩ := gra_at (gras_aft (HA1.out.trans ha) HL.out) hlt
    obtain ⟨x, hx⟩ : ∃ x, l[k] = x := ⟨_, rfl⟩
    rw [hx] at t0 t1 t2 t3 t4 t5
    have HX := Lib.hid hx
    have aX : Aft wr (wr.alloc (.cells #[.string x.schema, .string x.table, .int .i64 x.right, .string x.giver, .string x.to, .bool x.opt] 67)) := (Aft.refl _).alloc _
    have HAX := Lib.hid (HA.out.trans aX)
    have CI := Lib.hid (show Calls Tryz.prog 137 #[.slice h.a R.length h.c, .string x.to] (wr.alloc (.cells #[.string x.schema, .string x.table, .int .i64 x.right, .string x.giver, .string x.to, .bool x.opt] 67)) fun e w'' => e = .returned (.bool (inB R x.to)) ∧ (wr.alloc (.cells #[.string x.schema, .string x.table, .int .i64 x.right, .string x.giver, .string x.to, .bool x.opt] 67)) = w'' from rin_any h.a h.c R x.to _ (strs_aft HAX.out SL.out))
    obtain ⟨xs, xt, xr, xg, xo, xp⟩ := x
    dsimp only at t0 t1 t2 t3 t4 t5 CI HAX
    obtain ⟨i, hi⟩ : ∃ i, inB R xo = i := ⟨_, rfl⟩
    rw [hi] at CI
    have HQ := Lib.hid (show (eqS l[k].schema s && eqS l[k].table n && (l[k].right == rt) && (l[k].opt || !op) && inB R l[k].to) = (eqS xs s && eqS xt n && (xr == rt) && (xp || !op) && i) by rw [HX.out, ← hi])
    clear ha hp hx hi aX HX
    cases e1 : eqS xs s
    case false =>
      have e1' : (xs.toList == s.toList) = false := e1
      have HF := Lib.hid (show (eqS l[k].schema s && eqS l[k].table n && (l[k].right == rt) && (l[k].opt || !op) && inB R l[k].to) = false by rw [HQ.out, e1]; rfl)
      clear e1
      go_wp2_with (go_at_call 137; refine CI.out.mono ?_; rintro e w9 ⟨rfl, rfl⟩)
      go_roundw
      case rel => exact ⟨k + 1, by omega, by go_num, HAX.out, ext_lt (p := fun j => ∀ (hj : j < l.length), (eqS l[j].schema s && eqS l[j].table n && (l[j].right == rt) && (l[j].opt || !op) && inB R l[j].to) = false) HP.out (fun _ => HF.out)⟩
      case measure => simp [intOf]; omega
    have e1' : (xs.toList == s.toList) = true := e1
    cases e2 : eqS xt n
    case false =>
      have e2' : (xt.toList == n.toList) = false := e2
      have HF := Lib.hid (show (eqS l[k].schema s && eqS l[k].table n && (l[k].right == rt) && (l[k].opt || !op) && inB R l[k].to) = false by rw [HQ.out, e1, e2]; rfl)
      clear e1 e2
      go_wp2_with (go_at_call 137; refine CI.out.mono ?_; rintro e w9 ⟨rfl, rfl⟩)
      go_roundw
      case rel => exact ⟨k + 1, by omega, by go_num, HAX.out, ext_lt (p := fun j => ∀ (hj : j < l.length), (eqS l[j].schema s && eqS l[j].table n && (l[j].right == rt) && (l[j].opt || !op) && inB R l[j].to) = false) HP.out (fun _ => HF.out)⟩
      case measure => simp [intOf]; omega
    have e2' : (xt.toList == n.toList) = true := e2
    cases e3 : (xr == rt)
    case false =>
      have HF := Lib.hid (show (eqS l[k].schema s && eqS l[k].table n && (l[k].right == rt) && (l[k].opt || !op) && inB R l[k].to) = false by rw [HQ.out, e1, e2, e3]; rfl)
      clear e1 e2
      go_wp2_with (go_at_call 137; refine CI.out.mono ?_; rintro e w9 ⟨rfl, rfl⟩)
      go_roundw
      case rel => exact ⟨k + 1, by omega, by go_num, HAX.out, ext_lt (p := fun j => ∀ (hj : j < l.length), (eqS l[j].schema s && eqS l[j].table n && (l[j].right == rt) && (l[j].opt || !op) && inB R l[j].to) = false) HP.out (fun _ => HF.out)⟩
      case measure => simp [intOf]; omega
    have HQ2 := Lib.hid (show (eqS l[k].schema s && eqS l[k].table n && (l[k].right == rt) && (l[k].opt || !op) && inB R l[k].to) = ((xp || !op) && i) by rw [HQ.out, e1, e2, e3]; cases xp <;> cases op <;> cases i <;> rfl)
    clear e1 e2 HQ
    cases xp <;> cases op <;> cases i
    · have HF := Lib.hid (show _ = false from HQ2.out)
      go_wp2_with (go_at_call 137; refine CI.out.mono ?_; rintro e w9 ⟨rfl, rfl⟩)
      go_roundw
      case rel => exact ⟨k + 1, by omega, by go_num, HAX.out, ext_lt (p := fun j => ∀ (hj : j < l.length), (eqS l[j].schema s && eqS l[j].table n && (l[j].right == rt) && (l[j].opt || !false) && inB R l[j].to) = false) HP.out (fun _ => HF.out)⟩
      case measure => simp [intOf]; omega
    · have HT := Lib.hid (show _ = true from HQ2.out)
      go_wp2_with (go_at_call 137; refine CI.out.mono ?_; rintro e w9 ⟨rfl, rfl⟩)
      go_ret
      exact ⟨by rw [HRL.out, any_true_g l R s n rt _ k hlt HT.out]; rfl, HAW.out.trans (HA1.out.trans HAX.out)⟩
    · have HF := Lib.hid (show _ = false from HQ2.out)
      go_wp2_with (go_at_call 137; refine CI.out.mono ?_; rintro e w9 ⟨rfl, rfl⟩)
      go_roundw
      case rel => exact ⟨k + 1, by omega, by go_num, HAX.out, ext_lt (p := fun j => ∀ (hj : j < l.length), (eqS l[j].schema s && eqS l[j].table n && (l[j].right == rt) && (l[j].opt || !true) && inB R l[j].to) = false) HP.out (fun _ => HF.out)⟩
      case measure => simp [intOf]; omega
    · have HF := Lib.hid (show _ = false from HQ2.out)
      go_wp2_with (go_at_call 137; refine CI.out.mono ?_; rintro e w9 ⟨rfl, rfl⟩)
      go_roundw
      case rel => exact ⟨k + 1, by omega, by go_num, HAX.out, ext_lt (p := fun j => ∀ (hj : j < l.length), (eqS l[j].schema s && eqS l[j].table n && (l[j].right == rt) && (l[j].opt || !true) && inB R l[j].to) = false) HP.out (fun _ => HF.out)⟩
      case measure => simp [intOf]; omega
    · have HF := Lib.hid (show _ = false from HQ2.out)
      go_wp2_with (go_at_call 137; refine CI.out.mono ?_; rintro e w9 ⟨rfl, rfl⟩)
      go_roundw
      case rel => exact ⟨k + 1, by omega, by go_num, HAX.out, ext_lt (p := fun j => ∀ (hj : j < l.length), (eqS l[j].schema s && eqS l[j].table n && (l[j].right == rt) && (l[j].opt || !false) && inB R l[j].to) = false) HP.out (fun _ => HF.out)⟩
      case measure => simp [intOf]; omega
    · have HT := Lib.hid (show _ = true from HQ2.out)
      go_wp2_with (go_at_call 137; refine CI.out.mono ?_; rintro e w9 ⟨rfl, rfl⟩)
      go_ret
      exact ⟨by rw [HRL.out, any_true_g l R s n rt _ k hlt HT.out]; rfl, HAW.out.trans (HA1.out.trans HAX.out)⟩
    · have HF := Lib.hid (show _ = false from HQ2.out)
      go_wp2_with (go_at_call 137; refine CI.out.mono ?_; rintro e w9 ⟨rfl, rfl⟩)
      go_roundw
      case rel => exact ⟨k + 1, by omega, by go_num, HAX.out, ext_lt (p := fun j => ∀ (hj : j < l.length), (eqS l[j].schema s && eqS l[j].table n && (l[j].right == rt) && (l[j].opt || !true) && inB R l[j].to) = false) HP.out (fun _ => HF.out)⟩
      case measure => simp [intOf]; omega
    · have HT := Lib.hid (show _ = true from HQ2.out)
      go_wp2_with (go_at_call 137; refine CI.out.mono ?_; rintro e w9 ⟨rfl, rfl⟩)
      go_ret
      exact ⟨by rw [HRL.out, any_true_g l R s n rt _ k hlt HT.out]; rfl, HAW.out.trans (HA1.out.trans HAX.out)⟩
/-- the owner that the document finds: the last of that name -/
theorem over_last {l : List Sch} (hr : risesB (fun a b => cmpS a.name b.name) l = true) {q j : Nat} (hq : q < l.length) (hj : j < l.length) (hne : j ≠ q) : eqS l[j].name l[q].name = false := by
  rw [Bool.eq_false_iff]
  intro e
  have e0 := (cmpS_eq _ _).2 e
  rcases Nat.lt_or_ge j q with h | h
  · have := rises_lt (c := fun a b : Sch => cmpS a.name b.name) (fun a b d h1 h2 => cmpS_trans h1 h2) hr j q hj hq h
    omega
  · have := rises_lt (c := fun a b : Sch => cmpS a.name b.name) (fun a b d h1 h2 => cmpS_trans h1 h2) hr q j hq hj (by omega)
    have := cmpS_anti l[j].name l[q].name
    omega
theorem bossB_in (o : Objs) (R : List ByteArray) (t : Tab) : bossB o R t = (inB R bRoot || inB R t.owner || inB R (overB o t.schema)) := by
  unfold bossB inB
  induction R with
  | nil => rfl
  | cons x R ih =>
    simp only [List.any_cons]
    rw [ih]
    cases eqS x bRoot <;> cases eqS x t.owner <;> cases eqS x (overB o t.schema) <;> simp
set_option maxHeartbeats 8000000 in
theorem rboss (c : Cat) (As : Option Addr) (caps : Nat) (At : Option Addr) (capt : Nat) (An : Option Addr) (capn : Nat) (Am : Option Addr) (capm : Nat) (Ag : Option Addr) (capg : Nat) (role s n : ByteArray) (w : World) (H : CatAt w c As caps At capt An capn Am capm Ag capg) (hrs : Small role.size) (hst : standsB c = true) (h4 : 0 ≤ tabAt c.objs.tables s n) :
    Calls Tryz.prog 125 #[.agg #[.int .i64 c.epoch, .int .i64 c.version, .slice As c.objs.schemas.length caps, .slice At c.objs.tables.length capt, .slice An c.rols.names.length capn, .slice Am c.rols.members.length capm, .slice Ag c.grants.length capg], .string role, .string s, .string n] w fun e w' => e = .returned (.bool (bossB c.objs (reachL c role) (tabF c.objs s n))) ∧ Aft w w' := by
  have hlen := H.sch.len
  have hlen2 := H.tab.len
  have hmm : c.rols.members.length * 16 ≤ 140737488351000 := by
    have := (rightR_len (stands_iff.1 hst).2.1.2.1).2
    omega
  obtain ⟨W, hW⟩ : ∃ W, W = w.alloc (.cells #[.int .i64 c.epoch, .int .i64 c.version, .slice As c.objs.schemas.length caps, .slice At c.objs.tables.length capt, .slice An c.rols.names.length capn, .slice Am c.rols.members.length capm, .slice Ag c.grants.length capg] 59) := ⟨_, rfl⟩
  have aW : Aft w W := by rw [hW]; exact (Aft.refl w).alloc _
  have r0 : RowAt W (w.heap.size) [.int .i64 c.epoch, .int .i64 c.version, .slice As c.objs.schemas.length caps, .slice At c.objs.tables.length capt, .slice An c.rols.names.length capn, .slice Am c.rols.members.length capm, .slice Ag c.grants.length capg] := by rw [hW]; exact box_at (Aft.refl _) (by simp)
  obtain ⟨ts, tn, hsc⟩ := stands_tab2 hst h4
  obtain ⟨q, hq⟩ := Int.eq_ofNat_of_zero_le h4
  have hql : q < c.objs.tables.length := by have := (idxP_range (fun t : Tab => eqS t.schema s && eqS t.name n) c.objs.tables).2; unfold tabAt at hq; omega
  have hT := tabF_some hq hql
  obtain ⟨q2, hq2⟩ := Int.eq_ofNat_of_zero_le hsc
  have hql2 : q2 < c.objs.schemas.length := by have := (idxP_range (fun x : Sch => eqS x.name s) c.objs.schemas).2; unfold schAt at hq2; omega
  have hO := overB_some hq2 hql2
  have hqn : eqS c.objs.schemas[q2].name s = true := idxP_at _ c.objs.schemas q2 hql2 hq2
  have hris : risesB (fun a b => cmpS a.name b.name) c.objs.schemas = true := by
    have := (stands_iff.1 hst).2.1.1
    unfold checkO headOk at this
    simp only [Bool.and_eq_true] at this
    exact this.1.2
  obtain ⟨b, off, A2, cap2, A3, cap3, hAt, hb, t0, t1, t2, t3, t4, _, _, _⟩ := tab_at (tabs_aft aW H.tab) hql
  subst hAt
  obtain ⟨T, hTT⟩ : ∃ T, c.objs.tables[q] = T := ⟨_, rfl⟩
  rw [hTT] at t0 t1 t2 t3 t4 hT
  have HBE := Lib.hid (show bossB c.objs (reachL c role) (tabF c.objs s n) = (inB (reachL c role) bRoot || inB (reachL c role) T.owner || inB (reachL c role) c.objs.schemas[q2].owner) by rw [bossB_in, ts, hO, hT])
  have HNE := Lib.hid (show ∀ j (hj : j < c.objs.schemas.length), eqS c.objs.schemas[j].name s = decide (j = q2) from fun j hj => by
    by_cases e : j = q2
    · subst e; rw [hqn]; simp
    · rw [← (eqS_iff _ _).1 hqn, over_last hris hql2 hj e]; simp [e])
  have CT := Lib.hid (show ∀ V, Aft W V → Calls Tryz.prog 72 #[.agg #[.slice As c.objs.schemas.length caps, .slice (some ⟨b, off, none⟩) c.objs.tables.length capt], .string s, .string n] V fun e w'' => e = .returned (.int .i64 q) ∧ Aft V w'' from fun V a => (rtab_any (.slice As c.objs.schemas.length caps) (some ⟨b, off, none⟩) capt c.objs.tables s n V (tabs_aft (aW.trans a) H.tab)).mono fun e w'' ⟨he, hw⟩ => ⟨he.trans (by rw [hq]), hw⟩)
  have CR := Lib.hid (show ∀ V, Aft W V → Calls Tryz.prog 186 #[.agg #[.slice An c.rols.names.length capn, .slice Am c.rols.members.length capm], .string role] V (ReachP V c.rols role) from fun V a => rreach c.rols An capn Am capm role V (strs_aft (aW.trans a) H.nam) (mbrs_aft (aW.trans a) H.mem) hrs hmm)
  have HSN := Lib.hid (sm_names H.nam)
  have HSC := Lib.hid (schs_aft aW H.sch)
  have HAW := Lib.hid aW
  have HR0 := Lib.hid r0
  have x2 := r0.cell (j := 2) rfl
  have x3 := r0.cell (j := 3) rfl
  have xz := r0.1
  have v2 : (0 : Int) ≤ (q : Int) := by omega
  have v3 : ((q : Nat) : Int).toNat = q := by omega
  have v4 : (q : Int) < (c.objs.tables.length : Int) := by omega
  clear H r0 aW hst h4 ts tn hsc hq hT hq2 hO hqn hris hTT hrs hmm
  go_enter Tryz.func125, Tryz.ntmps125
  go_wp2_with fail
  rw [← hW]
  clear hW
  refine wp_region_lat (by kernel_rfl) (by kernel_rfl) ?_
  repeat (go_big_quiet_step ((go_at_call 72; exact Calls.lat_of (CT.out _ ((Aft.refl W).lat _)))))
  refine wpQuiet_nil ?_
  intro _ hw'
  obtain ⟨y, hw''⟩ := hw'
  subst hw''
  obtain ⟨V, hV⟩ : ∃ V, V = lat W y := ⟨_, rfl⟩
  have aV : Aft W V := by rw [hV]; exact (Aft.refl W).lat y
  have HAV := Lib.hid aV
  have p1 := HR0.out.aft aV
  clear x2 x3 xz t0 t1 t2 t3 t4 CT v2 v3 v4
  have x2 := p1.cell (j := 2) rfl
  have xz := p1.1
  rw [← hV]
  clear aV p1 hV
  go_wp2_with fail
  go_loopw [10, 11] (fun u10 i wr => ∃ k : Nat, k ≤ c.objs.schemas.length ∧ i = .int .i64 k ∧ u10 = .string (if q2 < k then c.objs.schemas[q2].owner else ⟨#[]⟩) ∧ Aft V wr) (fun _ i _ => c.objs.schemas.length - (intOf i).toNat)
  case atStart => exact ⟨0, Nat.zero_le _, rfl, by rw [if_neg (by omega)], Aft.refl _⟩
  case round =>
    clear x2 xz
    obtain ⟨k, hk, rfl, rfl, ha⟩ := hrel
    have HA := Lib.hid ha
    have p1 := HR0.out.aft (HAV.out.trans ha)
    have x2 := p1.cell (j := 2) rfl
    have xz := p1.1
    by_cases hlt : k < c.objs.schemas.length
    · obtain ⟨b3, off3, rfl, hb3, s0, s1, _, _⟩ := sch_at (schs_aft (HAV.out.trans ha) HSC.out) hlt
      have HQ := HNE.out k hlt
      obtain ⟨x, hx⟩ : ∃ x, c.objs.schemas[k] = x := ⟨_, rfl⟩
      rw [hx] at s0 s1 HQ
      by_cases hkq : k = q2
      · subst hkq
        have HX := Lib.hid (show c.objs.schemas[k].owner = x.owner by rw [hx])
        have e0 : (x.name.toList == s.toList) = true := by have : eqS x.name s = true := by rw [HQ]; simp
                                                           exact this
        clear ha p1 hx HQ
        go_wp2_with fail
        go_roundw
        case rel => exact ⟨k + 1, by omega, by go_num, by rw [if_pos (by omega), HX.out], HA.out⟩
        case measure => simp [intOf]; omega
      · have e0 : (x.name.toList == s.toList) = false := by have : eqS x.name s = false := by rw [HQ]; simp [hkq]
                                                            exact this
        have HI := Lib.hid (show (q2 < k + 1) = (q2 < k) by apply propext; omega)
        clear ha p1 hx HQ
        go_wp2_with fail
        go_roundw
        case rel => exact ⟨k + 1, by omega, by go_num, by simp only [HI.out], HA.out⟩
        case measure => simp [intOf]; omega
    · have CR2 := Lib.hid (CR.out wr (HAV.out.trans ha))
      have HOV := Lib.hid (show (if q2 < k then c.objs.schemas[q2].owner else (⟨#[]⟩ : ByteArray)) = c.objs.schemas[q2].owner by rw [if_pos (by omega)])
      rw [HOV.out]
      have x4 := p1.cell (j := 4) rfl
      have x5 := p1.cell (j := 5) rfl
      clear ha p1 CR
      go_wp2_with fail
      refine CR2.out.mono ?_
      rintro e w1 ⟨h, rfl, a1, ho⟩
      have HA1 := Lib.hid (HAV.out.trans (HA.out.trans a1))
      have hsl := own_slice ho
      have SL := Lib.hid (show SlAt w1 1 StrR h.a h.c (reachL c role) from own_slf (R := StrR) nameC ho (fun x hx => ⟨rfl, rfl, HSN.out.2 x (List.mem_filter.1 hx).1⟩) (by show Small ((c.rols.names.filter (reachB c.rols.members role)).length * 16); have h1 := HSN.out.1; have h2 := List.length_filter_le (reachB c.rols.members role) c.rols.names; unfold Small at *; omega))
      rw [hsl, show (c.rols.names.filter (reachB c.rols.members role)) = reachL c role from rfl]
      obtain ⟨R, hR⟩ : ∃ R, reachL c role = R := ⟨_, rfl⟩
      rw [hR] at SL
      rw [hR]
      obtain ⟨ow, how⟩ : ∃ x, T.owner = x := ⟨_, rfl⟩
      obtain ⟨ov, hov⟩ : ∃ x, c.objs.schemas[q2].owner = x := ⟨_, rfl⟩
      rw [how, hov]
      obtain ⟨i1, hi1⟩ : ∃ i, inB R bRoot = i := ⟨_, rfl⟩
      obtain ⟨i2, hi2⟩ : ∃ i, inB R ow = i := ⟨_, rfl⟩
      obtain ⟨i3, hi3⟩ : ∃ i, inB R ov = i := ⟨_, rfl⟩
      have HBE2 := Lib.hid (show bossB c.objs (reachL c role) (tabF c.objs s n) = (i1 || i2 || i3) by rw [HBE.out, hR, how, hov, hi1, hi2, hi3])
      have C1 := Lib.hid (show Calls Tryz.prog 137 #[.slice h.a R.length h.c, .string ⟨#[114, 111, 111, 116]⟩] w1 fun e w'' => e = .returned (.bool i1) ∧ w1 = w'' from hi1 ▸ rin_any h.a h.c R bRoot w1 SL.out)
      have C2 := Lib.hid (show Calls Tryz.prog 137 #[.slice h.a R.length h.c, .string ow] w1 fun e w'' => e = .returned (.bool i2) ∧ w1 = w'' from hi2 ▸ rin_any h.a h.c R ow w1 SL.out)
      have C3 := Lib.hid (show Calls Tryz.prog 137 #[.slice h.a R.length h.c, .string ov] w1 fun e w'' => e = .returned (.bool i3) ∧ w1 = w'' from hi3 ▸ rin_any h.a h.c R ov w1 SL.out)
      clear a1 ho hsl CR2 hR hi1 hi2 hi3 x2 x4 x5 xz how hov
      go_wp2_with fail
      refine C1.out.mono ?_
      rintro e w9 ⟨rfl, rfl⟩
      cases i1
      case true =>
        go_wp2_with fail
        go_ret
        exact ⟨by rw [HBE2.out]; rfl, HAW.out.trans HA1.out⟩
      go_wp2_with fail
      refine C2.out.mono ?_
      rintro e w9 ⟨rfl, rfl⟩
      cases i2
      case true =>
        go_wp2_with fail
        go_ret
        exact ⟨by rw [HBE2.out]; rfl, HAW.out.trans HA1.out⟩
      go_wp2_with fail
      refine C3.out.mono ?_
      rintro e w9 ⟨rfl, rfl⟩
      go_wp2_with fail
      go_ret
      exact ⟨by rw [HBE2.out]; cases i3 <;> rfl, HAW.out.trans HA1.out⟩
end Go.Proofs.YticjnndhpfdajaaGreat
