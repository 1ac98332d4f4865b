/- Contracts of the program, part 14. -/
import Derived.Deep.AppendLies
import Derived.Deep.DeepMust
import Derived.OwnWalk
import Derived.Laws.AppendOwn
import Derived.ProofKit
import Derived.OpenShut
import Derived.Deep.Slices
import Derived.ChangeOld
import Derived.SizedLaws
import Derived.WalkKit
import Derived.WalkSpells
import Derived.WalkLawsBesides
import Derived.Lib.Hide
import Derived.Deep.QuietTactic
import Derived.BigQuiet
import Derived.Below
import Derived.Deep.Draws
import Derived.StillTailTactics
import Derived.Laws.Cells
import Derived.Laws.IdiomCopy
import Derived.Test.YtgkhmnamkfgciaaGreatRows
import Derived.Lib.Walk
import Derived.Laws.EntriesVeiled
import Derived.Maps.Own
import Derived.Maps.Views
import Derived.Deep.Upon
import Derived.OneCell
import Derived.OrdersHeld
import Derived.Deep.RegionHeld3
import Derived.IntWalk
import Derived.Lib.Bytealg
import Derived.Lib.SliceRun
import Derived.Deep.RegionLaw
import Derived.Lib.AppendZerosOnto
import Derived.Lib.Overlaps
import Derived.Shelf.SlSortCmp.WholeK
import Derived.Laws.StructEq
import Derived.WalkMore
import Derived.WideKeyEntry
import Derived.DeepKeys3
import Derived.ChangeKeys
import Derived.Test.YtgkhmnamkfgciaaGreatPartM1
import Derived.Test.YtgkhmnamkfgciaaGreatPartM2
import Derived.Test.YtgkhmnamkfgciaaGreatPartM3
import Derived.Test.YtgkhmnamkfgciaaGreatPartM4
import Derived.Test.YtgkhmnamkfgciaaGreatPartM5
import Derived.Test.YtgkhmnamkfgciaaGreatPartM6
import Derived.Test.YtgkhmnamkfgciaaGreatPartM7
import Derived.Test.YtgkhmnamkfgciaaGreatPartM8
import Derived.Test.YtgkhmnamkfgciaaGreatPartM9
import Derived.Test.YtgkhmnamkfgciaaGreatPartM10
import Derived.Test.YtgkhmnamkfgciaaGreatPartM11
import Derived.Test.YtgkhmnamkfgciaaGreatPartM12
import Derived.Test.YtgkhmnamkfgciaaGreatPartM13
namespace Go.Proofs.YtgkhmnamkfgciaaGreat
open Go.RowKit Go.Deep
set_option maxRecDepth 100000
set_option linter.unusedVariables false
noncomputable def reachL (c : Cat) (role : ByteArray) : List ByteArray := c.rols.names.filter (reachB c.rols.members role)
theorem any_true_g (l : List Gra) (R : List ByteArray) (s n : ByteArray) (rt : Int) (op : Bool) (k : Nat) (hk : k < l.length) (h : (eqS l[k].schema s && eqS l[k].table n && (l[k].right == rt) && (l[k].opt || !op) && inB R l[k].to) = true) : givesB l R s n rt op = true := any_true _ l k hk h
set_option maxHeartbeats 8000000 in
theorem rgiven (c : Cat) (As : Option Addr) (caps : Nat) (At : Option Addr) (capt : Nat) (An : Option Addr) (capn : Nat) (Am : Option Addr) (capm : Nat) (Ag : Option Addr) (capg : Nat) (l : List Gra) (Al : Option Addr) (capl : Nat) (role s n : ByteArray) (rt : Int) (op : Bool) (w : World) (H : CatAt w c As caps At capt An capn Am capm Ag capg) (hl : SlAt w 6 GraR Al capl l) (hrs : Small role.size) (hmm : c.rols.members.length * 16 ≤ 140737488351000) :
    Calls Tryz.prog 125 #[.agg #[.int .i64 c.epoch, .int .i64 c.version, .slice As c.objs.schemas.length caps, .slice At c.objs.tables.length capt, .slice An c.rols.names.length capn, .slice Am c.rols.members.length capm, .slice Ag c.grants.length capg], .slice Al l.length capl, .string role, .string s, .string n, .int .i64 rt, .bool op] w fun e w' => e = .returned (.bool (givesB l (reachL c role) s n rt op)) ∧ Aft w w' := by
  have hlen := hl.len
  obtain ⟨W, hW⟩ : ∃ W, W = w.alloc (.cells #[.int .i64 c.epoch, .int .i64 c.version, .slice As c.objs.schemas.length caps, .slice At c.objs.tables.length capt, .slice An c.rols.names.length capn, .slice Am c.rols.members.length capm, .slice Ag c.grants.length capg] 32) := ⟨_, rfl⟩
  have aW : Aft w W := by rw [hW]; exact (Aft.refl w).alloc _
  have r0 : RowAt W (w.heap.size) [.int .i64 c.epoch, .int .i64 c.version, .slice As c.objs.schemas.length caps, .slice At c.objs.tables.length capt, .slice An c.rols.names.length capn, .slice Am c.rols.members.length capm, .slice Ag c.grants.length capg] := by rw [hW]; exact box_at (Aft.refl _) (by simp)
  have CR := Lib.hid (show Calls Tryz.prog 201 #[.agg #[.slice An c.rols.names.length capn, .slice Am c.rols.members.length capm], .string role] W (ReachP W c.rols role) from rreach c.rols An capn Am capm role W (strs_aft aW H.nam) (mbrs_aft aW H.mem) hrs hmm)
  have HSN := Lib.hid (sm_names H.nam)
  have HL := Lib.hid (gras_aft aW hl)
  have HAW := Lib.hid aW
  have x4 := r0.cell (j := 4) rfl
  have x5 := r0.cell (j := 5) rfl
  have xz := r0.1
  clear H hl r0 aW hrs hmm
  go_enter Tryz.func125, Tryz.ntmps125
  go_wp2_with fail
  rw [← hW]
  clear hW
  refine CR.out.mono ?_
  rintro e w1 ⟨h, rfl, a1, ho⟩
  have HA1 := Lib.hid a1
  have hsl := own_slice ho
  have SL := Lib.hid (show SlAt w1 1 StrR h.a h.c (reachL c role) from own_slf (R := StrR) nameC ho (fun x hx => ⟨rfl, rfl, HSN.out.2 x (List.mem_filter.1 hx).1⟩) (by show Small ((c.rols.names.filter (reachB c.rols.members role)).length * 16); have h1 := HSN.out.1; have h2 := List.length_filter_le (reachB c.rols.members role) c.rols.names; unfold Small at *; omega))
  rw [hsl, show (c.rols.names.filter (reachB c.rols.members role)) = reachL c role from rfl]
  obtain ⟨R, hR⟩ : ∃ R, reachL c role = R := ⟨_, rfl⟩
  have HRL := Lib.hid hR
  rw [hR] at SL ⊢
  clear a1 ho hsl CR hR x4 x5 xz
  go_wp2_with fail
  go_loopw [16] (fun i wr => ∃ k : Nat, k ≤ l.length ∧ i = .int .i64 k ∧ Aft w1 wr ∧ ∀ j, j < k → ∀ (hj : j < l.length), (eqS l[j].schema s && eqS l[j].table n && (l[j].right == rt) && (l[j].opt || !op) && inB R l[j].to) = false) (fun i _ => l.length - (intOf i).toNat)
  case atStart => exact ⟨0, Nat.zero_le _, rfl, Aft.refl _, fun j hj => absurd hj (Nat.not_lt_zero j)⟩
  case round =>
    obtain ⟨k, hk, rfl, ha, hp⟩ := hrel
    have HA := Lib.hid ha
    have HP := Lib.hid hp
    by_cases hlt : k < l.length
    case neg =>
      clear ha hp
      go_wp2_with fail
      go_ret
      exact ⟨by rw [HRL.out, show givesB l R s n rt op = false from any_false _ l fun j hj => HP.out j (by omega) hj]; rfl, HAW.out.trans (HA1.out.trans HA.out)⟩
    obtain ⟨b, off, rfl, hb, t0, t1, t2, t3, t4, t5, _⟩ := gra_at (gras_aft (HA1.out.trans ha) HL.out) hlt
    obtain ⟨x, hx⟩ : ∃ x, l[k] = x := ⟨_, rfl⟩
    rw [hx] at t0 t1 t2 t3 t4 t5
    have HX := Lib.hid hx
    have aX : Aft wr (wr.alloc (.cells #[.string x.schema, .string x.table, .int .i64 x.right, .string x.giver, .string x.to, .bool x.opt] 106)) := (Aft.refl _).alloc _
    have HAX := Lib.hid (HA.out.trans aX)
    have CI := Lib.hid (show Calls Tryz.prog 112 #[.slice h.a R.length h.c, .string x.to] (wr.alloc (.cells #[.string x.schema, .string x.table, .int .i64 x.right, .string x.giver, .string x.to, .bool x.opt] 106)) fun e w'' => e = .returned (.bool (inB R x.to)) ∧ (wr.alloc (.cells #[.string x.schema, .string x.table, .int .i64 x.right, .string x.giver, .string x.to, .bool x.opt] 106)) = w'' from rin_any h.a h.c R x.to _ (strs_aft HAX.out SL.out))
    obtain ⟨xs, xt, xr, xg, xo, xp⟩ := x
    dsimp only at t0 t1 t2 t3 t4 t5 CI HAX
    obtain ⟨i, hi⟩ : ∃ i, inB R xo = i := ⟨_, rfl⟩
    rw [hi] at CI
    have HQ := Lib.hid (show (eqS l[k].schema s && eqS l[k].table n && (l[k].right == rt) && (l[k].opt || !op) && inB R l[k].to) = (eqS xs s && eqS xt n && (xr == rt) && (xp || !op) && i) by rw [HX.out, ← hi])
    clear ha hp hx hi aX HX
    cases e1 : eqS xs s
    case false =>
      have e1' : (xs.toList == s.toList) = false := e1
      have HF := Lib.hid (show (eqS l[k].schema s && eqS l[k].table n && (l[k].right == rt) && (l[k].opt || !op) && inB R l[k].to) = false by rw [HQ.out, e1]; rfl)
      clear e1
      go_wp2_with (go_at_call 112; refine CI.out.mono ?_; rintro e w9 ⟨rfl, rfl⟩)
      go_roundw
      case rel => exact ⟨k + 1, by omega, by go_num, HAX.out, ext_lt (p := fun j => ∀ (hj : j < l.length), (eqS l[j].schema s && eqS l[j].table n && (l[j].right == rt) && (l[j].opt || !op) && inB R l[j].to) = false) HP.out (fun _ => HF.out)⟩
      case measure => simp [intOf]; omega
    have e1' : (xs.toList == s.toList) = true := e1
    cases e2 : eqS xt n
    case false =>
      have e2' : (xt.toList == n.toList) = false := e2
      have HF := Lib.hid (show (eqS l[k].schema s && eqS l[k].table n && (l[k].right == rt) && (l[k].opt || !op) && inB R l[k].to) = false by rw [HQ.out, e1, e2]; rfl)
      clear e1 e2
      go_wp2_with (go_at_call 112; refine CI.out.mono ?_; rintro e w9 ⟨rfl, rfl⟩)
      go_roundw
      case rel => exact ⟨k + 1, by omega, by go_num, HAX.out, ext_lt (p := fun j => ∀ (hj : j < l.length), (eqS l[j].schema s && eqS l[j].table n && (l[j].right == rt) && (l[j].opt || !op) && inB R l[j].to) = false) HP.out (fun _ => HF.out)⟩
      case measure => simp [intOf]; omega
    have e2' : (xt.toList == n.toList) = true := e2
    cases e3 : (xr == rt)
    case false =>
      have HF := Lib.hid (show (eqS l[k].schema s && eqS l[k].table n && (l[k].right == rt) && (l[k].opt || !op) && inB R l[k].to) = false by rw [HQ.out, e1, e2, e3]; rfl)
      clear e1 e2
      go_wp2_with (go_at_call 112; refine CI.out.mono ?_; rintro e w9 ⟨rfl, rfl⟩)
      go_roundw
      case rel => exact ⟨k + 1, by omega, by go_num, HAX.out, ext_lt (p := fun j => ∀ (hj : j < l.length), (eqS l[j].schema s && eqS l[j].table n && (l[j].right == rt) && (l[j].opt || !op) && inB R l[j].to) = false) HP.out (fun _ => HF.out)⟩
      case measure => simp [intOf]; omega
    have HQ2 := Lib.hid (show (eqS l[k].schema s && eqS l[k].table n && (l[k].right == rt) && (l[k].opt || !op) && inB R l[k].to) = ((xp || !op) && i) by rw [HQ.out, e1, e2, e3]; cases xp <;> cases op <;> cases i <;> rfl)
    clear e1 e2 HQ
    cases xp <;> cases op <;> cases i
    · have HF := Lib.hid (show _ = false from HQ2.out)
      go_wp2_with (go_at_call 112; refine CI.out.mono ?_; rintro e w9 ⟨rfl, rfl⟩)
      go_roundw
      case rel => exact ⟨k + 1, by omega, by go_num, HAX.out, ext_lt (p := fun j => ∀ (hj : j < l.length), (eqS l[j].schema s && eqS l[j].table n && (l[j].right == rt) && (l[j].opt || !false) && inB R l[j].to) = false) HP.out (fun _ => HF.out)⟩
      case measure => simp [intOf]; omega
    · have HT := Lib.hid (show _ = true from HQ2.out)
      go_wp2_with (go_at_call 112; refine CI.out.mono ?_; rintro e w9 ⟨rfl, rfl⟩)
      go_ret
      exact ⟨by rw [HRL.out, any_true_g l R s n rt _ k hlt HT.out]; rfl, HAW.out.trans (HA1.out.trans HAX.out)⟩
    · have HF := Lib.hid (show _ = false from HQ2.out)
      go_wp2_with (go_at_call 112; refine CI.out.mono ?_; rintro e w9 ⟨rfl, rfl⟩)
      go_roundw
      case rel => exact ⟨k + 1, by omega, by go_num, HAX.out, ext_lt (p := fun j => ∀ (hj : j < l.length), (eqS l[j].schema s && eqS l[j].table n && (l[j].right == rt) && (l[j].opt || !true) && inB R l[j].to) = false) HP.out (fun _ => HF.out)⟩
      case measure => simp [intOf]; omega
    · have HF := Lib.hid (show _ = false from HQ2.out)
      go_wp2_with (go_at_call 112; refine CI.out.mono ?_; rintro e w9 ⟨rfl, rfl⟩)
      go_roundw
      case rel => exact ⟨k + 1, by omega, by go_num, HAX.out, ext_lt (p := fun j => ∀ (hj : j < l.length), (eqS l[j].schema s && eqS l[j].table n && (l[j].right == rt) && (l[j].opt || !true) && inB R l[j].to) = false) HP.out (fun _ => HF.out)⟩
      case measure => simp [intOf]; omega
    · have HF := Lib.hid (show _ = false from HQ2.out)
      go_wp2_with (go_at_call 112; refine CI.out.mono ?_; rintro e w9 ⟨rfl, rfl⟩)
      go_roundw
      case rel => exact ⟨k + 1, by omega, by go_num, HAX.out, ext_lt (p := fun j => ∀ (hj : j < l.length), (eqS l[j].schema s && eqS l[j].table n && (l[j].right == rt) && (l[j].opt || !false) && inB R l[j].to) = false) HP.out (fun _ => HF.out)⟩
      case measure => simp [intOf]; omega
    · have HT := Lib.hid (show _ = true from HQ2.out)
      go_wp2_with (go_at_call 112; refine CI.out.mono ?_; rintro e w9 ⟨rfl, rfl⟩)
      go_ret
      exact ⟨by rw [HRL.out, any_true_g l R s n rt _ k hlt HT.out]; rfl, HAW.out.trans (HA1.out.trans HAX.out)⟩
    · have HF := Lib.hid (show _ = false from HQ2.out)
      go_wp2_with (go_at_call 112; refine CI.out.mono ?_; rintro e w9 ⟨rfl, rfl⟩)
      go_roundw
      case rel => exact ⟨k + 1, by omega, by go_num, HAX.out, ext_lt (p := fun j => ∀ (hj : j < l.length), (eqS l[j].schema s && eqS l[j].table n && (l[j].right == rt) && (l[j].opt || !true) && inB R l[j].to) = false) HP.out (fun _ => HF.out)⟩
      case measure => simp [intOf]; omega
    · have HT := Lib.hid (show _ = true from HQ2.out)
      go_wp2_with (go_at_call 112; refine CI.out.mono ?_; rintro e w9 ⟨rfl, rfl⟩)
      go_ret
      exact ⟨by rw [HRL.out, any_true_g l R s n rt _ k hlt HT.out]; rfl, HAW.out.trans (HA1.out.trans HAX.out)⟩
/-- the owner that the document finds: the last of that name -/
theorem over_last {l : List Sch} (hr : risesB (fun a b => cmpS a.name b.name) l = true) {q j : Nat} (hq : q < l.length) (hj : j < l.length) (hne : j ≠ q) : eqS l[j].name l[q].name = false := by
  rw [Bool.eq_false_iff]
  intro e
  have e0 := (cmpS_eq _ _).2 e
  rcases Nat.lt_or_ge j q with h | h
  · have := rises_lt (c := fun a b : Sch => cmpS a.name b.name) (fun a b d h1 h2 => cmpS_trans h1 h2) hr j q hj hq h
    omega
  · have := rises_lt (c := fun a b : Sch => cmpS a.name b.name) (fun a b d h1 h2 => cmpS_trans h1 h2) hr q j hq hj (by omega)
    have := cmpS_anti l[j].name l[q].name
    omega
theorem bossB_in (o : Objs) (R : List ByteArray) (t : Tab) : bossB o R t = (inB R bRoot || inB R t.owner || inB R (overB o t.schema)) := by
  unfold bossB inB
  induction R with
  | nil => rfl
  | cons x R ih =>
    simp only [List.any_cons]
    rw [ih]
    cases eqS x bRoot <;> cases eqS x t.owner <;> cases eqS x (overB o t.schema) <;> simp
set_option maxHeartbeats 8000000 in
theorem rboss (c : Cat) (As : Option Addr) (caps : Nat) (At : Option Addr) (capt : Nat) (An : Option Addr) (capn : Nat) (Am : Option Addr) (capm : Nat) (Ag : Option Addr) (capg : Nat) (role s n : ByteArray) (w : World) (H : CatAt w c As caps At capt An capn Am capm Ag capg) (hrs : Small role.size) (hst : standsB c = true) (h4 : 0 ≤ tabAt c.objs.tables s n) :
    Calls Tryz.prog 124 #[.agg #[.int .i64 c.epoch, .int .i64 c.version, .slice As c.objs.schemas.length caps, .slice At c.objs.tables.length capt, .slice An c.rols.names.length capn, .slice Am c.rols.members.length capm, .slice Ag c.grants.length capg], .string role, .string s, .string n] w fun e w' => e = .returned (.bool (bossB c.objs (reachL c role) (tabF c.objs s n))) ∧ Aft w w' := by
  have hlen := H.sch.len
  have hlen2 := H.tab.len
  have hmm : c.rols.members.length * 16 ≤ 140737488351000 := by
    have := (rightR_len (stands_iff.1 hst).2.1.2.1).2
    omega
  obtain ⟨W, hW⟩ : ∃ W, W = w.alloc (.cells #[.int .i64 c.epoch, .int .i64 c.version, .slice As c.objs.schemas.length caps, .slice At c.objs.tables.length capt, .slice An c.rols.names.length capn, .slice Am c.rols.members.length capm, .slice Ag c.grants.length capg] 32) := ⟨_, rfl⟩
  have aW : Aft w W := by rw [hW]; exact (Aft.refl w).alloc _
  have r0 : RowAt W (w.heap.size) [.int .i64 c.epoch, .int .i64 c.version, .slice As c.objs.schemas.length caps, .slice At c.objs.tables.length capt, .slice An c.rols.names.length capn, .slice Am c.rols.members.length capm, .slice Ag c.grants.length capg] := by rw [hW]; exact box_at (Aft.refl _) (by simp)
  obtain ⟨ts, tn, hsc⟩ := stands_tab2 hst h4
  obtain ⟨q, hq⟩ := Int.eq_ofNat_of_zero_le h4
  have hql : q < c.objs.tables.length := by have := (idxP_range (fun t : Tab => eqS t.schema s && eqS t.name n) c.objs.tables).2; unfold tabAt at hq; omega
  have hT := tabF_some hq hql
  obtain ⟨q2, hq2⟩ := Int.eq_ofNat_of_zero_le hsc
  have hql2 : q2 < c.objs.schemas.length := by have := (idxP_range (fun x : Sch => eqS x.name s) c.objs.schemas).2; unfold schAt at hq2; omega
  have hO := overB_some hq2 hql2
  have hqn : eqS c.objs.schemas[q2].name s = true := idxP_at _ c.objs.schemas q2 hql2 hq2
  have hris : risesB (fun a b => cmpS a.name b.name) c.objs.schemas = true := by
    have := (stands_iff.1 hst).2.1.1
    unfold checkO headOk at this
    simp only [Bool.and_eq_true] at this
    exact this.1.2
  obtain ⟨b, off, A2, cap2, A3, cap3, hAt, hb, t0, t1, t2, t3, t4, _, _, _⟩ := tab_at (tabs_aft aW H.tab) hql
  subst hAt
  obtain ⟨T, hTT⟩ : ∃ T, c.objs.tables[q] = T := ⟨_, rfl⟩
  rw [hTT] at t0 t1 t2 t3 t4 hT
  have HBE := Lib.hid (show bossB c.objs (reachL c role) (tabF c.objs s n) = (inB (reachL c role) bRoot || inB (reachL c role) T.owner || inB (reachL c role) c.objs.schemas[q2].owner) by rw [bossB_in, ts, hO, hT])
  have HNE := Lib.hid (show ∀ j (hj : j < c.objs.schemas.length), eqS c.objs.schemas[j].name s = decide (j = q2) from fun j hj => by
    by_cases e : j = q2
    · subst e; rw [hqn]; simp
    · rw [← (eqS_iff _ _).1 hqn, over_last hris hql2 hj e]; simp [e])
  have CT := Lib.hid (show ∀ V, Aft W V → Calls Tryz.prog 114 #[.agg #[.slice As c.objs.schemas.length caps, .slice (some ⟨b, off, none⟩) c.objs.tables.length capt], .string s, .string n] V fun e w'' => e = .returned (.int .i64 q) ∧ Aft V w'' from fun V a => (rtab_any (.slice As c.objs.schemas.length caps) (some ⟨b, off, none⟩) capt c.objs.tables s n V (tabs_aft (aW.trans a) H.tab)).mono fun e w'' ⟨he, hw⟩ => ⟨he.trans (by rw [hq]), hw⟩)
  have CR := Lib.hid (show ∀ V, Aft W V → Calls Tryz.prog 201 #[.agg #[.slice An c.rols.names.length capn, .slice Am c.rols.members.length capm], .string role] V (ReachP V c.rols role) from fun V a => rreach c.rols An capn Am capm role V (strs_aft (aW.trans a) H.nam) (mbrs_aft (aW.trans a) H.mem) hrs hmm)
  have HSN := Lib.hid (sm_names H.nam)
  have HSC := Lib.hid (schs_aft aW H.sch)
  have HAW := Lib.hid aW
  have HR0 := Lib.hid r0
  have x2 := r0.cell (j := 2) rfl
  have x3 := r0.cell (j := 3) rfl
  have xz := r0.1
  have v2 : (0 : Int) ≤ (q : Int) := by omega
  have v3 : ((q : Nat) : Int).toNat = q := by omega
  have v4 : (q : Int) < (c.objs.tables.length : Int) := by omega
  clear H r0 aW hst h4 ts tn hsc hq hT hq2 hO hqn hris hTT hrs hmm
  go_enter Tryz.func124, Tryz.ntmps124
  go_wp2_with fail
  rw [← hW]
  clear hW
  refine wp_region_lat (by kernel_rfl) (by kernel_rfl) ?_
  repeat (go_big_quiet_step ((go_at_call 114; exact Calls.lat_of (CT.out _ ((Aft.refl W).lat _)))))
  refine wpQuiet_nil ?_
  intro _ hw'
  obtain ⟨y, hw''⟩ := hw'
  subst hw''
  obtain ⟨V, hV⟩ : ∃ V, V = lat W y := ⟨_, rfl⟩
  have aV : Aft W V := by rw [hV]; exact (Aft.refl W).lat y
  have HAV := Lib.hid aV
  have p1 := HR0.out.aft aV
  clear x2 x3 xz t0 t1 t2 t3 t4 CT v2 v3 v4
  have x2 := p1.cell (j := 2) rfl
  have xz := p1.1
  rw [← hV]
  clear aV p1 hV
  go_wp2_with fail
  go_loopw [10, 11] (fun u10 i wr => ∃ k : Nat, k ≤ c.objs.schemas.length ∧ i = .int .i64 k ∧ u10 = .string (if q2 < k then c.objs.schemas[q2].owner else ⟨#[]⟩) ∧ Aft V wr) (fun _ i _ => c.objs.schemas.length - (intOf i).toNat)
  case atStart => exact ⟨0, Nat.zero_le _, rfl, by rw [if_neg (by omega)], Aft.refl _⟩
  case round =>
    clear x2 xz
    obtain ⟨k, hk, rfl, rfl, ha⟩ := hrel
    have HA := Lib.hid ha
    have p1 := HR0.out.aft (HAV.out.trans ha)
    have x2 := p1.cell (j := 2) rfl
    have xz := p1.1
    by_cases hlt : k < c.objs.schemas.length
    · obtain ⟨b3, off3, rfl, hb3, s0, s1, _, _⟩ := sch_at (schs_aft (HAV.out.trans ha) HSC.out) hlt
      have HQ := HNE.out k hlt
      obtain ⟨x, hx⟩ : ∃ x, c.objs.schemas[k] = x := ⟨_, rfl⟩
      rw [hx] at s0 s1 HQ
      by_cases hkq : k = q2
      · subst hkq
        have HX := Lib.hid (show c.objs.schemas[k].owner = x.owner by rw [hx])
        have e0 : (x.name.toList == s.toList) = true := by have : eqS x.name s = true := by rw [HQ]; simp
                                                           exact this
        clear ha p1 hx HQ
        go_wp2_with fail
        go_roundw
        case rel => exact ⟨k + 1, by omega, by go_num, by rw [if_pos (by omega), HX.out], HA.out⟩
        case measure => simp [intOf]; omega
      · have e0 : (x.name.toList == s.toList) = false := by have : eqS x.name s = false := by rw [HQ]; simp [hkq]
                                                            exact this
        have HI := Lib.hid (show (q2 < k + 1) = (q2 < k) by apply propext; omega)
        clear ha p1 hx HQ
        go_wp2_with fail
        go_roundw
        case rel => exact ⟨k + 1, by omega, by go_num, by simp only [HI.out], HA.out⟩
        case measure => simp [intOf]; omega
    · have CR2 := Lib.hid (CR.out wr (HAV.out.trans ha))
      have HOV := Lib.hid (show (if q2 < k then c.objs.schemas[q2].owner else (⟨#[]⟩ : ByteArray)) = c.objs.schemas[q2].owner by rw [if_pos (by omega)])
      rw [HOV.out]
      have x4 := p1.cell (j := 4) rfl
      have x5 := p1.cell (j := 5) rfl
      clear ha p1 CR
      go_wp2_with fail
      refine CR2.out.mono ?_
      rintro e w1 ⟨h, rfl, a1, ho⟩
      have HA1 := Lib.hid (HAV.out.trans (HA.out.trans a1))
      have hsl := own_slice ho
      have SL := Lib.hid (show SlAt w1 1 StrR h.a h.c (reachL c role) from own_slf (R := StrR) nameC ho (fun x hx => ⟨rfl, rfl, HSN.out.2 x (List.mem_filter.1 hx).1⟩) (by show Small ((c.rols.names.filter (reachB c.rols.members role)).length * 16); have h1 := HSN.out.1; have h2 := List.length_filter_le (reachB c.rols.members role) c.rols.names; unfold Small at *; omega))
      rw [hsl, show (c.rols.names.filter (reachB c.rols.members role)) = reachL c role from rfl]
      obtain ⟨R, hR⟩ : ∃ R, reachL c role = R := ⟨_, rfl⟩
      rw [hR] at SL
      rw [hR]
      obtain ⟨ow, how⟩ : ∃ x, T.owner = x := ⟨_, rfl⟩
      obtain ⟨ov, hov⟩ : ∃ x, c.objs.schemas[q2].owner = x := ⟨_, rfl⟩
      rw [how, hov]
      obtain ⟨i1, hi1⟩ : ∃ i, inB R bRoot = i := ⟨_, rfl⟩
      obtain ⟨i2, hi2⟩ : ∃ i, inB R ow = i := ⟨_, rfl⟩
      obtain ⟨i3, hi3⟩ : ∃ i, inB R ov = i := ⟨_, rfl⟩
      have HBE2 := Lib.hid (show bossB c.objs (reachL c role) (tabF c.objs s n) = (i1 || i2 || i3) by rw [HBE.out, hR, how, hov, hi1, hi2, hi3])
      have C1 := Lib.hid (show Calls Tryz.prog 112 #[.slice h.a R.length h.c, .string ⟨#[114, 111, 111, 116]⟩] w1 fun e w'' => e = .returned (.bool i1) ∧ w1 = w'' from hi1 ▸ rin_any h.a h.c R bRoot w1 SL.out)
      have C2 := Lib.hid (show Calls Tryz.prog 112 #[.slice h.a R.length h.c, .string ow] w1 fun e w'' => e = .returned (.bool i2) ∧ w1 = w'' from hi2 ▸ rin_any h.a h.c R ow w1 SL.out)
      have C3 := Lib.hid (show Calls Tryz.prog 112 #[.slice h.a R.length h.c, .string ov] w1 fun e w'' => e = .returned (.bool i3) ∧ w1 = w'' from hi3 ▸ rin_any h.a h.c R ov w1 SL.out)
      clear a1 ho hsl CR2 hR hi1 hi2 hi3 x2 x4 x5 xz how hov
      go_wp2_with fail
      refine C1.out.mono ?_
      rintro e w9 ⟨rfl, rfl⟩
      cases i1
      case true =>
        go_wp2_with fail
        go_ret
        exact ⟨by rw [HBE2.out]; rfl, HAW.out.trans HA1.out⟩
      go_wp2_with fail
      refine C2.out.mono ?_
      rintro e w9 ⟨rfl, rfl⟩
      cases i2
      case true =>
        go_wp2_with fail
        go_ret
        exact ⟨by rw [HBE2.out]; rfl, HAW.out.trans HA1.out⟩
      go_wp2_with fail
      refine C3.out.mono ?_
      rintro e w9 ⟨rfl, rfl⟩
      go_wp2_with fail
      go_ret
      exact ⟨by rw [HBE2.out]; cases i3 <;> rfl, HAW.out.trans HA1.out⟩
end Go.Proofs.YtgkhmnamkfgciaaGreat

namespace Go.Proofs.YtgkhmnamkfgciaaGreat
open Go.RowKit Go.Deep
set_option maxRecDepth 100000
set_option linter.unusedVariables false
theorem ownersB_sch (c : Cat) (k : Nat) (hk : k < c.objs.schemas.length) (h : inB c.rols.names c.objs.schemas[k].owner = false) : ownersB c = false := by unfold ownersB; rw [all_false _ _ k hk h]; rfl
theorem ownersB_tab (c : Cat) (k : Nat) (hk : k < c.objs.tables.length) (h : inB c.rols.names c.objs.tables[k].owner = false) : ownersB c = false := by unfold ownersB; rw [all_false (fun t : Tab => inB c.rols.names t.owner) _ k hk h]; simp
theorem standsB_own (c : Cat) (h : ownersB c = false) : standsB c = false := by unfold standsB; rw [h]; simp
set_option maxHeartbeats 16000000 in
theorem rstands (c : Cat) (As : Option Addr) (caps : Nat) (At : Option Addr) (capt : Nat) (An : Option Addr) (capn : Nat) (Am : Option Addr) (capm : Nat) (Ag : Option Addr) (capg : Nat) (w : World) (H : CatAt w c As caps At capt An capn Am capm Ag capg) :
    Calls Tryz.prog 122 #[.agg #[.int .i64 c.epoch, .int .i64 c.version, .slice As c.objs.schemas.length caps, .slice At c.objs.tables.length capt, .slice An c.rols.names.length capn, .slice Am c.rols.members.length capm, .slice Ag c.grants.length capg]] w fun e w' => e = .returned (.bool (standsB c)) ∧ Aft w w' := by
  have hlen := H.gra.len
  have hlen2 := H.sch.len
  have hlen3 := H.tab.len
  obtain ⟨W, hW⟩ : ∃ W, W = w.alloc (.cells #[.int .i64 c.epoch, .int .i64 c.version, .slice As c.objs.schemas.length caps, .slice At c.objs.tables.length capt, .slice An c.rols.names.length capn, .slice Am c.rols.members.length capm, .slice Ag c.grants.length capg] 32) := ⟨_, rfl⟩
  have aW : Aft w W := by rw [hW]; exact (Aft.refl w).alloc _
  have r0 : RowAt W (w.heap.size) [.int .i64 c.epoch, .int .i64 c.version, .slice As c.objs.schemas.length caps, .slice At c.objs.tables.length capt, .slice An c.rols.names.length capn, .slice Am c.rols.members.length capm, .slice Ag c.grants.length capg] := by rw [hW]; exact box_at (Aft.refl _) (by simp)
  obtain ⟨ck, hck⟩ : ∃ b, checkO c.objs = b := ⟨_, rfl⟩
  obtain ⟨rk, hrk⟩ : ∃ b, rightR c.rols = b := ⟨_, rfl⟩
  obtain ⟨ro, hro⟩ : ∃ b, inB c.rols.names bRoot = b := ⟨_, rfl⟩
  have HS := Lib.hid (show standsB c = (decide (c.grants.length ≤ 64) && ck && rk && ro && ownersB c && (c.grants.all (graOk c) && risesB cmpG c.grants)) by unfold standsB; rw [hck, hrk, hro])
  have C1 := Lib.hid (show ∀ V, Aft W V → Calls Tryz.prog 199 #[.agg #[.slice As c.objs.schemas.length caps, .slice At c.objs.tables.length capt]] V fun e w'' => e = .returned (.bool ck) ∧ Aft V w'' from fun V a => hck ▸ rRight_any c.objs As caps At capt V (schs_aft (aW.trans a) H.sch) (tabs_aft (aW.trans a) H.tab))
  have C2 := Lib.hid (show ∀ V, Aft W V → Calls Tryz.prog 200 #[.agg #[.slice An c.rols.names.length capn, .slice Am c.rols.members.length capm]] V fun e w'' => e = .returned (.bool rk) ∧ Aft V w'' from fun V a => hrk ▸ rright8 c.rols An capn Am capm V (strs_aft (aW.trans a) H.nam) (mbrs_aft (aW.trans a) H.mem))
  have C3 := Lib.hid (show ∀ V, Aft W V → Calls Tryz.prog 112 #[.slice An c.rols.names.length capn, .string ⟨#[114, 111, 111, 116]⟩] V fun e w'' => e = .returned (.bool ro) ∧ V = w'' from fun V a => hro ▸ rin_any An capn c.rols.names bRoot V (strs_aft (aW.trans a) H.nam))
  have CI := Lib.hid (show ∀ V, Aft W V → ∀ s, Calls Tryz.prog 112 #[.slice An c.rols.names.length capn, .string s] V fun e w'' => e = .returned (.bool (inB c.rols.names s)) ∧ V = w'' from fun V a s => rin_any An capn c.rols.names s V (strs_aft (aW.trans a) H.nam))
  have CT := Lib.hid (show ∀ V, Aft W V → ∀ s n, Calls Tryz.prog 114 #[.agg #[.slice As c.objs.schemas.length caps, .slice At c.objs.tables.length capt], .string s, .string n] V fun e w'' => e = .returned (.int .i64 (tabAt c.objs.tables s n)) ∧ Aft V w'' from fun V a s n => rtab_any (.slice As c.objs.schemas.length caps) At capt c.objs.tables s n V (tabs_aft (aW.trans a) H.tab))
  have HH := Lib.hid (H.aft aW)
  have HAW := Lib.hid aW
  have HR0 := Lib.hid r0
  obtain ⟨x0, x1, x2, x3, x4, x5, x6, xz⟩ := rowF7 r0
  clear hck hrk hro H aW r0
  go_enter Tryz.func122, Tryz.ntmps122
  by_cases m64 : c.grants.length ≤ 64
  case neg =>
    have m64' : (64 : Int) < (c.grants.length : Int) := by omega
    have HF := Lib.hid (standsB_len c m64)
    go_wp2_with fail
    go_ret
    exact ⟨by rw [HF.out]; rfl, by rw [← hW]; exact HAW.out⟩
  have m64' : ¬ (64 : Int) < (c.grants.length : Int) := by omega
  go_wp2_with fail
  rw [← hW]
  clear hW
  refine (C1.out W (Aft.refl W)).mono ?_
  rintro e w1 ⟨rfl, a1⟩
  clear x0 x1 x2 x3 x4 x5 x6 xz
  have H1 := Lib.hid a1
  have p0 := HR0.out.aft a1
  have x4 := p0.cell (j := 4) rfl
  have x5 := p0.cell (j := 5) rfl
  have xz := p0.1
  clear a1 p0
  cases ck
  case false =>
    have HF := Lib.hid (show standsB c = false by rw [HS.out]; simp)
    go_wp2_with fail
    go_ret
    exact ⟨by rw [HF.out]; rfl, HAW.out.trans H1.out⟩
  go_wp2_with fail
  refine (C2.out w1 H1.out).mono ?_
  rintro e w2 ⟨rfl, a2⟩
  clear x4 x5 xz
  have H2 := Lib.hid (H1.out.trans a2)
  have p0 := HR0.out.aft H2.out
  have x2 := p0.cell (j := 2) rfl
  have x4 := p0.cell (j := 4) rfl
  have xz := p0.1
  clear a2 p0 H1
  cases rk
  case false =>
    have HF := Lib.hid (show standsB c = false by rw [HS.out]; simp)
    go_wp2_with fail
    go_ret
    exact ⟨by rw [HF.out]; rfl, HAW.out.trans H2.out⟩
  go_wp2_with fail
  refine (C3.out w2 H2.out).mono ?_
  rintro e w3 ⟨rfl, rfl⟩
  cases ro
  case false =>
    have HF := Lib.hid (show standsB c = false by rw [HS.out]; simp)
    go_wp2_with fail
    go_ret
    exact ⟨by rw [HF.out]; rfl, HAW.out.trans H2.out⟩
  go_wp2_with fail
  go_loopw [3] (fun i wr => ∃ k : Nat, k ≤ c.objs.schemas.length ∧ i = .int .i64 k ∧ Aft W wr ∧ ∀ j, j < k → ∀ (hj : j < c.objs.schemas.length), inB c.rols.names c.objs.schemas[j].owner = true) (fun i _ => c.objs.schemas.length - (intOf i).toNat)
  case atStart => exact ⟨0, Nat.zero_le _, rfl, H2.out, fun j hj => absurd hj (Nat.not_lt_zero j)⟩
  case round =>
    clear x2 x4 xz
    obtain ⟨k, hk, rfl, ha, hp⟩ := hrel
    have HA := Lib.hid ha
    have HP := Lib.hid hp
    have p0 := HR0.out.aft ha
    have x2 := p0.cell (j := 2) rfl
    have x4 := p0.cell (j := 4) rfl
    have xz := p0.1
    have x3 := p0.cell (j := 3) rfl
    by_cases hlt : k < c.objs.schemas.length
    · obtain ⟨b, off, rfl, hb, t0, t1, _, _⟩ := sch_at (schs_aft ha HH.out.sch) hlt
      obtain ⟨x, hx⟩ : ∃ x, c.objs.schemas[k] = x := ⟨_, rfl⟩
      rw [hx] at t0 t1
      obtain ⟨i, hi⟩ : ∃ i, inB c.rols.names x.owner = i := ⟨_, rfl⟩
      have HI := Lib.hid (show inB c.rols.names c.objs.schemas[k].owner = i by rw [hx]; exact hi)
      have C := Lib.hid (show ∀ y : Lat wr, Calls Tryz.prog 112 #[.slice An c.rols.names.length capn, .string x.owner] (lat wr y) fun e w'' => e = .returned (.bool i) ∧ Aft (lat wr y) w'' from fun y => (CI.out _ (HA.out.lat y) x.owner).mono fun e w'' ⟨he, hw⟩ => ⟨he.trans (by rw [hi]), hw ▸ Aft.refl _⟩)
      clear ha hp p0 hx hi
      cases i
      · have HF := Lib.hid (standsB_own c (ownersB_sch c k hlt HI.out))
        go_wp2_with fail
        refine wp_region_lat (by kernel_rfl) (by kernel_rfl) ?_
        repeat (go_big_quiet_step ((go_at_call 112; exact Calls.lat_of (C.out _))))
        refine wpQuiet_nil ?_
        intro _ hw'
        obtain ⟨y, hw''⟩ := hw'
        subst hw''
        go_wp2_with fail
        go_ret
        exact ⟨by rw [HF.out]; rfl, HAW.out.trans (HA.out.lat y)⟩
      · go_wp2_with fail
        refine wp_region_lat (by kernel_rfl) (by kernel_rfl) ?_
        repeat (go_big_quiet_step ((go_at_call 112; exact Calls.lat_of (C.out _))))
        refine wpQuiet_nil ?_
        intro _ hw'
        obtain ⟨y, hw''⟩ := hw'
        subst hw''
        go_wp2_with fail
        go_roundw
        case rel => exact ⟨k + 1, by omega, by go_num, HA.out.lat y, ext_lt (p := fun j => ∀ (hj : j < c.objs.schemas.length), inB c.rols.names c.objs.schemas[j].owner = true) HP.out (fun _ => HI.out)⟩
        case measure => simp [intOf]; omega
    have OS := Lib.hid (show ∀ j (hj : j < c.objs.schemas.length), inB c.rols.names c.objs.schemas[j].owner = true from fun j hj => hp j (by omega) hj)
    obtain ⟨wA, hwA⟩ : ∃ V, V = wr := ⟨_, rfl⟩
    subst hwA
    have HA1 := Lib.hid ha
    clear ha hp p0 HA HP
    go_wp2_with fail
    go_loopw [4] (fun i wr => ∃ k : Nat, k ≤ c.objs.tables.length ∧ i = .int .i64 k ∧ Aft W wr ∧ ∀ j, j < k → ∀ (hj : j < c.objs.tables.length), inB c.rols.names c.objs.tables[j].owner = true) (fun i _ => c.objs.tables.length - (intOf i).toNat)
    case atStart => exact ⟨0, Nat.zero_le _, rfl, HA1.out, fun j hj => absurd hj (Nat.not_lt_zero j)⟩
    case round =>
      clear x2 x3 x4 xz
      obtain ⟨k, hk, rfl, ha, hp⟩ := hrel
      have HA := Lib.hid ha
      have HP := Lib.hid hp
      have p0 := HR0.out.aft ha
      have x2 := p0.cell (j := 2) rfl
      have x3 := p0.cell (j := 3) rfl
      have x4 := p0.cell (j := 4) rfl
      have xz := p0.1
      have x6 := p0.cell (j := 6) rfl
      by_cases hlt : k < c.objs.tables.length
      · obtain ⟨b, off, A2, cap2, A3, cap3, rfl, hb, t0, t1, t2, t3, t4, _, _, _⟩ := tab_at (tabs_aft ha HH.out.tab) hlt
        obtain ⟨x, hx⟩ : ∃ x, c.objs.tables[k] = x := ⟨_, rfl⟩
        rw [hx] at t0 t1 t2 t3 t4
        obtain ⟨i, hi⟩ : ∃ i, inB c.rols.names x.owner = i := ⟨_, rfl⟩
        have HI := Lib.hid (show inB c.rols.names c.objs.tables[k].owner = i by rw [hx]; exact hi)
        have C := Lib.hid (show ∀ y : Lat wr, Calls Tryz.prog 112 #[.slice An c.rols.names.length capn, .string x.owner] (lat wr y) fun e w'' => e = .returned (.bool i) ∧ Aft (lat wr y) w'' from fun y => (CI.out _ (HA.out.lat y) x.owner).mono fun e w'' ⟨he, hw⟩ => ⟨he.trans (by rw [hi]), hw ▸ Aft.refl _⟩)
        clear ha hp p0 hx hi
        cases i
        · have HF := Lib.hid (standsB_own c (ownersB_tab c k hlt HI.out))
          go_wp2_with fail
          refine wp_region_lat (by kernel_rfl) (by kernel_rfl) ?_
          repeat (go_big_quiet_step ((go_at_call 112; exact Calls.lat_of (C.out _))))
          refine wpQuiet_nil ?_
          intro _ hw'
          obtain ⟨y, hw''⟩ := hw'
          subst hw''
          go_wp2_with fail
          go_ret
          exact ⟨by rw [HF.out]; rfl, HAW.out.trans (HA.out.lat y)⟩
        · go_wp2_with fail
          refine wp_region_lat (by kernel_rfl) (by kernel_rfl) ?_
          repeat (go_big_quiet_step ((go_at_call 112; exact Calls.lat_of (C.out _))))
          refine wpQuiet_nil ?_
          intro _ hw'
          obtain ⟨y, hw''⟩ := hw'
          subst hw''
          go_wp2_with fail
          go_roundw
          case rel => exact ⟨k + 1, by omega, by go_num, HA.out.lat y, ext_lt (p := fun j => ∀ (hj : j < c.objs.tables.length), inB c.rols.names c.objs.tables[j].owner = true) HP.out (fun _ => HI.out)⟩
          case measure => simp [intOf]; omega
      have OT := Lib.hid (show ∀ j (hj : j < c.objs.tables.length), inB c.rols.names c.objs.tables[j].owner = true from fun j hj => hp j (by omega) hj)
      obtain ⟨wB, hwA⟩ : ∃ V, V = wr := ⟨_, rfl⟩
      subst hwA
      have HA2 := Lib.hid ha
      clear ha hp p0 HA HP
      go_wp2_with fail
      go_loopw [5] (fun i wr => ∃ k : Nat, k ≤ c.grants.length ∧ i = .int .i64 k ∧ Aft W wr ∧ ∀ j, j < k → ∀ (hj : j < c.grants.length), graOk c c.grants[j] = true ∧ (0 < j → cmpG (c.grants[j - 1]'(by omega)) c.grants[j] < 0)) (fun i _ => c.grants.length - (intOf i).toNat)
      case atStart => exact ⟨0, Nat.zero_le _, rfl, HA2.out, fun j hj => absurd hj (Nat.not_lt_zero j)⟩
      case round =>
        clear x2 x3 x4 x6 xz
        obtain ⟨k, hk, rfl, ha, hp⟩ := hrel
        have HA := Lib.hid ha
        have HP := Lib.hid hp
        have p0 := HR0.out.aft ha
        have x2 := p0.cell (j := 2) rfl
        have x3 := p0.cell (j := 3) rfl
        have x4 := p0.cell (j := 4) rfl
        have x6 := p0.cell (j := 6) rfl
        have xz := p0.1
        by_cases hlt : k < c.grants.length
        case neg =>
          have HF := Lib.hid (show standsB c = true by
            rw [HS.out, decide_eq_true m64, all_true _ _ fun j hj => (HP.out j (by omega) hj).1, rises_pred cmpG c.grants fun j h1 hj => (HP.out j (by omega) hj).2 (by omega)]
            unfold ownersB
            rw [all_true _ _ OS.out, all_true (fun t : Tab => inB c.rols.names t.owner) _ OT.out]; rfl)
          clear ha hp p0
          go_wp2_with fail
          go_ret
          exact ⟨by rw [HF.out]; rfl, HAW.out.trans HA.out⟩
        obtain ⟨b, off, rfl, hb, t0, t1, t2, t3, t4, t5, _⟩ := gra_at (gras_aft ha HH.out.gra) hlt
        obtain ⟨g, hg⟩ : ∃ g, c.grants[k] = g := ⟨_, rfl⟩
        rw [hg] at t0 t1 t2 t3 t4 t5
        obtain ⟨X, hX⟩ : ∃ V, V = wr.alloc (.cells #[.string g.schema, .string g.table, .int .i64 g.right, .string g.giver, .string g.to, .bool g.opt] 106) := ⟨_, rfl⟩
        have aX : Aft wr X := by rw [hX]; exact (Aft.refl wr).alloc _
        have AX := Lib.hid (HA.out.trans aX)
        have RX := Lib.hid (show RowAt X wr.heap.size [.string g.schema, .string g.table, .int .i64 g.right, .string g.giver, .string g.to, .bool g.opt] by rw [hX]; exact box_row2 (Aft.refl _))
        have HG := Lib.hid hg
        obtain ⟨kb, hkb⟩ : ∃ kb, kindB g.right = kb := ⟨_, rfl⟩
        obtain ⟨eb, heb⟩ : ∃ eb, eqS g.giver g.to = eb := ⟨_, rfl⟩
        obtain ⟨i1, hi1⟩ : ∃ i, inB c.rols.names g.giver = i := ⟨_, rfl⟩
        obtain ⟨i2, hi2⟩ : ∃ i, inB c.rols.names g.to = i := ⟨_, rfl⟩
        have HI1 := Lib.hid hi1
        have HI2 := Lib.hid hi2
        have HOKE := Lib.hid (show graOk c c.grants[k] = (decide (0 ≤ tabAt c.objs.tables g.schema g.table) && kb && !eb && i1 && i2) by rw [hg, ← hkb, ← heb, ← hi1, ← hi2]; rfl)
        have heb' : (g.giver.toList == g.to.toList) = eb := heb
        have CK := Lib.hid (show ∀ y : Lat X, Calls Tryz.prog 195 #[.int .i64 g.right] (lat X y) fun e w'' => e = .returned (.bool kb) ∧ Aft (lat X y) w'' from fun y => (rkind g.right _).mono fun e w'' ⟨he, hw⟩ => ⟨he.trans (by rw [hkb]), hw ▸ Aft.refl _⟩)
        have p1 := p0.aft aX
        clear ha hp p0 hg aX hkb heb hi1 hi2
        go_wp2_with fail
        rw [← hX]
        clear hX t0 t1 t2 t3 t4 t5 x2 x3 x4 x6 xz hb
        have x2 := p1.cell (j := 2) rfl
        have x3 := p1.cell (j := 3) rfl
        have x4 := p1.cell (j := 4) rfl
        have x6 := p1.cell (j := 6) rfl
        have xz := p1.1
        have p2 := RX.out
        obtain ⟨e0, e1, e2, e3, e4, e5, ez⟩ := rowF6 p2
        clear p1 p2
        by_cases h0 : 0 < k
        case neg =>
          have w5 : decide ((0 : Int) < (k : Int)) = false := decide_eq_false (by omega)
          have w6 : ¬ (0 : Int) < (k : Int) := by omega
          have CL := Lib.hid True.intro
          cases kb
          case false =>
            have HF := Lib.hid (standsB_gra c k hlt (by rw [HOKE.out]; simp))
            refine wp_region_lat (by kernel_rfl) (by kernel_rfl) ?_
            repeat (go_big_quiet_step ((first | (go_at_call 198; exact Calls.lat_of (CL.out _)) | (go_at_call 195; exact Calls.lat_of (CK.out _)))))
            refine wpQuiet_nil ?_
            intro _ hw'
            obtain ⟨y, hw''⟩ := hw'
            subst hw''
            go_wp2_with fail
            go_ret
            exact ⟨by rw [HF.out]; rfl, HAW.out.trans (AX.out.lat y)⟩
          cases eb
          case true =>
            have HF := Lib.hid (standsB_gra c k hlt (by rw [HOKE.out]; simp))
            refine wp_region_lat (by kernel_rfl) (by kernel_rfl) ?_
            repeat (go_big_quiet_step ((first | (go_at_call 198; exact Calls.lat_of (CL.out _)) | (go_at_call 195; exact Calls.lat_of (CK.out _)))))
            refine wpQuiet_nil ?_
            intro _ hw'
            obtain ⟨y, hw''⟩ := hw'
            subst hw''
            go_wp2_with fail
            go_ret
            exact ⟨by rw [HF.out]; rfl, HAW.out.trans (AX.out.lat y)⟩
          refine wp_region_lat (by kernel_rfl) (by kernel_rfl) ?_
          repeat (go_big_quiet_step ((first | (go_at_call 198; exact Calls.lat_of (CL.out _)) | (go_at_call 195; exact Calls.lat_of (CK.out _)))))
          refine wpQuiet_nil ?_
          intro _ hw'
          obtain ⟨y, hw''⟩ := hw'
          subst hw''
          go_wp2_with fail
          refine (CT.out _ (AX.out.lat y) g.schema g.table).mono ?_
          rintro e w7 ⟨rfl, a7⟩
          have A7 := Lib.hid ((AX.out.lat y).trans a7)
          have HD := Lib.hid (show decide (0 ≤ tabAt c.objs.tables g.schema g.table) = !decide (tabAt c.objs.tables g.schema g.table < 0) by by_cases h : tabAt c.objs.tables g.schema g.table < 0 <;> simp [h] <;> omega)
          obtain ⟨ti, hti⟩ : ∃ t, tabAt c.objs.tables g.schema g.table = t := ⟨_, rfl⟩
          rw [hti] at HD ⊢
          rw [hti] at HOKE
          have p2 := HR0.out.aft A7.out
          have p3 := RX.out.aft ((Aft.refl X).lat y |>.trans a7)
          clear a7 hti e0 e1 e2 e3 e4 e5 ez x2 x3 x4 x6 xz
          have x4 := p2.cell (j := 4) rfl
          have xz := p2.1
          have e3 := p3.cell (j := 3) rfl
          have e4 := p3.cell (j := 4) rfl
          have ez := p3.1
          clear p2 p3
          have N1 := Lib.hid (show Calls Tryz.prog 112 #[.slice An c.rols.names.length capn, .string g.giver] w7 fun e w'' => e = .returned (.bool i1) ∧ w7 = w'' from HI1.out ▸ CI.out w7 A7.out g.giver)
          have N2 := Lib.hid (show Calls Tryz.prog 112 #[.slice An c.rols.names.length capn, .string g.to] w7 fun e w'' => e = .returned (.bool i2) ∧ w7 = w'' from HI2.out ▸ CI.out w7 A7.out g.to)
          by_cases hneg : ti < 0
          case pos =>
            have HF := Lib.hid (standsB_gra c k hlt (by rw [HOKE.out, HD.out, decide_eq_true hneg]; rfl))
            go_wp2_with fail
            go_ret
            exact ⟨by rw [HF.out]; rfl, HAW.out.trans A7.out⟩
          go_wp2_with fail
          refine N1.out.mono ?_
          rintro e w9 ⟨rfl, rfl⟩
          cases i1
          case false =>
            have HF := Lib.hid (standsB_gra c k hlt (by rw [HOKE.out]; simp))
            go_wp2_with fail
            go_ret
            exact ⟨by rw [HF.out]; rfl, HAW.out.trans A7.out⟩
          go_wp2_with fail
          refine N2.out.mono ?_
          rintro e w9 ⟨rfl, rfl⟩
          cases i2
          case false =>
            have HF := Lib.hid (standsB_gra c k hlt (by rw [HOKE.out]; simp))
            go_wp2_with fail
            go_ret
            exact ⟨by rw [HF.out]; rfl, HAW.out.trans A7.out⟩
          have HOK := Lib.hid (show graOk c c.grants[k] = true by rw [HOKE.out, HD.out, decide_eq_false (show ¬ ti < 0 by omega)]; rfl)
          go_wp2_with fail
          go_roundw
          case rel => exact ⟨k + 1, by omega, by go_num, A7.out, ext_lt (p := fun j => ∀ (hj : j < c.grants.length), graOk c c.grants[j] = true ∧ (0 < j → cmpG (c.grants[j - 1]'(by omega)) c.grants[j] < 0)) HP.out (fun _ => ⟨HOK.out, fun h => absurd h h0⟩)⟩
          case measure => simp [intOf]; omega
        have w5 : decide ((0 : Int) < (k : Int)) = true := decide_eq_true (by omega)
        have w6 : (0 : Int) < (k : Int) := by omega
        have hk1 : k - 1 < c.grants.length := by omega
        obtain ⟨b', off', hA', hb', s0, s1, s2, s3, s4, s5, _⟩ := gra_at (gras_aft AX.out HH.out.gra) hk1
        simp only [Option.some.injEq, Addr.mk.injEq, and_true] at hA'
        obtain ⟨rfl, rfl⟩ := hA'
        obtain ⟨p', hpp'⟩ : ∃ p', (c.grants[k - 1]'(by omega)) = p' := ⟨_, rfl⟩
        rw [hpp'] at s0 s1 s2 s3 s4 s5
        have HPP := Lib.hid hpp'
        have v1 : IntKind.i64.wrap ((k : Int) - 1) = (k : Int) - 1 := IntWalk.i64_in _ (by omega)
        have v2 : (0 : Int) ≤ (k : Int) - 1 := by omega
        have v3 : ((k : Int) - 1).toNat = k - 1 := by omega
        have v4 : (k : Int) - 1 < (c.grants.length : Int) := by omega
        obtain ⟨lt, hltt⟩ : ∃ b, decide (cmpG p' g < 0) = b := ⟨_, rfl⟩
        have CL := Lib.hid (show ∀ y : Lat X, Calls Tryz.prog 198 #[.agg #[.string p'.schema, .string p'.table, .int .i64 p'.right, .string p'.giver, .string p'.to, .bool p'.opt], .agg #[.string g.schema, .string g.table, .int .i64 g.right, .string g.giver, .string g.to, .bool g.opt]] (lat X y) fun e w'' => e = .returned (.bool lt) ∧ Aft (lat X y) w'' from fun y => hltt ▸ rless p' g _)
        have HLT := Lib.hid hltt
        clear hpp' hltt
        cases lt
        case false =>
          have HF := Lib.hid (standsB_ris c k hlt h0 (by rw [HPP.out, HG.out]; have := of_decide_eq_false HLT.out; omega))
          refine wp_region_lat (by kernel_rfl) (by kernel_rfl) ?_
          repeat (go_big_quiet_step ((first | (go_at_call 198; exact Calls.lat_of (CL.out _)) | (go_at_call 195; exact Calls.lat_of (CK.out _)))))
          refine wpQuiet_nil ?_
          intro _ hw'
          obtain ⟨y, hw''⟩ := hw'
          subst hw''
          go_wp2_with fail
          go_ret
          exact ⟨by rw [HF.out]; rfl, HAW.out.trans (AX.out.lat y)⟩
        have HLT2 := Lib.hid (show cmpG (c.grants[k - 1]'(by omega)) c.grants[k] < 0 by rw [HPP.out, HG.out]; exact of_decide_eq_true HLT.out)
        cases kb
        case false =>
          have HF := Lib.hid (standsB_gra c k hlt (by rw [HOKE.out]; simp))
          refine wp_region_lat (by kernel_rfl) (by kernel_rfl) ?_
          repeat (go_big_quiet_step ((first | (go_at_call 198; exact Calls.lat_of (CL.out _)) | (go_at_call 195; exact Calls.lat_of (CK.out _)))))
          refine wpQuiet_nil ?_
          intro _ hw'
          obtain ⟨y, hw''⟩ := hw'
          subst hw''
          go_wp2_with fail
          go_ret
          exact ⟨by rw [HF.out]; rfl, HAW.out.trans (AX.out.lat y)⟩
        cases eb
        case true =>
          have HF := Lib.hid (standsB_gra c k hlt (by rw [HOKE.out]; simp))
          refine wp_region_lat (by kernel_rfl) (by kernel_rfl) ?_
          repeat (go_big_quiet_step ((first | (go_at_call 198; exact Calls.lat_of (CL.out _)) | (go_at_call 195; exact Calls.lat_of (CK.out _)))))
          refine wpQuiet_nil ?_
          intro _ hw'
          obtain ⟨y, hw''⟩ := hw'
          subst hw''
          go_wp2_with fail
          go_ret
          exact ⟨by rw [HF.out]; rfl, HAW.out.trans (AX.out.lat y)⟩
        refine wp_region_lat (by kernel_rfl) (by kernel_rfl) ?_
        repeat (go_big_quiet_step ((first | (go_at_call 198; exact Calls.lat_of (CL.out _)) | (go_at_call 195; exact Calls.lat_of (CK.out _)))))
        refine wpQuiet_nil ?_
        intro _ hw'
        obtain ⟨y, hw''⟩ := hw'
        subst hw''
        go_wp2_with fail
        refine (CT.out _ (AX.out.lat y) g.schema g.table).mono ?_
        rintro e w7 ⟨rfl, a7⟩
        have A7 := Lib.hid ((AX.out.lat y).trans a7)
        have HD := Lib.hid (show decide (0 ≤ tabAt c.objs.tables g.schema g.table) = !decide (tabAt c.objs.tables g.schema g.table < 0) by by_cases h : tabAt c.objs.tables g.schema g.table < 0 <;> simp [h] <;> omega)
        obtain ⟨ti, hti⟩ : ∃ t, tabAt c.objs.tables g.schema g.table = t := ⟨_, rfl⟩
        rw [hti] at HD ⊢
        rw [hti] at HOKE
        have p2 := HR0.out.aft A7.out
        have p3 := RX.out.aft ((Aft.refl X).lat y |>.trans a7)
        clear a7 hti e0 e1 e2 e3 e4 e5 ez x2 x3 x4 x6 xz
        have x4 := p2.cell (j := 4) rfl
        have xz := p2.1
        have e3 := p3.cell (j := 3) rfl
        have e4 := p3.cell (j := 4) rfl
        have ez := p3.1
        clear p2 p3
        have N1 := Lib.hid (show Calls Tryz.prog 112 #[.slice An c.rols.names.length capn, .string g.giver] w7 fun e w'' => e = .returned (.bool i1) ∧ w7 = w'' from HI1.out ▸ CI.out w7 A7.out g.giver)
        have N2 := Lib.hid (show Calls Tryz.prog 112 #[.slice An c.rols.names.length capn, .string g.to] w7 fun e w'' => e = .returned (.bool i2) ∧ w7 = w'' from HI2.out ▸ CI.out w7 A7.out g.to)
        by_cases hneg : ti < 0
        case pos =>
          have HF := Lib.hid (standsB_gra c k hlt (by rw [HOKE.out, HD.out, decide_eq_true hneg]; rfl))
          go_wp2_with fail
          go_ret
          exact ⟨by rw [HF.out]; rfl, HAW.out.trans A7.out⟩
        go_wp2_with fail
        refine N1.out.mono ?_
        rintro e w9 ⟨rfl, rfl⟩
        cases i1
        case false =>
          have HF := Lib.hid (standsB_gra c k hlt (by rw [HOKE.out]; simp))
          go_wp2_with fail
          go_ret
          exact ⟨by rw [HF.out]; rfl, HAW.out.trans A7.out⟩
        go_wp2_with fail
        refine N2.out.mono ?_
        rintro e w9 ⟨rfl, rfl⟩
        cases i2
        case false =>
          have HF := Lib.hid (standsB_gra c k hlt (by rw [HOKE.out]; simp))
          go_wp2_with fail
          go_ret
          exact ⟨by rw [HF.out]; rfl, HAW.out.trans A7.out⟩
        have HOK := Lib.hid (show graOk c c.grants[k] = true by rw [HOKE.out, HD.out, decide_eq_false (show ¬ ti < 0 by omega)]; rfl)
        go_wp2_with fail
        go_roundw
        case rel => exact ⟨k + 1, by omega, by go_num, A7.out, ext_lt (p := fun j => ∀ (hj : j < c.grants.length), graOk c c.grants[j] = true ∧ (0 < j → cmpG (c.grants[j - 1]'(by omega)) c.grants[j] < 0)) HP.out (fun _ => ⟨HOK.out, fun _ => HLT2.out⟩)⟩
        case measure => simp [intOf]; omega
end Go.Proofs.YtgkhmnamkfgciaaGreat

namespace Go.Proofs.YtgkhmnamkfgciaaGreat
open Go.RowKit Go.Deep
set_option maxRecDepth 100000
set_option linter.unusedVariables false
theorem filter_in {c : Cat} {l : List Gra} (h : HeldL c l) (hst : standsB c = true) (hc : ∀ g ∈ c.grants, inG l g = false → justB c l g = false) : c.grants.filter (inG l) = holdL c := by
  unfold holdL
  rw [if_pos hst]
  refine List.filter_congr fun g hg => ?_
  have := h.all (stands_iff.1 hst).2.2.2 hc g hg
  cases h1 : inG l g
  · cases h2 : heldB c g
    · rfl
    · rw [this.2 (heldB_iff.1 h2)] at h1; cases h1
  · exact (heldB_iff.2 (this.1 h1)).symm
set_option maxHeartbeats 16000000 in
theorem rhold (c : Cat) (As : Option Addr) (caps : Nat) (At : Option Addr) (capt : Nat) (An : Option Addr) (capn : Nat) (Am : Option Addr) (capm : Nat) (Ag : Option Addr) (capg : Nat) (w : World) (H : CatAt w c As caps At capt An capn Am capm Ag capg) :
    Calls Tryz.prog 66 #[.agg #[.int .i64 c.epoch, .int .i64 c.version, .slice As c.objs.schemas.length caps, .slice At c.objs.tables.length capt, .slice An c.rols.names.length capn, .slice Am c.rols.members.length capm, .slice Ag c.grants.length capg]] w (HoldP w c) := by
  have hlen := H.gra.len
  obtain ⟨W, hW⟩ : ∃ W, W = w.alloc (.cells #[.int .i64 c.epoch, .int .i64 c.version, .slice As c.objs.schemas.length caps, .slice At c.objs.tables.length capt, .slice An c.rols.names.length capn, .slice Am c.rols.members.length capm, .slice Ag c.grants.length capg] 32) := ⟨_, rfl⟩
  have aW : Aft w W := by rw [hW]; exact (Aft.refl w).alloc _
  have r0 : RowAt W (w.heap.size) [.int .i64 c.epoch, .int .i64 c.version, .slice As c.objs.schemas.length caps, .slice At c.objs.tables.length capt, .slice An c.rols.names.length capn, .slice Am c.rols.members.length capm, .slice Ag c.grants.length capg] := by rw [hW]; exact box_at (Aft.refl _) (by simp)
  obtain ⟨st, hst⟩ : ∃ b, standsB c = b := ⟨_, rfl⟩
  have C1 := Lib.hid (show Calls Tryz.prog 122 #[.agg #[.int .i64 c.epoch, .int .i64 c.version, .slice As c.objs.schemas.length caps, .slice At c.objs.tables.length capt, .slice An c.rols.names.length capn, .slice Am c.rols.members.length capm, .slice Ag c.grants.length capg]] W fun e w'' => e = .returned (.bool st) ∧ Aft W w'' from (rstands c As caps At capt An capn Am capm Ag capg W (H.aft aW)).mono fun e w'' ⟨he, hw⟩ => ⟨he.trans (by rw [hst]), hw⟩)
  have HST := Lib.hid hst
  have HH := Lib.hid (H.aft aW)
  have HAW := Lib.hid aW
  have HR0 := Lib.hid r0
  obtain ⟨x0, x1, x2, x3, x4, x5, x6, xz⟩ := rowF7 r0
  clear hst H aW r0
  go_enter Tryz.func66, Tryz.ntmps66
  go_wp2_with fail
  rw [← hW]
  clear hW
  refine C1.out.mono ?_
  rintro e w1 ⟨rfl, a1⟩
  have A1 := Lib.hid a1
  clear C1 x0 x1 x2 x3 x4 x5 x6 xz a1
  cases st
  case false =>
    have HF := Lib.hid (show holdL c = [] by unfold holdL; rw [HST.out]; rfl)
    go_wp2_with fail
    go_ret
    exact ⟨⟨none, 0, 0⟩, rfl, HAW.out.trans A1.out, by rw [HF.out]; exact own_nil _ _ _ _⟩
  have HSTD := Lib.hid (show standsB c = true from HST.out)
  have HSM := Lib.hid (sm_gras HH.out.gra).2
  have h64 : c.grants.length ≤ 64 := (stands_iff.1 HST.out).1
  have hmm := Lib.hid (show c.rols.members.length * 16 ≤ 140737488351000 by have := (rightR_len (stands_iff.1 HST.out).2.1.2.1).2; omega)
  go_wp2_with fail
  go_loopw [3, 4] (fun u3 u4 wr => ∃ (n : Int) (l : List Gra) (hd : Hd), u3 = .slice hd.a l.length hd.c ∧ u4 = .int .i64 n ∧ -1 ≤ n ∧ n ≤ l.length ∧ GrG w1 wr hd l ∧ HeldL c l ∧ (n = l.length → ∀ g ∈ c.grants, inG l g = false → justB c l g = false)) (fun _ u4 _ => c.grants.length + 2 - (intOf u4 + 1).toNat)
  case atStart => exact ⟨-1, [], ⟨none, 0, 0⟩, rfl, rfl, by omega, by simp, GrG.start w1, HeldL.nil c, fun h => by simp at h⟩
  case round =>
    obtain ⟨n, l, hd, rfl, rfl, hn1, hn2, hg, hf, hcl⟩ := hrel
    have HG := Lib.hid hg
    have HF := Lib.hid hf
    have HCL := Lib.hid hcl
    have hll := hf.len
    obtain ⟨wo, hwo⟩ : ∃ V, V = wr := ⟨_, rfl⟩
    subst hwo
    clear hg hf hcl
    by_cases hlt : n < (l.length : Int)
    · go_wp2_with fail
      go_loopw [3, 5] (fun u3 u5 wr => ∃ (k : Nat) (l' : List Gra) (hd' : Hd), u3 = .slice hd'.a l'.length hd'.c ∧ u5 = .int .i64 k ∧ k ≤ c.grants.length ∧ l.length ≤ l'.length ∧ GrG w1 wr hd' l' ∧ HeldL c l' ∧ (l.length = l'.length → ∀ j, j < k → ∀ (hj : j < c.grants.length), inG l' c.grants[j] = false → justB c l' c.grants[j] = false)) (fun _ u5 _ => c.grants.length - (intOf u5).toNat)
      case atStart => exact ⟨0, l, hd, rfl, rfl, Nat.zero_le _, Nat.le_refl _, HG.out, HF.out, fun _ j hj => absurd hj (Nat.not_lt_zero j)⟩
      case round =>
        obtain ⟨k, l', hd', rfl, rfl, hk, hle, hg', hf', hcl'⟩ := hrel
        have HG' := Lib.hid hg'
        have HF' := Lib.hid hf'
        have HCL' := Lib.hid hcl'
        have hll' := hf'.len
        have ar := A1.out.trans hg'.1
        have p0 := HR0.out.aft ar
        obtain ⟨x0, x1, x2, x3, x4, x5, x6, xz⟩ := rowF7 p0
        by_cases hlt2 : k < c.grants.length
        case neg =>
          have hkl : k = c.grants.length := by omega
          have HALL := Lib.hid (show (l.length : Int) = (l'.length : Int) → ∀ g ∈ c.grants, inG l' g = false → justB c l' g = false from fun e g hg => by
            obtain ⟨j, hj, rfl⟩ := List.getElem_of_mem hg
            exact HCL'.out (by omega) j (by omega) hj)
          clear hg' hf' hcl' ar p0
          go_wp2_with fail
          go_roundw
          case rel => exact ⟨l.length, l', hd', rfl, rfl, by omega, by omega, HG'.out, HF'.out, HALL.out⟩
          case measure => simp [intOf]; omega
        obtain ⟨b, off, rfl, hb, t0, t1, t2, t3, t4, t5, sg⟩ := gra_at (gras_aft ar HH.out.gra) hlt2
        obtain ⟨g, hgg⟩ : ∃ g, c.grants[k] = g := ⟨_, rfl⟩
        rw [hgg] at t0 t1 t2 t3 t4 t5 sg
        have HGM := Lib.hid (show g ∈ c.grants by rw [← hgg]; exact List.getElem_mem hlt2)
        have HGG := Lib.hid hgg
        have HSG := Lib.hid sg
        obtain ⟨X, hX⟩ : ∃ V, V = wr.alloc (.cells #[.string g.schema, .string g.table, .int .i64 g.right, .string g.giver, .string g.to, .bool g.opt] 106) := ⟨_, rfl⟩
        have aX : Aft wr X := by rw [hX]; exact (Aft.refl wr).alloc _
        have RX := Lib.hid (show RowAt X wr.heap.size [.string g.schema, .string g.table, .int .i64 g.right, .string g.giver, .string g.to, .bool g.opt] by rw [hX]; exact box_row2 (Aft.refl _))
        have GX := Lib.hid (HG'.out.aft aX)
        have AX := Lib.hid (ar.trans aX)
        have HSL := Lib.hid (show ∀ x ∈ l', SmG x from fun x hx => HSM.out x (HF'.out.sub x hx).mem)
        obtain ⟨ii, hii⟩ : ∃ b, inG l' g = b := ⟨_, rfl⟩
        have CI := Lib.hid (show Calls Tryz.prog 123 #[.slice hd'.a l'.length hd'.c, .agg #[.string g.schema, .string g.table, .int .i64 g.right, .string g.giver, .string g.to, .bool g.opt]] X fun e w'' => e = .returned (.bool ii) ∧ Aft X w'' from hii ▸ rin9 l' hd'.a hd'.c g X (GX.out.sl HSL.out (by omega)))
        have HII := Lib.hid hii
        have HJB := Lib.hid (show justB c l' g = (bossB c.objs (reachL c g.giver) (tabF c.objs g.schema g.table) || givesB l' (reachL c g.giver) g.schema g.table g.right true) by
          unfold justB; rw [(stands_allL HSTD.out HGM.out).2]; rfl)
        clear hg' hf' hcl' ar p0 aX hgg sg hii
        go_wp2_with fail
        rw [← hX]
        clear hX t0 t1 t2 t3 t4 t5 x0 x1 x2 x3 x4 x5 x6 xz hb
        refine CI.out.mono ?_
        rintro e w5 ⟨rfl, a5⟩
        have A5 := Lib.hid (AX.out.trans a5)
        have G5 := Lib.hid (GX.out.aft a5)
        have R5 := Lib.hid (RX.out.aft a5)
        have p0 := HR0.out.aft A5.out
        have p1 := R5.out
        clear a5 CI
        cases ii
        case true =>
          clear p0 p1
          go_wp2_with fail
          go_roundw
          case rel =>
            refine ⟨k + 1, l', hd', rfl, by go_num, by omega, hle, G5.out, HF'.out, fun e j hj hj2 => ?_⟩
            rcases Nat.lt_or_ge j k with h1 | h1
            · exact HCL'.out e j h1 hj2
            · have : j = k := by omega
              subst this
              rw [HGG.out, HII.out]; intro h; cases h
          case measure => simp [intOf]; omega
        obtain ⟨bb, hbb⟩ : ∃ bb, bossB c.objs (reachL c g.giver) (tabF c.objs g.schema g.table) = bb := ⟨_, rfl⟩
        obtain ⟨gb, hgb⟩ : ∃ gb, givesB l' (reachL c g.giver) g.schema g.table g.right true = gb := ⟨_, rfl⟩
        rw [hbb, hgb] at HJB
        have HGB := Lib.hid hgb
        have h4 : 0 ≤ tabAt c.objs.tables g.schema g.table := (ok_parts ((stands_iff.1 HSTD.out).2.2.1 g HGM.out)).1
        have CB := Lib.hid (show Calls Tryz.prog 124 #[.agg #[.int .i64 c.epoch, .int .i64 c.version, .slice As c.objs.schemas.length caps, .slice At c.objs.tables.length capt, .slice An c.rols.names.length capn, .slice Am c.rols.members.length capm, .slice (some ⟨b, off, none⟩) c.grants.length capg], .string g.giver, .string g.schema, .string g.table] w5 fun e w'' => e = .returned (.bool bb) ∧ Aft w5 w'' from
          hbb ▸ rboss c As caps At capt An capn Am capm (some ⟨b, off, none⟩) capg g.giver g.schema g.table w5 (HH.out.aft A5.out) HSG.out.2.2.1 HSTD.out h4)
        obtain ⟨x0, x1, x2, x3, x4, x5, x6, xz⟩ := rowF7 p0
        obtain ⟨y0, y1, y2, y3, y4, y5, yz⟩ := rowF6 p1
        clear p0 p1 hbb hgb h4
        go_wp2_with fail
        refine CB.out.mono ?_
        rintro e w6 ⟨rfl, a6⟩
        have A6 := Lib.hid (A5.out.trans a6)
        have G6 := Lib.hid (G5.out.aft a6)
        have R6 := Lib.hid (R5.out.aft a6)
        have p0 := HR0.out.aft A6.out
        have p1 := R6.out
        clear a6 CB x0 x1 x2 x3 x4 x5 x6 xz y0 y1 y2 y3 y4 y5 yz
        obtain ⟨x0, x1, x2, x3, x4, x5, x6, xz⟩ := rowF7 p0
        obtain ⟨y0, y1, y2, y3, y4, y5, yz⟩ := rowF6 p1
        have hq8 : l'.length ≤ 1000000 := by omega
        cases bb
        case true =>
          have HJ := Lib.hid (show justB c l' g = true by rw [HJB.out]; rfl)
          have zw1 : w1.heap.size ≤ w6.heap.size := G6.out.1.size
          clear p0 p1
          go_wp2_with (at_builtin; go_must (refine app_gra rfl _ _ rfl w1.heap.size (.slice hd'.a l'.length hd'.c) l'.length (l'.flatMap graC) rfl (own_aft G6.out.own ((Aft.refl w6).alloc _)) w6.heap.size g rfl (heap_alloc_new w6 _) hq8 (by simp; omega) ?_); intro gg cap' u8 hown8 hgrow hat; have HG8 := Lib.hid (And.intro hown8 hgrow); clear hown8 hgrow hat)
          have G8 := Lib.hid (G6.out.grow ((Aft.refl w6).alloc _) HG8.out.1 HG8.out.2)
          have F8 := Lib.hid (HF'.out.add HGM.out HII.out HJ.out)
          go_wp2_with fail
          go_roundw
          case rel => exact ⟨k + 1, l' ++ [g], ⟨some ⟨gg, 0, none⟩, l'.length + 1, cap'⟩, by simp, by go_num, by omega, by simp; omega, G8.out, F8.out, fun e => by simp at e; omega⟩
          case measure => simp [intOf]; omega
        case false =>
          have CG := Lib.hid (show Calls Tryz.prog 125 #[.agg #[.int .i64 c.epoch, .int .i64 c.version, .slice As c.objs.schemas.length caps, .slice At c.objs.tables.length capt, .slice An c.rols.names.length capn, .slice Am c.rols.members.length capm, .slice (some ⟨b, off, none⟩) c.grants.length capg], .slice hd'.a l'.length hd'.c, .string g.giver, .string g.schema, .string g.table, .int .i64 g.right, .bool true] w6 fun e w'' => e = .returned (.bool gb) ∧ Aft w6 w'' from
            HGB.out ▸ rgiven c As caps At capt An capn Am capm (some ⟨b, off, none⟩) capg l' hd'.a hd'.c g.giver g.schema g.table g.right true w6 (HH.out.aft A6.out) (G6.out.sl HSL.out (by omega)) HSG.out.2.2.1 hmm.out)
          clear p0 p1
          go_wp2_with fail
          refine CG.out.mono ?_
          rintro e w7 ⟨rfl, a7⟩
          have A7 := Lib.hid (A6.out.trans a7)
          have G7 := Lib.hid (G6.out.aft a7)
          have R7 := Lib.hid (R6.out.aft a7)
          have p1 := R7.out
          clear a7 CG x0 x1 x2 x3 x4 x5 x6 xz y0 y1 y2 y3 y4 y5 yz
          obtain ⟨y0, y1, y2, y3, y4, y5, yz⟩ := rowF6 p1
          clear p1
          cases gb
          case false =>
            have HJ := Lib.hid (show justB c l' g = false by rw [HJB.out]; rfl)
            go_wp2_with fail
            go_roundw
            case rel =>
              refine ⟨k + 1, l', hd', rfl, by go_num, by omega, hle, G7.out, HF'.out, fun e j hj hj2 => ?_⟩
              rcases Nat.lt_or_ge j k with h1 | h1
              · exact HCL'.out e j h1 hj2
              · have : j = k := by omega
                subst this
                rw [HGG.out]; exact fun _ => HJ.out
            case measure => simp [intOf]; omega
          case true =>
            have HJ := Lib.hid (show justB c l' g = true by rw [HJB.out]; rfl)
            have zw1 : w1.heap.size ≤ w7.heap.size := G7.out.1.size
            go_wp2_with (at_builtin; go_must (refine app_gra rfl _ _ rfl w1.heap.size (.slice hd'.a l'.length hd'.c) l'.length (l'.flatMap graC) rfl (own_aft G7.out.own ((Aft.refl w7).alloc _)) w7.heap.size g rfl (heap_alloc_new w7 _) hq8 (by simp; omega) ?_); intro gg cap' u8 hown8 hgrow hat; have HG8 := Lib.hid (And.intro hown8 hgrow); clear hown8 hgrow hat)
            have G8 := Lib.hid (G7.out.grow ((Aft.refl w7).alloc _) HG8.out.1 HG8.out.2)
            have F8 := Lib.hid (HF'.out.add HGM.out HII.out HJ.out)
            go_wp2_with fail
            go_roundw
            case rel => exact ⟨k + 1, l' ++ [g], ⟨some ⟨gg, 0, none⟩, l'.length + 1, cap'⟩, by simp, by go_num, by omega, by simp; omega, G8.out, F8.out, fun e => by simp at e; omega⟩
            case measure => simp [intOf]; omega
    · have hnn : n = (l.length : Int) := by omega
      have HFI := Lib.hid (filter_in HF.out HSTD.out (HCL.out hnn))
      have HSL := Lib.hid (show ∀ x ∈ l, SmG x from fun x hx => HSM.out x (HF.out.sub x hx).mem)
      subst hnn
      go_wp2_with fail
      go_loopw [7, 8] (fun u7 u8 wr => ∃ (k : Nat) (g : Hd), u7 = .slice g.a ((c.grants.take k).filter (inG l)).length g.c ∧ u8 = .int .i64 k ∧ k ≤ c.grants.length ∧ GrG wo wr g ((c.grants.take k).filter (inG l))) (fun _ u8 _ => c.grants.length - (intOf u8).toNat)
      case atStart => exact ⟨0, ⟨none, 0, 0⟩, rfl, rfl, Nat.zero_le _, GrG.start wo⟩
      case round =>
        obtain ⟨k, gh, rfl, rfl, hk, hg'⟩ := hrel
        have HG' := Lib.hid hg'
        have ar := A1.out.trans (HG.out.1.trans hg'.1)
        have p0 := HR0.out.aft ar
        have x6 := p0.cell (j := 6) rfl
        have xz := p0.1
        by_cases hlt2 : k < c.grants.length
        case neg =>
          have hkl : (c.grants.take k) = c.grants := List.take_of_length_le (by omega)
          have HE := Lib.hid (show (c.grants.take k).filter (inG l) = holdL c by rw [hkl]; exact HFI.out)
          have AR := Lib.hid ar
          clear hg' ar p0 hkl
          rw [HE.out] at HG' ⊢
          go_wp2_with fail
          go_ret
          refine ⟨gh, by have := own_slice HG'.out.2; rw [this]; rfl, HAW.out.trans AR.out, own_down HG'.out.2 ?_⟩
          have h1 := HAW.out.size
          have h2 := (A1.out.trans HG.out.1).size
          omega
        obtain ⟨b, off, rfl, hb, t0, t1, t2, t3, t4, t5, sg⟩ := gra_at (gras_aft ar HH.out.gra) hlt2
        obtain ⟨g, hgg⟩ : ∃ g, c.grants[k] = g := ⟨_, rfl⟩
        rw [hgg] at t0 t1 t2 t3 t4 t5
        obtain ⟨ii, hii⟩ : ∃ b, inG l g = b := ⟨_, rfl⟩
        have CI := Lib.hid (show Calls Tryz.prog 123 #[.slice hd.a l.length hd.c, .agg #[.string g.schema, .string g.table, .int .i64 g.right, .string g.giver, .string g.to, .bool g.opt]] wr fun e w'' => e = .returned (.bool ii) ∧ Aft wr w'' from hii ▸ rin9 l hd.a hd.c g _ ((HG.out.aft HG'.out.1).sl HSL.out (by omega)))
        have HN := Lib.hid (show (c.grants.take (k + 1)).filter (inG l) = (c.grants.take k).filter (inG l) ++ (if ii then [g] else []) by rw [filter_snoc8 hlt2, hgg, hii])
        have hfl : ((c.grants.take k).filter (inG l)).length ≤ c.grants.length := Nat.le_trans (List.length_filter_le _ _) (by rw [List.length_take]; omega)
        obtain ⟨m, hm⟩ : ∃ m, (c.grants.take k).filter (inG l) = m := ⟨_, rfl⟩
        rw [hm] at HG' HN hfl ⊢
        have HGG := Lib.hid hgg
        clear hg' ar p0 hgg hii hm
        have HSG := Lib.hid sg
        clear sg
        cases ii
        all_goals
          go_wp2_with fail
          refine CI.out.mono ?_
          rintro e w5 ⟨rfl, a5⟩
        · have A5 := Lib.hid a5
          clear a5
          go_wp2_with fail
          go_roundw
          case rel => exact ⟨k + 1, gh, by rw [HN.out]; simp, by go_num, by omega, by rw [HN.out]; simpa using HG'.out.aft A5.out⟩
          case measure => simp [intOf]; omega
        · have G5 := Lib.hid (HG'.out.aft a5)
          have ar5 := A1.out.trans (HG.out.1.trans G5.out.1)
          have p0 := HR0.out.aft ar5
          clear x6 xz t0 t1 t2 t3 t4 t5 hb CI a5
          have x6 := p0.cell (j := 6) rfl
          have xz := p0.1
          obtain ⟨b', off', hA', hb, t0, t1, t2, t3, t4, t5, _⟩ := gra_at (gras_aft ar5 HH.out.gra) hlt2
          simp only [Option.some.injEq, Addr.mk.injEq, and_true] at hA'
          obtain ⟨rfl, rfl⟩ := hA'
          rw [HGG.out] at t0 t1 t2 t3 t4 t5
          have hq8 : m.length ≤ 1000000 := by omega
          have zw1 : wo.heap.size ≤ w5.heap.size := G5.out.1.size
          clear p0 ar5
          go_wp2_with (at_builtin; go_must (refine app_gra rfl _ _ rfl wo.heap.size (.slice gh.a m.length gh.c) m.length (m.flatMap graC) rfl (own_aft G5.out.own ((Aft.refl w5).alloc _)) w5.heap.size g rfl (heap_alloc_new w5 _) hq8 (by simp; omega) ?_); intro gg cap' u8 hown8 hgrow hat; have HG8 := Lib.hid (And.intro hown8 hgrow); clear hown8 hgrow hat)
          have G8 := Lib.hid (G5.out.grow ((Aft.refl w5).alloc _) HG8.out.1 HG8.out.2)
          go_wp2_with fail
          go_roundw
          case rel => exact ⟨k + 1, ⟨some ⟨gg, 0, none⟩, m.length + 1, cap'⟩, by rw [HN.out]; simp, by go_num, by omega, by rw [HN.out]; simpa using G8.out⟩
          case measure => simp [intOf]; omega
end Go.Proofs.YtgkhmnamkfgciaaGreat

namespace Go.Proofs.YtgkhmnamkfgciaaGreat
open Go.RowKit Go.Deep
set_option maxRecDepth 100000
set_option linter.unusedVariables false
set_option maxHeartbeats 4000000 in
theorem rwhole (c : Cat) (As : Option Addr) (caps : Nat) (At : Option Addr) (capt : Nat) (An : Option Addr) (capn : Nat) (Am : Option Addr) (capm : Nat) (Ag : Option Addr) (capg : Nat) (w : World) (H : CatAt w c As caps At capt An capn Am capm Ag capg) :
    Calls Tryz.prog 79 #[.agg #[.int .i64 c.epoch, .int .i64 c.version, .slice As c.objs.schemas.length caps, .slice At c.objs.tables.length capt, .slice An c.rols.names.length capn, .slice Am c.rols.members.length capm, .slice Ag c.grants.length capg]] w fun e w' => e = .returned (.bool (wholeB c)) ∧ Aft w w' := by
  obtain ⟨W, hW⟩ : ∃ W, W = w.alloc (.cells #[.int .i64 c.epoch, .int .i64 c.version, .slice As c.objs.schemas.length caps, .slice At c.objs.tables.length capt, .slice An c.rols.names.length capn, .slice Am c.rols.members.length capm, .slice Ag c.grants.length capg] 32) := ⟨_, rfl⟩
  have aW : Aft w W := by rw [hW]; exact (Aft.refl w).alloc _
  have r0 : RowAt W (w.heap.size) [.int .i64 c.epoch, .int .i64 c.version, .slice As c.objs.schemas.length caps, .slice At c.objs.tables.length capt, .slice An c.rols.names.length capn, .slice Am c.rols.members.length capm, .slice Ag c.grants.length capg] := by rw [hW]; exact box_at (Aft.refl _) (by simp)
  obtain ⟨st, hst⟩ : ∃ b, standsB c = b := ⟨_, rfl⟩
  have CS := Lib.hid (show ∀ V, Aft W V → Calls Tryz.prog 122 #[.agg #[.int .i64 c.epoch, .int .i64 c.version, .slice As c.objs.schemas.length caps, .slice At c.objs.tables.length capt, .slice An c.rols.names.length capn, .slice Am c.rols.members.length capm, .slice Ag c.grants.length capg]] V fun e w'' => e = .returned (.bool st) ∧ Aft V w'' from fun V a => (rstands c As caps At capt An capn Am capm Ag capg V (H.aft (aW.trans a))).mono fun e w'' ⟨he, hw⟩ => ⟨he.trans (by rw [hst]), hw⟩)
  have CH := Lib.hid (show ∀ V, Aft W V → Calls Tryz.prog 66 #[.agg #[.int .i64 c.epoch, .int .i64 c.version, .slice As c.objs.schemas.length caps, .slice At c.objs.tables.length capt, .slice An c.rols.names.length capn, .slice Am c.rols.members.length capm, .slice Ag c.grants.length capg]] V (HoldP V c) from fun V a => rhold c As caps At capt An capn Am capm Ag capg V (H.aft (aW.trans a)))
  have KS := Lib.hid (show ∀ V, Aft W V → Aft W V ∧ V.cell? ⟨w.heap.size, 0, none⟩ = some (.int .i64 c.epoch) ∧ V.cell? ⟨w.heap.size, 1, none⟩ = some (.int .i64 c.version) ∧ V.cell? ⟨w.heap.size, 2, none⟩ = some (.slice As c.objs.schemas.length caps) ∧ V.cell? ⟨w.heap.size, 3, none⟩ = some (.slice At c.objs.tables.length capt) ∧ V.cell? ⟨w.heap.size, 4, none⟩ = some (.slice An c.rols.names.length capn) ∧ V.cell? ⟨w.heap.size, 5, none⟩ = some (.slice Am c.rols.members.length capm) ∧ V.cell? ⟨w.heap.size, 6, none⟩ = some (.slice Ag c.grants.length capg) from fun V a => by
    have p := r0.aft a
    exact ⟨a, p.cell (j := 0) rfl, p.cell (j := 1) rfl, p.cell (j := 2) rfl, p.cell (j := 3) rfl, p.cell (j := 4) rfl, p.cell (j := 5) rfl, p.cell (j := 6) rfl⟩)
  have HST := Lib.hid hst
  have HAW := Lib.hid aW
  clear hst H aW r0
  go_enter Tryz.func79, Tryz.ntmps79
  go_wp2_with fail
  rw [← hW]
  clear hW
  cases st
  case false =>
    have HF := Lib.hid (wholeB_no HST.out)
    obtain ⟨_, x0, x1, x2, x3, x4, x5, x6⟩ := KS.out W (Aft.refl W)
    have xz : w.heap.size < W.heap.size := World.block_lt_of_cell? W ⟨w.heap.size, 0, none⟩ x0
    refine wp_region_lat (by kernel_rfl) (by kernel_rfl) ?_
    repeat (go_big_quiet_step ((go_at_call 122; exact Calls.lat_of (CS.out _ ((Aft.refl W).lat _)))))
    refine wpQuiet_nil ?_
    intro _ hw'
    obtain ⟨y, hw''⟩ := hw'
    subst hw''
    go_wp2_with fail
    go_ret
    exact ⟨by rw [HF.out]; rfl, HAW.out.lat y⟩
  case true =>
    have HW := Lib.hid (show wholeB c = ((holdL c).length == c.grants.length) by unfold wholeB; rw [HST.out]; rfl)
    go_region_held3 (fun V => Aft W V ∧ V.cell? ⟨w.heap.size, 0, none⟩ = some (.int .i64 c.epoch) ∧ V.cell? ⟨w.heap.size, 1, none⟩ = some (.int .i64 c.version) ∧ V.cell? ⟨w.heap.size, 2, none⟩ = some (.slice As c.objs.schemas.length caps) ∧ V.cell? ⟨w.heap.size, 3, none⟩ = some (.slice At c.objs.tables.length capt) ∧ V.cell? ⟨w.heap.size, 4, none⟩ = some (.slice An c.rols.names.length capn) ∧ V.cell? ⟨w.heap.size, 5, none⟩ = some (.slice Am c.rols.members.length capm) ∧ V.cell? ⟨w.heap.size, 6, none⟩ = some (.slice Ag c.grants.length capg))
      (first | exact KS.out _ (Aft.refl _).drew | exact KS.out _ A5.out | exact KS.out _ A6.out)
      ((first | (go_at_call 122; refine (CS.out _ (Aft.refl W).drew).mono ?_; rintro e w5 ⟨rfl, a5⟩; have A5 := Lib.hid ((Aft.refl W).drew.trans a5); clear a5) | (go_at_call 66; refine (CH.out w5 A5.out).mono ?_; rintro e w6 ⟨h, rfl, a6, ho6⟩; have A6 := Lib.hid (A5.out.trans a6); clear a6; rw [own_slice ho6])))
    go_wp2_with fail
    go_ret
    refine ⟨Eq.trans (b := .returned (.bool _)) rfl (ret_of (bool_of ?_)), HAW.out.trans A6.out⟩
    rw [HW.out, Bool.eq_iff_iff, beq_iff_eq, beq_iff_eq]
    omega
end Go.Proofs.YtgkhmnamkfgciaaGreat

