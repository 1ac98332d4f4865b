/- objects.SetOwner and the document's. -/
import Derived.Test.YtodifdofgjfkiaaRefFind
namespace Go.Proofs.Ytodifdofgjfkiaa
open Go.RowKit Go.Deep
set_option maxRecDepth 100000
set_option linter.unusedVariables false
def ownF (v : ByteArray) (t : Tab) : Tab × Int := ({ t with owner := v }, 0)
def setOwnR (o : Objs) (s n v : ByteArray) : Objs × Int := if checkO o then (if nameB v then tabR o s n (ownF v) else (zeroO, 1)) else (zeroO, 63)
theorem setO_row {w : World} {b : Nat} {xs : List Value} (h : RowAt w b xs) (hl : xs.length = 2) (v0 v1 : Value) : RowAt ((w.setCell ⟨b, 0, none⟩ v0).setCell ⟨b, 1, none⟩ v1) b [v0, v1] := by
  match xs, hl with
  | [a, b], _ => exact (h.set 0 _ (by simp)).set 1 _ (by simp)
theorem setO_kb (w : World) (b : Nat) (v0 v1 : Value) : Kb (fun g => g = b) w ((w.setCell ⟨b, 0, none⟩ v0).setCell ⟨b, 1, none⟩ v1) := (Kb.set _ _ _ _).trans (Kb.set _ _ _ _)
/-- objects that were laid into a result's own variable -/
theorem objP_set {w W w1 : World} {r : Objs × Int} {b : Nat} {hs ht : Hd} {L : List OTab} {v0 v1 : Value} {e : Ending} (a : Aft w w1) (hL : L.map OTab.t = r.1.tables) (ob : ObjIn w1 W.heap.size hs ht r.1.schemas L) (hb : w.heap.size ≤ b) (hbW : b < W.heap.size)
    (he : e = .returned (.tuple #[.agg #[.slice hs.a r.1.schemas.length hs.c, .slice ht.a r.1.tables.length ht.c], .int .i64 r.2])) : ObjP w r e ((w1.setCell ⟨b, 0, none⟩ v0).setCell ⟨b, 1, none⟩ v1) := by
  refine ⟨hs, ht, L, hL, he, (setO_kb w1 b v0 v1).to_aft a (fun g hg e => by omega), ?_⟩
  refine ObjIn.down (ob.kb (setO_kb w1 b v0 v1) fun g hg e => ?_) (by omega)
  have := (ob.lt g hg).1
  omega
theorem objP_zset {w w1 : World} {c : Int} {b : Nat} {v0 v1 : Value} (a : Aft w w1) (hb : w.heap.size ≤ b) : ObjP w (zeroO, c) (.returned (.tuple #[.agg #[.slice none 0 0, .slice none 0 0], .int .i64 c])) ((w1.setCell ⟨b, 0, none⟩ v0).setCell ⟨b, 1, none⟩ v1) :=
  objP_zero ((setO_kb w1 b v0 v1).to_aft a (fun g hg e => by omega))
set_option maxHeartbeats 8000000 in
theorem setOwner_in (o : Objs) (As : Option Addr) (caps : Nat) (At : Option Addr) (capt : Nat) (s n v : ByteArray) (w : World) (hsch : SlAt w 2 SchR As caps o.schemas) (htab : SlAt w 5 TabR At capt o.tables) (hv : v.size ≤ maxLen) :
    Calls Try.prog 23 #[.agg #[.slice As o.schemas.length caps, .slice At o.tables.length capt], .string s, .string n, .string v] w (ObjP w (setOwnR o s n v)) := by
  have hlen := hsch.len
  have hlen2 := htab.len
  have hent := enters (P := Try.prog) Try.func77 (by kernel_rfl) rfl
  have l1 : w.heap.size < w.heap.size + 1 := by omega
  have l2 : w.heap.size < w.heap.size + 1 + 1 := by omega
  have l3 : w.heap.size < w.heap.size + 1 + 1 + 1 := by omega
  obtain ⟨W, hW⟩ : ∃ W, W = ((w.alloc (.cells #[.slice As o.schemas.length caps, .slice At o.tables.length capt] 25)).alloc (.cells #[.string v] 9)).alloc (.cells #[.slice none 0 0, .slice none 0 0] 25) := ⟨_, rfl⟩
  have aW : Aft w W := by rw [hW]; exact (((Aft.refl w).alloc _).alloc _).alloc _
  have r1 : RowAt W w.heap.size [.slice As o.schemas.length caps, .slice At o.tables.length capt] := by rw [hW]; exact (box_row2 (Aft.refl _)).aft (((Aft.refl _).alloc _).alloc _)
  have c1 : W.cell? ⟨w.heap.size + 1, 0, none⟩ = some (.string v) := by
    rw [hW]; (repeat (refine (World.cell?_alloc_past _ _ _ (by first | (simp; done) | (simp; omega))).trans ?_)); exact World.cell?_alloc_at _ _ _ _ (by simp)
  have r2 : RowAt W (w.heap.size + 1 + 1) [.slice none 0 0, .slice none 0 0] := by
    rw [hW]
    have := (box_row2 (w := (w.alloc (.cells #[.slice As o.schemas.length caps, .slice At o.tables.length capt] 25)).alloc (.cells #[.string v] 9)) (c := [.slice none 0 0, .slice none 0 0]) (t := 25) (Aft.refl _))
    simpa using this
  have zW : W.heap.size = w.heap.size + 3 := by rw [hW]; simp
  obtain ⟨c, hc⟩ : ∃ c, checkO o = c := ⟨_, rfl⟩
  obtain ⟨m, hm⟩ : ∃ m, nameB v = m := ⟨_, rfl⟩
  have CK := Lib.hid (show ∀ w', Aft w w' → Calls Try.prog 17 #[.agg #[.slice As o.schemas.length caps, .slice At o.tables.length capt]] w' fun e w'' => e = .returned (.int .i64 (if c = true then 0 else 63)) ∧ Aft w' w'' from
    fun w' a => (check_any o As caps At capt w' (schs_aft a hsch) (tabs_aft a htab)).mono fun e w'' ⟨he, hw⟩ => ⟨he.trans (by unfold checkE; rw [hc]), hw⟩)
  have CN := Lib.hid (show ∀ w', Calls Try.prog 67 #[.string v] w' fun e w'' => e = .returned (.bool m) ∧ w' = w'' from fun w' => (name_any v w' hv).mono fun e w'' ⟨he, hw⟩ => ⟨he.trans (by rw [hm]), hw⟩)
  have CT := Lib.hid (show ∀ w', Aft W w' → _ from fun w' a => tabCh_in o As caps At capt s n 77 #[.pointer (some ⟨w.heap.size + 1, 0, none⟩)] (ownF v) w' (schs_aft (aW.trans a) hsch) (tabs_aft (aW.trans a) htab) hent
    (fun hck w'' hs ht L B n3 q gt hq a'' hB hn hL ob hne r3 hgt hqq => setOwner1_in v o w'' hs ht L B n3 q gt (w.heap.size + 1) hq hn hL ob hne r3 hgt ((a.trans a'').cell_kept c1)))
  obtain ⟨rr, hrr⟩ : ∃ rr, chgR o (tabR o s n (ownF v)) = rr := ⟨_, rfl⟩
  rw [hrr] at CT
  have HE := Lib.hid (show setOwnR o s n v = if (c && !m) = true then (zeroO, 1) else rr by
    rw [← hrr]; unfold setOwnR chgR; rw [hc, hm]
    cases c <;> cases m <;> rfl)
  clear hrr
  have HAW := Lib.hid aW
  have HR1 := Lib.hid r1
  have HR2 := Lib.hid r2
  have HC1 := Lib.hid c1
  have HZ := Lib.hid zW
  clear hc hm hsch htab r1 r2 aW zW c1 hv
  go_enter Try.func23, Try.ntmps23
  go_wp2_with fail
  rw [← hW]
  clear hW
  refine (CK.out W HAW.out).mono ?_
  rintro e w1 ⟨rfl, a1⟩
  have HB1 := Lib.hid (HR1.out.aft a1)
  have HB2 := Lib.hid (HR2.out.aft a1)
  have c0 := HB1.out.cell (j := 0) rfl
  have c1 := HB1.out.cell (j := 1) rfl
  have z1 := HB1.out.1
  have d0 := HB2.out.cell (j := 0) rfl
  have d1 := HB2.out.cell (j := 1) rfl
  have f0 := HB2.out.2.2 0 (by simp)
  have f1 := HB2.out.2.2 1 (by simp)
  have z2 := HB2.out.1
  have v0 := a1.cell_kept HC1.out
  have v1 : w.heap.size + 1 < w1.heap.size := World.block_lt_of_cell? _ _ v0
  have HA1 := Lib.hid (HAW.out.trans a1)
  have HA1' := Lib.hid a1
  have HZ1 := Lib.hid (show w.heap.size + 3 ≤ w1.heap.size by have := a1.size; have := HZ.out; omega)
  clear a1
  cases c <;> cases m
  case true.false =>
    go_wp2_with (go_at_call 67; refine (CN.out _).mono ?_; rintro e w2 ⟨rfl, rfl⟩)
    refine bodyPost_ret (results_cell_tmp (v := .agg #[.slice none 0 0, .slice none 0 0]) rfl _ rfl ?hl) rfl ?_
    case hl => exact lvObj_row (setO_row HB2.out rfl _ _)
    rw [HE.out]
    exact objP_zset HA1.out (by omega)
  all_goals
    go_wp2_with (go_at_call 67; refine (CN.out _).mono ?_; rintro e w2 ⟨rfl, rfl⟩)
    refine (CT.out w1 HA1'.out).mono ?_
    rintro e w3 ⟨hs, ht, L, hL, rfl, a3, ob⟩
    have b2 := HB2.out.aft a3
    have d0 := b2.cell (j := 0) rfl
    have d1 := b2.cell (j := 1) rfl
    have f0 := b2.2.2 0 (by simp)
    have f1 := b2.2.2 1 (by simp)
    have z2 := b2.1
    have HB3 := Lib.hid b2
    have HA3 := Lib.hid (HA1.out.trans a3)
    have HO := Lib.hid ob
    have HL := Lib.hid hL
    clear b2 a3 ob hL
    go_wp2_with fail
    refine bodyPost_ret (results_cell_tmp (v := .agg #[.slice hs.a rr.1.schemas.length hs.c, .slice ht.a rr.1.tables.length ht.c]) rfl _ rfl (lvObj_row (setO_row HB3.out rfl _ _))) rfl ?_
    rw [HE.out]
    exact objP_set HA3.out HL.out HO.out (by omega) (by have := HZ1.out; omega) rfl
end Go.Proofs.Ytodifdofgjfkiaa
