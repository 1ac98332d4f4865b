/- Contracts of the program, part 8. -/
import Derived.Test.YtcdhljcpoopfaaaPart7
import Derived.Test.YtcdhljcpoopfaaaPart4
import Derived.Test.YtcdhljcpoopfaaaPart3
import Derived.Lib.AppendZerosOnto
import Derived.Lib.Overlaps
import Derived.Laws.AppendOwn
import Derived.Test.YtcdhljcpoopfaaaPart5
import Derived.IntWalk
import Derived.Deep.RegionLaw
import Derived.Deep.RegionHeld3
/- roles.Drop: a role is dropped. -/
namespace Go.Proofs.Ytcdhljcpoopfaaa
open Go.RowKit Go.Deep
set_option maxRecDepth 100000
set_option linter.unusedVariables false
def dropF (name : ByteArray) (r : Rls) : Rls × Int := if thereB cmpS r.names name then (if r.members.any (usedM name) then (r, 73) else ({ r with names := r.names.eraseIdx (posB cmpS r.names name) }, 0)) else (r, 71)
theorem there_lt {α : Type} {c : α → α → Int} {l : List α} {x : α} (h : thereB c l x = true) : posB c l x < l.length := by
  unfold thereB at h
  rcases Nat.lt_or_ge (posB c l x) l.length with h1 | h1
  · exact h1
  · rw [List.getElem?_eq_none h1] at h; cases h
set_option maxHeartbeats 8000000 in
theorem drop1 (name : ByteArray) (bn : Nat) (r : Rls) (w : World) (B b : Nat) (hn hm : Hd) (rin : RolIn w B hn hm r) (row : RowAt w b [hn.v, hm.v]) (hB : B ≤ b) (hbn : b ∉ hn.blk) (hbm : b ∉ hm.blk) (hc : w.cell? ⟨bn, 0, none⟩ = some (.string name)) (hr : risesB cmpS r.names = true) (sm : SmRl r) :
    Calls Try.prog 71 (#[.pointer (some ⟨b, 0, none⟩)] ++ #[.pointer (some ⟨bn, 0, none⟩)]) w (DoP8 w B b (dropF name r)) := by
  show Calls Try.prog 71 #[.pointer (some ⟨b, 0, none⟩), .pointer (some ⟨bn, 0, none⟩)] w (DoP8 w B b (dropF name r))
  have hzn : bn < w.heap.size := World.block_lt_of_cell? w ⟨bn, 0, none⟩ hc
  have hvn := rin.vn
  have hvm := rin.vm
  rw [hvn, hvm] at row
  have x0 := row.cell (j := 0) rfl
  have x1 := row.cell (j := 1) rfl
  have xz := row.1
  have xf := row.2.2 0 (by simp)
  obtain ⟨p, hp⟩ : ∃ p, posB cmpS r.names name = p := ⟨_, rfl⟩
  obtain ⟨t, ht⟩ : ∃ t, thereB cmpS r.names name = t := ⟨_, rfl⟩
  obtain ⟨u, hu⟩ : ∃ u, r.members.any (usedM name) = u := ⟨_, rfl⟩
  have CB := Lib.hid (show ∀ x : Lat w, Calls Try.prog 67 #[.slice hn.a r.names.length hn.c, .string name] (lat w x) fun e w' => e = .returned (.tuple #[.int .i64 p, .bool t]) ∧ lat w x = w' from fun x => by
    have := bsS hn.a hn.c r.names name (lat w x) (strs_aft ((Aft.refl w).lat x) (rin.names sm)) hr
    rw [hp, ht] at this; exact this)
  have hent := enters (P := Try.prog) Try.func73 (by kernel_rfl) rfl
  have CC := Lib.hid (show ∀ w', Aft w w' → Calls Try.prog 72 #[.slice hm.a r.members.length hm.c, .func (.func 73) #[] #[.pointer (some ⟨bn, 0, none⟩)]] w' fun e w'' => e = .returned (.bool u) ∧ Aft w' w'' from fun w' a => by
    have := contMem hm.a hm.c r.members 73 #[.pointer (some ⟨bn, 0, none⟩)] (usedM name) w' (mbrs_aft a (rin.mbrs sm)) hent (fun w'' a' i hi => drop11 r.members[i] name bn w'' ((a.trans a').cell_kept hc))
    rw [hu] at this; exact this)
  have HF := Lib.hid (show dropF name r = if t then (if u then (r, 73) else ({ r with names := r.names.eraseIdx p }, 0)) else (r, 71) by unfold dropF; rw [ht, hu, hp])
  have HT := Lib.hid (show t = true → p < r.names.length from fun h => by rw [← hp]; exact there_lt (ht.trans h))
  have HRIN := Lib.hid rin
  have HROW := Lib.hid row
  have HBB := Lib.hid (And.intro hbn hbm)
  have HV := Lib.hid (And.intro hvn hvm)
  clear hp ht hu rin row hent hbn hbm hvn hvm hr
  go_enter Try.func71, Try.ntmps71
  go_wp2_with fail
  refine wp_region_lat (by kernel_rfl) (by kernel_rfl) ?_
  repeat (go_big_quiet_step ((go_at_call 67; exact Calls.lat_same (CB.out _))))
  refine wpQuiet_nil ?_
  intro _ hw'
  obtain ⟨x, hw''⟩ := hw'
  subst hw''
  obtain ⟨W, hW⟩ : ∃ W, W = lat w x := ⟨_, rfl⟩
  have aW : Aft w W := by rw [hW]; exact (Aft.refl w).lat x
  rw [← hW]
  have HAW := Lib.hid aW
  have x0 := aW.cell_kept x0
  have x1 := aW.cell_kept x1
  have xz := Nat.lt_of_lt_of_le xz aW.size
  clear hW aW CB
  cases t
  · have HP := Lib.hid (show DoP8 w B b (dropF name r) (.returned (.int .i64 71)) W from by rw [HF.out]; exact ⟨rfl, Kb.of_aft HAW.out, fun h => by simp at h⟩)
    go_wp2_with fail
    go_ret
    exact HP.out
  go_wp2_with fail
  refine (CC.out W HAW.out).mono ?_
  rintro e w2 ⟨rfl, a2⟩
  have HA2 := Lib.hid (HAW.out.trans a2)
  have x0 := a2.cell_kept x0
  have x1 := a2.cell_kept x1
  have xz := Nat.lt_of_lt_of_le xz a2.size
  clear a2
  cases u
  · have hpl := HT.out (by first | trivial | rfl)
    have r2 := HRIN.out.aft HA2.out
    obtain ⟨g, cap, hv, hgB, hnc, hrow⟩ := own_rowAt r2.nam (by omega)
    obtain ⟨m, hm2⟩ : ∃ m, r.names.length = p + 1 + m := ⟨r.names.length - p - 1, by omega⟩
    have o2 : w2.ownsRow B 9 1 (.slice (some ⟨g, 0, none⟩) (p + 1 + m) cap) (p + 1 + m) (r.names.flatMap nameC) := by
      have := r2.nam
      rw [hv, hm2] at this
      exact this
    have hcapm : cap ≤ 9223372036854775807 := own_cap o2 _ _ _ rfl
    have CD := Lib.hid (delStr g cap p m B (r.names.flatMap nameC) w2 o2 (oneC_cells oneC_name _) hcapm)
    have hvs : Value.slice hn.a r.names.length hn.c = .slice (some ⟨g, 0, none⟩) (p + 1 + m) cap := by rw [← HV.out.1, hv, hm2]
    have row2 := HROW.out.aft HA2.out
    have xf2 := row2.2.2 0 (by simp)
    have hgb : g ≠ b := fun e => HBB.out.1 (Hd.mem_blk.2 (by rw [hv, e]; rfl))
    rw [hvs] at x0
    have K2 := Lib.hid (show ∀ w3, Kb (fun k => k = g) w2 w3 → w3.ownsRow B 9 1 (.slice (some ⟨g, 0, none⟩) (p + m) cap) (p + m) ((r.names.flatMap nameC).take (p * 1) ++ (r.names.flatMap nameC).drop ((p + 1) * 1)) → (w3.cell? ⟨b, 0, none⟩ = some (.slice (some ⟨g, 0, none⟩) (p + 1 + m) cap) ∧ w3.frozen? ⟨b, 0, none⟩ = false ∧ b < w3.heap.size ∧ Hid (DoP8 w B b (dropF name r) (.returned (.int .i64 0)) (w3.setCell ⟨b, 0, none⟩ (.slice (some ⟨g, 0, none⟩) (p + m) cap)))) from fun w3 kb o3 => by
      have row3 := kb.row row2 (fun e => hgb e.symm)
      rw [hvs] at row3
      have e1 : (r.names.eraseIdx p).length = p + m := by rw [List.length_eraseIdx_of_lt (by omega)]; omega
      have n3 : w3.ownsRow B 9 1 (Hd.mk (some ⟨g, 0, none⟩) (p + m) cap).v (r.names.eraseIdx p).length ((r.names.eraseIdx p).flatMap nameC) := by
        rw [e1, ← flatMap_erase (size := 1) (fun _ => rfl)]; exact o3
      have m3 := own_kb r2.mem kb (fun g' hg' e => by
        have e : g' = g := e
        exact r2.dis g (Hd.mem_blk.2 (by rw [hv]; rfl)) (Hd.mem_blk.2 (by rw [← e]; exact hg')))
      have ks := Kb.set w3 b 0 (.slice (some ⟨g, 0, none⟩) (p + m) cap)
      refine ⟨row3.cell (j := 0) rfl, row3.2.2 0 (by simp), row3.1, Lib.hid ?_⟩
      rw [HF.out]
      simp only [if_true, Bool.false_eq_true, if_false]
      refine ⟨rfl, ((Kb.of_aft HA2.out).trans (kb.mono fun k _ e => by have e : k = g := e; omega)).trans (ks.mono fun k _ e => by have e : k = b := e; omega), fun _ => ⟨⟨some ⟨g, 0, none⟩, p + m, cap⟩, hm, ⟨own_kb n3 ks (fun g' hg' e => by
        have e : g' = b := e
        have h5 : g' = g := (by simpa [Hd.v, Value.ownBlock, eq_comm] using hg')
        exact hgb (by rw [← h5, e])), own_kb m3 ks (fun g' hg' e => by
        have e : g' = b := e
        exact HBB.out.2 (Hd.mem_blk.2 (by rw [← e]; exact hg'))), fun g' hg' => ?_⟩, ?_⟩⟩
      · rw [blk_some, List.mem_singleton] at hg'
        have hg' : g' = g := hg'
        subst hg'
        exact r2.dis g' (Hd.mem_blk.2 (by rw [hv]; rfl))
      · have h6 := row3.set 0 (.slice (some ⟨g, 0, none⟩) (p + m) cap) (by simp)
        rw [HV.out.2]
        exact h6)
    have w9 : IntKind.i64.wrap ((p : Int) + 1) = (p : Int) + 1 := IntWalk.i64_in _ (by have := sm.1.1; unfold Small at this; omega)
    have hpz : (p : Int) + 1 ≤ 9223372036854775807 := by have := sm.1.1; unfold Small at this; omega
    clear hpl r2 hv hrow o2 hvs row2 hm2 hgb
    go_wp2_with fail
    refine CD.out.mono ?_
    rintro e w3 ⟨rfl, o3, kb⟩
    obtain ⟨y0, yf, yz, HP⟩ := K2.out w3 kb o3
    clear o3 kb
    go_wp2_with fail
    go_ret
    exact HP.out
  · have HP := Lib.hid (show DoP8 w B b (dropF name r) (.returned (.int .i64 73)) w2 from by rw [HF.out]; exact ⟨rfl, Kb.of_aft HA2.out, fun h => by simp at h⟩)
    go_wp2_with fail
    go_ret
    exact HP.out
end Go.Proofs.Ytcdhljcpoopfaaa
/- roles.Drop, whole. -/
namespace Go.Proofs.Ytcdhljcpoopfaaa
open Go.RowKit Go.Deep
set_option maxRecDepth 100000
set_option linter.unusedVariables false
theorem rightR_rises {r : Rls} (h : rightR r = true) : risesB cmpS r.names = true ∧ risesB cmpM r.members = true := by
  unfold rightR at h
  simp only [Bool.and_eq_true] at h
  exact ⟨h.1.1.2, h.1.2⟩
set_option maxHeartbeats 4000000 in
theorem drop8 (r : Rls) (An : Option Addr) (capn : Nat) (Am : Option Addr) (capm : Nat) (name : ByteArray) (w : World) (hn : SlAt w 1 StrR An capn r.names) (hm : SlAt w 2 MbrR Am capm r.members) :
    Calls Try.prog 31 #[.agg #[.slice An r.names.length capn, .slice Am r.members.length capm], .string name] w (ChgP8 w (chgF r (dropF name r))) := by
  have l1 : w.heap.size < w.heap.size + 1 := by omega
  have l2 : w.heap.size < w.heap.size + 1 + 1 := by omega
  have l3 : w.heap.size < w.heap.size + 1 + 1 + 1 := by omega
  obtain ⟨W, hW⟩ : ∃ W, W = ((w.alloc (.cells #[.slice An r.names.length capn, .slice Am r.members.length capm] 25)).alloc (.cells #[.string name] 9)).alloc (.cells #[.slice none 0 0, .slice none 0 0] 25) := ⟨_, rfl⟩
  have aW : Aft w W := by rw [hW]; exact (((Aft.refl w).alloc _).alloc _).alloc _
  have r2 : RowAt W (w.heap.size + 1) [.string name] := by
    rw [hW]
    have := (rowAt_new8 (w.alloc (.cells #[.slice An r.names.length capn, .slice Am r.members.length capm] 25)) [.string name] 9).aft ((Aft.refl _).alloc (.cells #[.slice none 0 0, .slice none 0 0] 25))
    simpa using this
  have r3 : RowAt W (w.heap.size + 1 + 1) [.slice none 0 0, .slice none 0 0] := by
    rw [hW]
    have := rowAt_new8 ((w.alloc (.cells #[.slice An r.names.length capn, .slice Am r.members.length capm] 25)).alloc (.cells #[.string name] 9)) [.slice none 0 0, .slice none 0 0] 25
    simpa using this
  have zW : W.heap.size = w.heap.size + 3 := by rw [hW]; simp
  have hent := enters (P := Try.prog) Try.func71 (by kernel_rfl) rfl
  have C := Lib.hid (changed8 r An capn Am capm 71 #[.pointer (some ⟨w.heap.size + 1, 0, none⟩)] (dropF name r) W (strs_aft aW hn) (mbrs_aft aW hm) hent (fun hr w1 B b hn' hm' a hB rin row hb h1 h2 => drop1 name (w.heap.size + 1) r w1 B b hn' hm' rin row hb h1 h2 (a.cell_kept (r2.cell (j := 0) rfl)) (rightR_rises hr).1 (sm_rls hn hm)))
  have HR3 := Lib.hid r3
  have HAW := Lib.hid aW
  have HZW := Lib.hid zW
  clear hn hm r2 r3 aW zW hent
  go_enter Try.func31, Try.ntmps31
  go_wp2_with fail
  rw [← hW]
  clear hW
  refine C.out.mono ?_
  rintro e w1 ⟨⟨A1, n1, c1⟩, ⟨A2, n2, c2⟩, rfl, a1, rin⟩
  have row := HR3.out.aft a1
  have x0 := row.cell (j := 0) rfl
  have x1 := row.cell (j := 1) rfl
  have xz := row.1
  have f0 := row.2.2 0 (by simp)
  have f1 := row.2.2 1 (by simp)
  obtain ⟨F, hF⟩ : ∃ F, chgF r (dropF name r) = F := ⟨_, rfl⟩
  rw [hF] at rin ⊢
  have HP := Lib.hid (show ChgP8 w F (.returned (.tuple #[.agg #[.slice A1 n1 c1, .slice A2 n2 c2], .int .i64 F.2])) ((w1.setCell ⟨w.heap.size + 1 + 1, 0, none⟩ (.slice A1 n1 c1)).setCell ⟨w.heap.size + 1 + 1, 1, none⟩ (.slice A2 n2 c2)) from by
    have k9 := (Kb.set w1 (w.heap.size + 1 + 1) 0 (.slice A1 n1 c1)).trans (Kb.set _ (w.heap.size + 1 + 1) 1 (.slice A2 n2 c2))
    have z := HZW.out
    refine ⟨⟨A1, n1, c1⟩, ⟨A2, n2, c2⟩, rfl, ((HAW.out.trans a1).setCell _ _ (by show w.heap.size ≤ w.heap.size + 1 + 1; omega)).setCell _ _ (by show w.heap.size ≤ w.heap.size + 1 + 1; omega), ?_⟩
    have r9 := rin.down (B' := w.heap.size) (by omega)
    exact ⟨own_kb r9.nam k9 (fun g hg e => by have e : g = w.heap.size + 1 + 1 := e; have := (rin.nam.lt g hg).1; omega), own_kb r9.mem k9 (fun g hg e => by have e : g = w.heap.size + 1 + 1 := e; have := (rin.mem.lt g hg).1; omega), rin.dis⟩)
  have HROW := Lib.hid row
  obtain ⟨F1, F2⟩ := F
  have HFF := Lib.hid hF
  simp only [Hd.v]
  clear rin row a1 hF
  go_wp2_with fail
  refine bodyPost_ret (results_cell_tmp (v := .agg #[.slice A1 n1 c1, .slice A2 n2 c2]) rfl _ rfl (lvRol_row (setR_row HROW.out rfl _ _))) rfl ?_
  rw [HFF.out]
  exact HP.out
end Go.Proofs.Ytcdhljcpoopfaaa
/- roles.Leave: a member leaves. -/
namespace Go.Proofs.Ytcdhljcpoopfaaa
open Go.RowKit Go.Deep
set_option maxRecDepth 100000
set_option linter.unusedVariables false
def leaveF (x : Mbr) (r : Rls) : Rls × Int := if thereB cmpM r.members x then ({ r with members := r.members.eraseIdx (posB cmpM r.members x) }, 0) else (r, 71)
set_option maxHeartbeats 8000000 in
theorem leave1 (role of : ByteArray) (b1 b2 : Nat) (r : Rls) (w : World) (B b : Nat) (hn hm : Hd) (rin : RolIn w B hn hm r) (row : RowAt w b [hn.v, hm.v]) (hB : B ≤ b) (hbn : b ∉ hn.blk) (hbm : b ∉ hm.blk) (hc1 : w.cell? ⟨b1, 0, none⟩ = some (.string role)) (hc2 : w.cell? ⟨b2, 0, none⟩ = some (.string of)) (hr : risesB cmpM r.members = true) (sm : SmRl r) :
    Calls Try.prog 64 (#[.pointer (some ⟨b, 0, none⟩)] ++ #[.pointer (some ⟨b1, 0, none⟩), .pointer (some ⟨b2, 0, none⟩)]) w (DoP8 w B b (leaveF ⟨role, of⟩ r)) := by
  show Calls Try.prog 64 #[.pointer (some ⟨b, 0, none⟩), .pointer (some ⟨b1, 0, none⟩), .pointer (some ⟨b2, 0, none⟩)] w (DoP8 w B b (leaveF ⟨role, of⟩ r))
  have hzn : b1 < w.heap.size := World.block_lt_of_cell? w ⟨b1, 0, none⟩ hc1
  have hzn2 : b2 < w.heap.size := World.block_lt_of_cell? w ⟨b2, 0, none⟩ hc2
  have hvn := rin.vn
  have hvm := rin.vm
  rw [hvn, hvm] at row
  have x1 := row.cell (j := 1) rfl
  have xz := row.1
  obtain ⟨p, hp⟩ : ∃ p, posB cmpM r.members ⟨role, of⟩ = p := ⟨_, rfl⟩
  obtain ⟨t, ht⟩ : ∃ t, thereB cmpM r.members ⟨role, of⟩ = t := ⟨_, rfl⟩
  have CB := Lib.hid (show ∀ x : Lat w, Calls Try.prog 59 #[.slice hm.a r.members.length hm.c, .agg #[.string role, .string of], .func (.func 60) #[] #[]] (lat w x) fun e w' => e = .returned (.tuple #[.int .i64 p, .bool t]) ∧ Aft (lat w x) w' from fun x => by
    have := bsM hm.a hm.c r.members ⟨role, of⟩ (lat w x) (mbrs_aft ((Aft.refl w).lat x) (rin.mbrs sm)) hr
    rw [hp, ht] at this; exact this)
  have HF := Lib.hid (show leaveF ⟨role, of⟩ r = if t then ({ r with members := r.members.eraseIdx p }, 0) else (r, 71) by unfold leaveF; rw [ht, hp])
  have HT := Lib.hid (show t = true → p < r.members.length from fun h => by rw [← hp]; exact there_lt (ht.trans h))
  have HRIN := Lib.hid rin
  have HROW := Lib.hid row
  have HBB := Lib.hid (And.intro hbn hbm)
  have HV := Lib.hid (And.intro hvn hvm)
  clear hp ht rin row hbn hbm hvn hvm hr
  go_enter Try.func64, Try.ntmps64
  go_wp2_with fail
  refine wp_region_lat (by kernel_rfl) (by kernel_rfl) ?_
  repeat (go_big_quiet_step ((go_at_call 59; exact Calls.lat_of (CB.out _))))
  refine wpQuiet_nil ?_
  intro _ hw'
  obtain ⟨x, hw''⟩ := hw'
  subst hw''
  obtain ⟨w2, hW⟩ : ∃ W, W = lat w x := ⟨_, rfl⟩
  have aW : Aft w w2 := by rw [hW]; exact (Aft.refl w).lat x
  rw [← hW]
  have HA2 := Lib.hid aW
  have x1 := aW.cell_kept x1
  have xz := Nat.lt_of_lt_of_le xz aW.size
  clear hW aW CB
  cases t
  · have HP := Lib.hid (show DoP8 w B b (leaveF ⟨role, of⟩ r) (.returned (.int .i64 71)) w2 from by rw [HF.out]; exact ⟨rfl, Kb.of_aft HA2.out, fun h => by simp at h⟩)
    go_wp2_with fail
    go_ret
    exact HP.out
  · have hpl := HT.out (by first | trivial | rfl)
    have r2 := HRIN.out.aft HA2.out
    obtain ⟨g, cap, hv, hgB, hnc, hrow⟩ := own_rowAt r2.mem (by omega)
    obtain ⟨m, hm2⟩ : ∃ m, r.members.length = p + 1 + m := ⟨r.members.length - p - 1, by omega⟩
    have o2 : w2.ownsRow B 61 2 (.slice (some ⟨g, 0, none⟩) (p + 1 + m) cap) (p + 1 + m) (r.members.flatMap mbrC) := by
      have := r2.mem
      rw [hv, hm2] at this
      exact this
    have hcapm : cap ≤ 9223372036854775807 := own_cap o2 _ _ _ rfl
    have CD := Lib.hid (delMem g cap p m B (r.members.flatMap mbrC) w2 o2 (oneC_cells oneC_mbr _) hcapm)
    have hvs : Value.slice hm.a r.members.length hm.c = .slice (some ⟨g, 0, none⟩) (p + 1 + m) cap := by rw [← HV.out.2, hv, hm2]
    have row2 := HROW.out.aft HA2.out
    have hgb : g ≠ b := fun e => HBB.out.2 (Hd.mem_blk.2 (by rw [hv, e]; rfl))
    rw [hvs] at x1
    have K2 := Lib.hid (show ∀ w3, Kb (fun k => k = g) w2 w3 → w3.ownsRow B 61 2 (.slice (some ⟨g, 0, none⟩) (p + m) cap) (p + m) ((r.members.flatMap mbrC).take (p * 2) ++ (r.members.flatMap mbrC).drop ((p + 1) * 2)) → (w3.cell? ⟨b, 1, none⟩ = some (.slice (some ⟨g, 0, none⟩) (p + 1 + m) cap) ∧ w3.frozen? ⟨b, 1, none⟩ = false ∧ b < w3.heap.size ∧ Hid (DoP8 w B b (leaveF ⟨role, of⟩ r) (.returned (.int .i64 0)) (w3.setCell ⟨b, 1, none⟩ (.slice (some ⟨g, 0, none⟩) (p + m) cap)))) from fun w3 kb o3 => by
      have row3 := kb.row row2 (fun e => hgb e.symm)
      rw [hvs] at row3
      have e1 : (r.members.eraseIdx p).length = p + m := by rw [List.length_eraseIdx_of_lt (by omega)]; omega
      have m3 : w3.ownsRow B 61 2 (Hd.mk (some ⟨g, 0, none⟩) (p + m) cap).v (r.members.eraseIdx p).length ((r.members.eraseIdx p).flatMap mbrC) := by
        rw [e1, ← flatMap_erase (size := 2) (fun _ => rfl)]; exact o3
      have n3 := own_kb r2.nam kb (fun g' hg' e => by
        have e : g' = g := e
        exact r2.dis g' (Hd.mem_blk.2 hg') (Hd.mem_blk.2 (by rw [hv, e]; rfl)))
      have ks := Kb.set w3 b 1 (.slice (some ⟨g, 0, none⟩) (p + m) cap)
      refine ⟨row3.cell (j := 1) rfl, row3.2.2 1 (by simp), row3.1, Lib.hid ?_⟩
      rw [HF.out]
      simp only [if_true]
      refine ⟨rfl, ((Kb.of_aft HA2.out).trans (kb.mono fun k _ e => by have e : k = g := e; omega)).trans (ks.mono fun k _ e => by have e : k = b := e; omega), fun _ => ⟨hn, ⟨some ⟨g, 0, none⟩, p + m, cap⟩, ⟨own_kb n3 ks (fun g' hg' e => by
        have e : g' = b := e
        exact HBB.out.1 (Hd.mem_blk.2 (by rw [← e]; exact hg'))), own_kb m3 ks (fun g' hg' e => by
        have e : g' = b := e
        have h5 : g' = g := (by simpa [Hd.v, Value.ownBlock, eq_comm] using hg')
        exact hgb (by rw [← h5, e])), fun g' hg' hg2 => ?_⟩, ?_⟩⟩
      · rw [blk_some, List.mem_singleton] at hg2
        have hg2 : g' = g := hg2
        exact r2.dis g' hg' (Hd.mem_blk.2 (by rw [hv, hg2]; rfl))
      · have h6 := row3.set 1 (.slice (some ⟨g, 0, none⟩) (p + m) cap) (by simp)
        rw [HV.out.1]
        exact h6)
    have w9 : IntKind.i64.wrap ((p : Int) + 1) = (p : Int) + 1 := IntWalk.i64_in _ (by have := sm.2.1; unfold Small at this; omega)
    have hpz : (p : Int) + 1 ≤ 9223372036854775807 := by have := sm.2.1; unfold Small at this; omega
    clear hpl r2 hv hrow o2 hvs row2 hm2 hgb
    go_wp2_with fail
    refine CD.out.mono ?_
    rintro e w3 ⟨rfl, o3, kb⟩
    obtain ⟨y0, yf, yz, HP⟩ := K2.out w3 kb o3
    clear o3 kb
    go_wp2_with fail
    go_ret
    exact HP.out
set_option maxHeartbeats 4000000 in
theorem leave8 (r : Rls) (An : Option Addr) (capn : Nat) (Am : Option Addr) (capm : Nat) (role of : ByteArray) (w : World) (hn : SlAt w 1 StrR An capn r.names) (hm : SlAt w 2 MbrR Am capm r.members) :
    Calls Try.prog 25 #[.agg #[.slice An r.names.length capn, .slice Am r.members.length capm], .string role, .string of] w (ChgP8 w (chgF r (leaveF ⟨role, of⟩ r))) := by
  have l1 : w.heap.size < w.heap.size + 1 := by omega
  have l2 : w.heap.size < w.heap.size + 1 + 1 := by omega
  have l3 : w.heap.size < w.heap.size + 1 + 1 + 1 := by omega
  have l4 : w.heap.size < w.heap.size + 1 + 1 + 1 + 1 := by omega
  obtain ⟨W, hW⟩ : ∃ W, W = (((w.alloc (.cells #[.slice An r.names.length capn, .slice Am r.members.length capm] 25)).alloc (.cells #[.string role] 9)).alloc (.cells #[.string of] 9)).alloc (.cells #[.slice none 0 0, .slice none 0 0] 25) := ⟨_, rfl⟩
  have aW : Aft w W := by rw [hW]; exact ((((Aft.refl w).alloc _).alloc _).alloc _).alloc _
  have r2 : RowAt W (w.heap.size + 1) [.string role] := by
    rw [hW]
    have := (rowAt_new8 (w.alloc (.cells #[.slice An r.names.length capn, .slice Am r.members.length capm] 25)) [.string role] 9).aft (((Aft.refl _).alloc (.cells #[.string of] 9)).alloc (.cells #[.slice none 0 0, .slice none 0 0] 25))
    simpa using this
  have r2' : RowAt W (w.heap.size + 1 + 1) [.string of] := by
    rw [hW]
    have := (rowAt_new8 ((w.alloc (.cells #[.slice An r.names.length capn, .slice Am r.members.length capm] 25)).alloc (.cells #[.string role] 9)) [.string of] 9).aft ((Aft.refl _).alloc (.cells #[.slice none 0 0, .slice none 0 0] 25))
    simpa using this
  have r3 : RowAt W (w.heap.size + 1 + 1 + 1) [.slice none 0 0, .slice none 0 0] := by
    rw [hW]
    have := rowAt_new8 (((w.alloc (.cells #[.slice An r.names.length capn, .slice Am r.members.length capm] 25)).alloc (.cells #[.string role] 9)).alloc (.cells #[.string of] 9)) [.slice none 0 0, .slice none 0 0] 25
    simpa using this
  have zW : W.heap.size = w.heap.size + 4 := by rw [hW]; simp
  have hent := enters (P := Try.prog) Try.func64 (by kernel_rfl) rfl
  have C := Lib.hid (changed8 r An capn Am capm 64 #[.pointer (some ⟨w.heap.size + 1, 0, none⟩), .pointer (some ⟨w.heap.size + 1 + 1, 0, none⟩)] (leaveF ⟨role, of⟩ r) W (strs_aft aW hn) (mbrs_aft aW hm) hent (fun hr w1 B b hn' hm' a hB rin row hb h1 h2 => leave1 role of (w.heap.size + 1) (w.heap.size + 1 + 1) r w1 B b hn' hm' rin row hb h1 h2 (a.cell_kept (r2.cell (j := 0) rfl)) (a.cell_kept (r2'.cell (j := 0) rfl)) (rightR_rises hr).2 (sm_rls hn hm)))
  have HR3 := Lib.hid r3
  have HAW := Lib.hid aW
  have HZW := Lib.hid zW
  clear hn hm r2 r2' r3 aW zW hent
  go_enter Try.func25, Try.ntmps25
  go_wp2_with fail
  rw [← hW]
  clear hW
  refine C.out.mono ?_
  rintro e w1 ⟨⟨A1, n1, c1⟩, ⟨A2, n2, c2⟩, rfl, a1, rin⟩
  have row := HR3.out.aft a1
  have x0 := row.cell (j := 0) rfl
  have x1 := row.cell (j := 1) rfl
  have xz := row.1
  have f0 := row.2.2 0 (by simp)
  have f1 := row.2.2 1 (by simp)
  obtain ⟨F, hF⟩ : ∃ F, chgF r (leaveF ⟨role, of⟩ r) = F := ⟨_, rfl⟩
  rw [hF] at rin ⊢
  have HP := Lib.hid (show ChgP8 w F (.returned (.tuple #[.agg #[.slice A1 n1 c1, .slice A2 n2 c2], .int .i64 F.2])) ((w1.setCell ⟨w.heap.size + 1 + 1 + 1, 0, none⟩ (.slice A1 n1 c1)).setCell ⟨w.heap.size + 1 + 1 + 1, 1, none⟩ (.slice A2 n2 c2)) from by
    have k9 := (Kb.set w1 (w.heap.size + 1 + 1 + 1) 0 (.slice A1 n1 c1)).trans (Kb.set _ (w.heap.size + 1 + 1 + 1) 1 (.slice A2 n2 c2))
    have z := HZW.out
    refine ⟨⟨A1, n1, c1⟩, ⟨A2, n2, c2⟩, rfl, ((HAW.out.trans a1).setCell _ _ (by show w.heap.size ≤ w.heap.size + 1 + 1 + 1; omega)).setCell _ _ (by show w.heap.size ≤ w.heap.size + 1 + 1 + 1; omega), ?_⟩
    have r9 := rin.down (B' := w.heap.size) (by omega)
    exact ⟨own_kb r9.nam k9 (fun g hg e => by have e : g = w.heap.size + 1 + 1 + 1 := e; have := (rin.nam.lt g hg).1; omega), own_kb r9.mem k9 (fun g hg e => by have e : g = w.heap.size + 1 + 1 + 1 := e; have := (rin.mem.lt g hg).1; omega), rin.dis⟩)
  have HROW := Lib.hid row
  obtain ⟨F1, F2⟩ := F
  have HFF := Lib.hid hF
  simp only [Hd.v]
  clear rin row a1 hF
  go_wp2_with fail
  refine bodyPost_ret (results_cell_tmp (v := .agg #[.slice A1 n1 c1, .slice A2 n2 c2]) rfl _ rfl (lvRol_row (setR_row HROW.out rfl _ _))) rfl ?_
  rw [HFF.out]
  exact HP.out
end Go.Proofs.Ytcdhljcpoopfaaa
/- What slices.Insert does to a row, in plain words: copy of many cells, append of zeros, the cells behind two copies. -/
namespace Go.Proofs.Ytcdhljcpoopfaaa
open Go.RowKit Go.Lib
set_option linter.unusedVariables false
theorem run_copy_n {P : Program} (w : World) (dT sT ty elem : TypeId) (size b o dLen dCap : Nat) (a : Addr) (sLen sCap m : Nat) (cs : List Value)
    (hu : P.underlying dT = some (.slice elem)) (hs : (P.info? elem).map (·.size) = some size) (hm : Nat.min sLen dLen = m) (hn : cs.length = m * size)
    (hsrc : ∀ j v, cs[j]? = some v → w.cell? (a.add j) = some v) (hc : ∀ j, j < cs.length → (w.cell? ⟨b, o + j, none⟩).isSome = true) (hf : ∀ j, j < cs.length → w.frozen? ⟨b, o + j, none⟩ = false) (h1 : ∀ v ∈ cs, v.oneCell' = true) :
    (Builtin.copy_ #[dT, sT] ty #[.slice (some ⟨b, o, none⟩) dLen dCap, .slice (some a) sLen sCap]).run P w = .ok (goInt m) (w.setCells b o cs) := by
  have hl := run_loadCells_list (P := P) w a cs hsrc
  have hst := run_storeCells_cells (P := P) b o cs 0 w (by simpa using hc) (by simpa using hf) h1
  rw [hn] at hl
  cases hq : P.info? elem with
  | none => simp [hq] at hs
  | some i =>
    have hi : i.size = size := by simpa [hq] using hs
    simp [Builtin.copy_, run_underlying hu, Builtin.lenOf, Builtin.firstCells, sizeOf, typeInfo, hq, hi, hm, hl, hst]
theorem append_zeros {P : Program} (w : World) (B : Nat) (t tn ty e : TypeId) (i : TypeInfo) (z : Value) (size bytes : Nat) (kn : IntKind) (ht : P.underlying t = some (.slice e)) (htn : P.underlying tn = some (.int kn)) (hi : P.info? e = some i) (hz : i.zero = some z)
    (hsize : i.size = size) (hby : i.bytes = bytes) (hzs : z.cells.size = size) (hsz : 0 < size) (g n cap k m : Nat) (xs : List Value) (ho : w.ownsRow B e size (.slice (some ⟨g, 0, none⟩) n cap) n xs) (hk : k ≤ n) (hm : 0 < m) (hg : cap < k + m) (hb : (k + m) * bytes ≤ 140737488355328) (h63 : k + m ≤ maxLen) (hcap : cap ≤ n) :
    ∃ c2 w', (Builtin.append_ #[t, tn] ty #[.slice (some ⟨g, 0, none⟩) k cap, .int .i64 m]).run P w = .ok (.slice (some ⟨w.heap.size, 0, none⟩) (k + m) c2) w' ∧ w'.ownsRow w.heap.size e size (.slice (some ⟨w.heap.size, 0, none⟩) (k + m) c2) (k + m) (xs.take (k * size) ++ (Builtin.zeroCells z.cells m).toList) ∧ Aft w w' ∧ w'.heap.size = w.heap.size + 1 ∧ k + m ≤ c2 ∧ c2 ≤ maxLen := by
  subst hsize
  subst hby
  have hx := ho.1
  have hkn : k * i.size ≤ n * i.size := Nat.mul_le_mul_right _ hk
  have htl : (xs.take (k * i.size)).length = k * i.size := by rw [List.length_take, hx]; omega
  have hge := grownCap_ge w (k + m) cap e
  have hcm := grownCap_le_maxLen w (k + m) cap e h63
  have hold : (Builtin.firstCells i.size k (.slice (some ⟨g, 0, none⟩) k cap)).run P w.drew = .ok (xs.take (k * i.size)).toArray w.drew := by
    have hl := run_loadCells_list (P := P) w.drew ⟨g, 0, none⟩ (xs.take (k * i.size)) (fun j v hj => by
      have hj' : xs[j]? = some v := by
        rw [List.getElem?_take] at hj
        split at hj
        · exact hj
        · cases hj
      have := ho.cells (g := g) rfl j v hj'
      simpa using this)
    rw [htl] at hl
    simpa [Builtin.firstCells] using hl
  have hnb : m * i.bytes ≤ 281474976710656 := by
    have : m * i.bytes ≤ (k + m) * i.bytes := Nat.mul_le_mul_right _ (by omega)
    omega
  have hr := run_append_grow_zeros (P := P) w t tn ty e i z .i64 kn ht htn hi hz (some ⟨g, 0, none⟩) k cap (xs.take (k * i.size)) hold m hm hsz hg (by simp only [maxLen] at h63; omega) hnb (growslice_fits (by omega) hb)
  refine ⟨_, _, hr, ⟨?_, .inr ⟨w.heap.size, _, _, rfl, Nat.le_refl _, heap_alloc_new w.drew _, hge, hcm, ?_, ?_⟩⟩, ((Aft.refl w).drew).alloc _, by simp, hge, hcm⟩
  · rw [List.length_append, htl, zeroCells_len, hzs, Nat.add_mul]
  · simp only [Array.size_append, List.size_toArray, size_zeroCells, hzs, htl, ← Nat.add_mul]
    congr 1
    omega
  · simp only [Array.toList_append, List.append_assoc]
    rw [← List.append_assoc]
    have hl2 : (k + m) * i.size = (xs.take (k * i.size) ++ (Builtin.zeroCells z.cells m).toList).length := by rw [List.length_append, htl, zeroCells_len, hzs, Nat.add_mul]
    rw [hl2]
    exact List.take_left
theorem setL_mid (A v R vs : List Value) (h : vs.length = v.length) : setL (A ++ v ++ R) A.length vs = A ++ vs ++ R := by
  rw [setL_eq _ _ _ (by simp only [List.length_append]; omega), List.append_assoc A v R, List.take_left, h]
  congr 1
  rw [← List.append_assoc, ← List.length_append, List.drop_left]
/-- the cells behind Insert, into a new row -/
theorem ins_new (xs ne zs : List Value) (a s d : Nat) (hx : xs.length = a + d) (hn : ne.length = s) (hz : zs.length = s + d) : setL (setL (xs.take a ++ zs) a ne) (a + s) (xs.drop a) = xs.take a ++ ne ++ xs.drop a := by
  obtain ⟨A, hA⟩ : ∃ A, xs.take a = A := ⟨_, rfl⟩
  obtain ⟨D, hD⟩ : ∃ D, xs.drop a = D := ⟨_, rfl⟩
  have la : A.length = a := by rw [← hA, List.length_take, hx]; omega
  have ld : D.length = d := by rw [← hD, List.length_drop, hx]; omega
  rw [hA, hD]
  have e1 : A ++ zs = A ++ zs.take s ++ zs.drop s := by rw [List.append_assoc, List.take_append_drop]
  have h1 := setL_mid A (zs.take s) (zs.drop s) ne (by rw [List.length_take, hz, hn]; omega)
  rw [la] at h1
  have h2 := setL_mid (A ++ ne) (zs.drop s) [] D (by rw [List.length_drop, hz, ld]; omega)
  rw [List.length_append, la, hn, List.append_nil, List.append_nil] at h2
  rw [e1, h1, h2]
/-- the cells behind Insert, in the same row -/
theorem ins_same (xs ne ts : List Value) (a s d : Nat) (hx : xs.length = a + d) (hn : ne.length = s) (ht : ts.length = s) : setL (setL (xs ++ ts) (a + s) (xs.drop a)) a ne = xs.take a ++ ne ++ xs.drop a := by
  obtain ⟨A, hA⟩ : ∃ A, xs.take a = A := ⟨_, rfl⟩
  obtain ⟨D, hD⟩ : ∃ D, xs.drop a = D := ⟨_, rfl⟩
  have la : A.length = a := by rw [← hA, List.length_take, hx]; omega
  have ld : D.length = d := by rw [← hD, List.length_drop, hx]; omega
  have hxs : xs = A ++ D := by rw [← hA, ← hD, List.take_append_drop]
  rw [hD, hA]
  have lP : ((D ++ ts).take s).length = s := by rw [List.length_take, List.length_append, ld, ht]; omega
  have e1 : xs ++ ts = (A ++ (D ++ ts).take s) ++ (D ++ ts).drop s ++ [] := by rw [hxs, List.append_nil, List.append_assoc, List.append_assoc, List.take_append_drop]
  have h1 := setL_mid (A ++ (D ++ ts).take s) ((D ++ ts).drop s) [] D (by rw [List.length_drop, List.length_append, ld, ht]; omega)
  rw [List.length_append, la, lP] at h1
  have h2 := setL_mid A ((D ++ ts).take s) D ne (by rw [lP, hn])
  rw [la] at h2
  rw [e1, h1, List.append_nil, h2]
theorem wpList_copy_run8 {P : Program} (w : World) {ops : Array Oper} {rest : List Oper} {o : Oper} {a : Act} {Q : Exit → Act → World → Prop} (hgd : o.guard = none) (d s : Operand) (t t' : TypeId)
    (ho : o.op = .call { callee := .builtin .copy, args := #[d, s], argTypes := #[t, t'] }) (v u : Value) (hd : a.eval d = v) (hs : a.eval s = u) {v' : Value} {w' : World}
    (hr : (Builtin.copy_ #[t, t'] o.type #[v, u]).run P w = .ok v' w') (h : wpList P ops Q rest (a.put o.dst v') w') : wpList P ops Q (o :: rest) a w :=
  wpList_plain hgd fun _ hK => by
    unfold Oper.wp execOp
    simp only [ho, resolve, invoke, builtin, Sem.run_bind, Sem.run_pure, Result.andThen_ok, List.map_toArray, List.map_cons, List.map_nil, hd, hs, hr]
    exact hK _ _ h
theorem wpList_append_run8 {P : Program} (w : World) {ops : Array Oper} {rest : List Oper} {o : Oper} {a : Act} {Q : Exit → Act → World → Prop} (hgd : o.guard = none) (d s : Operand) (t t' : TypeId)
    (ho : o.op = .call { callee := .builtin .append, args := #[d, s], argTypes := #[t, t'] }) (v u : Value) (hd : a.eval d = v) (hs : a.eval s = u) {v' : Value} {w' : World}
    (hr : (Builtin.append_ #[t, t'] o.type #[v, u]).run P w = .ok v' w') (h : wpList P ops Q rest (a.put o.dst v') w') : wpList P ops Q (o :: rest) a w :=
  wpList_plain hgd fun _ hK => by
    unfold Oper.wp execOp
    simp only [ho, resolve, invoke, builtin, Sem.run_bind, Sem.run_pure, Result.andThen_ok, List.map_toArray, List.map_cons, List.map_nil, hd, hs, hr]
    exact hK _ _ h
theorem step_copy_run8 {P : Program} {ops : Array Oper} {o : Oper} {a : Act} {w : World} {K : Act → World → Prop} {Q : Exit → Act → World → Prop} {E : Prop}
    (hg : o.guard = none) (d x : Operand) (dT sT : TypeId) (hop : o.op = Op.call { callee := Callee.builtin Builtin.copy, args := #[d, x], argTypes := #[dT, sT] })
    (v u : Value) (hd : a.eval d = v) (hx : a.eval x = u) {v' : Value} {w' : World} (hr : (Builtin.copy_ #[dT, sT] o.type #[v, u]).run P w = .ok v' w') (hK : K (a.put o.dst v') w') :
    if Region.wanted o (yielded ops a.tmps) = true then Oper.wp P o a w K Q else E := by
  have hw : Region.wanted o (yielded ops a.tmps) = true := by simp [Region.wanted, hg]
  rw [if_pos hw]
  unfold Oper.wp
  simp [execOp, hop, resolve, invoke, builtin, hd, hx, hr, Result.andThen]
  exact hK
def InsP (ty : TypeId) (size : Nat) (w : World) (B : Nat) (v : Value) (n k : Nat) (xs ne : List Value) (e : Ending) (w' : World) : Prop :=
  ∃ h : Hd, e = .returned h.v ∧ w'.ownsRow B ty size h.v (n + 1) (xs.take (k * size) ++ ne ++ xs.drop (k * size)) ∧ Kb (InV v) w w' ∧ ∀ g ∈ h.blk, v.ownBlock = some g ∨ w.heap.size ≤ g
end Go.Proofs.Ytcdhljcpoopfaaa
/- slices.Insert of one element into a row of our own, at texts and at members. -/
namespace Go.Proofs.Ytcdhljcpoopfaaa
open Go.RowKit Go.Deep Go.Lib
set_option maxRecDepth 100000
set_option linter.unusedVariables false
set_option maxHeartbeats 4000000 in
theorem insStr_end (A : Option Addr) (n cap B nb : Nat) (xs : List Value) (x : ByteArray) (w : World) (ho : w.ownsRow B 9 1 (.slice A n cap) n xs) (hnb : w.heap[nb]? = some (.cells #[.string x] 9 (0, 0))) (hn : n ≤ 1000000) (hB : B ≤ w.heap.size) :
    Calls Try.prog 69 #[.slice A n cap, .int .i64 n, .slice (some ⟨nb, 0, none⟩) 1 1] w (InsP 9 1 w B (.slice A n cap) n n xs [.string x]) := by
  obtain ⟨i0, hi0, hz0, hz1, hz2⟩ := info_parts info2Str2
  have HI := Lib.hid hi0
  have HZ := Lib.hid (And.intro hz0 (And.intro hz1 hz2))
  have HO := Lib.hid ho
  have HNB := Lib.hid hnb
  have hx := ho.1
  have hq7 : n + 1 ≤ maxLen := by unfold maxLen; omega
  have hq8 : (n + 1) * 16 ≤ 140737488355328 := by omega
  have hnc : n ≤ cap := by
    rcases ho.2 with ⟨hv, hn0⟩ | ⟨g, c, cur, hv, _, _, hc, _⟩
    · omega
    · simp only [Value.slice.injEq] at hv; omega
  have hcm : cap ≤ 9223372036854775807 := by
    rcases ho.2 with ⟨hv, hn0⟩ | ⟨g, c, cur, hv, _, _, hc, hm, _⟩
    · simp only [Value.slice.injEq] at hv; omega
    · simp only [Value.slice.injEq] at hv; simp only [maxLen] at hm; omega
  have HF := Lib.hid (show ∀ gg cap' w5, w5.ownsRow B 9 1 (.slice (some ⟨gg, 0, none⟩) (n + 1) cap') (n + 1) (xs ++ [.string x]) → w.grownBy w5 (Value.slice A n cap).ownBlock → ((Value.slice A n cap).ownBlock = some gg ∨ gg = w.heap.size) → InsP 9 1 w B (.slice A n cap) n n xs [.string x] (.returned (.slice (some ⟨gg, 0, none⟩) (n + 1) cap')) w5 from fun gg cap' w5 h2 h3 h4 => by
    refine ⟨⟨some ⟨gg, 0, none⟩, n + 1, cap'⟩, rfl, ?_, kb_in h3, fun g hg => ?_⟩
    · rw [List.take_of_length_le (by omega), List.drop_of_length_le (by omega), List.append_nil]; exact h2
    · rw [blk_some, List.mem_singleton] at hg
      have hg : g = gg := hg
      subst hg
      rcases h4 with h | h
      · exact .inl h
      · exact .inr (by omega))
  clear hi0 hz0 hz1 hz2 ho hnb hx
  have k1 : (n : Int) ≤ (cap : Int) := by omega
  have k2 : (n : Int) ≤ (n : Int) := Int.le_refl _
  go_enter Try.func69, Try.ntmps69
  by_cases hc : cap = n
  · subst hc
    cases A
    all_goals
      go_wp2_with (at_builtin; go_must (refine wpList_append_lies _ rfl _ _ 22 rfl B 9 i0 _ 1 16 Try.underlying22 HI.out HZ.out.1 HZ.out.2.1 HZ.out.2.2 rfl (by decide) _ _ xs rfl HO.out ⟨nb, 0, none⟩ 1 1 [.string x] rfl rfl (World.news_of_block (cs := #[.string x]) (t := 9) (fr := (0, 0)) HNB.out) (by simp [Value.oneCell']) (by omega) hq7 hq8 hB w.heap.size rfl ?_); intro gg cap' w5 hown5 hgrow hat hgl; have HP := Lib.hid (HF.out gg cap' w5 hown5 hgrow hat); clear hown5 hgrow hat hgl)
      go_ret
      exact HP.out
  · cases A
    all_goals
      go_wp2_with (at_builtin; go_must (refine wpList_append_lies _ rfl _ _ 22 rfl B 9 i0 _ 1 16 Try.underlying22 HI.out HZ.out.1 HZ.out.2.1 HZ.out.2.2 rfl (by decide) _ _ xs rfl HO.out ⟨nb, 0, none⟩ 1 1 [.string x] rfl rfl (World.news_of_block (cs := #[.string x]) (t := 9) (fr := (0, 0)) HNB.out) (by simp [Value.oneCell']) (by omega) hq7 hq8 hB w.heap.size rfl ?_); intro gg cap' w5 hown5 hgrow hat hgl; have HP := Lib.hid (HF.out gg cap' w5 hown5 hgrow hat); clear hown5 hgrow hat hgl)
      go_ret
      exact HP.out
set_option maxHeartbeats 4000000 in
theorem insStr_new (g n k m B nb : Nat) (xs : List Value) (x : ByteArray) (w : World) (ho : w.ownsRow B 9 1 (.slice (some ⟨g, 0, none⟩) n n) n xs) (hnk : n = k + 1 + m) (h1 : ∀ u ∈ xs, u.oneCell' = true) (hnb : w.heap[nb]? = some (.cells #[.string x] 9 (0, 0))) (hn : n ≤ 1000000) (hB : B ≤ w.heap.size) :
    Calls Try.prog 69 #[.slice (some ⟨g, 0, none⟩) n n, .int .i64 k, .slice (some ⟨nb, 0, none⟩) 1 1] w (InsP 9 1 w B (.slice (some ⟨g, 0, none⟩) n n) n k xs [.string x]) := by
  obtain ⟨i0, hi0, hz0, hz1, hz2⟩ := info_parts info2Str2
  obtain ⟨q, hq⟩ : ∃ q, q = m + 2 := ⟨_, rfl⟩
  have hx := ho.1
  have hkq : k + q = n + 1 := by omega
  have hap := append_zeros (P := Try.prog) w B 22 3 22 9 i0 _ 1 16 .i64 Try.underlying22 Try.underlying3 hi0 hz0 hz1 hz2 rfl (by decide) g n n k q xs ho (by omega) (by omega) (by omega) (by rw [hkq]; omega) (by rw [hkq]; unfold maxLen; omega) (Nat.le_refl _)
  rw [hkq] at hap
  obtain ⟨c2, W2, hap, o2, a2, z2, hc2, hm2⟩ := hap
  obtain ⟨G, hG⟩ : ∃ G, w.heap.size = G := ⟨_, rfl⟩
  have hks : k * 1 ≤ n * 1 := Nat.mul_le_mul_right _ (by omega)
  obtain ⟨zs, hzs⟩ : ∃ zs, (Builtin.zeroCells (Value.cells (.string ByteArray.empty)) q).toList = zs := ⟨_, rfl⟩
  have lz : zs.length = 1 + (n - k) * 1 := by
    rw [← hzs, zeroCells_len]
    show q * 1 = _
    omega
  rw [hG] at hap o2
  rw [hzs] at o2
  obtain ⟨_, _, hv2, _, _, r2⟩ := own_rowAt o2 (by omega)
  simp only [Value.slice.injEq, true_and, Option.some.injEq, Addr.mk.injEq, and_true] at hv2
  obtain ⟨rfl, rfl⟩ := hv2
  have l2 : (xs.take (k * 1) ++ zs).length = (n + 1) * 1 := o2.1
  have hnb2 : W2.heap[nb]? = some (.cells #[.string x] 9 (0, 0)) := (a2.block nb (lt_of_block hnb)).trans hnb
  obtain ⟨W3, hW3⟩ : ∃ W3, W3 = W2.setCells G (k * 1) [.string x] := ⟨_, rfl⟩
  have hcp1 : ∀ ty, (Builtin.copy_ #[22, 22] ty #[.slice (some ⟨G, k * 1, none⟩) (n + 1 - k) (c2 - k), .slice (some ⟨nb, 0, none⟩) 1 1]).run Try.prog W2 = .ok (goInt 1) W3 := fun ty => by
    rw [hW3]
    refine run_copy_n W2 _ _ ty 9 1 G (k * 1) (n + 1 - k) (c2 - k) ⟨nb, 0, none⟩ 1 1 1 [.string x] Try.underlying22 (by rw [hi0]; simp [hz1]) (by show min 1 (n + 1 - k) = 1; omega) rfl (World.news_of_block (cs := #[.string x]) (t := 9) (fr := (0, 0)) hnb2) (fun j hj => ?_) (fun j hj => ?_) (by simp [Value.oneCell'])
    · have hj' : j < 1 := hj
      have hl : k * 1 + j < (xs.take (k * 1) ++ zs).length := by rw [l2]; omega
      rw [r2.2.1 _ hl, List.getElem?_eq_getElem hl]; rfl
    · have hj' : j < 1 := hj
      exact r2.2.2 _ (by rw [l2]; omega)
  have o3 := own_aft (own_setCells (g := G) rfl [.string x] (k * 1) o2) (Aft.refl (W2.setCells G (k * 1) [.string x])).drew
  rw [← hW3] at o3
  obtain ⟨_, _, hv3, _, _, r3⟩ := own_rowAt o3 (by omega)
  simp only [Value.slice.injEq, true_and, Option.some.injEq, Addr.mk.injEq, and_true] at hv3
  obtain ⟨rfl, rfl⟩ := hv3
  have l3 : (setL (xs.take (k * 1) ++ zs) (k * 1) [.string x]).length = (n + 1) * 1 := o3.1
  have hgl := ho.lt g rfl
  have kb3 : Kb (fun x => x = G) w W3.drew := by
    rw [hW3]
    exact ((Kb.of_aft a2).trans (kb_setCells G _ _ _)).trans (Kb.of_aft (Aft.refl _).drew)
  have og : W3.drew.ownsRow B 9 1 (.slice (some ⟨g, 0, none⟩) n n) n xs := own_kb ho kb3 (fun x hx e => by have e : x = G := e; have h5 : x = g := (by simpa [Value.ownBlock, eq_comm] using hx); omega)
  obtain ⟨ds, hds⟩ : ∃ ds, xs.drop (k * 1) = ds := ⟨_, rfl⟩
  have ld : ds.length = (n - k) * 1 := by rw [← hds, List.length_drop, hx]; omega
  obtain ⟨W4, hW4⟩ : ∃ W4, W4 = W3.drew.setCells G ((k + 1) * 1) ds := ⟨_, rfl⟩
  have hcp2 : ∀ ty, (Builtin.copy_ #[22, 22] ty #[.slice (some ⟨G, (k + 1) * 1, none⟩) (n - k) (c2 - (k + 1)), .slice (some ⟨g, k * 1, none⟩) (n - k) (n - k)]).run Try.prog W3.drew = .ok (goInt ((n - k : Nat) : Int)) W4 := fun ty => by
    rw [hW4]
    refine run_copy_n W3.drew _ _ ty 9 1 G ((k + 1) * 1) (n - k) (c2 - (k + 1)) ⟨g, k * 1, none⟩ (n - k) (n - k) (n - k) ds Try.underlying22 (by rw [hi0]; simp [hz1]) (by show min (n - k) (n - k) = n - k; omega) ld (fun j u hj => ?_) (fun j hj => ?_) (fun j hj => ?_) (fun u hu => h1 u (by rw [← hds] at hu; exact List.mem_of_mem_drop hu))
    · rw [← hds, List.getElem?_drop] at hj
      rw [Addr.add_lit]
      have h5 := og.cells (g := g) rfl _ u hj
      rw [Addr.add_lit] at h5
      simpa using h5
    · rw [ld] at hj
      have hl : (k + 1) * 1 + j < (setL (xs.take (k * 1) ++ zs) (k * 1) [.string x]).length := by rw [l3]; omega
      rw [r3.2.1 _ hl, List.getElem?_eq_getElem hl]; rfl
    · rw [ld] at hj
      exact r3.2.2 _ (by rw [l3]; omega)
  have HP := Lib.hid (show InsP 9 1 w B (.slice (some ⟨g, 0, none⟩) n n) n k xs [.string x] (.returned (.slice (some ⟨G, 0, none⟩) (n + 1) c2)) W4 from by
    have o4 := own_setCells (g := G) rfl ds ((k + 1) * 1) o3
    rw [← hW4] at o4
    have e1 : (k + 1) * 1 = k * 1 + 1 := by omega
    rw [e1, ← hds, ins_new xs [.string x] zs (k * 1) 1 ((n - k) * 1) (by rw [hx]; omega) rfl lz] at o4
    refine ⟨⟨some ⟨G, 0, none⟩, n + 1, c2⟩, rfl, own_down o4 (by omega), ?_, fun x hx => ?_⟩
    · rw [hW4]
      exact (kb3.trans (kb_setCells G _ _ _)).mono fun x hx e => by have e : x = G := e; omega
    · rw [blk_some, List.mem_singleton] at hx
      have hx : x = G := hx
      exact .inr (by omega))
  have hqi : (q : Int) = (n : Int) + 1 - (k : Int) := by omega
  rw [hqi] at hap
  clear hqi
  have hkn : ¬ n = k := by omega
  have hkc : ¬ c2 = k := by omega
  have hkc1 : ¬ c2 = k + 1 := by omega
  have hne : ((k : Int) == (n : Int)) = false := by rw [beq_eq_false_iff_ne]; omega
  have j1 : (k : Int) ≤ (n : Int) := by omega
  have j2 : (k : Int) ≤ (n : Int) + 1 := by omega
  have j3 : (k : Int) + 1 ≤ (n : Int) + 1 := by omega
  have j4 : (0 : Int) ≤ (k : Int) + 1 := by omega
  have j5 : ((n : Int) < (n : Int) + 1) := by omega
  have j6 : (n : Int) + 1 ≤ (c2 : Int) := by omega
  have w2 : IntKind.i64.wrap ((k : Int) + 1) = (k : Int) + 1 := IntWalk.i64_in _ (by omega)
  have hkn2 : k < n := by omega
  clear hnk hq hkq hm2 hW3 hW4 o2 o3 r2 r3 og kb3 hgl hnb2 hnb ho h1 hx lz l2 l3 ld hds hzs a2 z2 hi0 hz0 hz1 hz2 hG hks
  go_enter Try.func69, Try.ntmps69
  (try simp only [Nat.mul_one] at hcp1 hcp2)
  have HAP := Lib.hid hap
  have HC1 := Lib.hid hcp1
  have HC2 := Lib.hid hcp2
  clear hap hcp1 hcp2
  go_wp2_with (first
    | (at_builtin; refine wpList_append_run8 _ rfl _ _ 22 3 rfl _ _ rfl rfl HAP.out ?_)
    | (refine wpList_copy_run8 _ rfl _ _ 22 22 rfl _ _ rfl rfl (HC1.out _) ?_))
  go_region_law (refine step_copy_run8 rfl _ _ 22 22 rfl _ _ (by simp [Act.eval, Act.put]) (by simp [Act.eval, Act.put]) (HC2.out _) ?_)
  go_wp2_with fail
  go_ret
  exact HP.out
set_option maxHeartbeats 4000000 in
theorem insStr_in (g n cap k m B nb : Nat) (xs : List Value) (x : ByteArray) (w : World) (ho : w.ownsRow B 9 1 (.slice (some ⟨g, 0, none⟩) n cap) n xs) (hnk : n = k + 1 + m) (hcap : n < cap) (h1 : ∀ u ∈ xs, u.oneCell' = true) (hnb : w.heap[nb]? = some (.cells #[.string x] 9 (0, 0))) (hng : nb ≠ g) (hn : n ≤ 1000000) :
    Calls Try.prog 69 #[.slice (some ⟨g, 0, none⟩) n cap, .int .i64 k, .slice (some ⟨nb, 0, none⟩) 1 1] w (InsP 9 1 w B (.slice (some ⟨g, 0, none⟩) n cap) n k xs [.string x]) := by
  obtain ⟨i0, hi0, hz0, hz1, hz2⟩ := info_parts info2Str2
  have hx := ho.1
  obtain ⟨cur, hgB, hgg, hcmx, hcs, htk⟩ : ∃ cur : Array Value, B ≤ g ∧ w.heap[g]? = some (.cells cur 9 (0, 0)) ∧ cap ≤ maxLen ∧ cur.size = cap * 1 ∧ cur.toList.take (n * 1) = xs := by
    rcases ho.2 with ⟨hv, _⟩ | ⟨g', c', cur, hv, hb, hg, hc, hm, hs, ht⟩
    · simp at hv
    · simp only [Value.slice.injEq, Option.some.injEq, Addr.mk.injEq, and_true, true_and] at hv
      obtain ⟨rfl, rfl⟩ := hv
      exact ⟨cur, hb, hg, hm, hs, ht⟩
  obtain ⟨ts, hts⟩ : ∃ ts, (cur.toList.drop (n * 1)).take 1 = ts := ⟨_, rfl⟩
  have lts : ts.length = 1 := by rw [← hts, List.length_take, List.length_drop, Array.length_toList, hcs]; omega
  have o1 : w.ownsRow B 9 1 (.slice (some ⟨g, 0, none⟩) (n + 1) cap) (n + 1) (xs ++ ts) := by
    refine ⟨by rw [List.length_append, hx, lts]; omega, .inr ⟨g, cap, cur, rfl, hgB, hgg, by omega, hcmx, hcs, ?_⟩⟩
    rw [← htk, ← hts, Nat.add_mul, Nat.one_mul, ← List.take_add]
  have o1d := own_aft o1 (Aft.refl w).drew
  obtain ⟨_, _, hv1, _, _, r1⟩ := own_rowAt o1d (by omega)
  simp only [Value.slice.injEq, true_and, Option.some.injEq, Addr.mk.injEq, and_true] at hv1
  obtain ⟨rfl, rfl⟩ := hv1
  have l1 : (xs ++ ts).length = (n + 1) * 1 := o1.1
  obtain ⟨ds, hds⟩ : ∃ ds, xs.drop (k * 1) = ds := ⟨_, rfl⟩
  have ld : ds.length = (n - k) * 1 := by rw [← hds, List.length_drop, hx]; omega
  obtain ⟨W1, hW1⟩ : ∃ W1, W1 = w.drew.setCells g ((k + 1) * 1) ds := ⟨_, rfl⟩
  have hcp1 : ∀ ty, (Builtin.copy_ #[22, 22] ty #[.slice (some ⟨g, (k + 1) * 1, none⟩) (n - k) (cap - (k + 1)), .slice (some ⟨g, k * 1, none⟩) (n + 1 - k) (cap - k)]).run Try.prog w.drew = .ok (goInt ((n - k : Nat) : Int)) W1 := fun ty => by
    rw [hW1]
    refine run_copy_n w.drew _ _ ty 9 1 g ((k + 1) * 1) (n - k) (cap - (k + 1)) ⟨g, k * 1, none⟩ (n + 1 - k) (cap - k) (n - k) ds Try.underlying22 (by rw [hi0]; simp [hz1]) (by show min (n + 1 - k) (n - k) = n - k; omega) ld (fun j u hj => ?_) (fun j hj => ?_) (fun j hj => ?_) (fun u hu => h1 u (by rw [← hds] at hu; exact List.mem_of_mem_drop hu))
    · rw [← hds, List.getElem?_drop] at hj
      rw [Addr.add_lit]
      have h5 := ho.cells (g := g) rfl _ u hj
      rw [Addr.add_lit] at h5
      simpa using h5
    · rw [ld] at hj
      have hl : (k + 1) * 1 + j < (xs ++ ts).length := by rw [l1]; omega
      rw [r1.2.1 _ hl, List.getElem?_eq_getElem hl]; rfl
    · rw [ld] at hj
      exact r1.2.2 _ (by rw [l1]; omega)
  have o2 := own_setCells (g := g) rfl ds ((k + 1) * 1) o1d
  rw [← hW1] at o2
  obtain ⟨_, _, hv2, _, _, r2⟩ := own_rowAt o2 (by omega)
  simp only [Value.slice.injEq, true_and, Option.some.injEq, Addr.mk.injEq, and_true] at hv2
  obtain ⟨rfl, rfl⟩ := hv2
  have l2 : (setL (xs ++ ts) ((k + 1) * 1) ds).length = (n + 1) * 1 := o2.1
  have kb1 : Kb (fun x => x = g) w W1 := by rw [hW1]; exact (Kb.of_aft (Aft.refl w).drew).trans (kb_setCells g _ _ _)
  have hnb1 : W1.heap[nb]? = some (.cells #[.string x] 9 (0, 0)) := (kb1.block nb (lt_of_block hnb) hng).trans hnb
  obtain ⟨W2, hW2⟩ : ∃ W2, W2 = W1.setCells g (k * 1) [.string x] := ⟨_, rfl⟩
  have hcp2 : ∀ ty, (Builtin.copy_ #[22, 22] ty #[.slice (some ⟨g, k * 1, none⟩) (n + 1 - k) (cap - k), .slice (some ⟨nb, 0, none⟩) 1 1]).run Try.prog W1 = .ok (goInt 1) W2 := fun ty => by
    rw [hW2]
    refine run_copy_n W1 _ _ ty 9 1 g (k * 1) (n + 1 - k) (cap - k) ⟨nb, 0, none⟩ 1 1 1 [.string x] Try.underlying22 (by rw [hi0]; simp [hz1]) (by show min 1 (n + 1 - k) = 1; omega) rfl (World.news_of_block (cs := #[.string x]) (t := 9) (fr := (0, 0)) hnb1) (fun j hj => ?_) (fun j hj => ?_) (by simp [Value.oneCell'])
    · have hj' : j < 1 := hj
      have hl : k * 1 + j < (setL (xs ++ ts) ((k + 1) * 1) ds).length := by rw [l2]; omega
      rw [r2.2.1 _ hl, List.getElem?_eq_getElem hl]; rfl
    · have hj' : j < 1 := hj
      exact r2.2.2 _ (by rw [l2]; omega)
  have hov : (callFunc 117 #[.slice (some ⟨nb, 0, none⟩) 1 1, .slice (some ⟨g, (k + 1) * 1, none⟩) (n - k) (cap - (k + 1))]).run Try.prog w = .ok (.value (.bool false)) w := by
    rw [run_callFunc_extern Try.func117 (by kernel_rfl) (by kernel_rfl) (by kernel_rfl) (e := Extern.SlicesOverlaps.overlaps #[22, 22] #[4]) (by kernel_rfl),
      Lib.run_overlaps_apart w 22 4 9 Try.underlying22 1 (fun w => by simp [sizeOf, typeInfo, hi0, hz1]) ⟨nb, 0, none⟩ ⟨g, (k + 1) * 1, none⟩ 1 1 (n - k) (cap - (k + 1)) hng 9 9 1 (cap * 1) (by simp [World.shape?, hnb]) (by simp [World.shape?, hgg, hcs]) (by omega) (by simp [World.frozen?, hnb]) (by simp [World.frozen?, hnb])]
    rfl
  have HP := Lib.hid (show InsP 9 1 w B (.slice (some ⟨g, 0, none⟩) n cap) n k xs [.string x] (.returned (.slice (some ⟨g, 0, none⟩) (n + 1) cap)) W2 from by
    have o3 := own_setCells (g := g) rfl [.string x] (k * 1) o2
    rw [← hW2] at o3
    have e1 : (k + 1) * 1 = k * 1 + 1 := by omega
    rw [e1, ← hds, ins_same xs [.string x] ts (k * 1) 1 ((n - k) * 1) (by rw [hx]; omega) rfl lts] at o3
    refine ⟨⟨some ⟨g, 0, none⟩, n + 1, cap⟩, rfl, o3, ?_, fun x hx => .inl (Hd.mem_blk.1 hx)⟩
    rw [hW2]
    exact (kb1.trans (kb_setCells g _ _ _)).mono fun x _ e => by have e : x = g := e; subst e; rfl)
  (try simp only [Nat.mul_one] at hcp1 hcp2 hov)
  have HC1 := Lib.hid hcp1
  have HC2 := Lib.hid hcp2
  have hcap63 : cap ≤ 9223372036854775807 := by simp only [maxLen] at hcmx; omega
  have hkc : ¬ cap = k := by omega
  have hkc1 : ¬ cap = k + 1 := by omega
  have hne : ((k : Int) == (n : Int)) = false := by rw [beq_eq_false_iff_ne]; omega
  have j1 : (k : Int) ≤ (n : Int) := by omega
  have j2 : (k : Int) ≤ (n : Int) + 1 := by omega
  have j3 : (k : Int) + 1 ≤ (n : Int) + 1 := by omega
  have j4 : (0 : Int) ≤ (k : Int) + 1 := by omega
  have j5 : ¬ ((cap : Int) < (n : Int) + 1) := by omega
  have j6 : (n : Int) + 1 ≤ (cap : Int) := by omega
  have j7 : (n : Int) ≤ (cap : Int) := by omega
  have j8 : k < n := by omega
  have w2 : IntKind.i64.wrap ((k : Int) + 1) = (k : Int) + 1 := IntWalk.i64_in _ (by omega)
  have t1 : ((k : Int) + 1).toNat = k + 1 := by omega
  clear hnk hcp1 hcp2 hW1 hW2 o1 o1d o2 r1 r2 kb1 hnb1 hnb ho h1 hx l1 l2 ld hds hi0 hz0 hz1 hz2 htk hts lts hgg hcs hcmx hgB
  go_enter Try.func69, Try.ntmps69
  go_wp2_with (simp only [hov])
  go_region_law (refine step_copy_run8 rfl _ _ 22 22 rfl _ _ (by simp [Act.eval, Act.put]) (by simp [Act.eval, Act.put]) (HC1.out _) ?_)
  go_wp2_with (refine wpList_copy_run8 _ rfl _ _ 22 22 rfl _ _ rfl rfl (HC2.out _) ?_)
  go_ret
  exact HP.out
/-- Insert, whichever way -/
theorem insStr (A : Option Addr) (n cap k B nb : Nat) (xs : List Value) (x : ByteArray) (w : World) (ho : w.ownsRow B 9 1 (.slice A n cap) n xs) (hk : k ≤ n) (h1 : ∀ u ∈ xs, u.oneCell' = true) (hnb : w.heap[nb]? = some (.cells #[.string x] 9 (0, 0))) (hng : (Value.slice A n cap).ownBlock ≠ some nb) (hn : n ≤ 1000000) (hB : B ≤ w.heap.size) :
    Calls Try.prog 69 #[.slice A n cap, .int .i64 k, .slice (some ⟨nb, 0, none⟩) 1 1] w (InsP 9 1 w B (.slice A n cap) n k xs [.string x]) := by
  rcases Nat.lt_or_ge k n with hlt | hge
  · obtain ⟨g, cap', hv, hgB, hnc, hr⟩ := own_rowAt ho (by omega)
    simp only [Value.slice.injEq, true_and] at hv
    obtain ⟨rfl, rfl⟩ := hv
    rcases Nat.lt_or_ge n cap with hc | hc
    · exact insStr_in g n cap k (n - k - 1) B nb xs x w ho (by omega) hc h1 hnb (fun e => hng (by rw [e]; rfl)) hn
    · have : cap = n := by omega
      subst this
      exact insStr_new g cap k (cap - k - 1) B nb xs x w ho (by omega) h1 hnb hn hB
  · have : k = n := by omega
    subst this
    exact insStr_end A k cap B nb xs x w ho hnb hn hB
set_option maxHeartbeats 4000000 in
theorem insMem_end (A : Option Addr) (n cap B nb : Nat) (xs : List Value) (x : Mbr) (w : World) (ho : w.ownsRow B 61 2 (.slice A n cap) n xs) (hnb : w.heap[nb]? = some (.cells #[.string x.role, .string x.of] 61 (0, 0))) (hn : n ≤ 1000000) (hB : B ≤ w.heap.size) :
    Calls Try.prog 61 #[.slice A n cap, .int .i64 n, .slice (some ⟨nb, 0, none⟩) 1 1] w (InsP 61 2 w B (.slice A n cap) n n xs [.string x.role, .string x.of]) := by
  obtain ⟨i0, hi0, hz0, hz1, hz2⟩ := info_parts info2Mem
  have HI := Lib.hid hi0
  have HZ := Lib.hid (And.intro hz0 (And.intro hz1 hz2))
  have HO := Lib.hid ho
  have HNB := Lib.hid hnb
  have hx := ho.1
  have hq7 : n + 1 ≤ maxLen := by unfold maxLen; omega
  have hq8 : (n + 1) * 32 ≤ 140737488355328 := by omega
  have hnc : n ≤ cap := by
    rcases ho.2 with ⟨hv, hn0⟩ | ⟨g, c, cur, hv, _, _, hc, _⟩
    · omega
    · simp only [Value.slice.injEq] at hv; omega
  have hcm : cap ≤ 9223372036854775807 := by
    rcases ho.2 with ⟨hv, hn0⟩ | ⟨g, c, cur, hv, _, _, hc, hm, _⟩
    · simp only [Value.slice.injEq] at hv; omega
    · simp only [Value.slice.injEq] at hv; simp only [maxLen] at hm; omega
  have HF := Lib.hid (show ∀ gg cap' w5, w5.ownsRow B 61 2 (.slice (some ⟨gg, 0, none⟩) (n + 1) cap') (n + 1) (xs ++ [.string x.role, .string x.of]) → w.grownBy w5 (Value.slice A n cap).ownBlock → ((Value.slice A n cap).ownBlock = some gg ∨ gg = w.heap.size) → InsP 61 2 w B (.slice A n cap) n n xs [.string x.role, .string x.of] (.returned (.slice (some ⟨gg, 0, none⟩) (n + 1) cap')) w5 from fun gg cap' w5 h2 h3 h4 => by
    refine ⟨⟨some ⟨gg, 0, none⟩, n + 1, cap'⟩, rfl, ?_, kb_in h3, fun g hg => ?_⟩
    · rw [List.take_of_length_le (by omega), List.drop_of_length_le (by omega), List.append_nil]; exact h2
    · rw [blk_some, List.mem_singleton] at hg
      have hg : g = gg := hg
      subst hg
      rcases h4 with h | h
      · exact .inl h
      · exact .inr (by omega))
  clear hi0 hz0 hz1 hz2 ho hnb hx
  have k1 : (n : Int) ≤ (cap : Int) := by omega
  have k2 : (n : Int) ≤ (n : Int) := Int.le_refl _
  go_enter Try.func61, Try.ntmps61
  by_cases hc : cap = n
  · subst hc
    cases A
    all_goals
      go_wp2_with (at_builtin; go_must (refine wpList_append_lies _ rfl _ _ 23 rfl B 61 i0 _ 2 32 Try.underlying23 HI.out HZ.out.1 HZ.out.2.1 HZ.out.2.2 rfl (by decide) _ _ xs rfl HO.out ⟨nb, 0, none⟩ 1 1 [.string x.role, .string x.of] rfl rfl (World.news_of_block (cs := #[.string x.role, .string x.of]) (t := 61) (fr := (0, 0)) HNB.out) (by simp [Value.oneCell']) (by omega) hq7 hq8 hB w.heap.size rfl ?_); intro gg cap' w5 hown5 hgrow hat hgl; have HP := Lib.hid (HF.out gg cap' w5 hown5 hgrow hat); clear hown5 hgrow hat hgl)
      go_ret
      exact HP.out
  · cases A
    all_goals
      go_wp2_with (at_builtin; go_must (refine wpList_append_lies _ rfl _ _ 23 rfl B 61 i0 _ 2 32 Try.underlying23 HI.out HZ.out.1 HZ.out.2.1 HZ.out.2.2 rfl (by decide) _ _ xs rfl HO.out ⟨nb, 0, none⟩ 1 1 [.string x.role, .string x.of] rfl rfl (World.news_of_block (cs := #[.string x.role, .string x.of]) (t := 61) (fr := (0, 0)) HNB.out) (by simp [Value.oneCell']) (by omega) hq7 hq8 hB w.heap.size rfl ?_); intro gg cap' w5 hown5 hgrow hat hgl; have HP := Lib.hid (HF.out gg cap' w5 hown5 hgrow hat); clear hown5 hgrow hat hgl)
      go_ret
      exact HP.out
set_option maxHeartbeats 4000000 in
theorem insMem_new (g n k m B nb : Nat) (xs : List Value) (x : Mbr) (w : World) (ho : w.ownsRow B 61 2 (.slice (some ⟨g, 0, none⟩) n n) n xs) (hnk : n = k + 1 + m) (h1 : ∀ u ∈ xs, u.oneCell' = true) (hnb : w.heap[nb]? = some (.cells #[.string x.role, .string x.of] 61 (0, 0))) (hn : n ≤ 1000000) (hB : B ≤ w.heap.size) :
    Calls Try.prog 61 #[.slice (some ⟨g, 0, none⟩) n n, .int .i64 k, .slice (some ⟨nb, 0, none⟩) 1 1] w (InsP 61 2 w B (.slice (some ⟨g, 0, none⟩) n n) n k xs [.string x.role, .string x.of]) := by
  obtain ⟨i0, hi0, hz0, hz1, hz2⟩ := info_parts info2Mem
  obtain ⟨q, hq⟩ : ∃ q, q = m + 2 := ⟨_, rfl⟩
  have hx := ho.1
  have hkq : k + q = n + 1 := by omega
  have hap := append_zeros (P := Try.prog) w B 23 3 23 61 i0 _ 2 32 .i64 Try.underlying23 Try.underlying3 hi0 hz0 hz1 hz2 rfl (by decide) g n n k q xs ho (by omega) (by omega) (by omega) (by rw [hkq]; omega) (by rw [hkq]; unfold maxLen; omega) (Nat.le_refl _)
  rw [hkq] at hap
  obtain ⟨c2, W2, hap, o2, a2, z2, hc2, hm2⟩ := hap
  obtain ⟨G, hG⟩ : ∃ G, w.heap.size = G := ⟨_, rfl⟩
  have hks : k * 2 ≤ n * 2 := Nat.mul_le_mul_right _ (by omega)
  obtain ⟨zs, hzs⟩ : ∃ zs, (Builtin.zeroCells (Value.cells (.agg #[.string ByteArray.empty, .string ByteArray.empty])) q).toList = zs := ⟨_, rfl⟩
  have lz : zs.length = 2 + (n - k) * 2 := by
    rw [← hzs, zeroCells_len]
    show q * 2 = _
    omega
  rw [hG] at hap o2
  rw [hzs] at o2
  obtain ⟨_, _, hv2, _, _, r2⟩ := own_rowAt o2 (by omega)
  simp only [Value.slice.injEq, true_and, Option.some.injEq, Addr.mk.injEq, and_true] at hv2
  obtain ⟨rfl, rfl⟩ := hv2
  have l2 : (xs.take (k * 2) ++ zs).length = (n + 1) * 2 := o2.1
  have hnb2 : W2.heap[nb]? = some (.cells #[.string x.role, .string x.of] 61 (0, 0)) := (a2.block nb (lt_of_block hnb)).trans hnb
  obtain ⟨W3, hW3⟩ : ∃ W3, W3 = W2.setCells G (k * 2) [.string x.role, .string x.of] := ⟨_, rfl⟩
  have hcp1 : ∀ ty, (Builtin.copy_ #[23, 23] ty #[.slice (some ⟨G, k * 2, none⟩) (n + 1 - k) (c2 - k), .slice (some ⟨nb, 0, none⟩) 1 1]).run Try.prog W2 = .ok (goInt 1) W3 := fun ty => by
    rw [hW3]
    refine run_copy_n W2 _ _ ty 61 2 G (k * 2) (n + 1 - k) (c2 - k) ⟨nb, 0, none⟩ 1 1 1 [.string x.role, .string x.of] Try.underlying23 (by rw [hi0]; simp [hz1]) (by show min 1 (n + 1 - k) = 1; omega) rfl (World.news_of_block (cs := #[.string x.role, .string x.of]) (t := 61) (fr := (0, 0)) hnb2) (fun j hj => ?_) (fun j hj => ?_) (by simp [Value.oneCell'])
    · have hj' : j < 2 := hj
      have hl : k * 2 + j < (xs.take (k * 2) ++ zs).length := by rw [l2]; omega
      rw [r2.2.1 _ hl, List.getElem?_eq_getElem hl]; rfl
    · have hj' : j < 2 := hj
      exact r2.2.2 _ (by rw [l2]; omega)
  have o3 := own_aft (own_setCells (g := G) rfl [.string x.role, .string x.of] (k * 2) o2) (Aft.refl (W2.setCells G (k * 2) [.string x.role, .string x.of])).drew
  rw [← hW3] at o3
  obtain ⟨_, _, hv3, _, _, r3⟩ := own_rowAt o3 (by omega)
  simp only [Value.slice.injEq, true_and, Option.some.injEq, Addr.mk.injEq, and_true] at hv3
  obtain ⟨rfl, rfl⟩ := hv3
  have l3 : (setL (xs.take (k * 2) ++ zs) (k * 2) [.string x.role, .string x.of]).length = (n + 1) * 2 := o3.1
  have hgl := ho.lt g rfl
  have kb3 : Kb (fun x => x = G) w W3.drew := by
    rw [hW3]
    exact ((Kb.of_aft a2).trans (kb_setCells G _ _ _)).trans (Kb.of_aft (Aft.refl _).drew)
  have og : W3.drew.ownsRow B 61 2 (.slice (some ⟨g, 0, none⟩) n n) n xs := own_kb ho kb3 (fun x hx e => by have e : x = G := e; have h5 : x = g := (by simpa [Value.ownBlock, eq_comm] using hx); omega)
  obtain ⟨ds, hds⟩ : ∃ ds, xs.drop (k * 2) = ds := ⟨_, rfl⟩
  have ld : ds.length = (n - k) * 2 := by rw [← hds, List.length_drop, hx]; omega
  obtain ⟨W4, hW4⟩ : ∃ W4, W4 = W3.drew.setCells G ((k + 1) * 2) ds := ⟨_, rfl⟩
  have hcp2 : ∀ ty, (Builtin.copy_ #[23, 23] ty #[.slice (some ⟨G, (k + 1) * 2, none⟩) (n - k) (c2 - (k + 1)), .slice (some ⟨g, k * 2, none⟩) (n - k) (n - k)]).run Try.prog W3.drew = .ok (goInt ((n - k : Nat) : Int)) W4 := fun ty => by
    rw [hW4]
    refine run_copy_n W3.drew _ _ ty 61 2 G ((k + 1) * 2) (n - k) (c2 - (k + 1)) ⟨g, k * 2, none⟩ (n - k) (n - k) (n - k) ds Try.underlying23 (by rw [hi0]; simp [hz1]) (by show min (n - k) (n - k) = n - k; omega) ld (fun j u hj => ?_) (fun j hj => ?_) (fun j hj => ?_) (fun u hu => h1 u (by rw [← hds] at hu; exact List.mem_of_mem_drop hu))
    · rw [← hds, List.getElem?_drop] at hj
      rw [Addr.add_lit]
      have h5 := og.cells (g := g) rfl _ u hj
      rw [Addr.add_lit] at h5
      simpa using h5
    · rw [ld] at hj
      have hl : (k + 1) * 2 + j < (setL (xs.take (k * 2) ++ zs) (k * 2) [.string x.role, .string x.of]).length := by rw [l3]; omega
      rw [r3.2.1 _ hl, List.getElem?_eq_getElem hl]; rfl
    · rw [ld] at hj
      exact r3.2.2 _ (by rw [l3]; omega)
  have HP := Lib.hid (show InsP 61 2 w B (.slice (some ⟨g, 0, none⟩) n n) n k xs [.string x.role, .string x.of] (.returned (.slice (some ⟨G, 0, none⟩) (n + 1) c2)) W4 from by
    have o4 := own_setCells (g := G) rfl ds ((k + 1) * 2) o3
    rw [← hW4] at o4
    have e1 : (k + 1) * 2 = k * 2 + 2 := by omega
    rw [e1, ← hds, ins_new xs [.string x.role, .string x.of] zs (k * 2) 2 ((n - k) * 2) (by rw [hx]; omega) rfl lz] at o4
    refine ⟨⟨some ⟨G, 0, none⟩, n + 1, c2⟩, rfl, own_down o4 (by omega), ?_, fun x hx => ?_⟩
    · rw [hW4]
      exact (kb3.trans (kb_setCells G _ _ _)).mono fun x hx e => by have e : x = G := e; omega
    · rw [blk_some, List.mem_singleton] at hx
      have hx : x = G := hx
      exact .inr (by omega))
  have hqi : (q : Int) = (n : Int) + 1 - (k : Int) := by omega
  rw [hqi] at hap
  clear hqi
  have hkn : ¬ n = k := by omega
  have hkc : ¬ c2 = k := by omega
  have hkc1 : ¬ c2 = k + 1 := by omega
  have hne : ((k : Int) == (n : Int)) = false := by rw [beq_eq_false_iff_ne]; omega
  have j1 : (k : Int) ≤ (n : Int) := by omega
  have j2 : (k : Int) ≤ (n : Int) + 1 := by omega
  have j3 : (k : Int) + 1 ≤ (n : Int) + 1 := by omega
  have j4 : (0 : Int) ≤ (k : Int) + 1 := by omega
  have j5 : ((n : Int) < (n : Int) + 1) := by omega
  have j6 : (n : Int) + 1 ≤ (c2 : Int) := by omega
  have w2 : IntKind.i64.wrap ((k : Int) + 1) = (k : Int) + 1 := IntWalk.i64_in _ (by omega)
  have hkn2 : k < n := by omega
  clear hnk hq hkq hm2 hW3 hW4 o2 o3 r2 r3 og kb3 hgl hnb2 hnb ho h1 hx lz l2 l3 ld hds hzs a2 z2 hi0 hz0 hz1 hz2 hG hks
  go_enter Try.func61, Try.ntmps61
  (try simp only [Nat.mul_one] at hcp1 hcp2)
  have HAP := Lib.hid hap
  have HC1 := Lib.hid hcp1
  have HC2 := Lib.hid hcp2
  clear hap hcp1 hcp2
  go_wp2_with (first
    | (at_builtin; refine wpList_append_run8 _ rfl _ _ 23 3 rfl _ _ rfl rfl HAP.out ?_)
    | (refine wpList_copy_run8 _ rfl _ _ 23 23 rfl _ _ rfl rfl (HC1.out _) ?_))
  go_region_law (refine step_copy_run8 rfl _ _ 23 23 rfl _ _ (by simp [Act.eval, Act.put]) (by simp [Act.eval, Act.put]) (HC2.out _) ?_)
  go_wp2_with fail
  go_ret
  exact HP.out
set_option maxHeartbeats 4000000 in
theorem insMem_in (g n cap k m B nb : Nat) (xs : List Value) (x : Mbr) (w : World) (ho : w.ownsRow B 61 2 (.slice (some ⟨g, 0, none⟩) n cap) n xs) (hnk : n = k + 1 + m) (hcap : n < cap) (h1 : ∀ u ∈ xs, u.oneCell' = true) (hnb : w.heap[nb]? = some (.cells #[.string x.role, .string x.of] 61 (0, 0))) (hng : nb ≠ g) (hn : n ≤ 1000000) :
    Calls Try.prog 61 #[.slice (some ⟨g, 0, none⟩) n cap, .int .i64 k, .slice (some ⟨nb, 0, none⟩) 1 1] w (InsP 61 2 w B (.slice (some ⟨g, 0, none⟩) n cap) n k xs [.string x.role, .string x.of]) := by
  obtain ⟨i0, hi0, hz0, hz1, hz2⟩ := info_parts info2Mem
  have hx := ho.1
  obtain ⟨cur, hgB, hgg, hcmx, hcs, htk⟩ : ∃ cur : Array Value, B ≤ g ∧ w.heap[g]? = some (.cells cur 61 (0, 0)) ∧ cap ≤ maxLen ∧ cur.size = cap * 2 ∧ cur.toList.take (n * 2) = xs := by
    rcases ho.2 with ⟨hv, _⟩ | ⟨g', c', cur, hv, hb, hg, hc, hm, hs, ht⟩
    · simp at hv
    · simp only [Value.slice.injEq, Option.some.injEq, Addr.mk.injEq, and_true, true_and] at hv
      obtain ⟨rfl, rfl⟩ := hv
      exact ⟨cur, hb, hg, hm, hs, ht⟩
  obtain ⟨ts, hts⟩ : ∃ ts, (cur.toList.drop (n * 2)).take 2 = ts := ⟨_, rfl⟩
  have lts : ts.length = 2 := by rw [← hts, List.length_take, List.length_drop, Array.length_toList, hcs]; omega
  have o1 : w.ownsRow B 61 2 (.slice (some ⟨g, 0, none⟩) (n + 1) cap) (n + 1) (xs ++ ts) := by
    refine ⟨by rw [List.length_append, hx, lts]; omega, .inr ⟨g, cap, cur, rfl, hgB, hgg, by omega, hcmx, hcs, ?_⟩⟩
    rw [← htk, ← hts, Nat.add_mul, Nat.one_mul, ← List.take_add]
  have o1d := own_aft o1 (Aft.refl w).drew
  obtain ⟨_, _, hv1, _, _, r1⟩ := own_rowAt o1d (by omega)
  simp only [Value.slice.injEq, true_and, Option.some.injEq, Addr.mk.injEq, and_true] at hv1
  obtain ⟨rfl, rfl⟩ := hv1
  have l1 : (xs ++ ts).length = (n + 1) * 2 := o1.1
  obtain ⟨ds, hds⟩ : ∃ ds, xs.drop (k * 2) = ds := ⟨_, rfl⟩
  have ld : ds.length = (n - k) * 2 := by rw [← hds, List.length_drop, hx]; omega
  obtain ⟨W1, hW1⟩ : ∃ W1, W1 = w.drew.setCells g ((k + 1) * 2) ds := ⟨_, rfl⟩
  have hcp1 : ∀ ty, (Builtin.copy_ #[23, 23] ty #[.slice (some ⟨g, (k + 1) * 2, none⟩) (n - k) (cap - (k + 1)), .slice (some ⟨g, k * 2, none⟩) (n + 1 - k) (cap - k)]).run Try.prog w.drew = .ok (goInt ((n - k : Nat) : Int)) W1 := fun ty => by
    rw [hW1]
    refine run_copy_n w.drew _ _ ty 61 2 g ((k + 1) * 2) (n - k) (cap - (k + 1)) ⟨g, k * 2, none⟩ (n + 1 - k) (cap - k) (n - k) ds Try.underlying23 (by rw [hi0]; simp [hz1]) (by show min (n + 1 - k) (n - k) = n - k; omega) ld (fun j u hj => ?_) (fun j hj => ?_) (fun j hj => ?_) (fun u hu => h1 u (by rw [← hds] at hu; exact List.mem_of_mem_drop hu))
    · rw [← hds, List.getElem?_drop] at hj
      rw [Addr.add_lit]
      have h5 := ho.cells (g := g) rfl _ u hj
      rw [Addr.add_lit] at h5
      simpa using h5
    · rw [ld] at hj
      have hl : (k + 1) * 2 + j < (xs ++ ts).length := by rw [l1]; omega
      rw [r1.2.1 _ hl, List.getElem?_eq_getElem hl]; rfl
    · rw [ld] at hj
      exact r1.2.2 _ (by rw [l1]; omega)
  have o2 := own_setCells (g := g) rfl ds ((k + 1) * 2) o1d
  rw [← hW1] at o2
  obtain ⟨_, _, hv2, _, _, r2⟩ := own_rowAt o2 (by omega)
  simp only [Value.slice.injEq, true_and, Option.some.injEq, Addr.mk.injEq, and_true] at hv2
  obtain ⟨rfl, rfl⟩ := hv2
  have l2 : (setL (xs ++ ts) ((k + 1) * 2) ds).length = (n + 1) * 2 := o2.1
  have kb1 : Kb (fun x => x = g) w W1 := by rw [hW1]; exact (Kb.of_aft (Aft.refl w).drew).trans (kb_setCells g _ _ _)
  have hnb1 : W1.heap[nb]? = some (.cells #[.string x.role, .string x.of] 61 (0, 0)) := (kb1.block nb (lt_of_block hnb) hng).trans hnb
  obtain ⟨W2, hW2⟩ : ∃ W2, W2 = W1.setCells g (k * 2) [.string x.role, .string x.of] := ⟨_, rfl⟩
  have hcp2 : ∀ ty, (Builtin.copy_ #[23, 23] ty #[.slice (some ⟨g, k * 2, none⟩) (n + 1 - k) (cap - k), .slice (some ⟨nb, 0, none⟩) 1 1]).run Try.prog W1 = .ok (goInt 1) W2 := fun ty => by
    rw [hW2]
    refine run_copy_n W1 _ _ ty 61 2 g (k * 2) (n + 1 - k) (cap - k) ⟨nb, 0, none⟩ 1 1 1 [.string x.role, .string x.of] Try.underlying23 (by rw [hi0]; simp [hz1]) (by show min 1 (n + 1 - k) = 1; omega) rfl (World.news_of_block (cs := #[.string x.role, .string x.of]) (t := 61) (fr := (0, 0)) hnb1) (fun j hj => ?_) (fun j hj => ?_) (by simp [Value.oneCell'])
    · have hj' : j < 2 := hj
      have hl : k * 2 + j < (setL (xs ++ ts) ((k + 1) * 2) ds).length := by rw [l2]; omega
      rw [r2.2.1 _ hl, List.getElem?_eq_getElem hl]; rfl
    · have hj' : j < 2 := hj
      exact r2.2.2 _ (by rw [l2]; omega)
  have hov : (callFunc 111 #[.slice (some ⟨nb, 0, none⟩) 1 1, .slice (some ⟨g, (k + 1) * 2, none⟩) (n - k) (cap - (k + 1))]).run Try.prog w = .ok (.value (.bool false)) w := by
    rw [run_callFunc_extern Try.func111 (by kernel_rfl) (by kernel_rfl) (by kernel_rfl) (e := Extern.SlicesOverlaps.overlaps #[23, 23] #[4]) (by kernel_rfl),
      Lib.run_overlaps_apart w 23 4 61 Try.underlying23 2 (fun w => by simp [sizeOf, typeInfo, hi0, hz1]) ⟨nb, 0, none⟩ ⟨g, (k + 1) * 2, none⟩ 1 1 (n - k) (cap - (k + 1)) hng 61 61 2 (cap * 2) (by simp [World.shape?, hnb]) (by simp [World.shape?, hgg, hcs]) (by omega) (by simp [World.frozen?, hnb]) (by simp [World.frozen?, hnb])]
    rfl
  have HP := Lib.hid (show InsP 61 2 w B (.slice (some ⟨g, 0, none⟩) n cap) n k xs [.string x.role, .string x.of] (.returned (.slice (some ⟨g, 0, none⟩) (n + 1) cap)) W2 from by
    have o3 := own_setCells (g := g) rfl [.string x.role, .string x.of] (k * 2) o2
    rw [← hW2] at o3
    have e1 : (k + 1) * 2 = k * 2 + 2 := by omega
    rw [e1, ← hds, ins_same xs [.string x.role, .string x.of] ts (k * 2) 2 ((n - k) * 2) (by rw [hx]; omega) rfl lts] at o3
    refine ⟨⟨some ⟨g, 0, none⟩, n + 1, cap⟩, rfl, o3, ?_, fun x hx => .inl (Hd.mem_blk.1 hx)⟩
    rw [hW2]
    exact (kb1.trans (kb_setCells g _ _ _)).mono fun x _ e => by have e : x = g := e; subst e; rfl)
  (try simp only [Nat.mul_one] at hcp1 hcp2 hov)
  have HC1 := Lib.hid hcp1
  have HC2 := Lib.hid hcp2
  have hcap63 : cap ≤ 9223372036854775807 := by simp only [maxLen] at hcmx; omega
  have hkc : ¬ cap = k := by omega
  have hkc1 : ¬ cap = k + 1 := by omega
  have hne : ((k : Int) == (n : Int)) = false := by rw [beq_eq_false_iff_ne]; omega
  have j1 : (k : Int) ≤ (n : Int) := by omega
  have j2 : (k : Int) ≤ (n : Int) + 1 := by omega
  have j3 : (k : Int) + 1 ≤ (n : Int) + 1 := by omega
  have j4 : (0 : Int) ≤ (k : Int) + 1 := by omega
  have j5 : ¬ ((cap : Int) < (n : Int) + 1) := by omega
  have j6 : (n : Int) + 1 ≤ (cap : Int) := by omega
  have j7 : (n : Int) ≤ (cap : Int) := by omega
  have j8 : k < n := by omega
  have w2 : IntKind.i64.wrap ((k : Int) + 1) = (k : Int) + 1 := IntWalk.i64_in _ (by omega)
  have t1 : ((k : Int) + 1).toNat = k + 1 := by omega
  clear hnk hcp1 hcp2 hW1 hW2 o1 o1d o2 r1 r2 kb1 hnb1 hnb ho h1 hx l1 l2 ld hds hi0 hz0 hz1 hz2 htk hts lts hgg hcs hcmx hgB
  go_enter Try.func61, Try.ntmps61
  go_wp2_with (simp only [hov])
  go_region_law (refine step_copy_run8 rfl _ _ 23 23 rfl _ _ (by simp [Act.eval, Act.put]) (by simp [Act.eval, Act.put]) (HC1.out _) ?_)
  go_wp2_with (refine wpList_copy_run8 _ rfl _ _ 23 23 rfl _ _ rfl rfl (HC2.out _) ?_)
  go_ret
  exact HP.out
/-- Insert, whichever way -/
theorem insMem (A : Option Addr) (n cap k B nb : Nat) (xs : List Value) (x : Mbr) (w : World) (ho : w.ownsRow B 61 2 (.slice A n cap) n xs) (hk : k ≤ n) (h1 : ∀ u ∈ xs, u.oneCell' = true) (hnb : w.heap[nb]? = some (.cells #[.string x.role, .string x.of] 61 (0, 0))) (hng : (Value.slice A n cap).ownBlock ≠ some nb) (hn : n ≤ 1000000) (hB : B ≤ w.heap.size) :
    Calls Try.prog 61 #[.slice A n cap, .int .i64 k, .slice (some ⟨nb, 0, none⟩) 1 1] w (InsP 61 2 w B (.slice A n cap) n k xs [.string x.role, .string x.of]) := by
  rcases Nat.lt_or_ge k n with hlt | hge
  · obtain ⟨g, cap', hv, hgB, hnc, hr⟩ := own_rowAt ho (by omega)
    simp only [Value.slice.injEq, true_and] at hv
    obtain ⟨rfl, rfl⟩ := hv
    rcases Nat.lt_or_ge n cap with hc | hc
    · exact insMem_in g n cap k (n - k - 1) B nb xs x w ho (by omega) hc h1 hnb (fun e => hng (by rw [e]; rfl)) hn
    · have : cap = n := by omega
      subst this
      exact insMem_new g cap k (cap - k - 1) B nb xs x w ho (by omega) h1 hnb hn hB
  · have : k = n := by omega
    subst this
    exact insMem_end A k cap B nb xs x w ho hnb hn hB
end Go.Proofs.Ytcdhljcpoopfaaa
/- roles.Add: a role is added. -/
namespace Go.Proofs.Ytcdhljcpoopfaaa
open Go.RowKit Go.Deep
set_option maxRecDepth 100000
set_option linter.unusedVariables false
def insAt {α : Type} (l : List α) (p : Nat) (x : α) : List α := l.take p ++ [x] ++ l.drop p
def addF (name : ByteArray) (r : Rls) : Rls × Int := if nameB name then (if thereB cmpS r.names name then (r, 70) else (if 16 ≤ r.names.length then (r, 2) else ({ r with names := insAt r.names (posB cmpS r.names name) name }, 0))) else (r, 1)
set_option maxHeartbeats 8000000 in
theorem add1 (name : ByteArray) (bn : Nat) (r : Rls) (w : World) (B b : Nat) (hn hm : Hd) (rin : RolIn w B hn hm r) (row : RowAt w b [hn.v, hm.v]) (hB : B ≤ b) (hbn : b ∉ hn.blk) (hbm : b ∉ hm.blk) (hc : w.cell? ⟨bn, 0, none⟩ = some (.string name)) (hbB : bn < B) (hr : risesB cmpS r.names = true) (sm : SmRl r) (hs : Small name.size) :
    Calls Try.prog 66 (#[.pointer (some ⟨b, 0, none⟩)] ++ #[.pointer (some ⟨bn, 0, none⟩)]) w (DoP8 w B b (addF name r)) := by
  show Calls Try.prog 66 #[.pointer (some ⟨b, 0, none⟩), .pointer (some ⟨bn, 0, none⟩)] w (DoP8 w B b (addF name r))
  have hzn : bn < w.heap.size := World.block_lt_of_cell? w ⟨bn, 0, none⟩ hc
  have hvn := rin.vn
  have hvm := rin.vm
  rw [hvn, hvm] at row
  have x0 := row.cell (j := 0) rfl
  have xz := row.1
  obtain ⟨p, hp⟩ : ∃ p, posB cmpS r.names name = p := ⟨_, rfl⟩
  obtain ⟨t, ht⟩ : ∃ t, thereB cmpS r.names name = t := ⟨_, rfl⟩
  obtain ⟨u, hu⟩ : ∃ u, nameB name = u := ⟨_, rfl⟩
  have hpl : p ≤ r.names.length := by rw [← hp]; exact posB_le _ _ _
  have CB := Lib.hid (show ∀ x : Lat w, Calls Try.prog 67 #[.slice hn.a r.names.length hn.c, .string name] (lat w x) fun e w' => e = .returned (.tuple #[.int .i64 p, .bool t]) ∧ lat w x = w' from fun x => by
    have := bsS hn.a hn.c r.names name (lat w x) (strs_aft ((Aft.refl w).lat x) (rin.names sm)) hr
    rw [hp, ht] at this; exact this)
  have CN := Lib.hid (show ∀ w', Calls Try.prog 68 #[.string name] w' fun e w'' => e = .returned (.bool u) ∧ w' = w'' from fun w' => hu ▸ name_any name w' hs.max)
  have HF := Lib.hid (show addF name r = if u then (if t then (r, 70) else (if 16 ≤ r.names.length then (r, 2) else ({ r with names := insAt r.names p name }, 0))) else (r, 1) by unfold addF; rw [ht, hu, hp])
  have HRIN := Lib.hid rin
  have HROW := Lib.hid row
  have HBB := Lib.hid (And.intro hbn hbm)
  have HV := Lib.hid (And.intro hvn hvm)
  clear hp ht hu rin row hbn hbm hvn hvm hr
  go_enter Try.func66, Try.ntmps66
  go_wp2_with fail
  refine wp_region_lat (by kernel_rfl) (by kernel_rfl) ?_
  repeat (go_big_quiet_step ((go_at_call 67; exact Calls.lat_same (CB.out _))))
  refine wpQuiet_nil ?_
  intro _ hw'
  obtain ⟨x, hw''⟩ := hw'
  subst hw''
  obtain ⟨W, hW⟩ : ∃ W, W = lat w x := ⟨_, rfl⟩
  have aW : Aft w W := by rw [hW]; exact (Aft.refl w).lat x
  rw [← hW]
  have HAW := Lib.hid aW
  have x0 := aW.cell_kept x0
  have hc := aW.cell_kept hc
  have xz := Nat.lt_of_lt_of_le xz aW.size
  have hzn := Nat.lt_of_lt_of_le hzn aW.size
  clear hW aW CB
  go_wp2_with fail
  refine (CN.out W).mono ?_
  rintro e w2 ⟨rfl, rfl⟩
  cases u
  · have HP := Lib.hid (show DoP8 w B b (addF name r) (.returned (.int .i64 1)) W from by rw [HF.out]; exact ⟨rfl, Kb.of_aft HAW.out, fun h => by simp at h⟩)
    go_wp2_with fail
    go_ret
    exact HP.out
  cases t
  case true =>
    have HP := Lib.hid (show DoP8 w B b (addF name r) (.returned (.int .i64 70)) W from by rw [HF.out]; exact ⟨rfl, Kb.of_aft HAW.out, fun h => by simp at h⟩)
    go_wp2_with fail
    go_ret
    exact HP.out
  by_cases h16 : 16 ≤ r.names.length
  · have HP := Lib.hid (show DoP8 w B b (addF name r) (.returned (.int .i64 2)) W from by rw [HF.out]; simp only [if_true, Bool.false_eq_true, if_false, if_pos h16]; exact ⟨rfl, Kb.of_aft HAW.out, fun h => by simp at h⟩)
    have hd : decide (16 ≤ r.names.length) = true := by simpa using h16
    go_wp2_with fail
    go_ret
    exact HP.out
  · have hd : decide (16 ≤ r.names.length) = false := by simpa using h16
    have r2 := HRIN.out.aft HAW.out
    have n1 : ¬ InV (.slice hn.a r.names.length hn.c) b := fun h => HBB.out.1 (Hd.mem_blk.2 (by rw [HV.out.1]; exact h))
    have n2 : ¬ InV (.slice hn.a r.names.length hn.c) bn := fun h => by have := (r2.nam.lt bn (by rw [HV.out.1]; exact h)).1; omega
    have HR2 := Lib.hid r2
    obtain ⟨V, hV⟩ : ∃ V, V = (W.alloc (.cells #[.string name] 9)).drew := ⟨_, rfl⟩
    have aV : Aft W V := by rw [hV]; exact ((Aft.refl W).alloc _).drew
    have zV : V.heap.size = W.heap.size + 1 := by rw [hV]; simp
    have oV : V.ownsRow B 9 1 (.slice hn.a r.names.length hn.c) r.names.length (r.names.flatMap nameC) := by rw [← HV.out.1]; exact own_aft r2.nam aV
    have hlt : ∀ g, (Value.slice hn.a r.names.length hn.c).ownBlock = some g → B ≤ g ∧ g < W.heap.size := fun g hg => r2.nam.lt g (by rw [HV.out.1]; exact hg)
    have CI := Lib.hid (insStr hn.a r.names.length hn.c p B W.heap.size (r.names.flatMap nameC) name V oV hpl (oneC_cells oneC_name _) (by rw [hV]; exact heap_alloc_new W _) (fun e => by have := (hlt _ e).2; omega) (by have := sm.1.1; omega) (by have h5 := HROW.out.1; have h6 := HAW.out.size; omega))
    have row2 := HROW.out.aft (HAW.out.trans aV)
    have K2 := Lib.hid (show ∀ (h : Hd) (w5 : World), w5.ownsRow B 9 1 h.v (r.names.length + 1) ((r.names.flatMap nameC).take (p * 1) ++ [.string name] ++ (r.names.flatMap nameC).drop (p * 1)) → Kb (InV (.slice hn.a r.names.length hn.c)) V w5 → (∀ g ∈ h.blk, (Value.slice hn.a r.names.length hn.c).ownBlock = some g ∨ V.heap.size ≤ g) → ((∃ x : KLat (.slice hn.a r.names.length hn.c) W, w5 = klat (.slice hn.a r.names.length hn.c) W x) ∧ w5.cell? ⟨b, 0, none⟩ = some (.slice hn.a r.names.length hn.c) ∧ w5.frozen? ⟨b, 0, none⟩ = false ∧ b < w5.heap.size ∧ Hid (DoP8 w B b (addF name r) (.returned (.int .i64 0)) (w5.setCell ⟨b, 0, none⟩ h.v))) from fun h w5 o5 kb hblk => by
      have row5 := kb.row row2 n1
      have rV := r2.aft aV
      have e1 : (insAt r.names p name).length = r.names.length + 1 := by unfold insAt; simp; omega
      have e2 : (insAt r.names p name).flatMap nameC = (r.names.flatMap nameC).take (p * 1) ++ [.string name] ++ (r.names.flatMap nameC).drop (p * 1) := by
        unfold insAt
        rw [List.flatMap_append, List.flatMap_append, flatMap_take (size := 1) (fun _ => rfl), flatMap_drop (size := 1) (fun _ => rfl)]
        rfl
      have n5 : w5.ownsRow B 9 1 h.v (insAt r.names p name).length ((insAt r.names p name).flatMap nameC) := by rw [e1, e2]; exact o5
      have m5 := own_kb rV.mem kb (fun g' hg' e => r2.dis g' (Hd.mem_blk.2 (by rw [HV.out.1]; exact e)) (Hd.mem_blk.2 hg'))
      have ks := Kb.set w5 b 0 h.v
      have hbW : b < W.heap.size := (HROW.out.aft HAW.out).1
      refine ⟨KL.of ((Kb.of_aft aV).trans kb), row5.cell (j := 0) rfl, row5.2.2 0 (by simp), row5.1, Lib.hid ?_⟩
      rw [HF.out]
      simp only [if_true, Bool.false_eq_true, if_false, if_neg h16]
      refine ⟨rfl, ((Kb.of_aft (HAW.out.trans aV)).trans (kb.mono fun k _ e => (hlt k e).1)).trans (ks.mono fun k _ e => by have e : k = b := e; omega), fun _ => ⟨h, hm, ⟨own_kb n5 ks (fun g' hg' e => by
        have e : g' = b := e
        rcases hblk g' (Hd.mem_blk.2 hg') with h8 | h8
        · exact n1 (by rw [← e]; exact h8)
        · omega), own_kb m5 ks (fun g' hg' e => by
        have e : g' = b := e
        exact HBB.out.2 (Hd.mem_blk.2 (by rw [← e]; exact hg'))), fun g' hg' hg2 => ?_⟩, ?_⟩⟩
      · rcases hblk g' hg' with h8 | h8
        · exact r2.dis g' (Hd.mem_blk.2 (by rw [HV.out.1]; exact h8)) hg2
        · have := (r2.mem.lt g' (Hd.mem_blk.1 hg2)).2
          omega
      · have h6 := row5.set 0 h.v (by simp)
        rw [HV.out.2]
        exact h6)
    have HVV := Lib.hid hV
    clear r2 aV zV oV hlt row2 hV
    go_wp2_with fail
    refine wp_region_reads 7 9 (fun w' => ∃ x : KLat (.slice hn.a r.names.length hn.c) W, w' = klat (.slice hn.a r.names.length hn.c) W x) (by kernel_rfl) (by kernel_rfl) (KL.aft (Aft.refl W).drew) ?_
    simp only [List.take_succ_cons, List.take_zero, List.drop_succ_cons, List.drop_zero]
    repeat (go_big_quiet_step (fail))
    refine wpQuiet_nil ?_
    refine wpChain_step (fun K hK => ?_)
    go_simp
    refine hK _ _ (fun _ => KL.aft (((Aft.refl W).alloc _).drew)) ?_
    clear hK K
    rw [← HVV.out]
    refine wpChain_step (fun K hK => ?_)
    go_simp
    go_at_call 69
    refine CI.out.mono ?_
    rintro e w5 ⟨⟨A5, n5, c5⟩, rfl, o5, kb5, hb5⟩
    obtain ⟨hT, y0, yf, yz, HP⟩ := K2.out ⟨A5, n5, c5⟩ w5 o5 kb5 hb5
    dsimp only
    refine hK _ _ (fun _ => hT) ?_
    clear hK K o5 kb5 hb5 hT
    simp only [Hd.v] at HP ⊢
    refine wpChain_list _ (by simp) (by decide) ?_
    go_wp2_with fail
    refine NoPanic.normal ?_
    go_wp2_with fail
    go_ret
    exact HP.out
set_option maxHeartbeats 4000000 in
theorem add8 (r : Rls) (An : Option Addr) (capn : Nat) (Am : Option Addr) (capm : Nat) (name : ByteArray) (w : World) (hn : SlAt w 1 StrR An capn r.names) (hm : SlAt w 2 MbrR Am capm r.members) (hs : Small name.size) :
    Calls Try.prog 29 #[.agg #[.slice An r.names.length capn, .slice Am r.members.length capm], .string name] w (ChgP8 w (chgF r (addF name r))) := by
  have l1 : w.heap.size < w.heap.size + 1 := by omega
  have l2 : w.heap.size < w.heap.size + 1 + 1 := by omega
  have l3 : w.heap.size < w.heap.size + 1 + 1 + 1 := by omega
  obtain ⟨W, hW⟩ : ∃ W, W = ((w.alloc (.cells #[.slice An r.names.length capn, .slice Am r.members.length capm] 25)).alloc (.cells #[.string name] 9)).alloc (.cells #[.slice none 0 0, .slice none 0 0] 25) := ⟨_, rfl⟩
  have aW : Aft w W := by rw [hW]; exact (((Aft.refl w).alloc _).alloc _).alloc _
  have r2 : RowAt W (w.heap.size + 1) [.string name] := by
    rw [hW]
    have := (rowAt_new8 (w.alloc (.cells #[.slice An r.names.length capn, .slice Am r.members.length capm] 25)) [.string name] 9).aft ((Aft.refl _).alloc (.cells #[.slice none 0 0, .slice none 0 0] 25))
    simpa using this
  have r3 : RowAt W (w.heap.size + 1 + 1) [.slice none 0 0, .slice none 0 0] := by
    rw [hW]
    have := rowAt_new8 ((w.alloc (.cells #[.slice An r.names.length capn, .slice Am r.members.length capm] 25)).alloc (.cells #[.string name] 9)) [.slice none 0 0, .slice none 0 0] 25
    simpa using this
  have zW : W.heap.size = w.heap.size + 3 := by rw [hW]; simp
  have hent := enters (P := Try.prog) Try.func66 (by kernel_rfl) rfl
  have C := Lib.hid (changed8 r An capn Am capm 66 #[.pointer (some ⟨w.heap.size + 1, 0, none⟩)] (addF name r) W (strs_aft aW hn) (mbrs_aft aW hm) hent (fun hr w1 B b hn' hm' a hB rin row hb h1 h2 => add1 name (w.heap.size + 1) r w1 B b hn' hm' rin row hb h1 h2 (a.cell_kept (r2.cell (j := 0) rfl)) (by omega) (rightR_rises hr).1 (sm_rls hn hm) hs))
  have HR3 := Lib.hid r3
  have HAW := Lib.hid aW
  have HZW := Lib.hid zW
  clear hn hm r2 r3 aW zW hent
  go_enter Try.func29, Try.ntmps29
  go_wp2_with fail
  rw [← hW]
  clear hW
  refine C.out.mono ?_
  rintro e w1 ⟨⟨A1, n1, c1⟩, ⟨A2, n2, c2⟩, rfl, a1, rin⟩
  have row := HR3.out.aft a1
  have x0 := row.cell (j := 0) rfl
  have x1 := row.cell (j := 1) rfl
  have xz := row.1
  have f0 := row.2.2 0 (by simp)
  have f1 := row.2.2 1 (by simp)
  obtain ⟨F, hF⟩ : ∃ F, chgF r (addF name r) = F := ⟨_, rfl⟩
  rw [hF] at rin ⊢
  have HP := Lib.hid (show ChgP8 w F (.returned (.tuple #[.agg #[.slice A1 n1 c1, .slice A2 n2 c2], .int .i64 F.2])) ((w1.setCell ⟨w.heap.size + 1 + 1, 0, none⟩ (.slice A1 n1 c1)).setCell ⟨w.heap.size + 1 + 1, 1, none⟩ (.slice A2 n2 c2)) from by
    have k9 := (Kb.set w1 (w.heap.size + 1 + 1) 0 (.slice A1 n1 c1)).trans (Kb.set _ (w.heap.size + 1 + 1) 1 (.slice A2 n2 c2))
    have z := HZW.out
    refine ⟨⟨A1, n1, c1⟩, ⟨A2, n2, c2⟩, rfl, ((HAW.out.trans a1).setCell _ _ (by show w.heap.size ≤ w.heap.size + 1 + 1; omega)).setCell _ _ (by show w.heap.size ≤ w.heap.size + 1 + 1; omega), ?_⟩
    have r9 := rin.down (B' := w.heap.size) (by omega)
    exact ⟨own_kb r9.nam k9 (fun g hg e => by have e : g = w.heap.size + 1 + 1 := e; have := (rin.nam.lt g hg).1; omega), own_kb r9.mem k9 (fun g hg e => by have e : g = w.heap.size + 1 + 1 := e; have := (rin.mem.lt g hg).1; omega), rin.dis⟩)
  have HROW := Lib.hid row
  obtain ⟨F1, F2⟩ := F
  have HFF := Lib.hid hF
  simp only [Hd.v]
  clear rin row a1 hF
  go_wp2_with fail
  refine bodyPost_ret (results_cell_tmp (v := .agg #[.slice A1 n1 c1, .slice A2 n2 c2]) rfl _ rfl (lvRol_row (setR_row HROW.out rfl _ _))) rfl ?_
  rw [HFF.out]
  exact HP.out
end Go.Proofs.Ytcdhljcpoopfaaa
/- roles.Join: a member joins. -/
namespace Go.Proofs.Ytcdhljcpoopfaaa
open Go.RowKit Go.Deep
set_option maxRecDepth 100000
set_option linter.unusedVariables false
noncomputable def joinF (x : Mbr) (r : Rls) : Rls × Int := if inB r.names x.role && inB r.names x.of then (if thereB cmpM r.members x then (r, 70) else (if reachB r.members x.of x.role then (r, 72) else ({ r with members := insAt r.members (posB cmpM r.members x) x }, 0))) else (r, 71)
set_option maxHeartbeats 8000000 in
theorem join1 (role of : ByteArray) (b1 b2 : Nat) (r : Rls) (w : World) (B b : Nat) (hn hm : Hd) (rin : RolIn w B hn hm r) (row : RowAt w b [hn.v, hm.v]) (hB : B ≤ b) (hbn : b ∉ hn.blk) (hbm : b ∉ hm.blk) (hc1 : w.cell? ⟨b1, 0, none⟩ = some (.string role)) (hc2 : w.cell? ⟨b2, 0, none⟩ = some (.string of)) (hr : risesB cmpM r.members = true) (sm : SmRl r) (hl : r.members.length ≤ 256) (hs1 : Small role.size) (hs2 : Small of.size) :
    Calls Try.prog 58 (#[.pointer (some ⟨b, 0, none⟩)] ++ #[.pointer (some ⟨b1, 0, none⟩), .pointer (some ⟨b2, 0, none⟩)]) w (DoP8 w B b (joinF ⟨role, of⟩ r)) := by
  show Calls Try.prog 58 #[.pointer (some ⟨b, 0, none⟩), .pointer (some ⟨b1, 0, none⟩), .pointer (some ⟨b2, 0, none⟩)] w (DoP8 w B b (joinF ⟨role, of⟩ r))
  have hzn : b1 < w.heap.size := World.block_lt_of_cell? w ⟨b1, 0, none⟩ hc1
  have hzn2 : b2 < w.heap.size := World.block_lt_of_cell? w ⟨b2, 0, none⟩ hc2
  have hvn := rin.vn
  have hvm := rin.vm
  rw [hvn, hvm] at row
  obtain ⟨p, hp⟩ : ∃ p, posB cmpM r.members ⟨role, of⟩ = p := ⟨_, rfl⟩
  obtain ⟨t, ht⟩ : ∃ t, thereB cmpM r.members ⟨role, of⟩ = t := ⟨_, rfl⟩
  obtain ⟨i1, hi1⟩ : ∃ i, inB r.names role = i := ⟨_, rfl⟩
  obtain ⟨i2, hi2⟩ : ∃ i, inB r.names of = i := ⟨_, rfl⟩
  have hpl : p ≤ r.members.length := by rw [← hp]; exact posB_le _ _ _
  obtain ⟨X, hX⟩ : ∃ X, X = w.alloc (.cells #[.string role, .string of] 61) := ⟨_, rfl⟩
  have aX : Aft w X := by rw [hX]; exact (Aft.refl w).alloc _
  have CB := Lib.hid (show ∀ x : Lat X, Calls Try.prog 59 #[.slice hm.a r.members.length hm.c, .agg #[.string role, .string of], .func (.func 60) #[] #[]] (lat X x) fun e w' => e = .returned (.tuple #[.int .i64 p, .bool t]) ∧ Aft (lat X x) w' from fun x => by
    have := bsM hm.a hm.c r.members ⟨role, of⟩ (lat X x) (mbrs_aft (aX.lat x) (rin.mbrs sm)) hr
    rw [hp, ht] at this; exact this)
  have C1 := Lib.hid (show ∀ w', Aft w w' → Calls Try.prog 52 #[.slice hn.a r.names.length hn.c, .string role] w' fun e w'' => e = .returned (.bool i1) ∧ w' = w'' from fun w' a => hi1 ▸ scont8 hn.a hn.c r.names role w' (strs_aft a (rin.names sm)))
  have C2 := Lib.hid (show ∀ w', Aft w w' → Calls Try.prog 52 #[.slice hn.a r.names.length hn.c, .string of] w' fun e w'' => e = .returned (.bool i2) ∧ w' = w'' from fun w' a => hi2 ▸ scont8 hn.a hn.c r.names of w' (strs_aft a (rin.names sm)))
  have C3 := Lib.hid (show ∀ w', Aft w w' → Calls Try.prog 53 #[.agg #[.slice hn.a r.names.length hn.c, .slice hm.a r.members.length hm.c], .string of] w' (SawP w' r.members of) from fun w' a => seen_in r hn.a hn.c hm.a hm.c of w' (mbrs_aft a (rin.mbrs sm)) hs2)
  have HF := Lib.hid (show joinF ⟨role, of⟩ r = if i1 && i2 then (if t then (r, 70) else (if reachB r.members of role then (r, 72) else ({ r with members := insAt r.members p ⟨role, of⟩ }, 0))) else (r, 71) by unfold joinF; rw [ht, hp]; show (if inB r.names role && inB r.names of then _ else _) = _; rw [hi1, hi2])
  have KX := Lib.hid (show ∀ w', Aft X w' → (w'.cell? ⟨b, 0, none⟩ = some (.slice hn.a r.names.length hn.c) ∧ w'.cell? ⟨b, 1, none⟩ = some (.slice hm.a r.members.length hm.c) ∧ w'.cell? ⟨b1, 0, none⟩ = some (.string role) ∧ w'.cell? ⟨b2, 0, none⟩ = some (.string of) ∧ w'.cell? ⟨w.heap.size, 0, none⟩ = some (.string role) ∧ w'.cell? ⟨w.heap.size, 1, none⟩ = some (.string of) ∧ b < w'.heap.size ∧ b1 < w'.heap.size ∧ b2 < w'.heap.size ∧ w.heap.size < w'.heap.size) from fun w' a => by
    have q := (row.aft aX).aft a
    have y1 := (aX.trans a).cell_kept hc1
    have y2 := (aX.trans a).cell_kept hc2
    rw [hX] at a
    obtain ⟨hb, _, hz, _, _⟩ := aft_box a
    exact ⟨q.cell (j := 0) rfl, q.cell (j := 1) rfl, y1, y2, by rw [hb]; rfl, by rw [hb]; rfl, q.1, World.block_lt_of_cell? _ _ y1, World.block_lt_of_cell? _ _ y2, hz.1⟩)
  have HRIN := Lib.hid rin
  have HROW := Lib.hid row
  have HBB := Lib.hid (And.intro hbn hbm)
  have HV := Lib.hid (And.intro hvn hvm)
  have HAX := Lib.hid aX
  clear hp ht hi1 hi2 rin row hbn hbm hvn hvm hr aX
  go_enter Try.func58, Try.ntmps58
  go_wp2_with fail
  rw [← hX]
  obtain ⟨g1, g2, g3, g4, g5, g6, g7, g8, g9, g10⟩ := KX.out X (Aft.refl _)
  clear hX
  refine wp_region_lat (by kernel_rfl) (by kernel_rfl) ?_
  repeat (go_big_quiet_step ((go_at_call 59; exact Calls.lat_of (CB.out _))))
  refine wpQuiet_nil ?_
  intro _ hw'
  obtain ⟨x, hw''⟩ := hw'
  subst hw''
  obtain ⟨W, hW⟩ : ∃ W, W = lat X x := ⟨_, rfl⟩
  have aW : Aft X W := by rw [hW]; exact (Aft.refl X).lat x
  rw [← hW]
  have HAW := Lib.hid aW
  clear g1 g2 g3 g4 g5 g6 g7 g8 g9 g10 hc1 hc2 hzn hzn2
  obtain ⟨g1, g2, g3, g4, g5, g6, g7, g8, g9, g10⟩ := KX.out W aW
  clear hW aW CB
  go_wp2_with fail
  have HP := Lib.hid (show ∀ w', Aft X w' → (i1 && i2) = false → DoP8 w B b (joinF ⟨role, of⟩ r) (.returned (.int .i64 71)) w' from fun w' a h => by rw [HF.out, h]; exact ⟨rfl, Kb.of_aft (HAX.out.trans a), fun h => by simp at h⟩)
  cases i1
  · refine wp_region_lat (by kernel_rfl) (by kernel_rfl) ?_
    repeat (go_big_quiet_step ((go_at_call 52; first | (with_reducible exact Calls.lat_same (C1.out _ ((HAX.out.trans HAW.out).lat _))) | (with_reducible exact Calls.lat_same (C2.out _ ((HAX.out.trans HAW.out).lat _))))))
    refine wpQuiet_nil ?_
    intro _ hw'
    obtain ⟨y, hw''⟩ := hw'
    subst hw''
    go_wp2_with fail
    go_ret
    exact HP.out _ (HAW.out.lat y) rfl
  cases i2
  · refine wp_region_lat (by kernel_rfl) (by kernel_rfl) ?_
    repeat (go_big_quiet_step ((go_at_call 52; first | (with_reducible exact Calls.lat_same (C1.out _ ((HAX.out.trans HAW.out).lat _))) | (with_reducible exact Calls.lat_same (C2.out _ ((HAX.out.trans HAW.out).lat _))))))
    refine wpQuiet_nil ?_
    intro _ hw'
    obtain ⟨y, hw''⟩ := hw'
    subst hw''
    go_wp2_with fail
    go_ret
    exact HP.out _ (HAW.out.lat y) rfl
  refine wp_region_lat (by kernel_rfl) (by kernel_rfl) ?_
  repeat (go_big_quiet_step ((go_at_call 52; first | (with_reducible exact Calls.lat_same (C1.out _ ((HAX.out.trans HAW.out).lat _))) | (with_reducible exact Calls.lat_same (C2.out _ ((HAX.out.trans HAW.out).lat _))))))
  refine wpQuiet_nil ?_
  intro _ hw'
  obtain ⟨y, hw''⟩ := hw'
  subst hw''
  obtain ⟨W3, hW3⟩ : ∃ W3, W3 = lat W y := ⟨_, rfl⟩
  have a3 : Aft X W3 := by rw [hW3]; exact HAW.out.lat y
  rw [← hW3]
  have HA3 := Lib.hid a3
  clear g1 g2 g3 g4 g5 g6 g7 g8 g9 g10
  obtain ⟨g1, g2, g3, g4, g5, g6, g7, g8, g9, g10⟩ := KX.out W3 a3
  clear hW3 a3 HP
  cases t
  case true =>
    have HP := Lib.hid (show DoP8 w B b (joinF ⟨role, of⟩ r) (.returned (.int .i64 70)) W3 from by rw [HF.out]; exact ⟨rfl, Kb.of_aft (HAX.out.trans HA3.out), fun h => by simp at h⟩)
    go_wp2_with fail
    go_ret
    exact HP.out
  have KS := Lib.hid (show ∀ w', Aft W3 w' → (Aft W3 w' ∧ w'.cell? ⟨b, 0, none⟩ = some (.slice hn.a r.names.length hn.c) ∧ w'.cell? ⟨b, 1, none⟩ = some (.slice hm.a r.members.length hm.c) ∧ w'.cell? ⟨b1, 0, none⟩ = some (.string role) ∧ w'.cell? ⟨b2, 0, none⟩ = some (.string of)) from fun w' a => ⟨a, a.cell_kept g1, a.cell_kept g2, a.cell_kept g3, a.cell_kept g4⟩)
  go_wp2_with fail
  go_region_held3 (fun w' => Aft W3 w' ∧ w'.cell? ⟨b, 0, none⟩ = some (.slice hn.a r.names.length hn.c) ∧ w'.cell? ⟨b, 1, none⟩ = some (.slice hm.a r.members.length hm.c) ∧ w'.cell? ⟨b1, 0, none⟩ = some (.string role) ∧ w'.cell? ⟨b2, 0, none⟩ = some (.string of))
    (first | exact KS.out _ (Aft.refl _).drew | exact KS.out _ (And.left (by assumption)) | exact KS.out _ (Aft.trans (And.left (by assumption : Aft W3 _ ∧ _)) (by assumption)))
    ((go_at_call 53; refine (C3.out _ ((HAX.out.trans HA3.out).trans (And.left (by assumption : Aft W3 _ ∧ _)))).mono ?_; rintro e w5 ⟨bf, rfl, a5, c5, n5, M5, bd5, hr5⟩; have LK := (saw_look M5 (Aft.refl _) hr5 role hs1.max).1; have RR := Lib.hid (saw_look M5 (Aft.refl _) hr5 role hs1.max).2; have BB := bd5 (txt role)))
  have HA5 := Lib.hid (HA3.out.trans (And.left (by assumption : Aft W3 w5 ∧ _)))
  have HRR := RR
  clear M5 bd5 hr5 LK RR a5 g1 g2 g3 g4 g5 g6 g7 g8 g9 g10
  obtain ⟨W5, hW5⟩ : ∃ W5, W5 = w5 := ⟨_, rfl⟩
  subst hW5
  obtain ⟨g1, g2, g3, g4, g5, g6, g7, g8, g9, g10⟩ := KX.out W5 HA5.out
  by_cases h5 : 0 < c5 (txt role)
  · have h5i : (0 : Int) < ((c5 (txt role) : Nat) : Int) := by omega
    have HP := Lib.hid (show DoP8 w B b (joinF ⟨role, of⟩ r) (.returned (.int .i64 72)) W5 from by
      have hq : reachB r.members of role = true := by rw [← HRR.out]; simp [h5]
      rw [HF.out, hq]
      exact ⟨rfl, Kb.of_aft (HAX.out.trans HA5.out), fun h => by simp at h⟩)
    go_wp2_with fail
    go_ret
    exact HP.out
  · have h5i : ¬ (0 : Int) < ((c5 (txt role) : Nat) : Int) := by omega
    have HQ := Lib.hid (show reachB r.members of role = false by rw [← HRR.out]; simp [h5])
    have aW5 := HAX.out.trans HA5.out
    have r2 := HRIN.out.aft aW5
    have n1 : ¬ InV (.slice hm.a r.members.length hm.c) b := fun h => HBB.out.2 (Hd.mem_blk.2 (by rw [HV.out.2]; exact h))
    have n2 : ¬ InV (.slice hm.a r.members.length hm.c) w.heap.size := fun h => by have := (HRIN.out.mem.lt w.heap.size (by rw [HV.out.2]; exact h)).2; omega
    obtain ⟨V, hV⟩ : ∃ V, V = (W5.alloc (.cells #[.string role, .string of] 61)).drew := ⟨_, rfl⟩
    have aV : Aft W5 V := by rw [hV]; exact ((Aft.refl W5).alloc _).drew
    have zV : V.heap.size = W5.heap.size + 1 := by rw [hV]; simp
    have oV : V.ownsRow B 61 2 (.slice hm.a r.members.length hm.c) r.members.length (r.members.flatMap mbrC) := by rw [← HV.out.2]; exact own_aft r2.mem aV
    have hlt : ∀ g, (Value.slice hm.a r.members.length hm.c).ownBlock = some g → B ≤ g ∧ g < W5.heap.size := fun g hg => r2.mem.lt g (by rw [HV.out.2]; exact hg)
    have CI := Lib.hid (insMem hm.a r.members.length hm.c p B W5.heap.size (r.members.flatMap mbrC) ⟨role, of⟩ V oV hpl (oneC_cells oneC_mbr _) (by rw [hV]; exact heap_alloc_new W5 _) (fun e => by have := (hlt _ e).2; omega) (by omega) (by have h6 := HROW.out.1; have h7 := aW5.size; omega))
    have row2 := HROW.out.aft (aW5.trans aV)
    have K2 := Lib.hid (show ∀ (h : Hd) (w6 : World), w6.ownsRow B 61 2 h.v (r.members.length + 1) ((r.members.flatMap mbrC).take (p * 2) ++ [.string role, .string of] ++ (r.members.flatMap mbrC).drop (p * 2)) → Kb (InV (.slice hm.a r.members.length hm.c)) V w6 → (∀ g ∈ h.blk, (Value.slice hm.a r.members.length hm.c).ownBlock = some g ∨ V.heap.size ≤ g) → ((∃ x : KLat (.slice hm.a r.members.length hm.c) W5, w6 = klat (.slice hm.a r.members.length hm.c) W5 x) ∧ w6.cell? ⟨b, 1, none⟩ = some (.slice hm.a r.members.length hm.c) ∧ w6.frozen? ⟨b, 1, none⟩ = false ∧ b < w6.heap.size ∧ Hid (DoP8 w B b (joinF ⟨role, of⟩ r) (.returned (.int .i64 0)) (w6.setCell ⟨b, 1, none⟩ h.v))) from fun h w6 o5 kb hblk => by
      have row5 := kb.row row2 n1
      have rV := r2.aft aV
      have e1 : (insAt r.members p ⟨role, of⟩).length = r.members.length + 1 := by unfold insAt; simp; omega
      have e2 : (insAt r.members p ⟨role, of⟩).flatMap mbrC = (r.members.flatMap mbrC).take (p * 2) ++ [.string role, .string of] ++ (r.members.flatMap mbrC).drop (p * 2) := by
        unfold insAt
        rw [List.flatMap_append, List.flatMap_append, flatMap_take (size := 2) (fun _ => rfl), flatMap_drop (size := 2) (fun _ => rfl)]
        rfl
      have m5 : w6.ownsRow B 61 2 h.v (insAt r.members p ⟨role, of⟩).length ((insAt r.members p ⟨role, of⟩).flatMap mbrC) := by rw [e1, e2]; exact o5
      have n5' := own_kb rV.nam kb (fun g' hg' e => r2.dis g' (Hd.mem_blk.2 hg') (Hd.mem_blk.2 (by rw [HV.out.2]; exact e)))
      have ks := Kb.set w6 b 1 h.v
      have hbW : b < W5.heap.size := (HROW.out.aft aW5).1
      refine ⟨KL.of ((Kb.of_aft aV).trans kb), row5.cell (j := 1) rfl, row5.2.2 1 (by simp), row5.1, Lib.hid ?_⟩
      rw [HF.out, HQ.out]
      simp only [Bool.and_self, if_true, Bool.false_eq_true, if_false]
      refine ⟨rfl, ((Kb.of_aft (aW5.trans aV)).trans (kb.mono fun k _ e => (hlt k e).1)).trans (ks.mono fun k _ e => by have e : k = b := e; omega), fun _ => ⟨hn, h, ⟨own_kb n5' ks (fun g' hg' e => by
        have e : g' = b := e
        exact HBB.out.1 (Hd.mem_blk.2 (by rw [← e]; exact hg'))), own_kb m5 ks (fun g' hg' e => by
        have e : g' = b := e
        rcases hblk g' (Hd.mem_blk.2 hg') with h8 | h8
        · exact n1 (by rw [← e]; exact h8)
        · omega), fun g' hg' hg2 => ?_⟩, ?_⟩⟩
      · rcases hblk g' hg2 with h8 | h8
        · exact r2.dis g' hg' (Hd.mem_blk.2 (by rw [HV.out.2]; exact h8))
        · have := (r2.nam.lt g' (Hd.mem_blk.1 hg')).2
          omega
      · have h6 := row5.set 1 h.v (by simp)
        rw [HV.out.1]
        exact h6)
    have HVV := Lib.hid hV
    clear r2 aV zV oV hlt row2 hV aW5
    go_wp2_with fail
    refine wp_region_reads 7 9 (fun w' => ∃ x : KLat (.slice hm.a r.members.length hm.c) W5, w' = klat (.slice hm.a r.members.length hm.c) W5 x) (by kernel_rfl) (by kernel_rfl) (KL.aft (Aft.refl W5).drew) ?_
    simp only [List.take_succ_cons, List.take_zero, List.drop_succ_cons, List.drop_zero]
    repeat (go_big_quiet_step (fail))
    refine wpQuiet_nil ?_
    refine wpChain_step (fun K hK => ?_)
    go_simp
    refine hK _ _ (fun _ => KL.aft (((Aft.refl W5).alloc _).drew)) ?_
    clear hK K
    rw [← HVV.out]
    refine wpChain_step (fun K hK => ?_)
    go_simp
    go_at_call 61
    refine CI.out.mono ?_
    rintro e w6 ⟨⟨A5, n5, c5⟩, rfl, o5, kb5, hb5⟩
    obtain ⟨hT, y0, yf, yz, HP⟩ := K2.out ⟨A5, n5, c5⟩ w6 o5 kb5 hb5
    dsimp only
    refine hK _ _ (fun _ => hT) ?_
    clear hK K o5 kb5 hb5 hT
    simp only [Hd.v] at HP ⊢
    refine wpChain_list _ (by simp) (by decide) ?_
    go_wp2_with fail
    refine NoPanic.normal ?_
    go_wp2_with fail
    go_ret
    exact HP.out
theorem rightR_len8 {r : Rls} (h : rightR r = true) : r.names.length ≤ 16 ∧ r.members.length ≤ 256 := by
  unfold rightR at h
  simp only [Bool.and_eq_true, decide_eq_true_eq] at h
  exact ⟨h.1.1.1.1, h.1.1.1.2⟩
set_option maxHeartbeats 4000000 in
theorem join8 (r : Rls) (An : Option Addr) (capn : Nat) (Am : Option Addr) (capm : Nat) (role of : ByteArray) (w : World) (hn : SlAt w 1 StrR An capn r.names) (hm : SlAt w 2 MbrR Am capm r.members) (hs1 : Small role.size) (hs2 : Small of.size) :
    Calls Try.prog 23 #[.agg #[.slice An r.names.length capn, .slice Am r.members.length capm], .string role, .string of] w (ChgP8 w (chgF r (joinF ⟨role, of⟩ r))) := by
  have l1 : w.heap.size < w.heap.size + 1 := by omega
  have l2 : w.heap.size < w.heap.size + 1 + 1 := by omega
  have l3 : w.heap.size < w.heap.size + 1 + 1 + 1 := by omega
  have l4 : w.heap.size < w.heap.size + 1 + 1 + 1 + 1 := by omega
  obtain ⟨W, hW⟩ : ∃ W, W = (((w.alloc (.cells #[.slice An r.names.length capn, .slice Am r.members.length capm] 25)).alloc (.cells #[.string role] 9)).alloc (.cells #[.string of] 9)).alloc (.cells #[.slice none 0 0, .slice none 0 0] 25) := ⟨_, rfl⟩
  have aW : Aft w W := by rw [hW]; exact ((((Aft.refl w).alloc _).alloc _).alloc _).alloc _
  have r2 : RowAt W (w.heap.size + 1) [.string role] := by
    rw [hW]
    have := (rowAt_new8 (w.alloc (.cells #[.slice An r.names.length capn, .slice Am r.members.length capm] 25)) [.string role] 9).aft (((Aft.refl _).alloc (.cells #[.string of] 9)).alloc (.cells #[.slice none 0 0, .slice none 0 0] 25))
    simpa using this
  have r2' : RowAt W (w.heap.size + 1 + 1) [.string of] := by
    rw [hW]
    have := (rowAt_new8 ((w.alloc (.cells #[.slice An r.names.length capn, .slice Am r.members.length capm] 25)).alloc (.cells #[.string role] 9)) [.string of] 9).aft ((Aft.refl _).alloc (.cells #[.slice none 0 0, .slice none 0 0] 25))
    simpa using this
  have r3 : RowAt W (w.heap.size + 1 + 1 + 1) [.slice none 0 0, .slice none 0 0] := by
    rw [hW]
    have := rowAt_new8 (((w.alloc (.cells #[.slice An r.names.length capn, .slice Am r.members.length capm] 25)).alloc (.cells #[.string role] 9)).alloc (.cells #[.string of] 9)) [.slice none 0 0, .slice none 0 0] 25
    simpa using this
  have zW : W.heap.size = w.heap.size + 4 := by rw [hW]; simp
  have hent := enters (P := Try.prog) Try.func58 (by kernel_rfl) rfl
  have C := Lib.hid (changed8 r An capn Am capm 58 #[.pointer (some ⟨w.heap.size + 1, 0, none⟩), .pointer (some ⟨w.heap.size + 1 + 1, 0, none⟩)] (joinF ⟨role, of⟩ r) W (strs_aft aW hn) (mbrs_aft aW hm) hent (fun hr w1 B b hn' hm' a hB rin row hb h1 h2 => join1 role of (w.heap.size + 1) (w.heap.size + 1 + 1) r w1 B b hn' hm' rin row hb h1 h2 (a.cell_kept (r2.cell (j := 0) rfl)) (a.cell_kept (r2'.cell (j := 0) rfl)) (rightR_rises hr).2 (sm_rls hn hm) (rightR_len8 hr).2 hs1 hs2))
  have HR3 := Lib.hid r3
  have HAW := Lib.hid aW
  have HZW := Lib.hid zW
  clear hn hm r2 r2' r3 aW zW hent
  go_enter Try.func23, Try.ntmps23
  go_wp2_with fail
  rw [← hW]
  clear hW
  refine C.out.mono ?_
  rintro e w1 ⟨⟨A1, n1, c1⟩, ⟨A2, n2, c2⟩, rfl, a1, rin⟩
  have row := HR3.out.aft a1
  have x0 := row.cell (j := 0) rfl
  have x1 := row.cell (j := 1) rfl
  have xz := row.1
  have f0 := row.2.2 0 (by simp)
  have f1 := row.2.2 1 (by simp)
  obtain ⟨F, hF⟩ : ∃ F, chgF r (joinF ⟨role, of⟩ r) = F := ⟨_, rfl⟩
  rw [hF] at rin ⊢
  have HP := Lib.hid (show ChgP8 w F (.returned (.tuple #[.agg #[.slice A1 n1 c1, .slice A2 n2 c2], .int .i64 F.2])) ((w1.setCell ⟨w.heap.size + 1 + 1 + 1, 0, none⟩ (.slice A1 n1 c1)).setCell ⟨w.heap.size + 1 + 1 + 1, 1, none⟩ (.slice A2 n2 c2)) from by
    have k9 := (Kb.set w1 (w.heap.size + 1 + 1 + 1) 0 (.slice A1 n1 c1)).trans (Kb.set _ (w.heap.size + 1 + 1 + 1) 1 (.slice A2 n2 c2))
    have z := HZW.out
    refine ⟨⟨A1, n1, c1⟩, ⟨A2, n2, c2⟩, rfl, ((HAW.out.trans a1).setCell _ _ (by show w.heap.size ≤ w.heap.size + 1 + 1 + 1; omega)).setCell _ _ (by show w.heap.size ≤ w.heap.size + 1 + 1 + 1; omega), ?_⟩
    have r9 := rin.down (B' := w.heap.size) (by omega)
    exact ⟨own_kb r9.nam k9 (fun g hg e => by have e : g = w.heap.size + 1 + 1 + 1 := e; have := (rin.nam.lt g hg).1; omega), own_kb r9.mem k9 (fun g hg e => by have e : g = w.heap.size + 1 + 1 + 1 := e; have := (rin.mem.lt g hg).1; omega), rin.dis⟩)
  have HROW := Lib.hid row
  obtain ⟨F1, F2⟩ := F
  have HFF := Lib.hid hF
  simp only [Hd.v]
  clear rin row a1 hF
  go_wp2_with fail
  refine bodyPost_ret (results_cell_tmp (v := .agg #[.slice A1 n1 c1, .slice A2 n2 c2]) rfl _ rfl (lvRol_row (setR_row HROW.out rfl _ _))) rfl ?_
  rw [HFF.out]
  exact HP.out
end Go.Proofs.Ytcdhljcpoopfaaa
