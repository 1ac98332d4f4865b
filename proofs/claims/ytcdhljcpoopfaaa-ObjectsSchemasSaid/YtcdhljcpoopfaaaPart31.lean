/- Contracts of the program, part 31. -/
import Derived.Test.YtcdhljcpoopfaaaPart30
/- objects.AddSchema, objects.DropSchema, whole. -/
namespace Go.Proofs.Ytcdhljcpoopfaaa
open Go.RowKit Go.Deep Go.Sort
set_option maxRecDepth 100000
set_option linter.unusedVariables false
theorem own_cap7 {w : World} {B size n : Nat} {e : TypeId} {v : Value} {xs : List Value} (h : w.ownsRow B e size v n xs) : ∀ A n c, v = .slice A n c → c ≤ 9223372036854775807 := by
  intro A n c hv
  rcases h.2 with ⟨rfl, _⟩ | ⟨g, cap, cur, rfl, _, _, _, hcm, _⟩
  · simp only [Value.slice.injEq] at hv; omega
  · simp only [Value.slice.injEq] at hv
    have : cap ≤ maxLen := hcm
    unfold maxLen at this
    omega
theorem addSchR_zero {name owner : ByteArray} {o : Objs} : (addSchR name owner o).2 ≠ 0 → (addSchR name owner o).1 = zeroO := by
  unfold addSchR
  split
  · exact fun _ => rfl
  · split
    · exact fun _ => rfl
    · split
      · exact fun _ => rfl
      · exact fun h => absurd rfl h
theorem dropSchR_zero {name : ByteArray} {o : Objs} : (dropSchR name o).2 ≠ 0 → (dropSchR name o).1 = zeroO := by
  unfold dropSchR
  split
  · exact fun _ => rfl
  · split
    · exact fun _ => rfl
    · exact fun h => absurd rfl h
set_option maxHeartbeats 8000000 in
theorem dropSch1_in (name : ByteArray) (o : Objs) (w : World) (hs ht : Hd) (L : List OTab) (B n3 bn : Nat) (hbn : B ≤ n3) (hL : L.map OTab.t = o.tables) (ob : ObjIn w B hs ht o.schemas L) (hne : ∀ g ∈ hs.blk ++ (ht.blk ++ L.flatMap OTab.blks), g ≠ n3)
    (r3 : RowAt w n3 [.slice hs.a o.schemas.length hs.c, .slice ht.a o.tables.length ht.c]) (hc1 : w.cell? ⟨bn, 0, none⟩ = some (.string name)) (sm : SmO o) :
    Calls Try.prog 86 (#[.pointer (some ⟨n3, 0, none⟩)] ++ #[.pointer (some ⟨bn, 0, none⟩)]) w (DoP w B n3 (dropSchR name o)) := by
  show Calls Try.prog 86 #[.pointer (some ⟨n3, 0, none⟩), .pointer (some ⟨bn, 0, none⟩)] w (DoP w B n3 (dropSchR name o))
  have hoo : objOf o.schemas L = o := by unfold objOf; rw [hL]
  have hsch : SlAt w 2 SchR hs.a hs.c o.schemas := ob.schs (by rw [hoo]; exact sm)
  have htab : SlAt w 5 TabR ht.a ht.c o.tables := by have := ob.tabs (by rw [hoo]; exact sm); rw [hL] at this; exact this
  have hlen := hsch.len
  have z1 : bn < w.heap.size := World.block_lt_of_cell? _ _ hc1
  have x0 := r3.cell (j := 0) rfl
  have x1 := r3.cell (j := 1) rfl
  have xz := r3.1
  obtain ⟨i, hi⟩ : ∃ i, schAt o.schemas name = i := ⟨_, rfl⟩
  obtain ⟨m, hm⟩ : ∃ m, within o.tables name = m := ⟨_, rfl⟩
  have hir : -1 ≤ i ∧ i < o.schemas.length := by rw [← hi]; exact idxP_range _ _
  have CB := Lib.hid (show ∀ x : Lat w, Calls Try.prog 78 #[.slice hs.a o.schemas.length hs.c, .string name, .func (.func 79) #[] #[]] (lat w x) fun e w'' => e = .returned (.int .i64 i) ∧ Aft (lat w x) w'' from
    fun x => (bySch hs.a hs.c o.schemas name _ (schs_aft ((Aft.refl w).lat x) hsch)).mono fun e w'' ⟨he, hw⟩ => ⟨he.trans (by rw [← hi]; rfl), hw⟩)
  have CW := Lib.hid (show ∀ W, Aft w W → ∀ x : Lat W, Calls Try.prog 87 #[.agg #[.slice hs.a o.schemas.length hs.c, .slice ht.a o.tables.length ht.c], .string name] (lat W x) fun e w'' => e = .returned (.int .i64 m) ∧ Aft (lat W x) w'' from
    fun W a x => (within_any _ ht.a ht.c o.tables name _ (tabs_aft (a.lat x) htab)).mono fun e w'' ⟨he, hw⟩ => ⟨he.trans (by rw [← hm]), hw⟩)
  have HE := Lib.hid (show dropSchR name o = if i < 0 then (zeroO, 61) else if 0 < m then (zeroO, 62) else (⟨o.schemas.eraseIdx i.toNat, o.tables⟩, 0) by unfold dropSchR; rw [hi, hm])
  have HOB := Lib.hid ob
  have HR3 := Lib.hid r3
  have HNE := Lib.hid hne
  have HL := Lib.hid hL
  have HCS := Lib.hid (show hs.v = .slice hs.a o.schemas.length hs.c from own_slice ob.sch)
  have ERR := Lib.hid (show ∀ w', Aft w w' → ∀ c : Int, c ≠ 0 → DoP w B n3 (zeroO, c) (.returned (.int .i64 c)) w' from fun w' a c hc => ⟨rfl, Kb.of_aft a, fun h => absurd h hc⟩)
  clear ob r3 hne hL hoo hi hsch htab hm sm
  go_enter Try.func86, Try.ntmps86
  go_wp2_with fail
  refine wp_region_lat (by kernel_rfl) (by kernel_rfl) ?_
  repeat (go_big_quiet_step ((go_at_call 78; exact Calls.lat_of (CB.out _))))
  refine wpQuiet_nil ?_
  intro _ hw'
  obtain ⟨x, hw''⟩ := hw'
  subst hw''
  obtain ⟨W, hW⟩ : ∃ W, W = lat w x := ⟨_, rfl⟩
  have aW : Aft w W := by rw [hW]; exact (Aft.refl w).lat x
  rw [← hW]
  have x0 := aW.cell_kept x0
  have x1 := aW.cell_kept x1
  have hc1 := aW.cell_kept hc1
  have xz := Nat.lt_of_lt_of_le xz aW.size
  have z1 := Nat.lt_of_lt_of_le z1 aW.size
  have HAW := Lib.hid aW
  have CW' := Lib.hid (CW.out W aW)
  clear hW aW CB CW
  by_cases h0 : i < 0
  · go_wp2_with fail
    go_ret
    rw [HE.out]
    simp only [if_pos h0]
    exact ERR.out _ HAW.out 61 (by decide)
  have HH0 := Lib.hid h0
  by_cases hm0 : 0 < m
  · have hd : (0 : Int) < (m : Int) := by omega
    have HM := Lib.hid hm0
    go_wp2_with fail
    refine wp_region_lat (by kernel_rfl) (by kernel_rfl) ?_
    repeat (go_big_quiet_step ((go_at_call 87; exact Calls.lat_of (CW'.out _))))
    refine wpQuiet_nil ?_
    intro _ hw'
    obtain ⟨x, hw''⟩ := hw'
    subst hw''
    go_wp2_with fail
    go_ret
    rw [HE.out]
    simp only [if_neg (show ¬ i < 0 by have := HH0.out; omega), if_pos (show 0 < m by have := HM.out; omega)]
    exact ERR.out _ (HAW.out.lat x) 62 (by decide)
  have hd : ¬ (0 : Int) < (m : Int) := by omega
  have HM := Lib.hid hm0
  clear hm0
  go_wp2_with fail
  refine wp_region_lat (by kernel_rfl) (by kernel_rfl) ?_
  repeat (go_big_quiet_step ((go_at_call 87; exact Calls.lat_of (CW'.out _))))
  refine wpQuiet_nil ?_
  intro _ hw'
  obtain ⟨x, hw''⟩ := hw'
  subst hw''
  obtain ⟨V, hV⟩ : ∃ V, V = lat W x := ⟨_, rfl⟩
  have aV : Aft W V := by rw [hV]; exact (Aft.refl W).lat x
  rw [← hV]
  have x0 := aV.cell_kept x0
  have x1 := aV.cell_kept x1
  have xz := Nat.lt_of_lt_of_le xz aV.size
  have HAV := Lib.hid (HAW.out.trans aV)
  clear hV aV CW'
  obtain ⟨p, hp⟩ : ∃ p : Nat, i = p := ⟨i.toNat, by omega⟩
  subst hp
  have hpl : p < o.schemas.length := by omega
  have r2 := HOB.out.aft HAV.out
  obtain ⟨g, cap, hv, hgB, hnc, hrow⟩ := own_rowAt r2.sch (by omega)
  obtain ⟨k, hk⟩ : ∃ k, o.schemas.length = p + 1 + k := ⟨o.schemas.length - p - 1, by omega⟩
  have o2 : V.ownsRow B 92 2 (.slice (some ⟨g, 0, none⟩) (p + 1 + k) cap) (p + 1 + k) (o.schemas.flatMap schC) := by
    have := r2.sch
    rw [hv, hk] at this
    exact this
  have hcapm : cap ≤ 9223372036854775807 := own_cap7 r2.sch _ _ _ hv
  have CD := Lib.hid (delSch g cap p k B (o.schemas.flatMap schC) V o2 (oneC_cells oneC_sch _) hcapm)
  have hvs : Value.slice hs.a o.schemas.length hs.c = .slice (some ⟨g, 0, none⟩) (p + 1 + k) cap := by rw [← HCS.out, hv, hk]
  have row2 := HR3.out.aft HAV.out
  have hgin : g ∈ hs.blk := Hd.mem_blk.2 (by rw [hv]; rfl)
  have hgb : g ≠ n3 := HNE.out g (List.mem_append.2 (.inl hgin))
  rw [hvs] at x0
  have K2 := Lib.hid (show ∀ w3, Kb (fun j => j = g) V w3 → w3.ownsRow B 92 2 (.slice (some ⟨g, 0, none⟩) (p + k) cap) (p + k) ((o.schemas.flatMap schC).take (p * 2) ++ (o.schemas.flatMap schC).drop ((p + 1) * 2)) → (w3.cell? ⟨n3, 0, none⟩ = some (.slice (some ⟨g, 0, none⟩) (p + 1 + k) cap) ∧ w3.frozen? ⟨n3, 0, none⟩ = false ∧ n3 < w3.heap.size ∧ Hid (DoP w B n3 (dropSchR name o) (.returned (.int .i64 0)) (w3.setCell ⟨n3, 0, none⟩ (.slice (some ⟨g, 0, none⟩) (p + k) cap)))) from fun w3 kb o3 => by
    have row3 := kb.row row2 (fun e => hgb e.symm)
    rw [hvs] at row3
    have e1 : (o.schemas.eraseIdx p).length = p + k := by rw [List.length_eraseIdx_of_lt (by omega)]; omega
    have n3' : w3.ownsRow B 92 2 (Hd.mk (some ⟨g, 0, none⟩) (p + k) cap).v (o.schemas.eraseIdx p).length ((o.schemas.eraseIdx p).flatMap schC) := by
      rw [e1, ← flatMap_erase (size := 2) (fun _ => rfl)]; exact o3
    have ks := Kb.set w3 n3 0 (.slice (some ⟨g, 0, none⟩) (p + k) cap)
    refine ⟨row3.cell (j := 0) rfl, row3.2.2 0 (by simp), row3.1, Lib.hid ?_⟩
    rw [HE.out]
    simp only [if_neg (show ¬ (p : Int) < 0 by omega), if_neg (show ¬ 0 < m by have := HM.out; omega), Int.toNat_natCast]
    have obn := r2.newSch kb (h' := ⟨some ⟨g, 0, none⟩, p + k, cap⟩) (fun j hj e => by
      have e : j = g := e
      exact nodup_disj r2.nd hgin (by rw [← e]; exact hj)) n3' (fun j hj => by
      rw [blk_some, List.mem_singleton] at hj
      have hj : j = g := hj
      exact .inl (by rw [hj]; exact hgin))
    refine ⟨rfl, ((Kb.of_aft HAV.out).trans (kb.mono fun j _ e => by have e : j = g := e; omega)).trans (ks.mono fun j _ e => by have e : j = n3 := e; omega), fun _ => ⟨⟨some ⟨g, 0, none⟩, p + k, cap⟩, ht, L, HL.out, obn.kb ks (fun j hj e => ?_), ?_⟩⟩
    · have e : j = n3 := e
      rcases List.mem_append.1 hj with h1 | h1
      · rw [blk_some, List.mem_singleton] at h1
        have h1 : j = g := h1
        exact hgb (by rw [← h1, e])
      · exact HNE.out j (List.mem_append.2 (.inr h1)) e
    · have h6 := row3.set 0 (.slice (some ⟨g, 0, none⟩) (p + k) cap) (by simp)
      rw [e1]
      exact h6)
  clear r2 hv hrow o2 hvs row2 hk hgb hgin h0 hnc hgB
  go_wp2_with fail
  refine CD.out.mono ?_
  rintro e w3 ⟨rfl, o3, kb⟩
  obtain ⟨y0, yf, yz, HP⟩ := K2.out w3 kb o3
  clear o3 kb
  go_wp2_with fail
  go_ret
  exact HP.out
set_option maxHeartbeats 8000000 in
theorem addSchema_in (o : Objs) (As : Option Addr) (caps : Nat) (At : Option Addr) (capt : Nat) (name owner : ByteArray) (w : World) (hsch : SlAt w 2 SchR As caps o.schemas) (htab : SlAt w 5 TabR At capt o.tables) (hs1 : Small name.size) (hs2 : Small owner.size) :
    Calls Try.prog 36 #[.agg #[.slice As o.schemas.length caps, .slice At o.tables.length capt], .string name, .string owner] w (ObjP w (chgR o (addSchR name owner o))) := by
  have hlen := hsch.len
  have hlen2 := htab.len
  have sm : SmO o := ⟨sm_schs hsch, sm_tabs htab⟩
  have hent := enters (P := Try.prog) Try.func77 (by kernel_rfl) rfl
  have l1 : w.heap.size < w.heap.size + 1 := by omega
  have l2 : w.heap.size < w.heap.size + 1 + 1 := by omega
  have l3 : w.heap.size < w.heap.size + 1 + 1 + 1 := by omega
  obtain ⟨W, hW⟩ : ∃ W, W = (((w.alloc (.cells #[.slice As o.schemas.length caps, .slice At o.tables.length capt] 45)).alloc (.cells #[.string name] 9)).alloc (.cells #[.string owner] 9)).alloc (.cells #[.slice none 0 0, .slice none 0 0] 45) := ⟨_, rfl⟩
  have aW : Aft w W := by rw [hW]; exact ((((Aft.refl w).alloc _).alloc _).alloc _).alloc _
  have rs0 : RowAt W (w.heap.size + 1) [.string name] := by
    rw [hW]
    have := (box_row2 (w := (w.alloc (.cells #[.slice As o.schemas.length caps, .slice At o.tables.length capt] 45))) (c := [.string name]) (t := 9) (Aft.refl _)).aft (((Aft.refl _).alloc (.cells #[.string owner] 9)).alloc (.cells #[.slice none 0 0, .slice none 0 0] 45))
    simpa using this
  have rs1 : RowAt W (w.heap.size + 1 + 1) [.string owner] := by
    rw [hW]
    have := (box_row2 (w := ((w.alloc (.cells #[.slice As o.schemas.length caps, .slice At o.tables.length capt] 45)).alloc (.cells #[.string name] 9))) (c := [.string owner]) (t := 9) (Aft.refl _)).aft ((Aft.refl _).alloc (.cells #[.slice none 0 0, .slice none 0 0] 45))
    simpa using this
  have r2 : RowAt W (w.heap.size + 1 + 1 + 1) [.slice none 0 0, .slice none 0 0] := by
    rw [hW]
    have := (box_row2 (w := (((w.alloc (.cells #[.slice As o.schemas.length caps, .slice At o.tables.length capt] 45)).alloc (.cells #[.string name] 9)).alloc (.cells #[.string owner] 9))) (c := [.slice none 0 0, .slice none 0 0]) (t := 45) (Aft.refl _))
    simpa using this
  have zW : W.heap.size = w.heap.size + 4 := by rw [hW]; simp
  have CT := Lib.hid (changed_in o As caps At capt 77 #[.pointer (some ⟨w.heap.size + 1, 0, none⟩), .pointer (some ⟨w.heap.size + 1 + 1, 0, none⟩)] (addSchR name owner o) W (schs_aft aW hsch) (tabs_aft aW htab) hent
    addSchR_zero (fun hck w1 hs ht L B n3 a hB hn hL ob hne r3 => addSch1_in name owner o w1 hs ht L B n3 (w.heap.size + 1) (w.heap.size + 1 + 1) hck hn hL ob hne r3 ((rs0.aft a).cell (j := 0) rfl) ((rs1.aft a).cell (j := 0) rfl) (by omega) (by omega) sm hs1 hs2))
  obtain ⟨rr, hrr⟩ : ∃ rr, chgR o (addSchR name owner o) = rr := ⟨_, rfl⟩
  rw [hrr] at CT ⊢
  have HAW := Lib.hid aW
  have HR2 := Lib.hid r2
  have HZ := Lib.hid zW
  clear hrr hsch htab r2 aW zW rs0 rs1 sm
  go_enter Try.func36, Try.ntmps36
  go_wp2_with fail
  rw [← hW]
  clear hW
  refine CT.out.mono ?_
  rintro e w3 ⟨hs, ht, L, hL, rfl, a3, ob⟩
  have b2 := HR2.out.aft a3
  have d0 := b2.cell (j := 0) rfl
  have d1 := b2.cell (j := 1) rfl
  have f0 := b2.2.2 0 (by simp)
  have f1 := b2.2.2 1 (by simp)
  have z2 := b2.1
  have HB3 := Lib.hid b2
  have HA3 := Lib.hid (HAW.out.trans a3)
  have HO := Lib.hid ob
  have HL := Lib.hid hL
  clear b2 a3 ob hL
  go_wp2_with fail
  refine bodyPost_ret (results_cell_tmp (v := .agg #[.slice hs.a rr.1.schemas.length hs.c, .slice ht.a rr.1.tables.length ht.c]) rfl _ rfl (lvObj_row (setO_row HB3.out rfl _ _))) rfl ?_
  exact objP_set HA3.out HL.out HO.out (by omega) (by have := HZ.out; omega) rfl
set_option maxHeartbeats 8000000 in
theorem dropSchema_in (o : Objs) (As : Option Addr) (caps : Nat) (At : Option Addr) (capt : Nat) (name : ByteArray) (w : World) (hsch : SlAt w 2 SchR As caps o.schemas) (htab : SlAt w 5 TabR At capt o.tables) :
    Calls Try.prog 38 #[.agg #[.slice As o.schemas.length caps, .slice At o.tables.length capt], .string name] w (ObjP w (chgR o (dropSchR name o))) := by
  have hlen := hsch.len
  have hlen2 := htab.len
  have sm : SmO o := ⟨sm_schs hsch, sm_tabs htab⟩
  have hent := enters (P := Try.prog) Try.func86 (by kernel_rfl) rfl
  have l1 : w.heap.size < w.heap.size + 1 := by omega
  have l2 : w.heap.size < w.heap.size + 1 + 1 := by omega
  obtain ⟨W, hW⟩ : ∃ W, W = ((w.alloc (.cells #[.slice As o.schemas.length caps, .slice At o.tables.length capt] 45)).alloc (.cells #[.string name] 9)).alloc (.cells #[.slice none 0 0, .slice none 0 0] 45) := ⟨_, rfl⟩
  have aW : Aft w W := by rw [hW]; exact (((Aft.refl w).alloc _).alloc _).alloc _
  have rs0 : RowAt W (w.heap.size + 1) [.string name] := by
    rw [hW]
    have := (box_row2 (w := (w.alloc (.cells #[.slice As o.schemas.length caps, .slice At o.tables.length capt] 45))) (c := [.string name]) (t := 9) (Aft.refl _)).aft ((Aft.refl _).alloc (.cells #[.slice none 0 0, .slice none 0 0] 45))
    simpa using this
  have r2 : RowAt W (w.heap.size + 1 + 1) [.slice none 0 0, .slice none 0 0] := by
    rw [hW]
    have := (box_row2 (w := ((w.alloc (.cells #[.slice As o.schemas.length caps, .slice At o.tables.length capt] 45)).alloc (.cells #[.string name] 9))) (c := [.slice none 0 0, .slice none 0 0]) (t := 45) (Aft.refl _))
    simpa using this
  have zW : W.heap.size = w.heap.size + 3 := by rw [hW]; simp
  have CT := Lib.hid (changed_in o As caps At capt 86 #[.pointer (some ⟨w.heap.size + 1, 0, none⟩)] (dropSchR name o) W (schs_aft aW hsch) (tabs_aft aW htab) hent
    dropSchR_zero (fun hck w1 hs ht L B n3 a hB hn hL ob hne r3 => dropSch1_in name o w1 hs ht L B n3 (w.heap.size + 1) hn hL ob hne r3 ((rs0.aft a).cell (j := 0) rfl) sm))
  obtain ⟨rr, hrr⟩ : ∃ rr, chgR o (dropSchR name o) = rr := ⟨_, rfl⟩
  rw [hrr] at CT ⊢
  have HAW := Lib.hid aW
  have HR2 := Lib.hid r2
  have HZ := Lib.hid zW
  clear hrr hsch htab r2 aW zW rs0 sm
  go_enter Try.func38, Try.ntmps38
  go_wp2_with fail
  rw [← hW]
  clear hW
  refine CT.out.mono ?_
  rintro e w3 ⟨hs, ht, L, hL, rfl, a3, ob⟩
  have b2 := HR2.out.aft a3
  have d0 := b2.cell (j := 0) rfl
  have d1 := b2.cell (j := 1) rfl
  have f0 := b2.2.2 0 (by simp)
  have f1 := b2.2.2 1 (by simp)
  have z2 := b2.1
  have HB3 := Lib.hid b2
  have HA3 := Lib.hid (HAW.out.trans a3)
  have HO := Lib.hid ob
  have HL := Lib.hid hL
  clear b2 a3 ob hL
  go_wp2_with fail
  refine bodyPost_ret (results_cell_tmp (v := .agg #[.slice hs.a rr.1.schemas.length hs.c, .slice ht.a rr.1.tables.length ht.c]) rfl _ rfl (lvObj_row (setO_row HB3.out rfl _ _))) rfl ?_
  exact objP_set HA3.out HL.out HO.out (by omega) (by have := HZ.out; omega) rfl
end Go.Proofs.Ytcdhljcpoopfaaa
/- The document's AddSchema and DropSchema. -/
namespace Go.Proofs.Ytcdhljcpoopfaaa
open Go.RowKit Go.Deep
set_option maxRecDepth 100000
set_option linter.unusedVariables false
set_option maxHeartbeats 16000000 in
theorem rAddSchema_in (o : Objs) (As : Option Addr) (caps : Nat) (At : Option Addr) (capt : Nat) (name owner : ByteArray) (w : World) (hsch : SlAt w 2 SchR As caps o.schemas) (htab : SlAt w 5 TabR At capt o.tables) (hs1 : Small name.size) (hs2 : Small owner.size) :
    Calls Try.prog 37 #[.agg #[.slice As o.schemas.length caps, .slice At o.tables.length capt], .string name, .string owner] w (ObjP w (chgR o (addSchR name owner o))) := by
  have hlen := hsch.len
  have hlen2 := htab.len
  have l1 : w.heap.size < w.heap.size + 1 := by omega
  have l2 : w.heap.size < w.heap.size + 1 + 1 := by omega
  obtain ⟨W, hW⟩ : ∃ W, W = BoxO w (.slice As o.schemas.length caps) (.slice At o.tables.length capt) := ⟨_, rfl⟩
  have HW := Lib.hid hW
  have HST := Lib.hid (And.intro hsch htab)
  have HAW := Lib.hid (show Aft w W by rw [hW]; exact BoxO.aft _ _ _)
  have KR := Lib.hid (show ∀ w', Aft W w' → _ from fun w' a => by rw [hW] at a; exact BoxO.read a)
  have KO := Lib.hid (show ∀ w', Aft W w' → _ from fun w' a => by rw [hW] at a; exact BoxO.out a)
  have KN := Lib.hid (show ∀ w', Aft W w' → ∀ x : Int, _ from fun w' a x => by rw [hW] at a; exact BoxO.no a x)
  have KB := Lib.hid (show ∀ w', Aft W w' → RowAt w' (w.heap.size + 1) [.slice none 0 0, .slice none 0 0] from fun w' a => by rw [hW] at a; exact (BoxO.res w _ _).aft a)
  obtain ⟨q, hq⟩ : ∃ q, checkO o = q := ⟨_, rfl⟩
  obtain ⟨i, hi⟩ : ∃ i, schAt o.schemas name = i := ⟨_, rfl⟩
  have hir : -1 ≤ i ∧ i < o.schemas.length := by rw [← hi]; exact idxP_range _ _
  have C1 := Lib.hid (show ∀ w', Aft w w' → _ from fun w' a => hq ▸ rRight_any o As caps At capt w' (schs_aft a hsch) (tabs_aft a htab))
  have C2 := Lib.hid (show ∀ w', Aft w w' → _ from fun w' a => hi ▸ rsch_any As caps o.schemas (.slice At o.tables.length capt) name w' (schs_aft a hsch))
  have CO := Lib.hid (show q = true → ∀ w', Aft w w' → _ from fun h w' a => rOwn_in o As caps At capt w' (schs_aft a hsch) (tabs_aft a htab) (check_mod (hq.trans h)))
  obtain ⟨u1, hu1⟩ : ∃ u, nameB name = u := ⟨_, rfl⟩
  obtain ⟨u2, hu2⟩ : ∃ u, nameB owner = u := ⟨_, rfl⟩
  obtain ⟨p, hp⟩ : ∃ p, posB cmpSc o.schemas ⟨name, owner⟩ = p := ⟨_, rfl⟩
  have hpl : p ≤ o.schemas.length := by rw [← hp]; exact posB_le _ _ _
  have C3 := Lib.hid (show ∀ w', _ from fun w' => hu1 ▸ rname_any name w' hs1.max)
  have C4 := Lib.hid (show ∀ w', _ from fun w' => hu2 ▸ rname_any owner w' hs2.max)
  have HB := Lib.hid (show q = true → o.schemas.length ≤ 8 ∧ Hid (i < 0 → ∀ k (hk : k < o.schemas.length), ltS name o.schemas[k].name = decide (p ≤ k)) from fun h => by
    have hr := checkO_rises (hq.trans h)
    refine ⟨hr.2.2.1, Lib.hid fun h0 k hk => ?_⟩
    have := new_less' preSc.tr preSc.anti hr.2.1 (x := ⟨name, owner⟩) (fun y hy => sch_none (name := name) (by rw [hi]; exact h0) y hy) k hk
    rw [hp] at this
    rw [← this, ← cmpS_lt]; rfl)
  have HF := Lib.hid (show chgR o (addSchR name owner o) = if q then (if (!u1 || !u2) then (zeroO, 1) else if 0 ≤ i then (zeroO, 60) else if 8 ≤ o.schemas.length then (zeroO, 2) else (⟨insAt o.schemas p ⟨name, owner⟩, o.tables⟩, 0)) else (zeroO, 63) from by
    unfold chgR addSchR
    rw [hq, hu1, hu2, hi, hp])
  clear hq hi hu1 hu2 hp hsch htab
  go_enter Try.func37, Try.ntmps37
  go_wp2_with fail
  rw [show ((w.alloc (.cells #[.slice As o.schemas.length caps, .slice At o.tables.length capt] 45)).alloc (.cells #[.slice none 0 0, .slice none 0 0] 45)) = W from hW.symm]
  clear hW
  refine (C1.out _ HAW.out).mono ?_
  rintro e w1 ⟨rfl, a1⟩
  obtain ⟨x0, x1, xz⟩ := KR.out w1 a1
  have HA1 := Lib.hid a1
  clear a1
  cases q
  · go_wp2_with fail
    refine (rNo_in _ _).mono ?_
    rintro e w9 ⟨rfl, a2⟩
    obtain ⟨y0, y1, y2, y3, yz⟩ := KO.out w9 (HA1.out.trans a2)
    have HP := Lib.hid (KN.out w9 (HA1.out.trans a2) 63)
    have HRW := Lib.hid (KB.out w9 (HA1.out.trans a2))
    clear a2
    go_wp2_with fail
    refine bodyPost_ret (results_cell_tmp (v := .agg #[.slice none 0 0, .slice none 0 0]) rfl _ rfl (lvObj_row (setO_row HRW.out rfl _ _))) rfl ?_
    rw [HF.out]
    exact HP.out
  obtain ⟨hb1, HT⟩ := HB.out (by first | trivial | rfl)
  clear HB
  go_wp2_with fail
  refine (C3.out w1).mono ?_
  rintro e w2 ⟨rfl, rfl⟩
  cases u1
  · go_wp2_with fail
    refine (rNo_in _ _).mono ?_
    rintro e w9 ⟨rfl, a2⟩
    obtain ⟨y0, y1, y2, y3, yz⟩ := KO.out w9 (HA1.out.trans a2)
    have HP := Lib.hid (KN.out w9 (HA1.out.trans a2) 1)
    have HRW := Lib.hid (KB.out w9 (HA1.out.trans a2))
    clear a2
    go_wp2_with fail
    refine bodyPost_ret (results_cell_tmp (v := .agg #[.slice none 0 0, .slice none 0 0]) rfl _ rfl (lvObj_row (setO_row HRW.out rfl _ _))) rfl ?_
    rw [HF.out]
    exact HP.out
  go_wp2_with fail
  refine (C4.out w1).mono ?_
  rintro e w2 ⟨rfl, rfl⟩
  cases u2
  · go_wp2_with fail
    refine (rNo_in _ _).mono ?_
    rintro e w9 ⟨rfl, a2⟩
    obtain ⟨y0, y1, y2, y3, yz⟩ := KO.out w9 (HA1.out.trans a2)
    have HP := Lib.hid (KN.out w9 (HA1.out.trans a2) 1)
    have HRW := Lib.hid (KB.out w9 (HA1.out.trans a2))
    clear a2
    go_wp2_with fail
    refine bodyPost_ret (results_cell_tmp (v := .agg #[.slice none 0 0, .slice none 0 0]) rfl _ rfl (lvObj_row (setO_row HRW.out rfl _ _))) rfl ?_
    rw [HF.out]
    exact HP.out
  go_wp2_with fail
  refine (C2.out w1 (HAW.out.trans HA1.out)).mono ?_
  rintro e w2 ⟨rfl, a2⟩
  obtain ⟨x0, x1, xz⟩ := KR.out w2 (HA1.out.trans a2)
  have HA2 := Lib.hid (HA1.out.trans a2)
  clear a2
  by_cases h0 : 0 ≤ i
  · have HH := Lib.hid h0
    go_wp2_with fail
    refine (rNo_in _ _).mono ?_
    rintro e w9 ⟨rfl, a2⟩
    obtain ⟨y0, y1, y2, y3, yz⟩ := KO.out w9 (HA2.out.trans a2)
    have HP := Lib.hid (KN.out w9 (HA2.out.trans a2) 60)
    have HRW := Lib.hid (KB.out w9 (HA2.out.trans a2))
    clear a2
    go_wp2_with fail
    refine bodyPost_ret (results_cell_tmp (v := .agg #[.slice none 0 0, .slice none 0 0]) rfl _ rfl (lvObj_row (setO_row HRW.out rfl _ _))) rfl ?_
    rw [HF.out]
    simp only [Bool.not_true, Bool.or_self, Bool.false_eq_true, if_false, if_true, if_pos HH.out]
    exact HP.out
  have HH := Lib.hid h0
  by_cases h8 : 8 ≤ o.schemas.length
  · have hd : (8 : Int) ≤ (o.schemas.length : Int) := by omega
    have H8 := Lib.hid h8
    clear h8
    go_wp2_with fail
    refine (rNo_in _ _).mono ?_
    rintro e w9 ⟨rfl, a2⟩
    obtain ⟨y0, y1, y2, y3, yz⟩ := KO.out w9 (HA2.out.trans a2)
    have HP := Lib.hid (KN.out w9 (HA2.out.trans a2) 2)
    have HRW := Lib.hid (KB.out w9 (HA2.out.trans a2))
    clear a2
    go_wp2_with fail
    refine bodyPost_ret (results_cell_tmp (v := .agg #[.slice none 0 0, .slice none 0 0]) rfl _ rfl (lvObj_row (setO_row HRW.out rfl _ _))) rfl ?_
    rw [HF.out]
    simp only [Bool.not_true, Bool.or_self, Bool.false_eq_true, if_false, if_true, if_neg (show ¬ 0 ≤ i by have := HH.out; omega), if_pos H8.out]
    exact HP.out
  have hd : ¬ (8 : Int) ≤ (o.schemas.length : Int) := by omega
  have H8 := Lib.hid h8
  have HTT := Lib.hid (HT.out (by omega))
  clear h8 HT
  have CO' := Lib.hid (CO.out (by first | trivial | rfl) _ (HAW.out.trans HA2.out))
  clear CO
  go_wp2_with fail
  refine CO'.out.mono ?_
  rintro e w3 ⟨hs, ht, L, hL, rfl, a3, ob⟩
  obtain ⟨X, hX⟩ : ∃ X, X = OutO w3 (.slice hs.a o.schemas.length hs.c) (.slice ht.a o.tables.length ht.c) := ⟨_, rfl⟩
  have HAX := Lib.hid (show Aft W X by rw [hX]; exact (HA2.out.trans a3).trans (OutO.aft _ _ _))
  have zX : X.heap.size = w3.heap.size + 1 := by rw [hX]; exact OutO.size _ _ _
  have KE := Lib.hid (show ∀ (wr : World), Aft X wr → _ from fun wr ar => (by
    have a1 := HA2.out
    rw [HW.out] at a1
    rw [hX] at ar
    exact endO a1 a3 hL ob ar))
  have KX := Lib.hid (show ∀ w', Aft X w' → (w'.cell? ⟨w3.heap.size, 0, none⟩ = some (.slice hs.a o.schemas.length hs.c) ∧ w'.cell? ⟨w3.heap.size, 1, none⟩ = some (.slice ht.a o.tables.length ht.c) ∧ w'.frozen? ⟨w3.heap.size, 0, none⟩ = false ∧ w3.heap.size < w'.heap.size) from fun w' a => by
    rw [hX] at a
    have := (OutO.row w3 _ _).aft a
    exact ⟨this.cell (j := 0) rfl, this.cell (j := 1) rfl, this.2.2 0 (by simp), this.1⟩)
  have HZ := Lib.hid (show w.heap.size + 1 < w3.heap.size from Nat.lt_of_lt_of_le (KO.out _ HA2.out).2.2.2.2 a3.size)
  clear ob a3 hL
  unfold OutO at hX
  go_wp2_with fail
  rw [← hX]
  clear hX CO'
  go_loopw [9, 10, 11] (fun u9 u10 u11 wr => ∃ (k : Nat) (h : Hd), u9 = .slice h.a (insK o.schemas p ⟨name, owner⟩ k).length h.c ∧ u10 = .bool (decide (p < k)) ∧ u11 = .int .i64 k ∧ k ≤ o.schemas.length ∧ GrC X wr h (insK o.schemas p ⟨name, owner⟩ k)) (fun _ _ u11 _ => o.schemas.length - (intOf u11).toNat)
  case atStart => exact ⟨0, ⟨none, 0, 0⟩, by rw [insK_zero]; rfl, by rw [decide_eq_false (Nat.not_lt_zero p)], rfl, Nat.zero_le _, by rw [insK_zero]; exact GrC.start X⟩
  case round =>
    obtain ⟨k2, h, rfl, rfl, rfl, hk2, hg⟩ := hrel
    have HG := Lib.hid hg
    obtain ⟨x0, x1, xz⟩ := KR.out wr (HAX.out.trans hg.1)
    have hdl := insK_len o.schemas p ⟨name, owner⟩ k2 hk2
    clear hg
    by_cases hlt2 : k2 < o.schemas.length
    · obtain ⟨b, off, rfl, hb, c0, c1, _, _⟩ := sch_at (schs_aft (HAW.out.trans (HAX.out.trans HG.out.1)) HST.out.1) hlt2
      have K2 := Lib.hid (show ∀ w', Aft X w' → (w'.cell? ⟨w.heap.size, 0, none⟩ = some (.slice (some ⟨b, off, none⟩) o.schemas.length caps) ∧ w'.cell? ⟨b, off + k2 * 2, none⟩ = some (.string o.schemas[k2].name) ∧ w'.cell? ⟨b, off + k2 * 2 + 1, none⟩ = some (.string o.schemas[k2].owner) ∧ w.heap.size < w'.heap.size ∧ b < w'.heap.size ∧ b < w'.heap.size + 1 ∧ w.heap.size < w'.heap.size + 1) from fun w' a => by
        obtain ⟨x0, x1, xz⟩ := KR.out w' (HAX.out.trans a)
        obtain ⟨b', off', e, hb', c0', c1', _⟩ := sch_at (schs_aft (HAW.out.trans (HAX.out.trans a)) HST.out.1) hlt2
        cases e
        exact ⟨x0, c0', c1', xz, hb', by omega, by omega⟩)
      obtain ⟨x, hx⟩ : ∃ x, o.schemas[k2] = x := ⟨_, rfl⟩
      rw [hx] at c0 c1 K2
      have HX2 := Lib.hid (show ltS name x.name = decide (p ≤ k2) from by rw [← hx]; exact HTT.out k2 hlt2)
      have HX3 := Lib.hid hx
      have l6 : b < wr.heap.size + 1 := by omega
      have l7 : w.heap.size < wr.heap.size + 1 := by omega
      clear hx
      rcases Nat.lt_trichotomy k2 p with hc | hc | hc
      · have hp1 : decide (p < k2) = false := decide_eq_false (by omega)
        have h2 : ltS name x.name = false := HX2.out.trans (decide_eq_false (by omega))
        have h1 : Op.bytesLess name.toList x.name.toList = false := h2
        have HD := Lib.hid (show decide (p < k2 + 1) = false from decide_eq_false (by omega))
        have HN := Lib.hid (show insK o.schemas p ⟨name, owner⟩ (k2 + 1) = insK o.schemas p ⟨name, owner⟩ k2 ++ [x] from by rw [insK_lt _ _ _ _ hlt2 hc, HX3.out])
        obtain ⟨lk, hlk⟩ : ∃ lk, insK o.schemas p ⟨name, owner⟩ k2 = lk := ⟨_, rfl⟩
        rw [hlk] at HG HN hdl ⊢
        rw [hp1]
        have hq8 : lk.length ≤ 1000000 := by omega
        clear h2 hp1 hc hlk
        go_wp2_with (at_builtin; go_must (refine app_sch rfl _ _ rfl X.heap.size (.slice h.a lk.length h.c) lk.length (lk.flatMap schC) rfl (HG.out.own.alloc _) wr.heap.size x rfl (heap_alloc_new wr _) hq8 ?qa ?_); rotate_left; intro gg cap' w5 hown5 hgrow hat; have HG5 := Lib.hid (HG.out.grow hown5 hgrow); clear hown5 hgrow hat)
        case qa => have := HG.out.1.size; simp; omega
        go_roundw
        case rel => exact ⟨k2 + 1, ⟨some ⟨gg, 0, none⟩, lk.length + 1, cap'⟩, by rw [HN.out]; simp, by rw [HD.out], by go_num, by omega, by rw [HN.out]; exact HG5.out⟩
        case measure => simp [intOf]; omega
      · subst hc
        have hp1 : decide (k2 < k2) = false := decide_eq_false (by omega)
        have h2 : ltS name x.name = true := HX2.out.trans (decide_eq_true (Nat.le_refl _))
        have h1 : Op.bytesLess name.toList x.name.toList = true := h2
        have HD := Lib.hid (show decide (k2 < k2 + 1) = true from decide_eq_true (by omega))
        have HN := Lib.hid (show insK o.schemas k2 ⟨name, owner⟩ (k2 + 1) = insK o.schemas k2 ⟨name, owner⟩ k2 ++ [⟨name, owner⟩] ++ [x] from by rw [insK_at _ _ _ hlt2, HX3.out])
        obtain ⟨lk, hlk⟩ : ∃ lk, insK o.schemas k2 ⟨name, owner⟩ k2 = lk := ⟨_, rfl⟩
        rw [hlk] at HG HN hdl ⊢
        rw [hp1]
        have hq8 : lk.length ≤ 1000000 := by omega
        have hq9 : (lk ++ [(⟨name, owner⟩ : Sch)]).length ≤ 1000000 := by simp; omega
        clear h2 hp1 hlk
        go_wp2_with (first
          | (at_builtin; (refine app_sch rfl _ _ rfl X.heap.size (.slice h.a lk.length h.c) lk.length (lk.flatMap schC) rfl (HG.out.own.alloc _) wr.heap.size ⟨name, owner⟩ rfl (heap_alloc_new wr _) hq8 ?qb ?_); rotate_left; intro gg cap' w5 hown5 hgrow hat; have HG5 := Lib.hid (HG.out.grow hown5 hgrow); obtain ⟨z0, z1, z2, z3, z4, z5, z6⟩ := K2.out w5 HG5.out.1; clear hown5 hgrow hat)
          | (at_builtin; go_must (refine app_sch rfl _ _ rfl X.heap.size (.slice (some ⟨gg, 0, none⟩) (lk.length + 1) cap') (lk ++ [(⟨name, owner⟩ : Sch)]).length ((lk ++ [(⟨name, owner⟩ : Sch)]).flatMap schC) rfl (HG5.out.2.alloc _) w5.heap.size x rfl (heap_alloc_new w5 _) hq9 ?qc ?_); rotate_left; intro gg2 cap2 w6 hown6 hgrow6 hat6; have HG6 := Lib.hid (HG5.out.grow hown6 hgrow6); clear hown6 hgrow6 hat6))
        case qb => have := HG.out.1.size; simp; omega
        case qc => have := HG5.out.1.size; simp; omega
        go_roundw
        case rel => exact ⟨k2 + 1, ⟨some ⟨gg2, 0, none⟩, (lk ++ [(⟨name, owner⟩ : Sch)]).length + 1, cap2⟩, by rw [HN.out]; simp, by rw [HD.out], by go_num, by omega, by rw [HN.out]; exact HG6.out⟩
        case measure => simp [intOf]; omega
      · have hp1 : decide (p < k2) = true := decide_eq_true (by omega)
        have HD := Lib.hid (show decide (p < k2 + 1) = true from decide_eq_true (by omega))
        have HN := Lib.hid (show insK o.schemas p ⟨name, owner⟩ (k2 + 1) = insK o.schemas p ⟨name, owner⟩ k2 ++ [x] from by rw [insK_gt _ _ _ _ hlt2 hc, HX3.out])
        obtain ⟨lk, hlk⟩ : ∃ lk, insK o.schemas p ⟨name, owner⟩ k2 = lk := ⟨_, rfl⟩
        rw [hlk] at HG HN hdl ⊢
        rw [hp1]
        have hq8 : lk.length ≤ 1000000 := by omega
        clear hp1 hc hlk
        go_wp2_with (at_builtin; go_must (refine app_sch rfl _ _ rfl X.heap.size (.slice h.a lk.length h.c) lk.length (lk.flatMap schC) rfl (HG.out.own.alloc _) wr.heap.size x rfl (heap_alloc_new wr _) hq8 ?qd ?_); rotate_left; intro gg cap' w5 hown5 hgrow hat; have HG5 := Lib.hid (HG.out.grow hown5 hgrow); clear hown5 hgrow hat)
        case qd => have := HG.out.1.size; simp; omega
        go_roundw
        case rel => exact ⟨k2 + 1, ⟨some ⟨gg, 0, none⟩, lk.length + 1, cap'⟩, by rw [HN.out]; simp, by rw [HD.out], by go_num, by omega, by rw [HN.out]; exact HG5.out⟩
        case measure => simp [intOf]; omega
    · have hk3 : k2 = o.schemas.length := by omega
      subst hk3
      have hFF : chgR o (addSchR name owner o) = (⟨insAt o.schemas p ⟨name, owner⟩, o.tables⟩, 0) := by
        rw [HF.out]
        simp only [Bool.not_true, Bool.or_self, Bool.false_eq_true, if_false, if_true, if_neg (show ¬ 0 ≤ i by have := HH.out; omega), if_neg H8.out]
      have hne1 : ¬ w3.heap.size = w.heap.size + 1 := by have := HZ.out; omega
      have hne2 : ¬ w.heap.size + 1 = w3.heap.size := by omega
      have K5 := Lib.hid (show ∀ (l : List Sch) (A5 : Option Addr) (n5 c5 : Nat) (w5 : World), l = insAt o.schemas p ⟨name, owner⟩ → GrC X w5 ⟨A5, n5, c5⟩ l → ((w5.cell? ⟨w3.heap.size, 0, none⟩ = some (.slice hs.a o.schemas.length hs.c) ∧ w5.frozen? ⟨w3.heap.size, 0, none⟩ = false ∧ w3.heap.size < w5.heap.size) ∧ ((w5.setCell ⟨w3.heap.size, 0, none⟩ (.slice A5 n5 c5)).cell? ⟨w3.heap.size, 0, none⟩ = some (.slice A5 n5 c5) ∧ (w5.setCell ⟨w3.heap.size, 0, none⟩ (.slice A5 n5 c5)).cell? ⟨w3.heap.size, 1, none⟩ = some (.slice ht.a o.tables.length ht.c)) ∧ (w5.cell? ⟨w.heap.size + 1, 0, none⟩ = some (.slice none 0 0) ∧ w5.cell? ⟨w.heap.size + 1, 1, none⟩ = some (.slice none 0 0) ∧ w5.frozen? ⟨w.heap.size + 1, 0, none⟩ = false ∧ w5.frozen? ⟨w.heap.size + 1, 1, none⟩ = false ∧ w.heap.size + 1 < w5.heap.size) ∧
        Hid (RowAt (((w5.setCell ⟨w3.heap.size, 0, none⟩ (.slice A5 n5 c5)).setCell ⟨w.heap.size + 1, 0, none⟩ (.slice A5 n5 c5)).setCell ⟨w.heap.size + 1, 1, none⟩ (.slice ht.a o.tables.length ht.c)) (w.heap.size + 1) [.slice A5 n5 c5, .slice ht.a o.tables.length ht.c] ∧
          ObjP w (chgR o (addSchR name owner o)) (.returned (.tuple #[.agg #[.slice A5 n5 c5, .slice ht.a o.tables.length ht.c], .int .i64 0])) (((w5.setCell ⟨w3.heap.size, 0, none⟩ (.slice A5 n5 c5)).setCell ⟨w.heap.size + 1, 0, none⟩ (.slice A5 n5 c5)).setCell ⟨w.heap.size + 1, 1, none⟩ (.slice ht.a o.tables.length ht.c)))) from fun l A5 n5 c5 w5 hl g5 => by
      have ho := g5.2
      obtain rfl : n5 = l.length := own_n ho
      rw [zX] at ho
      obtain ⟨e1, e3, e4⟩ := KE.out w5 g5.1 ⟨A5, l.length, c5⟩ l l.length rfl ho
      obtain ⟨y0, y1, y2, yz⟩ := KX.out w5 g5.1
      rw [hFF, ← hl]
      exact ⟨⟨y0, y2, yz⟩, ⟨e1.cell (j := 0) rfl, e1.cell (j := 1) rfl⟩, KO.out w5 (HAX.out.trans g5.1), Lib.hid ⟨e3, e4⟩⟩)
      clear hFF
      rcases Nat.lt_or_ge p o.schemas.length with hc | hc
      · have hp1 : decide (p < o.schemas.length) = true := decide_eq_true hc
        rw [insK_end _ _ _ hc] at HG ⊢
        rw [hp1]
        obtain ⟨A5, n5, c5⟩ := h
        have hv5 := own_slice HG.out.2
        simp only [Hd.v, Value.slice.injEq, true_and, and_true] at hv5
        subst hv5
        obtain ⟨⟨y0, y1, yz⟩, ⟨q0, q1⟩, ⟨s0, s1, s2, s3, sz⟩, HE⟩ := K5.out _ _ _ _ wr rfl HG.out
        clear hp1 hc
        go_wp2_with fail
        refine bodyPost_ret (results_cell_tmp (v := .agg #[.slice A5 (insAt o.schemas p ⟨name, owner⟩).length c5, .slice ht.a o.tables.length ht.c]) rfl _ rfl (lvObj_row HE.out.1)) rfl ?_
        exact HE.out.2
      · have hpe : p = o.schemas.length := by omega
        subst hpe
        have hp1 : decide (o.schemas.length < o.schemas.length) = false := decide_eq_false (by omega)
        have HN := Lib.hid (insK_end' o.schemas ⟨name, owner⟩)
        obtain ⟨lk, hlk⟩ : ∃ lk, insK o.schemas o.schemas.length ⟨name, owner⟩ o.schemas.length = lk := ⟨_, rfl⟩
        rw [hlk] at HG HN hdl ⊢
        rw [hp1]
        have hq8 : lk.length ≤ 1000000 := by omega
        clear hp1 hlk hc
        go_wp2_with (at_builtin; go_must (refine app_sch rfl _ _ rfl X.heap.size (.slice h.a lk.length h.c) lk.length (lk.flatMap schC) rfl (HG.out.own.alloc _) wr.heap.size ⟨name, owner⟩ rfl (heap_alloc_new wr _) hq8 ?qe ?_); rotate_left; intro gg cap' w5 hown5 hgrow hat; have HG5 := Lib.hid (HG.out.grow hown5 hgrow); obtain ⟨⟨y0, y1, yz⟩, ⟨q0, q1⟩, ⟨s0, s1, s2, s3, sz⟩, HE⟩ := K5.out _ _ _ _ w5 HN.out HG5.out; clear hown5 hgrow hat)
        case qe => have := HG.out.1.size; simp; omega
        refine bodyPost_ret (results_cell_tmp (v := .agg #[.slice (some ⟨gg, 0, none⟩) (lk.length + 1) cap', .slice ht.a o.tables.length ht.c]) rfl _ rfl (lvObj_row HE.out.1)) rfl ?_
        exact HE.out.2
set_option maxHeartbeats 16000000 in
theorem rDropSchema_in (o : Objs) (As : Option Addr) (caps : Nat) (At : Option Addr) (capt : Nat) (name : ByteArray) (w : World) (hsch : SlAt w 2 SchR As caps o.schemas) (htab : SlAt w 5 TabR At capt o.tables) :
    Calls Try.prog 39 #[.agg #[.slice As o.schemas.length caps, .slice At o.tables.length capt], .string name] w (ObjP w (chgR o (dropSchR name o))) := by
  have hlen := hsch.len
  have hlen2 := htab.len
  have l1 : w.heap.size < w.heap.size + 1 := by omega
  have l2 : w.heap.size < w.heap.size + 1 + 1 := by omega
  obtain ⟨W, hW⟩ : ∃ W, W = BoxO w (.slice As o.schemas.length caps) (.slice At o.tables.length capt) := ⟨_, rfl⟩
  have HW := Lib.hid hW
  have HST := Lib.hid (And.intro hsch htab)
  have HAW := Lib.hid (show Aft w W by rw [hW]; exact BoxO.aft _ _ _)
  have KR := Lib.hid (show ∀ w', Aft W w' → _ from fun w' a => by rw [hW] at a; exact BoxO.read a)
  have KO := Lib.hid (show ∀ w', Aft W w' → _ from fun w' a => by rw [hW] at a; exact BoxO.out a)
  have KN := Lib.hid (show ∀ w', Aft W w' → ∀ x : Int, _ from fun w' a x => by rw [hW] at a; exact BoxO.no a x)
  have KB := Lib.hid (show ∀ w', Aft W w' → RowAt w' (w.heap.size + 1) [.slice none 0 0, .slice none 0 0] from fun w' a => by rw [hW] at a; exact (BoxO.res w _ _).aft a)
  obtain ⟨q, hq⟩ : ∃ q, checkO o = q := ⟨_, rfl⟩
  obtain ⟨i, hi⟩ : ∃ i, schAt o.schemas name = i := ⟨_, rfl⟩
  have hir : -1 ≤ i ∧ i < o.schemas.length := by rw [← hi]; exact idxP_range _ _
  have C1 := Lib.hid (show ∀ w', Aft w w' → _ from fun w' a => hq ▸ rRight_any o As caps At capt w' (schs_aft a hsch) (tabs_aft a htab))
  have C2 := Lib.hid (show ∀ w', Aft w w' → _ from fun w' a => hi ▸ rsch_any As caps o.schemas (.slice At o.tables.length capt) name w' (schs_aft a hsch))
  have CO := Lib.hid (show q = true → ∀ w', Aft w w' → _ from fun h w' a => rOwn_in o As caps At capt w' (schs_aft a hsch) (tabs_aft a htab) (check_mod (hq.trans h)))
  obtain ⟨m, hm⟩ : ∃ m, within o.tables name = m := ⟨_, rfl⟩
  have C5 := Lib.hid (show ∀ w', Aft w w' → _ from fun w' a => hm ▸ rtabs_any (.slice As o.schemas.length caps) At capt o.tables name w' (tabs_aft a htab))
  have HB := Lib.hid (show q = true → o.schemas.length ≤ 8 ∧ Hid (∀ p : Nat, i = p → ∀ k (hk : k < o.schemas.length), eqS o.schemas[k].name name = decide (k = p)) from fun h => by
    have hr := checkO_rises (hq.trans h)
    exact ⟨hr.2.2.1, Lib.hid fun p hp k hk => sch_only hr.2.1 (hi.trans hp) (by omega) k hk⟩)
  have HF := Lib.hid (show chgR o (dropSchR name o) = if q then (if i < 0 then (zeroO, 61) else if 0 < m then (zeroO, 62) else (⟨o.schemas.eraseIdx i.toNat, o.tables⟩, 0)) else (zeroO, 63) from by
    unfold chgR dropSchR
    rw [hq, hi, hm])
  clear hq hi hm hsch htab
  go_enter Try.func39, Try.ntmps39
  go_wp2_with fail
  rw [show ((w.alloc (.cells #[.slice As o.schemas.length caps, .slice At o.tables.length capt] 45)).alloc (.cells #[.slice none 0 0, .slice none 0 0] 45)) = W from hW.symm]
  clear hW
  refine (C1.out _ HAW.out).mono ?_
  rintro e w1 ⟨rfl, a1⟩
  obtain ⟨x0, x1, xz⟩ := KR.out w1 a1
  have HA1 := Lib.hid a1
  clear a1
  cases q
  · go_wp2_with fail
    refine (rNo_in _ _).mono ?_
    rintro e w9 ⟨rfl, a2⟩
    obtain ⟨y0, y1, y2, y3, yz⟩ := KO.out w9 (HA1.out.trans a2)
    have HP := Lib.hid (KN.out w9 (HA1.out.trans a2) 63)
    have HRW := Lib.hid (KB.out w9 (HA1.out.trans a2))
    clear a2
    go_wp2_with fail
    refine bodyPost_ret (results_cell_tmp (v := .agg #[.slice none 0 0, .slice none 0 0]) rfl _ rfl (lvObj_row (setO_row HRW.out rfl _ _))) rfl ?_
    rw [HF.out]
    exact HP.out
  obtain ⟨hb1, HT⟩ := HB.out (by first | trivial | rfl)
  clear HB
  go_wp2_with fail
  refine (C2.out w1 (HAW.out.trans HA1.out)).mono ?_
  rintro e w2 ⟨rfl, a2⟩
  obtain ⟨x0, x1, xz⟩ := KR.out w2 (HA1.out.trans a2)
  have HA2 := Lib.hid (HA1.out.trans a2)
  clear a2
  by_cases h0 : i < 0
  · have HH := Lib.hid h0
    go_wp2_with fail
    refine (rNo_in _ _).mono ?_
    rintro e w9 ⟨rfl, a2⟩
    obtain ⟨y0, y1, y2, y3, yz⟩ := KO.out w9 (HA2.out.trans a2)
    have HP := Lib.hid (KN.out w9 (HA2.out.trans a2) 61)
    have HRW := Lib.hid (KB.out w9 (HA2.out.trans a2))
    clear a2
    go_wp2_with fail
    refine bodyPost_ret (results_cell_tmp (v := .agg #[.slice none 0 0, .slice none 0 0]) rfl _ rfl (lvObj_row (setO_row HRW.out rfl _ _))) rfl ?_
    rw [HF.out]
    simp only [if_true, if_pos HH.out]
    exact HP.out
  have HH := Lib.hid h0
  go_wp2_with fail
  refine (C5.out w2 (HAW.out.trans HA2.out)).mono ?_
  rintro e w4 ⟨rfl, a4⟩
  obtain ⟨x0, x1, xz⟩ := KR.out w4 (HA2.out.trans a4)
  have HA4 := Lib.hid (HA2.out.trans a4)
  clear a4
  by_cases hm0 : 0 < m
  · have hd : (0 : Int) < (m : Int) := by omega
    have HM := Lib.hid hm0
    go_wp2_with fail
    refine (rNo_in _ _).mono ?_
    rintro e w9 ⟨rfl, a2⟩
    obtain ⟨y0, y1, y2, y3, yz⟩ := KO.out w9 (HA4.out.trans a2)
    have HP := Lib.hid (KN.out w9 (HA4.out.trans a2) 62)
    have HRW := Lib.hid (KB.out w9 (HA4.out.trans a2))
    clear a2
    go_wp2_with fail
    refine bodyPost_ret (results_cell_tmp (v := .agg #[.slice none 0 0, .slice none 0 0]) rfl _ rfl (lvObj_row (setO_row HRW.out rfl _ _))) rfl ?_
    rw [HF.out]
    simp only [if_true, if_neg (show ¬ i < 0 by have := HH.out; omega), if_pos (show 0 < m by have := HM.out; omega)]
    exact HP.out
  have hd : ¬ (0 : Int) < (m : Int) := by omega
  have HM := Lib.hid hm0
  clear hm0
  obtain ⟨p, hp⟩ : ∃ p : Nat, i = p := ⟨i.toNat, by omega⟩
  have HTT := Lib.hid (HT.out p hp)
  subst hp
  clear HT
  have CO' := Lib.hid (CO.out (by first | trivial | rfl) _ (HAW.out.trans HA4.out))
  clear CO
  go_wp2_with fail
  refine CO'.out.mono ?_
  rintro e w3 ⟨hs, ht, L, hL, rfl, a3, ob⟩
  obtain ⟨X, hX⟩ : ∃ X, X = OutO w3 (.slice hs.a o.schemas.length hs.c) (.slice ht.a o.tables.length ht.c) := ⟨_, rfl⟩
  have HAX := Lib.hid (show Aft W X by rw [hX]; exact (HA4.out.trans a3).trans (OutO.aft _ _ _))
  have zX : X.heap.size = w3.heap.size + 1 := by rw [hX]; exact OutO.size _ _ _
  have KE := Lib.hid (show ∀ (wr : World), Aft X wr → _ from fun wr ar => (by
    have a1 := HA4.out
    rw [HW.out] at a1
    rw [hX] at ar
    exact endO a1 a3 hL ob ar))
  have KX := Lib.hid (show ∀ w', Aft X w' → (w'.cell? ⟨w3.heap.size, 0, none⟩ = some (.slice hs.a o.schemas.length hs.c) ∧ w'.cell? ⟨w3.heap.size, 1, none⟩ = some (.slice ht.a o.tables.length ht.c) ∧ w'.frozen? ⟨w3.heap.size, 0, none⟩ = false ∧ w3.heap.size < w'.heap.size) from fun w' a => by
    rw [hX] at a
    have := (OutO.row w3 _ _).aft a
    exact ⟨this.cell (j := 0) rfl, this.cell (j := 1) rfl, this.2.2 0 (by simp), this.1⟩)
  have HZ := Lib.hid (show w.heap.size + 1 < w3.heap.size from Nat.lt_of_lt_of_le (KO.out _ HA4.out).2.2.2.2 a3.size)
  clear ob a3 hL
  unfold OutO at hX
  go_wp2_with fail
  rw [← hX]
  clear hX CO'
  go_loopw [7, 8] (fun u7 u8 wr => ∃ (k : Nat) (h : Hd), u7 = .slice h.a (delK o.schemas p k).length h.c ∧ u8 = .int .i64 k ∧ k ≤ o.schemas.length ∧ GrC X wr h (delK o.schemas p k)) (fun _ u8 _ => o.schemas.length - (intOf u8).toNat)
  case atStart => exact ⟨0, ⟨none, 0, 0⟩, by rw [delK_zero]; rfl, rfl, Nat.zero_le _, by rw [delK_zero]; exact GrC.start X⟩
  case round =>
    obtain ⟨k2, h, rfl, rfl, hk2, hg⟩ := hrel
    have HG := Lib.hid hg
    obtain ⟨x0, x1, xz⟩ := KR.out wr (HAX.out.trans hg.1)
    have hdl := delK_len o.schemas p k2
    clear hg
    by_cases hlt2 : k2 < o.schemas.length
    · obtain ⟨b, off, rfl, hb, c0, c1, _, _⟩ := sch_at (schs_aft (HAW.out.trans (HAX.out.trans HG.out.1)) HST.out.1) hlt2
      obtain ⟨x, hx⟩ : ∃ x, o.schemas[k2] = x := ⟨_, rfl⟩
      rw [hx] at c0 c1
      have hE := HTT.out k2 hlt2
      rw [hx] at hE
      by_cases hkp : k2 = p
      · have HN := Lib.hid (show delK o.schemas p (k2 + 1) = delK o.schemas p k2 from by
          subst hkp
          exact delK_at _ _ hlt2)
        have h1 : (x.name.toList == name.toList) = true := hE.trans (decide_eq_true hkp)
        clear hkp hE hx
        go_wp2_with fail
        go_roundw
        case rel => exact ⟨k2 + 1, h, by rw [HN.out], by go_num, by omega, by rw [HN.out]; exact HG.out⟩
        case measure => simp [intOf]; omega
      · have HN := Lib.hid (show delK o.schemas p (k2 + 1) = delK o.schemas p k2 ++ [x] from by rw [delK_ne _ _ _ hlt2 hkp, hx])
        have h1 : (x.name.toList == name.toList) = false := hE.trans (decide_eq_false hkp)
        have l6 : b < wr.heap.size + 1 := by omega
        have l7 : w.heap.size < wr.heap.size + 1 := by omega
        clear hkp hE hx
        obtain ⟨lk, hlk⟩ : ∃ lk, delK o.schemas p k2 = lk := ⟨_, rfl⟩
        rw [hlk] at HG HN hdl ⊢
        have hq8 : lk.length ≤ 1000000 := by omega
        go_wp2_with (at_builtin; go_must (refine app_sch rfl _ _ rfl X.heap.size (.slice h.a lk.length h.c) lk.length (lk.flatMap schC) rfl (HG.out.own.alloc _) wr.heap.size x rfl (heap_alloc_new wr _) hq8 ?qa ?_); rotate_left; intro gg cap' w5 hown5 hgrow hat; have HG5 := Lib.hid (HG.out.grow hown5 hgrow); clear hown5 hgrow hat)
        case qa => have := HG.out.1.size; simp; omega
        go_roundw
        case rel => exact ⟨k2 + 1, ⟨some ⟨gg, 0, none⟩, lk.length + 1, cap'⟩, by rw [HN.out]; simp, by go_num, by omega, by rw [HN.out]; exact HG5.out⟩
        case measure => simp [intOf]; omega
    · have hk3 : k2 = o.schemas.length := by omega
      subst hk3
      have hFF : chgR o (dropSchR name o) = (⟨o.schemas.eraseIdx p, o.tables⟩, 0) := by
        rw [HF.out]
        simp only [if_true, if_neg (show ¬ (p : Int) < 0 by omega), if_neg (show ¬ 0 < m by have := HM.out; omega), Int.toNat_natCast]
      have hne1 : ¬ w3.heap.size = w.heap.size + 1 := by have := HZ.out; omega
      have hne2 : ¬ w.heap.size + 1 = w3.heap.size := by omega
      have K5 := Lib.hid (show ∀ (l : List Sch) (A5 : Option Addr) (n5 c5 : Nat) (w5 : World), l = o.schemas.eraseIdx p → GrC X w5 ⟨A5, n5, c5⟩ l → ((w5.cell? ⟨w3.heap.size, 0, none⟩ = some (.slice hs.a o.schemas.length hs.c) ∧ w5.frozen? ⟨w3.heap.size, 0, none⟩ = false ∧ w3.heap.size < w5.heap.size) ∧ ((w5.setCell ⟨w3.heap.size, 0, none⟩ (.slice A5 n5 c5)).cell? ⟨w3.heap.size, 0, none⟩ = some (.slice A5 n5 c5) ∧ (w5.setCell ⟨w3.heap.size, 0, none⟩ (.slice A5 n5 c5)).cell? ⟨w3.heap.size, 1, none⟩ = some (.slice ht.a o.tables.length ht.c)) ∧ (w5.cell? ⟨w.heap.size + 1, 0, none⟩ = some (.slice none 0 0) ∧ w5.cell? ⟨w.heap.size + 1, 1, none⟩ = some (.slice none 0 0) ∧ w5.frozen? ⟨w.heap.size + 1, 0, none⟩ = false ∧ w5.frozen? ⟨w.heap.size + 1, 1, none⟩ = false ∧ w.heap.size + 1 < w5.heap.size) ∧
        Hid (RowAt (((w5.setCell ⟨w3.heap.size, 0, none⟩ (.slice A5 n5 c5)).setCell ⟨w.heap.size + 1, 0, none⟩ (.slice A5 n5 c5)).setCell ⟨w.heap.size + 1, 1, none⟩ (.slice ht.a o.tables.length ht.c)) (w.heap.size + 1) [.slice A5 n5 c5, .slice ht.a o.tables.length ht.c] ∧
          ObjP w (chgR o (dropSchR name o)) (.returned (.tuple #[.agg #[.slice A5 n5 c5, .slice ht.a o.tables.length ht.c], .int .i64 0])) (((w5.setCell ⟨w3.heap.size, 0, none⟩ (.slice A5 n5 c5)).setCell ⟨w.heap.size + 1, 0, none⟩ (.slice A5 n5 c5)).setCell ⟨w.heap.size + 1, 1, none⟩ (.slice ht.a o.tables.length ht.c)))) from fun l A5 n5 c5 w5 hl g5 => by
      have ho := g5.2
      obtain rfl : n5 = l.length := own_n ho
      rw [zX] at ho
      obtain ⟨e1, e3, e4⟩ := KE.out w5 g5.1 ⟨A5, l.length, c5⟩ l l.length rfl ho
      obtain ⟨y0, y1, y2, yz⟩ := KX.out w5 g5.1
      rw [hFF, ← hl]
      exact ⟨⟨y0, y2, yz⟩, ⟨e1.cell (j := 0) rfl, e1.cell (j := 1) rfl⟩, KO.out w5 (HAX.out.trans g5.1), Lib.hid ⟨e3, e4⟩⟩)
      clear hFF
      rw [delK_end] at HG ⊢
      obtain ⟨A5, n5, c5⟩ := h
      have hv5 := own_slice HG.out.2
      simp only [Hd.v, Value.slice.injEq, true_and, and_true] at hv5
      subst hv5
      obtain ⟨⟨y0, y1, yz⟩, ⟨q0, q1⟩, ⟨s0, s1, s2, s3, sz⟩, HE⟩ := K5.out _ _ _ _ wr rfl HG.out
      go_wp2_with fail
      refine bodyPost_ret (results_cell_tmp (v := .agg #[.slice A5 (o.schemas.eraseIdx p).length c5, .slice ht.a o.tables.length ht.c]) rfl _ rfl (lvObj_row HE.out.1)) rfl ?_
      exact HE.out.2
end Go.Proofs.Ytcdhljcpoopfaaa
