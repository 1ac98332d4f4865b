/- Contracts of the program, part 22. -/
import Derived.Test.YticjnndhpfdajaaGreatPart20
import Derived.Test.YticjnndhpfdajaaGreatPart21
/- objects.AddSchema, objects.DropSchema, whole. -/
namespace Go.Proofs.YticjnndhpfdajaaGreat
open Go.RowKit Go.Deep Go.Sort
set_option maxRecDepth 100000
set_option linter.unusedVariables false
theorem own_cap7 {w : World} {B size n : Nat} {e : TypeId} {v : Value} {xs : List Value} (h : w.ownsRow B e size v n xs) : ∀ A n c, v = .slice A n c → c ≤ 9223372036854775807 := by
  intro A n c hv
  rcases h.2 with ⟨rfl, _⟩ | ⟨g, cap, cur, rfl, _, _, _, hcm, _⟩
  · simp only [Value.slice.injEq] at hv; omega
  · simp only [Value.slice.injEq] at hv
    have : cap ≤ maxLen := hcm
    unfold maxLen at this
    omega
theorem addSchR_zero {name owner : ByteArray} {o : Objs} : (addSchR name owner o).2 ≠ 0 → (addSchR name owner o).1 = zeroO := by
  unfold addSchR
  split
  · exact fun _ => rfl
  · split
    · exact fun _ => rfl
    · split
      · exact fun _ => rfl
      · exact fun h => absurd rfl h
theorem dropSchR_zero {name : ByteArray} {o : Objs} : (dropSchR name o).2 ≠ 0 → (dropSchR name o).1 = zeroO := by
  unfold dropSchR
  split
  · exact fun _ => rfl
  · split
    · exact fun _ => rfl
    · exact fun h => absurd rfl h
set_option maxHeartbeats 8000000 in
theorem dropSch1_in (name : ByteArray) (o : Objs) (w : World) (hs ht : Hd) (L : List OTab) (B n3 bn : Nat) (hbn : B ≤ n3) (hL : L.map OTab.t = o.tables) (ob : ObjIn w B hs ht o.schemas L) (hne : ∀ g ∈ hs.blk ++ (ht.blk ++ L.flatMap OTab.blks), g ≠ n3)
    (r3 : RowAt w n3 [.slice hs.a o.schemas.length hs.c, .slice ht.a o.tables.length ht.c]) (hc1 : w.cell? ⟨bn, 0, none⟩ = some (.string name)) (sm : SmO o) :
    Calls Tryz.prog 98 (#[.pointer (some ⟨n3, 0, none⟩)] ++ #[.pointer (some ⟨bn, 0, none⟩)]) w (DoP w B n3 (dropSchR name o)) := by
  show Calls Tryz.prog 98 #[.pointer (some ⟨n3, 0, none⟩), .pointer (some ⟨bn, 0, none⟩)] w (DoP w B n3 (dropSchR name o))
  have hoo : objOf o.schemas L = o := by unfold objOf; rw [hL]
  have hsch : SlAt w 2 SchR hs.a hs.c o.schemas := ob.schs (by rw [hoo]; exact sm)
  have htab : SlAt w 5 TabR ht.a ht.c o.tables := by have := ob.tabs (by rw [hoo]; exact sm); rw [hL] at this; exact this
  have hlen := hsch.len
  have z1 : bn < w.heap.size := World.block_lt_of_cell? _ _ hc1
  have x0 := r3.cell (j := 0) rfl
  have x1 := r3.cell (j := 1) rfl
  have xz := r3.1
  obtain ⟨i, hi⟩ : ∃ i, schAt o.schemas name = i := ⟨_, rfl⟩
  obtain ⟨m, hm⟩ : ∃ m, within o.tables name = m := ⟨_, rfl⟩
  have hir : -1 ≤ i ∧ i < o.schemas.length := by rw [← hi]; exact idxP_range _ _
  have CB := Lib.hid (show ∀ x : Lat w, Calls Tryz.prog 88 #[.slice hs.a o.schemas.length hs.c, .string name, .func (.func 89) #[] #[]] (lat w x) fun e w'' => e = .returned (.int .i64 i) ∧ Aft (lat w x) w'' from
    fun x => (bySch hs.a hs.c o.schemas name _ (schs_aft ((Aft.refl w).lat x) hsch)).mono fun e w'' ⟨he, hw⟩ => ⟨he.trans (by rw [← hi]; rfl), hw⟩)
  have CW := Lib.hid (show ∀ W, Aft w W → ∀ x : Lat W, Calls Tryz.prog 99 #[.agg #[.slice hs.a o.schemas.length hs.c, .slice ht.a o.tables.length ht.c], .string name] (lat W x) fun e w'' => e = .returned (.int .i64 m) ∧ Aft (lat W x) w'' from
    fun W a x => (within_any _ ht.a ht.c o.tables name _ (tabs_aft (a.lat x) htab)).mono fun e w'' ⟨he, hw⟩ => ⟨he.trans (by rw [← hm]), hw⟩)
  have HE := Lib.hid (show dropSchR name o = if i < 0 then (zeroO, 61) else if 0 < m then (zeroO, 62) else (⟨o.schemas.eraseIdx i.toNat, o.tables⟩, 0) by unfold dropSchR; rw [hi, hm])
  have HOB := Lib.hid ob
  have HR3 := Lib.hid r3
  have HNE := Lib.hid hne
  have HL := Lib.hid hL
  have HCS := Lib.hid (show hs.v = .slice hs.a o.schemas.length hs.c from own_slice ob.sch)
  have ERR := Lib.hid (show ∀ w', Aft w w' → ∀ c : Int, c ≠ 0 → DoP w B n3 (zeroO, c) (.returned (.int .i64 c)) w' from fun w' a c hc => ⟨rfl, Kb.of_aft a, fun h => absurd h hc⟩)
  clear ob r3 hne hL hoo hi hsch htab hm sm
  go_enter Tryz.func98, Tryz.ntmps98
  go_wp2_with fail
  refine wp_region_lat (by kernel_rfl) (by kernel_rfl) ?_
  repeat (go_big_quiet_step ((go_at_call 88; exact Calls.lat_of (CB.out _))))
  refine wpQuiet_nil ?_
  intro _ hw'
  obtain ⟨x, hw''⟩ := hw'
  subst hw''
  obtain ⟨W, hW⟩ : ∃ W, W = lat w x := ⟨_, rfl⟩
  have aW : Aft w W := by rw [hW]; exact (Aft.refl w).lat x
  rw [← hW]
  have x0 := aW.cell_kept x0
  have x1 := aW.cell_kept x1
  have hc1 := aW.cell_kept hc1
  have xz := Nat.lt_of_lt_of_le xz aW.size
  have z1 := Nat.lt_of_lt_of_le z1 aW.size
  have HAW := Lib.hid aW
  have CW' := Lib.hid (CW.out W aW)
  clear hW aW CB CW
  by_cases h0 : i < 0
  · go_wp2_with fail
    go_ret
    rw [HE.out]
    simp only [if_pos h0]
    exact ERR.out _ HAW.out 61 (by decide)
  have HH0 := Lib.hid h0
  by_cases hm0 : 0 < m
  · have hd : (0 : Int) < (m : Int) := by omega
    have HM := Lib.hid hm0
    go_wp2_with fail
    refine wp_region_lat (by kernel_rfl) (by kernel_rfl) ?_
    repeat (go_big_quiet_step ((go_at_call 99; exact Calls.lat_of (CW'.out _))))
    refine wpQuiet_nil ?_
    intro _ hw'
    obtain ⟨x, hw''⟩ := hw'
    subst hw''
    go_wp2_with fail
    go_ret
    rw [HE.out]
    simp only [if_neg (show ¬ i < 0 by have := HH0.out; omega), if_pos (show 0 < m by have := HM.out; omega)]
    exact ERR.out _ (HAW.out.lat x) 62 (by decide)
  have hd : ¬ (0 : Int) < (m : Int) := by omega
  have HM := Lib.hid hm0
  clear hm0
  go_wp2_with fail
  refine wp_region_lat (by kernel_rfl) (by kernel_rfl) ?_
  repeat (go_big_quiet_step ((go_at_call 99; exact Calls.lat_of (CW'.out _))))
  refine wpQuiet_nil ?_
  intro _ hw'
  obtain ⟨x, hw''⟩ := hw'
  subst hw''
  obtain ⟨V, hV⟩ : ∃ V, V = lat W x := ⟨_, rfl⟩
  have aV : Aft W V := by rw [hV]; exact (Aft.refl W).lat x
  rw [← hV]
  have x0 := aV.cell_kept x0
  have x1 := aV.cell_kept x1
  have xz := Nat.lt_of_lt_of_le xz aV.size
  have HAV := Lib.hid (HAW.out.trans aV)
  clear hV aV CW'
  obtain ⟨p, hp⟩ : ∃ p : Nat, i = p := ⟨i.toNat, by omega⟩
  subst hp
  have hpl : p < o.schemas.length := by omega
  have r2 := HOB.out.aft HAV.out
  obtain ⟨g, cap, hv, hgB, hnc, hrow⟩ := own_rowAt r2.sch (by omega)
  obtain ⟨k, hk⟩ : ∃ k, o.schemas.length = p + 1 + k := ⟨o.schemas.length - p - 1, by omega⟩
  have o2 : V.ownsRow B 99 2 (.slice (some ⟨g, 0, none⟩) (p + 1 + k) cap) (p + 1 + k) (o.schemas.flatMap schC) := by
    have := r2.sch
    rw [hv, hk] at this
    exact this
  have hcapm : cap ≤ 9223372036854775807 := own_cap7 r2.sch _ _ _ hv
  have CD := Lib.hid (delSch g cap p k B (o.schemas.flatMap schC) V o2 (oneC_cells oneC_sch _) hcapm)
  have hvs : Value.slice hs.a o.schemas.length hs.c = .slice (some ⟨g, 0, none⟩) (p + 1 + k) cap := by rw [← HCS.out, hv, hk]
  have row2 := HR3.out.aft HAV.out
  have hgin : g ∈ hs.blk := Hd.mem_blk.2 (by rw [hv]; rfl)
  have hgb : g ≠ n3 := HNE.out g (List.mem_append.2 (.inl hgin))
  rw [hvs] at x0
  have K2 := Lib.hid (show ∀ w3, Kb (fun j => j = g) V w3 → w3.ownsRow B 99 2 (.slice (some ⟨g, 0, none⟩) (p + k) cap) (p + k) ((o.schemas.flatMap schC).take (p * 2) ++ (o.schemas.flatMap schC).drop ((p + 1) * 2)) → (w3.cell? ⟨n3, 0, none⟩ = some (.slice (some ⟨g, 0, none⟩) (p + 1 + k) cap) ∧ w3.frozen? ⟨n3, 0, none⟩ = false ∧ n3 < w3.heap.size ∧ Hid (DoP w B n3 (dropSchR name o) (.returned (.int .i64 0)) (w3.setCell ⟨n3, 0, none⟩ (.slice (some ⟨g, 0, none⟩) (p + k) cap)))) from fun w3 kb o3 => by
    have row3 := kb.row row2 (fun e => hgb e.symm)
    rw [hvs] at row3
    have e1 : (o.schemas.eraseIdx p).length = p + k := by rw [List.length_eraseIdx_of_lt (by omega)]; omega
    have n3' : w3.ownsRow B 99 2 (Hd.mk (some ⟨g, 0, none⟩) (p + k) cap).v (o.schemas.eraseIdx p).length ((o.schemas.eraseIdx p).flatMap schC) := by
      rw [e1, ← flatMap_erase (size := 2) (fun _ => rfl)]; exact o3
    have ks := Kb.set w3 n3 0 (.slice (some ⟨g, 0, none⟩) (p + k) cap)
    refine ⟨row3.cell (j := 0) rfl, row3.2.2 0 (by simp), row3.1, Lib.hid ?_⟩
    rw [HE.out]
    simp only [if_neg (show ¬ (p : Int) < 0 by omega), if_neg (show ¬ 0 < m by have := HM.out; omega), Int.toNat_natCast]
    have obn := r2.newSch kb (h' := ⟨some ⟨g, 0, none⟩, p + k, cap⟩) (fun j hj e => by
      have e : j = g := e
      exact nodup_disj r2.nd hgin (by rw [← e]; exact hj)) n3' (fun j hj => by
      rw [blk_some, List.mem_singleton] at hj
      have hj : j = g := hj
      exact .inl (by rw [hj]; exact hgin))
    refine ⟨rfl, ((Kb.of_aft HAV.out).trans (kb.mono fun j _ e => by have e : j = g := e; omega)).trans (ks.mono fun j _ e => by have e : j = n3 := e; omega), fun _ => ⟨⟨some ⟨g, 0, none⟩, p + k, cap⟩, ht, L, HL.out, obn.kb ks (fun j hj e => ?_), ?_⟩⟩
    · have e : j = n3 := e
      rcases List.mem_append.1 hj with h1 | h1
      · rw [blk_some, List.mem_singleton] at h1
        have h1 : j = g := h1
        exact hgb (by rw [← h1, e])
      · exact HNE.out j (List.mem_append.2 (.inr h1)) e
    · have h6 := row3.set 0 (.slice (some ⟨g, 0, none⟩) (p + k) cap) (by simp)
      rw [e1]
      exact h6)
  clear r2 hv hrow o2 hvs row2 hk hgb hgin h0 hnc hgB
  go_wp2_with fail
  refine CD.out.mono ?_
  rintro e w3 ⟨rfl, o3, kb⟩
  obtain ⟨y0, yf, yz, HP⟩ := K2.out w3 kb o3
  clear o3 kb
  go_wp2_with fail
  go_ret
  exact HP.out
set_option maxHeartbeats 8000000 in
theorem addSchema_in (o : Objs) (As : Option Addr) (caps : Nat) (At : Option Addr) (capt : Nat) (name owner : ByteArray) (w : World) (hsch : SlAt w 2 SchR As caps o.schemas) (htab : SlAt w 5 TabR At capt o.tables) (hs1 : Small name.size) (hs2 : Small owner.size) :
    Calls Tryz.prog 23 #[.agg #[.slice As o.schemas.length caps, .slice At o.tables.length capt], .string name, .string owner] w (ObjP w (chgR o (addSchR name owner o))) := by
  have hlen := hsch.len
  have hlen2 := htab.len
  have sm : SmO o := ⟨sm_schs hsch, sm_tabs htab⟩
  have hent := enters (P := Tryz.prog) Tryz.func86 (by kernel_rfl) rfl
  have l1 : w.heap.size < w.heap.size + 1 := by omega
  have l2 : w.heap.size < w.heap.size + 1 + 1 := by omega
  have l3 : w.heap.size < w.heap.size + 1 + 1 + 1 := by omega
  obtain ⟨W, hW⟩ : ∃ W, W = (((w.alloc (.cells #[.slice As o.schemas.length caps, .slice At o.tables.length capt] 25)).alloc (.cells #[.string name] 9)).alloc (.cells #[.string owner] 9)).alloc (.cells #[.slice none 0 0, .slice none 0 0] 25) := ⟨_, rfl⟩
  have aW : Aft w W := by rw [hW]; exact ((((Aft.refl w).alloc _).alloc _).alloc _).alloc _
  have rs0 : RowAt W (w.heap.size + 1) [.string name] := by
    rw [hW]
    have := (box_row2 (w := (w.alloc (.cells #[.slice As o.schemas.length caps, .slice At o.tables.length capt] 25))) (c := [.string name]) (t := 9) (Aft.refl _)).aft (((Aft.refl _).alloc (.cells #[.string owner] 9)).alloc (.cells #[.slice none 0 0, .slice none 0 0] 25))
    simpa using this
  have rs1 : RowAt W (w.heap.size + 1 + 1) [.string owner] := by
    rw [hW]
    have := (box_row2 (w := ((w.alloc (.cells #[.slice As o.schemas.length caps, .slice At o.tables.length capt] 25)).alloc (.cells #[.string name] 9))) (c := [.string owner]) (t := 9) (Aft.refl _)).aft ((Aft.refl _).alloc (.cells #[.slice none 0 0, .slice none 0 0] 25))
    simpa using this
  have r2 : RowAt W (w.heap.size + 1 + 1 + 1) [.slice none 0 0, .slice none 0 0] := by
    rw [hW]
    have := (box_row2 (w := (((w.alloc (.cells #[.slice As o.schemas.length caps, .slice At o.tables.length capt] 25)).alloc (.cells #[.string name] 9)).alloc (.cells #[.string owner] 9))) (c := [.slice none 0 0, .slice none 0 0]) (t := 25) (Aft.refl _))
    simpa using this
  have zW : W.heap.size = w.heap.size + 4 := by rw [hW]; simp
  have CT := Lib.hid (changed_in o As caps At capt 86 #[.pointer (some ⟨w.heap.size + 1, 0, none⟩), .pointer (some ⟨w.heap.size + 1 + 1, 0, none⟩)] (addSchR name owner o) W (schs_aft aW hsch) (tabs_aft aW htab) hent
    addSchR_zero (fun hck w1 hs ht L B n3 a hB hn hL ob hne r3 => addSch1_in name owner o w1 hs ht L B n3 (w.heap.size + 1) (w.heap.size + 1 + 1) hck hn hL ob hne r3 ((rs0.aft a).cell (j := 0) rfl) ((rs1.aft a).cell (j := 0) rfl) (by omega) (by omega) sm hs1 hs2))
  obtain ⟨rr, hrr⟩ : ∃ rr, chgR o (addSchR name owner o) = rr := ⟨_, rfl⟩
  rw [hrr] at CT ⊢
  have HAW := Lib.hid aW
  have HR2 := Lib.hid r2
  have HZ := Lib.hid zW
  clear hrr hsch htab r2 aW zW rs0 rs1 sm
  go_enter Tryz.func23, Tryz.ntmps23
  go_wp2_with fail
  rw [← hW]
  clear hW
  refine CT.out.mono ?_
  rintro e w3 ⟨hs, ht, L, hL, rfl, a3, ob⟩
  have b2 := HR2.out.aft a3
  have d0 := b2.cell (j := 0) rfl
  have d1 := b2.cell (j := 1) rfl
  have f0 := b2.2.2 0 (by simp)
  have f1 := b2.2.2 1 (by simp)
  have z2 := b2.1
  have HB3 := Lib.hid b2
  have HA3 := Lib.hid (HAW.out.trans a3)
  have HO := Lib.hid ob
  have HL := Lib.hid hL
  clear b2 a3 ob hL
  go_wp2_with fail
  refine bodyPost_ret (results_cell_tmp (v := .agg #[.slice hs.a rr.1.schemas.length hs.c, .slice ht.a rr.1.tables.length ht.c]) rfl _ rfl (lvObj_row (setO_row HB3.out rfl _ _))) rfl ?_
  exact objP_set HA3.out HL.out HO.out (by omega) (by have := HZ.out; omega) rfl
set_option maxHeartbeats 8000000 in
theorem dropSchema_in (o : Objs) (As : Option Addr) (caps : Nat) (At : Option Addr) (capt : Nat) (name : ByteArray) (w : World) (hsch : SlAt w 2 SchR As caps o.schemas) (htab : SlAt w 5 TabR At capt o.tables) :
    Calls Tryz.prog 26 #[.agg #[.slice As o.schemas.length caps, .slice At o.tables.length capt], .string name] w (ObjP w (chgR o (dropSchR name o))) := by
  have hlen := hsch.len
  have hlen2 := htab.len
  have sm : SmO o := ⟨sm_schs hsch, sm_tabs htab⟩
  have hent := enters (P := Tryz.prog) Tryz.func98 (by kernel_rfl) rfl
  have l1 : w.heap.size < w.heap.size + 1 := by omega
  have l2 : w.heap.size < w.heap.size + 1 + 1 := by omega
  obtain ⟨W, hW⟩ : ∃ W, W = ((w.alloc (.cells #[.slice As o.schemas.length caps, .slice At o.tables.length capt] 25)).alloc (.cells #[.string name] 9)).alloc (.cells #[.slice none 0 0, .slice none 0 0] 25) := ⟨_, rfl⟩
  have aW : Aft w W := by rw [hW]; exact (((Aft.refl w).alloc _).alloc _).alloc _
  have rs0 : RowAt W (w.heap.size + 1) [.string name] := by
    rw [hW]
    have := (box_row2 (w := (w.alloc (.cells #[.slice As o.schemas.length caps, .slice At o.tables.length capt] 25))) (c := [.string name]) (t := 9) (Aft.refl _)).aft ((Aft.refl _).alloc (.cells #[.slice none 0 0, .slice none 0 0] 25))
    simpa using this
  have r2 : RowAt W (w.heap.size + 1 + 1) [.slice none 0 0, .slice none 0 0] := by
    rw [hW]
    have := (box_row2 (w := ((w.alloc (.cells #[.slice As o.schemas.length caps, .slice At o.tables.length capt] 25)).alloc (.cells #[.string name] 9))) (c := [.slice none 0 0, .slice none 0 0]) (t := 25) (Aft.refl _))
    simpa using this
  have zW : W.heap.size = w.heap.size + 3 := by rw [hW]; simp
  have CT := Lib.hid (changed_in o As caps At capt 98 #[.pointer (some ⟨w.heap.size + 1, 0, none⟩)] (dropSchR name o) W (schs_aft aW hsch) (tabs_aft aW htab) hent
    dropSchR_zero (fun hck w1 hs ht L B n3 a hB hn hL ob hne r3 => dropSch1_in name o w1 hs ht L B n3 (w.heap.size + 1) hn hL ob hne r3 ((rs0.aft a).cell (j := 0) rfl) sm))
  obtain ⟨rr, hrr⟩ : ∃ rr, chgR o (dropSchR name o) = rr := ⟨_, rfl⟩
  rw [hrr] at CT ⊢
  have HAW := Lib.hid aW
  have HR2 := Lib.hid r2
  have HZ := Lib.hid zW
  clear hrr hsch htab r2 aW zW rs0 sm
  go_enter Tryz.func26, Tryz.ntmps26
  go_wp2_with fail
  rw [← hW]
  clear hW
  refine CT.out.mono ?_
  rintro e w3 ⟨hs, ht, L, hL, rfl, a3, ob⟩
  have b2 := HR2.out.aft a3
  have d0 := b2.cell (j := 0) rfl
  have d1 := b2.cell (j := 1) rfl
  have f0 := b2.2.2 0 (by simp)
  have f1 := b2.2.2 1 (by simp)
  have z2 := b2.1
  have HB3 := Lib.hid b2
  have HA3 := Lib.hid (HAW.out.trans a3)
  have HO := Lib.hid ob
  have HL := Lib.hid hL
  clear b2 a3 ob hL
  go_wp2_with fail
  refine bodyPost_ret (results_cell_tmp (v := .agg #[.slice hs.a rr.1.schemas.length hs.c, .slice ht.a rr.1.tables.length ht.c]) rfl _ rfl (lvObj_row (setO_row HB3.out rfl _ _))) rfl ?_
  exact objP_set HA3.out HL.out HO.out (by omega) (by have := HZ.out; omega) rfl
end Go.Proofs.YticjnndhpfdajaaGreat
/- The document's AddSchema and DropSchema. -/
namespace Go.Proofs.YticjnndhpfdajaaGreat
open Go.RowKit Go.Deep
set_option maxRecDepth 100000
set_option linter.unusedVariables false
end Go.Proofs.YticjnndhpfdajaaGreat
/- The document's AddTable. -/
namespace Go.Proofs.YticjnndhpfdajaaGreat
open Go.RowKit Go.Deep
set_option maxRecDepth 100000
set_option linter.unusedVariables false
theorem map_insAt {α β : Type} (f : α → β) (l : List α) (p : Nat) (x : α) : (insAt l p x).map f = insAt (l.map f) p (f x) := by unfold insAt; simp
theorem perm_insAt {α : Type} (l : List α) (p : Nat) (x : α) : (insAt l p x).Perm (l ++ [x]) := by
  unfold insAt
  have h1 : (l.take p ++ ([x] ++ l.drop p)).Perm (l.take p ++ (l.drop p ++ [x])) := List.perm_append_comm.append_left _
  rw [← List.append_assoc, ← List.append_assoc, List.take_append_drop] at h1
  exact h1
theorem cmpTb_less (x y : Tab) : (ltS x.schema y.schema || (eqS x.schema y.schema && ltS x.name y.name)) = decide (cmpTb x y < 0) := by
  unfold cmpTb or2
  by_cases h : cmpS x.schema y.schema = 0
  · rw [if_pos (by simpa using h), (cmpS_eq _ _).1 h, ← cmpS_lt, ← cmpS_lt, decide_eq_false (by omega : ¬ cmpS x.schema y.schema < 0)]; simp
  · have : eqS x.schema y.schema = false := by rw [Bool.eq_false_iff]; exact fun e => h ((cmpS_eq _ _).2 e)
    rw [if_neg (by simpa using h), this, ← cmpS_lt]; simp
/-- where the loop stands -/
def LsT (L : List OTab) (t : Tab) (p k : Nat) (l xs : List OTab) : Prop := (k ≤ p ∧ xs = [] ∧ l = L.take k) ∨ (p < k ∧ ∃ x, x.t = t ∧ xs = [x] ∧ l = insK L p x k)
theorem LsT.len {L : List OTab} {t : Tab} {p k : Nat} {l xs : List OTab} (h : LsT L t p k l xs) (hk : k ≤ L.length) : l.length ≤ L.length + 1 := by
  rcases h with ⟨_, _, rfl⟩ | ⟨_, x, _, _, rfl⟩
  · simp; omega
  · exact insK_len _ _ _ _ hk
theorem LsT.before {L : List OTab} {t : Tab} {p k : Nat} {l xs : List OTab} (h : LsT L t p k l xs) (hk : k < L.length) (hp : k < p) : LsT L t p (k + 1) (l ++ [L[k]]) xs := by
  rcases h with ⟨_, h2, rfl⟩ | ⟨h1, _⟩
  · exact .inl ⟨by omega, h2, (List.take_succ_eq_append_getElem hk).symm⟩
  · omega
theorem LsT.here {L : List OTab} {t : Tab} {k : Nat} {l xs : List OTab} {x : OTab} (h : LsT L t k k l xs) (hk : k < L.length) (hx : x.t = t) : xs = [] ∧ LsT L t k (k + 1) (l ++ [x] ++ [L[k]]) [x] := by
  rcases h with ⟨_, h2, rfl⟩ | ⟨h1, _⟩
  · refine ⟨h2, .inr ⟨by omega, x, hx, rfl, ?_⟩⟩
    rw [insK_at _ _ _ hk]
    unfold insK
    rw [if_neg (by omega)]
  · omega
theorem LsT.after {L : List OTab} {t : Tab} {p k : Nat} {l xs : List OTab} (h : LsT L t p k l xs) (hk : k < L.length) (hp : p < k) : LsT L t p (k + 1) (l ++ [L[k]]) xs := by
  rcases h with ⟨h1, _⟩ | ⟨_, x, hx, h2, rfl⟩
  · omega
  · exact .inr ⟨by omega, x, hx, h2, (insK_gt _ _ _ _ hk hp).symm⟩
theorem LsT.done {L : List OTab} {t : Tab} {p : Nat} {l xs : List OTab} (h : LsT L t p L.length l xs) (hp : p < L.length) : ∃ x, x.t = t ∧ xs = [x] ∧ l = insAt L p x := by
  rcases h with ⟨h1, _⟩ | ⟨_, x, hx, h2, rfl⟩
  · omega
  · exact ⟨x, hx, h2, insK_end _ _ _ hp⟩
theorem LsT.last {L : List OTab} {t : Tab} {l xs : List OTab} (h : LsT L t L.length L.length l xs) : xs = [] ∧ l = L := by
  rcases h with ⟨_, h2, h3⟩ | ⟨h1, _⟩
  · exact ⟨h2, by rw [h3, List.take_length]⟩
  · omega
end Go.Proofs.YticjnndhpfdajaaGreat
