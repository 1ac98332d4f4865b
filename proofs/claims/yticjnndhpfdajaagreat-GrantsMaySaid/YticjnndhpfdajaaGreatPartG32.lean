/- Contracts of the program, part 32. -/
import Derived.Test.YticjnndhpfdajaaGreatPartG28
import Derived.Test.YticjnndhpfdajaaGreatPartG29
import Derived.Test.YticjnndhpfdajaaGreatPartG26
import Derived.Test.YticjnndhpfdajaaGreatPartG30
/- The law GrantsMay, walked. -/
namespace Go.Proofs.YticjnndhpfdajaaGreat
open Go.RowKit Go.Deep
set_option maxRecDepth 100000
set_option linter.unusedVariables false
set_option maxHeartbeats 16000000 in
theorem law_may9 (c : Cat) (As : Option Addr) (caps : Nat) (At : Option Addr) (capt : Nat) (An : Option Addr) (capn : Nat) (Am : Option Addr) (capm : Nat) (Ag : Option Addr) (capg : Nat) (role s n : ByteArray) (rt : Int) (hrs : Small role.size) (w : World) (H : CatAt w c As caps At capt An capn Am capm Ag capg) :
    Calls Tryz.prog 7 #[.agg #[.int .i64 c.epoch, .int .i64 c.version, .slice As c.objs.schemas.length caps, .slice At c.objs.tables.length capt, .slice An c.rols.names.length capn, .slice Am c.rols.members.length capm, .slice Ag c.grants.length capg], .string role, .string s, .string n, .int .i64 rt] w fun e w' => e = .returned (.bool true) ∧ Aft w w' := by
  have l1 : w.heap.size < w.heap.size + 1 := by omega
  obtain ⟨W, hW⟩ : ∃ W, W = w.alloc (.cells #[.int .i64 c.epoch, .int .i64 c.version, .slice As c.objs.schemas.length caps, .slice At c.objs.tables.length capt, .slice An c.rols.names.length capn, .slice Am c.rols.members.length capm, .slice Ag c.grants.length capg] 59) := ⟨_, rfl⟩
  have aW : Aft w W := by rw [hW]; exact (Aft.refl w).alloc _
  have r0 : RowAt W (w.heap.size) [.int .i64 c.epoch, .int .i64 c.version, .slice As c.objs.schemas.length caps, .slice At c.objs.tables.length capt, .slice An c.rols.names.length capn, .slice Am c.rols.members.length capm, .slice Ag c.grants.length capg] := by rw [hW]; exact box_at (Aft.refl _) (by simp)
  have HR0 := Lib.hid r0
  have HAW := Lib.hid aW
  have HH := Lib.hid (H.aft aW)
  have HSM := Lib.hid H.sm
  have CL := Lib.hid (large9 c As caps At capt An capn Am capm Ag capg W (H.aft aW))
  have x0 := r0.cell (j := 0) rfl
  have x1 := r0.cell (j := 1) rfl
  have x2 := r0.cell (j := 2) rfl
  have x3 := r0.cell (j := 3) rfl
  have x4 := r0.cell (j := 4) rfl
  have x5 := r0.cell (j := 5) rfl
  have x6 := r0.cell (j := 6) rfl
  have xz := r0.1
  clear H r0 aW
  go_enter Tryz.func7, Tryz.ntmps7
  go_wp2_with fail
  rw [← hW]
  clear hW
  go_wp2_with fail
  refine CL.out.mono ?_
  rintro e w1 ⟨bg, rfl, hmod, a1⟩
  have HM := Lib.hid hmod
  have HA1 := Lib.hid a1
  have p0 := HR0.out.aft a1
  clear x0 x1 x2 x3 x4 x5 x6 xz CL hmod
  have x0 := p0.cell (j := 0) rfl
  have x1 := p0.cell (j := 1) rfl
  have x2 := p0.cell (j := 2) rfl
  have x3 := p0.cell (j := 3) rfl
  have x4 := p0.cell (j := 4) rfl
  have x5 := p0.cell (j := 5) rfl
  have x6 := p0.cell (j := 6) rfl
  have xz := p0.1
  clear p0
  cases bg
  case true =>
    go_wp2_with fail
    go_ret
    exact ⟨rfl, HAW.out.trans a1⟩
  have hmo := HM.out rfl
  have CO := Lib.hid (own9 c As caps At capt An capn Am capm Ag capg w1 (HH.out.aft a1) hmo.obj (by have := hmo.nam; omega) (by have := hmo.mem; omega) (by have := hmo.gra; omega))
  clear a1 hmo
  go_wp2_with fail
  refine CO.out.mono ?_
  rintro e w2 ⟨hs, ht, hn, hm, hg, L, rfl, a2, ci⟩
  have hat := ci.at HSM.out
  obtain ⟨Bs, ns, bcs⟩ := hs
  obtain ⟨Bt, nt, bct⟩ := ht
  obtain ⟨Bn, nn, bcn⟩ := hn
  obtain ⟨Bm, nm, bcm⟩ := hm
  obtain ⟨Bg, ng, bcg⟩ := hg
  simp only [CatV]
  obtain ⟨X, hX⟩ : ∃ V, V = w2.alloc (.cells #[.int .i64 c.epoch, .int .i64 c.version, .slice Bs c.objs.schemas.length bcs, .slice Bt c.objs.tables.length bct, .slice Bn c.rols.names.length bcn, .slice Bm c.rols.members.length bcm, .slice Bg c.grants.length bcg] 59) := ⟨_, rfl⟩
  have aX : Aft w2 X := by rw [hX]; exact (Aft.refl _).alloc _
  have HQ := Lib.hid (show RowAt X w2.heap.size [.int .i64 c.epoch, .int .i64 c.version, .slice Bs c.objs.schemas.length bcs, .slice Bt c.objs.tables.length bct, .slice Bn c.rols.names.length bcn, .slice Bm c.rols.members.length bcm, .slice Bg c.grants.length bcg] by rw [hX]; exact box_row2 (Aft.refl _))
  have HAX := Lib.hid (HA1.out.trans (a2.trans aX))
  have HR := Lib.hid (HR0.out.aft HAX.out)
  have HWX := Lib.hid (HAW.out.trans HAX.out)
  have HX1 := Lib.hid (HH.out.aft HAX.out)
  have HX2 := Lib.hid ((show CatAt w2 c Bs bcs Bt bct Bn bcn Bm bcm Bg bcg from hat).aft aX)
  have l2 : w2.heap.size < w2.heap.size + 1 := by omega
  have CD := Lib.hid (show ∀ V, Aft X V → _ from fun V a => same9 c As caps At capt An capn Am capm Ag capg Bs bcs Bt bct Bn bcn Bm bcm Bg bcg V (HX1.out.aft a) (HX2.out.aft a))
  have p0 := HR.out
  have p1 := HQ.out
  clear a2 ci hat aX CO x0 x1 x2 x3 x4 x5 x6 xz HM
  have x0 := p0.cell (j := 0) rfl
  have x1 := p0.cell (j := 1) rfl
  have x2 := p0.cell (j := 2) rfl
  have x3 := p0.cell (j := 3) rfl
  have x4 := p0.cell (j := 4) rfl
  have x5 := p0.cell (j := 5) rfl
  have x6 := p0.cell (j := 6) rfl
  have xz := p0.1
  have y0 := p1.cell (j := 0) rfl
  have y1 := p1.cell (j := 1) rfl
  have y2 := p1.cell (j := 2) rfl
  have y3 := p1.cell (j := 3) rfl
  have y4 := p1.cell (j := 4) rfl
  have y5 := p1.cell (j := 5) rfl
  have y6 := p1.cell (j := 6) rfl
  have yz := p1.1
  clear p0 p1
  rw [hX] at x0 x1 x2 x3 x4 x5 x6 xz y0 y1 y2 y3 y4 y5 y6 yz
  obtain ⟨p, hp⟩ : ∃ p, bossR c role s n = p := ⟨_, rfl⟩
  obtain ⟨q, hq⟩ : ∃ q, mayR c role s n rt = q := ⟨_, rfl⟩
  have C1 := Lib.hid (show ∀ V, Aft X V → Calls Tryz.prog 42 #[.agg #[.int .i64 c.epoch, .int .i64 c.version, .slice As c.objs.schemas.length caps, .slice At c.objs.tables.length capt, .slice An c.rols.names.length capn, .slice Am c.rols.members.length capm, .slice Ag c.grants.length capg], .string role, .string s, .string n] V fun e w' => e = .returned (.bool p) ∧ Aft V w' from fun V a => hp ▸ bossT c As caps At capt An capn Am capm Ag capg role s n hrs V (HX1.out.aft a))
  have C2 := Lib.hid (show ∀ V, Aft X V → Calls Tryz.prog 43 #[.agg #[.int .i64 c.epoch, .int .i64 c.version, .slice Bs c.objs.schemas.length bcs, .slice Bt c.objs.tables.length bct, .slice Bn c.rols.names.length bcn, .slice Bm c.rols.members.length bcm, .slice Bg c.grants.length bcg], .string role, .string s, .string n] V fun e w' => e = .returned (.bool p) ∧ Aft V w' from fun V a => hp ▸ rBossT c Bs bcs Bt bct Bn bcn Bm bcm Bg bcg role s n hrs V (HX2.out.aft a))
  have C3 := Lib.hid (show ∀ V, Aft X V → Calls Tryz.prog 44 #[.agg #[.int .i64 c.epoch, .int .i64 c.version, .slice As c.objs.schemas.length caps, .slice At c.objs.tables.length capt, .slice An c.rols.names.length capn, .slice Am c.rols.members.length capm, .slice Ag c.grants.length capg], .string role, .string s, .string n, .int .i64 rt] V fun e w' => e = .returned (.bool q) ∧ Aft V w' from fun V a => hq ▸ mayT c As caps At capt An capn Am capm Ag capg role s n rt hrs V (HX1.out.aft a))
  have C4 := Lib.hid (show ∀ V, Aft X V → Calls Tryz.prog 45 #[.agg #[.int .i64 c.epoch, .int .i64 c.version, .slice Bs c.objs.schemas.length bcs, .slice Bt c.objs.tables.length bct, .slice Bn c.rols.names.length bcn, .slice Bm c.rols.members.length bcm, .slice Bg c.grants.length bcg], .string role, .string s, .string n, .int .i64 rt] V fun e w' => e = .returned (.bool q) ∧ Aft V w' from fun V a => hq ▸ rMayT c Bs bcs Bt bct Bn bcn Bm bcm Bg bcg role s n rt hrs V (HX2.out.aft a))
  have D1 := Lib.hid (show ∀ V, Aft X V → ∀ x : Lat V, Calls Tryz.prog 42 #[.agg #[.int .i64 c.epoch, .int .i64 c.version, .slice As c.objs.schemas.length caps, .slice At c.objs.tables.length capt, .slice An c.rols.names.length capn, .slice Am c.rols.members.length capm, .slice Ag c.grants.length capg], .string role, .string s, .string n] (lat V x) fun e w' => e = .returned (.bool p) ∧ Aft (lat V x) w' from fun V a x => C1.out (lat V x) (a.lat x))
  have D2 := Lib.hid (show ∀ V, Aft X V → ∀ x : Lat V, Calls Tryz.prog 43 #[.agg #[.int .i64 c.epoch, .int .i64 c.version, .slice Bs c.objs.schemas.length bcs, .slice Bt c.objs.tables.length bct, .slice Bn c.rols.names.length bcn, .slice Bm c.rols.members.length bcm, .slice Bg c.grants.length bcg], .string role, .string s, .string n] (lat V x) fun e w' => e = .returned (.bool p) ∧ Aft (lat V x) w' from fun V a x => C2.out (lat V x) (a.lat x))
  have D3 := Lib.hid (show ∀ V, Aft X V → ∀ x : Lat V, Calls Tryz.prog 44 #[.agg #[.int .i64 c.epoch, .int .i64 c.version, .slice As c.objs.schemas.length caps, .slice At c.objs.tables.length capt, .slice An c.rols.names.length capn, .slice Am c.rols.members.length capm, .slice Ag c.grants.length capg], .string role, .string s, .string n, .int .i64 rt] (lat V x) fun e w' => e = .returned (.bool q) ∧ Aft (lat V x) w' from fun V a x => C3.out (lat V x) (a.lat x))
  have D4 := Lib.hid (show ∀ V, Aft X V → ∀ x : Lat V, Calls Tryz.prog 45 #[.agg #[.int .i64 c.epoch, .int .i64 c.version, .slice Bs c.objs.schemas.length bcs, .slice Bt c.objs.tables.length bct, .slice Bn c.rols.names.length bcn, .slice Bm c.rols.members.length bcm, .slice Bg c.grants.length bcg], .string role, .string s, .string n, .int .i64 rt] (lat V x) fun e w' => e = .returned (.bool q) ∧ Aft (lat V x) w' from fun V a x => C4.out (lat V x) (a.lat x))
  have AR := Lib.hid (Aft.refl X)
  clear hp hq C1 C2 C3 C4
  go_wp2_with fail
  rw [← hX]
  clear x0 x1 x2 x3 x4 x5 x6 xz y0 y1 y2 y3 y4 y5 y6 yz
  have p0 := HR.out.aft (AR.out)
  have p1 := HQ.out.aft (AR.out)
  have x0 := p0.cell (j := 0) rfl
  have x1 := p0.cell (j := 1) rfl
  have x2 := p0.cell (j := 2) rfl
  have x3 := p0.cell (j := 3) rfl
  have x4 := p0.cell (j := 4) rfl
  have x5 := p0.cell (j := 5) rfl
  have x6 := p0.cell (j := 6) rfl
  have xz := p0.1
  have y0 := p1.cell (j := 0) rfl
  have y1 := p1.cell (j := 1) rfl
  have y2 := p1.cell (j := 2) rfl
  have y3 := p1.cell (j := 3) rfl
  have y4 := p1.cell (j := 4) rfl
  have y5 := p1.cell (j := 5) rfl
  have y6 := p1.cell (j := 6) rfl
  have yz := p1.1
  clear p0 p1
  clear hX
  cases p
  all_goals
    refine wp_region_lat (by kernel_rfl) (by kernel_rfl) ?_
    repeat (go_big_quiet_step ((first | (go_at_call 42; exact Calls.lat_of (D1.out X AR.out _)) | (go_at_call 43; exact Calls.lat_of (D2.out X AR.out _)))))
    refine wpQuiet_nil ?_
    intro _ hw'
    obtain ⟨y, hw''⟩ := hw'
    subst hw''
    have HB := Lib.hid (AR.out.lat y)
    clear x0 x1 x2 x3 x4 x5 x6 xz y0 y1 y2 y3 y4 y5 y6 yz
    have p0 := HR.out.aft (HB.out)
    have p1 := HQ.out.aft (HB.out)
    have x0 := p0.cell (j := 0) rfl
    have x1 := p0.cell (j := 1) rfl
    have x2 := p0.cell (j := 2) rfl
    have x3 := p0.cell (j := 3) rfl
    have x4 := p0.cell (j := 4) rfl
    have x5 := p0.cell (j := 5) rfl
    have x6 := p0.cell (j := 6) rfl
    have xz := p0.1
    have y0 := p1.cell (j := 0) rfl
    have y1 := p1.cell (j := 1) rfl
    have y2 := p1.cell (j := 2) rfl
    have y3 := p1.cell (j := 3) rfl
    have y4 := p1.cell (j := 4) rfl
    have y5 := p1.cell (j := 5) rfl
    have y6 := p1.cell (j := 6) rfl
    have yz := p1.1
    clear p0 p1
    cases q
    all_goals
      go_wp2_with fail
      refine wp_region_lat (by kernel_rfl) (by kernel_rfl) ?_
      repeat (go_big_quiet_step ((first | (go_at_call 44; exact Calls.lat_of (D3.out (lat X y) HB.out _)) | (go_at_call 45; exact Calls.lat_of (D4.out (lat X y) HB.out _)))))
      refine wpQuiet_nil ?_
      intro _ hw'
      obtain ⟨z, hw''⟩ := hw'
      subst hw''
      go_wp2_with fail
      refine (may9 _).mono ?_
      rintro e w7 ⟨rfl, a7⟩
      have HA7 := Lib.hid ((HB.out.lat z).trans a7)
      clear x0 x1 x2 x3 x4 x5 x6 xz y0 y1 y2 y3 y4 y5 y6 yz
      have p0 := HR.out.aft (HA7.out)
      have p1 := HQ.out.aft (HA7.out)
      have x0 := p0.cell (j := 0) rfl
      have x1 := p0.cell (j := 1) rfl
      have x2 := p0.cell (j := 2) rfl
      have x3 := p0.cell (j := 3) rfl
      have x4 := p0.cell (j := 4) rfl
      have x5 := p0.cell (j := 5) rfl
      have x6 := p0.cell (j := 6) rfl
      have xz := p0.1
      have y0 := p1.cell (j := 0) rfl
      have y1 := p1.cell (j := 1) rfl
      have y2 := p1.cell (j := 2) rfl
      have y3 := p1.cell (j := 3) rfl
      have y4 := p1.cell (j := 4) rfl
      have y5 := p1.cell (j := 5) rfl
      have y6 := p1.cell (j := 6) rfl
      have yz := p1.1
      clear p0 p1
      clear a7
      go_wp2_with fail
      refine (CD.out w7 HA7.out).mono ?_
      rintro e w9 ⟨rfl, a9⟩
      have HA9 := Lib.hid (HWX.out.trans (HA7.out.trans a9))
      clear a9
      go_wp2_with fail
      go_ret
      exact ⟨rfl, HA9.out⟩
end Go.Proofs.YticjnndhpfdajaaGreat
