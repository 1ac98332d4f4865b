/- The law RolesChecks, walked. -/
import Derived.Test.YtcdhljcpoopfaaaRol8
import Derived.Test.YtcdhljcpoopfaaaRefRgt8
namespace Go.Proofs.Ytcdhljcpoopfaaa
open Go.RowKit Go.Deep
set_option maxRecDepth 100000
set_option linter.unusedVariables false
set_option maxHeartbeats 4000000 in
theorem checks8 (w : World) : Calls Try.prog 13 #[] w fun e w' => e = .returned (.bool true) ∧ Aft w w' := by
  go_enter Try.func13, Try.ntmps13
  go_wp2_with fail
  refine (one8 _).mono ?_
  rintro e w1 ⟨⟨an, nn, cn⟩, ⟨am, nm, cm⟩, rfl, a1, rin⟩
  have hnn : nn = 3 := own_n rin.nam
  have hnm : nm = 2 := own_n rin.mem
  subst hnn hnm
  have C1 := Lib.hid (show ∀ w', Aft w1 w' → Calls Try.prog 12 #[.agg #[.slice an 3 cn, .slice am 2 cm]] w' fun e w'' => e = .returned (.int .i64 0) ∧ Aft w' w'' from
    fun w' a => (check8 oneR an cn am cm w' (strs_aft a (rin.names sm_one)) (mbrs_aft a (rin.mbrs sm_one))).mono fun e w'' ⟨he, hw⟩ => ⟨he.trans (by rw [oneR_ok]; rfl), hw⟩)
  have HA1 := Lib.hid a1
  have HR := Lib.hid rin
  clear a1 rin
  show (_ : Prop)
  simp only [Hd.v]
  go_wp2_with fail
  refine (C1.out _ ((Aft.refl _).alloc _)).mono ?_
  rintro e w2 ⟨rfl, a2⟩
  obtain ⟨hbox, hfr, hz, hzk, HA2⟩ := aft_box a2
  clear a2
  have r2 := HR.out.aft HA2.out
  have HOW := Lib.hid (show w2.ownsRow w.heap.size 61 2 (.slice am 2 cm) 2 ([⟨bA, bB⟩, ⟨bB, bC⟩].flatMap mbrC) from r2.mem)
  have HNM := Lib.hid r2
  obtain ⟨i0, hi0, hz0, hz1, hz2⟩ := info_parts info2Mem
  have HI0 := Lib.hid hi0
  have HZ := Lib.hid (And.intro hz0 (And.intro hz1 hz2))
  have hq7 : 2 + 1 ≤ maxLen := by unfold maxLen; omega
  clear hi0 hz0 hz1 hz2 r2
  have KF := Lib.hid (show ∀ gg cap' w5, w5.ownsRow w.heap.size 61 2 (.slice (some ⟨gg, 0, none⟩) (2 + 1) cap') (2 + 1) (([⟨bA, bB⟩, ⟨bB, bC⟩] : List Mbr).flatMap mbrC ++ [.string ⟨#[99]⟩, .string ⟨#[97]⟩]) → (w2.alloc (.cells #[.string ⟨#[99]⟩, .string ⟨#[97]⟩] 61)).grownBy w5 (Value.slice am 2 cm).ownBlock → ((Value.slice am 2 cm).ownBlock = some gg ∨ gg = w2.heap.size + 1) →
      w1.heap.size < w5.heap.size ∧ w5.cell? ⟨w1.heap.size, 1, none⟩ = some (.slice am 2 cm) ∧ w5.frozen? ⟨w1.heap.size, 1, none⟩ = false ∧ Hid (RowAt (w5.setCell ⟨w1.heap.size, 1, none⟩ (.slice (some ⟨gg, 0, none⟩) 3 cap')) w1.heap.size [.slice an 3 cn, .slice (some ⟨gg, 0, none⟩) 3 cap']) ∧ Hid (Aft w (w5.setCell ⟨w1.heap.size, 1, none⟩ (.slice (some ⟨gg, 0, none⟩) 3 cap'))) ∧
      Hid (Calls Try.prog 12 #[.agg #[.slice an 3 cn, .slice (some ⟨gg, 0, none⟩) 3 cap']] (w5.setCell ⟨w1.heap.size, 1, none⟩ (.slice (some ⟨gg, 0, none⟩) 3 cap')) fun e w'' => e = .returned (.int .i64 1) ∧ Aft (w5.setCell ⟨w1.heap.size, 1, none⟩ (.slice (some ⟨gg, 0, none⟩) 3 cap')) w'') from fun gg cap' w5 hown5 hgrow hat => by
    have hlt1 : ∀ g, (Value.slice am 2 cm).ownBlock = some g → w.heap.size ≤ g ∧ g < w1.heap.size := fun g hg => HR.out.mem.lt g hg
    have kb := Kb.of_grown hgrow
    have kbA : Kb (fun k => (Value.slice am 2 cm).ownBlock = some k) w2 w5 := (Kb.of_aft ((Aft.refl w2).alloc _)).trans kb
    have rb2 : RowAt w2 w1.heap.size [.slice an 3 cn, .slice am 2 cm] := ⟨hz.1, fun j hj => by rw [hbox]; simp, fun j hj => hfr j⟩
    have rb5 : RowAt w5 w1.heap.size [.slice an 3 cn, .slice am 2 cm] := kbA.row rb2 fun h => by have := (hlt1 _ h).2; omega
    have nam5 : w5.ownsRow w.heap.size 9 1 (Hd.mk an 3 cn).v ringR.names.length (ringR.names.flatMap nameC) := own_kb HNM.out.nam kbA fun g hg h => HR.out.dis g (Hd.mem_blk.2 hg) (Hd.mem_blk.2 h)
    have rin5 : RolIn w5 w.heap.size ⟨an, 3, cn⟩ ⟨some ⟨gg, 0, none⟩, 3, cap'⟩ ringR := ⟨nam5, hown5, fun g hg hg' => by
      rw [blk_some, List.mem_singleton] at hg'
      have hg2 : g = gg := hg'
      rcases hat with h1 | h1
      · exact HR.out.dis g hg (Hd.mem_blk.2 (by rw [hg2]; exact h1))
      · have := (HR.out.nam.lt g (Hd.mem_blk.1 hg)).2
        have := HA2.out.size
        omega⟩
    have kset := Kb.set w5 w1.heap.size 1 (.slice (some ⟨gg, 0, none⟩) 3 cap')
    have hggne : gg ≠ w1.heap.size := fun e => by
      rcases hat with h1 | h1
      · have := (hlt1 gg h1).2; omega
      · omega
    have rin6 : RolIn (w5.setCell ⟨w1.heap.size, 1, none⟩ (.slice (some ⟨gg, 0, none⟩) 3 cap')) w.heap.size ⟨an, 3, cn⟩ ⟨some ⟨gg, 0, none⟩, 3, cap'⟩ ringR :=
      ⟨own_kb rin5.nam kset fun g hg e => by have := (HR.out.nam.lt g hg).2; have e : g = w1.heap.size := e; omega, own_kb rin5.mem kset fun g hg e => by
        have : g = gg := by simpa [Hd.v, Value.ownBlock, eq_comm] using hg
        exact hggne (by rw [← this]; exact e), rin5.dis⟩
    have rb6 : RowAt (w5.setCell ⟨w1.heap.size, 1, none⟩ (.slice (some ⟨gg, 0, none⟩) 3 cap')) w1.heap.size [.slice an 3 cn, .slice (some ⟨gg, 0, none⟩) 3 cap'] := rb5.set 1 _ (by simp)
    have HA6 := (show Aft w (w5.setCell ⟨w1.heap.size, 1, none⟩ (.slice (some ⟨gg, 0, none⟩) 3 cap')) from by
      have a5 : Aft w w5 := aft_grown (HOW.out.alloc _) ((HA1.out.trans HA2.out).alloc _) hgrow
      exact a5.setCell _ _ (HA1.out.size))
    have C2 := (show Calls Try.prog 12 #[.agg #[.slice an 3 cn, .slice (some ⟨gg, 0, none⟩) 3 cap']] (w5.setCell ⟨w1.heap.size, 1, none⟩ (.slice (some ⟨gg, 0, none⟩) 3 cap')) fun e w'' => e = .returned (.int .i64 1) ∧ Aft (w5.setCell ⟨w1.heap.size, 1, none⟩ (.slice (some ⟨gg, 0, none⟩) 3 cap')) w'' from
      (check8 ringR an cn (some ⟨gg, 0, none⟩) cap' _ (rin6.names sm_ring) (rin6.mbrs sm_ring)).mono fun e w'' ⟨he, hw⟩ => ⟨he.trans (by rw [ringR_no]; rfl), hw⟩)
    exact ⟨rb5.1, rb5.cell (j := 1) rfl, rb5.2.2 1 (by simp), Lib.hid rb6, Lib.hid HA6, Lib.hid C2⟩)
  have c21 := hbox 1
  have z21 := hz.1
  have c20 := hbox 0
  simp only [List.getElem?_toArray, List.getElem?_cons_succ, List.getElem?_cons_zero] at c20 c21
  clear hbox hfr hz hzk
  go_wp2_with (at_builtin; go_must (refine wpList_append_lies _ rfl _ _ 23 rfl w.heap.size 61 i0 _ 2 32 Try.underlying23 HI0.out HZ.out.1 HZ.out.2.1 HZ.out.2.2 rfl (by decide) (.slice am 2 cm) 2 ([⟨bA, bB⟩, ⟨bB, bC⟩].flatMap mbrC) rfl (HOW.out.alloc _) ⟨w2.heap.size, 0, none⟩ 1 1 [.string ⟨#[99]⟩, .string ⟨#[97]⟩] rfl rfl ?qn (by simp [Value.oneCell']) (by omega) hq7 (by omega) ?qb (w2.heap.size + 1) (by simp) ?_); rotate_left 2; intro gg cap' w5 hown5 hgrow hat hgl; obtain ⟨z5, c51, f51, HRB, HA6, C2⟩ := KF.out gg cap' w5 hown5 hgrow hat; clear hown5 hgrow hat hgl)
  case qn => exact World.news_of_block (cs := #[.string ⟨#[99]⟩, .string ⟨#[97]⟩]) (t := 61) (fr := (0, 0)) (heap_alloc_new w2 _)
  case qb => have := HA1.out.size; have := HA2.out.size; simp; omega
  rw [show Sem.run Try.prog (lvRol ⟨w1.heap.size, 0, none⟩) _ = _ from lvRol_row HRB.out]
  simp only [Result.andThen]
  rw [Oper.upon_value]
  go_wp2_with fail
  refine C2.out.mono ?_
  rintro e w7 ⟨rfl, a7⟩
  have HA7 := Lib.hid (HA6.out.trans a7)
  clear a7
  go_wp2_with fail
  go_ret
  exact ⟨rfl, HA7.out⟩
set_option maxHeartbeats 4000000 in
theorem law_rchecks8 (r : Rls) (An : Option Addr) (capn : Nat) (Am : Option Addr) (capm : Nat) (w : World) (hn : SlAt w 1 StrR An capn r.names) (hm : SlAt w 2 MbrR Am capm r.members) :
    Calls Try.prog 3 #[.agg #[.slice An r.names.length capn, .slice Am r.members.length capm]] w fun e w' => e = .returned (.bool true) ∧ Aft w w' := by
  obtain ⟨c, hc⟩ : ∃ c, rightR r = c := ⟨_, rfl⟩
  obtain ⟨b, hb⟩ : ∃ b, bigR r = b := ⟨_, rfl⟩
  have CL := Lib.hid (show ∀ w', _ from fun w' => hb ▸ large8 r An capn Am capm w')
  have CK := Lib.hid (show ∀ w', Aft w w' → _ from fun w' a => hc ▸ check8 r An capn Am capm w' (strs_aft a hn) (mbrs_aft a hm))
  have CR := Lib.hid (show ∀ w', Aft w w' → _ from fun w' a => hc ▸ rright8 r An capn Am capm w' (strs_aft a hn) (mbrs_aft a hm))
  clear hc hb
  go_enter Try.func3, Try.ntmps3
  go_wp2_with fail
  refine (CL.out _).mono ?_
  rintro e w1 ⟨rfl, a1⟩
  obtain ⟨hbox, hfr, hz, hzk, HA⟩ := aft_box a1
  clear a1 CL
  cases b
  · go_wp2_with fail
    refine (CK.out _ HA.out).mono ?_
    rintro e w2 ⟨rfl, a2⟩
    obtain ⟨hbox, hfr, hz, hzk⟩ := box_aft hbox hfr hz.1 a2
    have HA2 := Lib.hid (HA.out.trans a2)
    clear a2
    cases c
    all_goals
      go_wp2_with fail
      refine (checks8 _).mono ?_
      rintro e w3 ⟨rfl, a3⟩
      obtain ⟨hbox, hfr, hz, hzk⟩ := box_aft hbox hfr hz.1 a3
      have HA3 := Lib.hid (HA2.out.trans a3)
      clear a3
      go_wp2_with fail
      refine (CR.out _ HA3.out).mono ?_
      rintro e w4 ⟨rfl, a4⟩
      have HA4 := Lib.hid (HA3.out.trans a4)
      clear a4
      go_wp2_with fail
      go_ret
      exact ⟨rfl, HA4.out⟩
  · go_wp2_with fail
    go_ret
    exact ⟨rfl, HA.out⟩
end Go.Proofs.Ytcdhljcpoopfaaa
