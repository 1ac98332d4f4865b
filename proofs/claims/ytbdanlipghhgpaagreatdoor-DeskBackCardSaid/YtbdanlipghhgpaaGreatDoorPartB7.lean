/- Contracts of the program, part 7. -/
import Derived.Deep.RegionLaw
import Derived.RegionDies
import Derived.Deep.AppendLies
import Derived.Laws.EntriesVeiled
import Derived.WalkKit
import Derived.WalkSpells
import Derived.WalkLawsBesides
import Derived.Laws.Cells
import Derived.Laws.IdiomCopy
import Derived.Test.YtbdanlipghhgpaaGreatDoorRows
import Derived.Lib.Bytealg
import Derived.Lib.Hide
import Derived.ProofKit
import Derived.OpenShut
import Derived.Deep.Slices
import Derived.ChangeOld
import Derived.SizedLaws
import Derived.Deep.QuietTactic
import Derived.BigQuiet
import Derived.Below
import Derived.Deep.Draws
import Derived.StillTailTactics
import Derived.ShutString
import Derived.Lib.Atoi
import Derived.Lib.ItoaNum
import Derived.Lib.Split
import Derived.Lib.SplitLaws
import Derived.Lib.CutLaws
import Derived.Lib.Strings
import Derived.Lib.SlTrimSet
import Derived.Deep.Upon
import Derived.OwnWalk
import Derived.Laws.AppendOwn
import Derived.Shelf.Strings.Builder1
import Derived.Shelf.Strings.Builder2
import Derived.Shelf.Strings.OnBuilder
import Derived.Shelf.Strings.Trim
import Derived.Shelf.Small.Utf8
import Derived.Shelf.Small.Strs
import Derived.Shelf.Small.Wraps
import Derived.Shelf.Strconv.Atoi
import Derived.Shelf.Strconv.Itoa0
import Derived.Shelf.Strconv.Itoa1
import Derived.Shelf.LaysM
import Derived.Shelf.Strconv.Itoa2
import Derived.Shelf.Strconv.Itoa3
import Derived.Shelf.Strings.Search1
import Derived.Shelf.Strings.Search2
import Derived.Shelf.Strings.Search3
import Derived.Shelf.Strings.Cut
import Derived.Shelf.Strings.Count
import Derived.Shelf.Strings.Shaped
import Derived.Shelf.Strings.Prefix
import Derived.Shelf.Strings.Split
import Derived.Shelf.Strings.Runes
import Derived.Shelf.Strings.AsciiSet
import Derived.Shelf.Unicode.DecodeSlow
import Derived.Shelf.Slices.Equal
import Derived.Shelf.Slices.Empties2
import Derived.Shelf.Strings.SlTrimAscii
import Derived.Test.YtbdanlipghhgpaaGreatDoorProg
import Derived.Test.YtbdanlipghhgpaaGreatDoorPartB1
import Derived.Test.YtbdanlipghhgpaaGreatDoorPartB2
import Derived.Test.YtbdanlipghhgpaaGreatDoorPartB3
import Derived.Test.YtbdanlipghhgpaaGreatDoorPartB4
import Derived.Test.YtbdanlipghhgpaaGreatDoorPartB5
import Derived.Test.YtbdanlipghhgpaaGreatDoorPartB6
namespace Go.Proofs.YtbdanlipghhgpaaGreatDoor
open Go.RowKit Go.Deep
set_option maxRecDepth 100000
set_option linter.unusedVariables false
set_option maxHeartbeats 8000000 in
theorem row_insert (b p : Nat) (WW : Ws) (w : World) (h : WdS w b p (b_insert :: WW)) : Calls Tryz.prog 31 #[.pointer (some ⟨b, 0, none⟩)] w (RdQ b p w (RopV b w.heap.size) (rowP (b_insert :: WW))) := by
  have HN := Lib.hid (fun w1 W (h : WdS w1 b p W) => name_rd b p W w1 h)
  have HV := Lib.hid (fun w1 W (h : WdS w1 b p W) => value_rd b p W w1 h)
  have HW0 := Lib.hid (show Calls Tryz.prog 27 #[.pointer (some ⟨b, 0, none⟩)] (w.alloc (.cells #[.int .i64 0, .string ⟨#[]⟩, .string ⟨#[]⟩, .string ⟨#[]⟩, .slice none 0 0, .string ⟨#[]⟩, .int .i64 0, .int .i64 0, .string ⟨#[]⟩] 41)) fun e w' => e = .returned (.string ⟨#[105, 110, 115, 101, 114, 116]⟩) ∧ WdS w' b p WW ∧ Kw b (w.alloc (.cells #[.int .i64 0, .string ⟨#[]⟩, .string ⟨#[]⟩, .string ⟨#[]⟩, .slice none 0 0, .string ⟨#[]⟩, .int .i64 0, .int .i64 0, .string ⟨#[]⟩] 41)) w' from word_yes b p b_insert WW _ (h.aft ((Aft.refl w).alloc _)))
  have hb := h.lt
  have HPL := Lib.hid h.plt
  have HLO := Lib.hid h.low
  clear h
  go_enter Tryz.func31, Tryz.ntmps31
  go_wp2_with (first
    | (go_at_call 27; with_reducible refine HW0.out.mono ?_; rintro e w1 ⟨rfl, d, k⟩; have D1 := Lib.hid d; have R1 := Lib.hid k; clear d k)
    | (go_at_call 48; with_reducible refine (HN.out _ _ D1.out).mono ?_; rintro e w2 q; rcases name_cases q with ⟨n, rfl, k⟩ | ⟨s2, W2, n, rfl, g2, d, k⟩; all_goals (have N2 := Lib.hid n; have R2 := Lib.hid (R1.out.trans k); clear n q; try (have D2 := Lib.hid d; clear d)))
    | (go_at_call 48; with_reducible refine (HN.out _ _ D2.out).mono ?_; rintro e w3 q; rcases name_cases q with ⟨n, rfl, k⟩ | ⟨s3, W3, n, rfl, g3, d, k⟩; all_goals (have N3 := Lib.hid n; have R3 := Lib.hid (R2.out.trans k); clear n q; try (have D3 := Lib.hid d; clear d)))
    | (go_at_call 48; with_reducible refine (HN.out _ _ D3.out).mono ?_; rintro e w4 q; rcases name_cases q with ⟨n, rfl, k⟩ | ⟨s4, W4, n, rfl, g4, d, k⟩; all_goals (have N4 := Lib.hid n; have R4 := Lib.hid (R3.out.trans k); clear n q; try (have D4 := Lib.hid d; have ST := bx_start (t2 := 41) (zs := [.int .i64 0, .string ⟨#[]⟩, .string ⟨#[]⟩, .string ⟨#[]⟩, .slice none 0 0, .string ⟨#[]⟩, .int .i64 0, .int .i64 0, .string ⟨#[]⟩]) hb HPL.out HLO.out R4.out d [.int .i64 0, .string s2, .string s3, .string s4, .slice none 0 0, .string ⟨#[]⟩, .int .i64 0, .int .i64 0, .string ⟨#[]⟩]; have S := Lib.hid ST.1; have X4 := Lib.hid ST.2; clear ST; clear d)))
    | (go_at_call 53; with_reducible refine (HV.out _ _ X4.out.ds).mono ?_; rintro e w5 q; rcases val_cases q with ⟨n, rfl, k⟩ | ⟨s5, W5, n, rfl, g5, d, k⟩; all_goals (have N5 := Lib.hid n; have K5 := Lib.hid (X4.out.kw.trans k); clear n q; try (have X5 := Lib.hid (X4.out.call S.out k d); have xz5 := X5.out.row.ltD; have rz5 := X5.out.res.ltD; obtain ⟨c5_0, f5_0⟩ := X5.out.cf 0 (by simp); obtain ⟨c5_4, f5_4⟩ := X5.out.cf 4 (by simp); have O5 := Lib.hid (vals_own w5 w4.heap.size 0 4 (.int .i64 1) (.slice (some ⟨w5.heap.size, 0, none⟩) 1 1) b s5 X5.out.ds.lt); have X5s := ((X5.out.set S.out 0 (.int .i64 1) (by simp)).set S.out 4 (.slice (some ⟨w5.heap.size, 0, none⟩) 1 1) (by simp)).alloc (.cells #[.int .i64 s5.kind, .int .i64 s5.int, .string s5.text] 39); simp only [List.set_cons_succ, List.set_cons_zero] at X5s; have X5s := Lib.hid X5s; clear d))))
  · exact ⟨rfl, ((Kw.refl b w).alloc _).trans R2.out, by rw [show rowP (b_insert :: WW) = none by simp only [rowP_cons, N2.out, Option.bind_some, Option.bind_none]]; rfl⟩
  · exact ⟨rfl, ((Kw.refl b w).alloc _).trans R3.out, by rw [show rowP (b_insert :: WW) = none by simp only [rowP_cons, N2.out, N3.out, Option.bind_some, Option.bind_none]]; rfl⟩
  · exact ⟨rfl, ((Kw.refl b w).alloc _).trans R4.out, by rw [show rowP (b_insert :: WW) = none by simp only [rowP_cons, N2.out, N3.out, N4.out, Option.bind_some, Option.bind_none]]; rfl⟩
  · exact ⟨rfl, K5.out, by rw [show rowP (b_insert :: WW) = none by simp only [rowP_cons, N2.out, N3.out, N4.out, Option.bind_some, rowT_insert, vals_none N5.out, Option.bind_none]]; rfl⟩
  have N5' := N5.out
  obtain ⟨c0, e5, hc0⟩ := oneP_some.1 N5'
  have HC0 := Lib.hid hc0
  have E5 := Lib.hid e5
  have LS := Lib.hid (show w.heap.size < w5.heap.size ∧ w4.heap.size < w5.heap.size ∧ b < w5.heap.size ∧ p < w5.heap.size from ⟨X5.out.res.ltD, X5.out.row.ltD, X5.out.ds.lt, X5.out.ds.plt⟩)
  have LW := Lib.hid (show W4.length ≤ 4097 from X4.out.ds.big)
  clear N5' e5 hc0
  go_loopw [] (fun wr => ∃ (pre rest : Ws) (l : List Val) (h : Hd), GrowX 39 3 valC valB 4 b p w.heap.size w4.heap.size w [.int .i64 0, .string ⟨#[]⟩, .string ⟨#[]⟩, .string ⟨#[]⟩, .slice none 0 0, .string ⟨#[]⟩, .int .i64 0, .int .i64 0, .string ⟨#[]⟩] [.int .i64 1, .string s2, .string s3, .string s4, .slice none 0 0, .string ⟨#[]⟩, .int .i64 0, .int .i64 0, .string ⟨#[]⟩] w5.heap.size W4 wr pre rest l h) (fun wr => W4.length - lenV ((wr.cell? ⟨w4.heap.size, 4, none⟩).getD undef))
  case atStart => exact ⟨[c0], W5, [s5], ⟨some ⟨w5.heap.size, 0, none⟩, 1, 1⟩, by rw [E5.out]; rfl, by rw [List.mapM_cons, HC0.out]; rfl, by simp, X5s.out, O5.out⟩
  case round =>
    obtain ⟨pre, rest, l, h, g⟩ := hrel
    have hz := g.small LW.out
    have G := Lib.hid g
    cases rest with
    | nil =>
      have HE := Lib.hid (more_no b p wr g.bx.ds)
      have XF := g.bx
      simp only [List.set_cons_succ, List.set_cons_zero] at XF
      have XF := Lib.hid XF
      obtain ⟨e1, e2⟩ := endsRop XF.out rfl rfl (by simp [Value.oneCell'])
      clear g
      go_wp2_with (first | (go_at_call 19; refine HE.out.mono ?_; rintro e w' ⟨rfl, rfl⟩))
      obtain ⟨rf, kwf, wdf, kbf⟩ := XF.out.fin S.out rfl
      refine bodyPost_ret (results_cell rfl _ rfl (lv_row (T := 41) Tryz.underlying41 (by kernel_rfl) rf rfl)) rfl ?_
      have S := S.out
      have sb := S.fb
      have sr := S.fr
      have sx := S.fx
      obtain ⟨z2, z3, z4, z5⟩ := LS.out
      refine ⟨kwf, ?_⟩
      have hw : valsP W4 = some (l, []) := by
        have e := G.out.split
        rw [List.append_nil] at e
        rw [e]; exact many_done G.out.ne G.out.some
      rw [show rowP (b_insert :: WW) = some (⟨1, s2, s3, s4, l, zBy, zVal⟩, []) by simp only [rowP_cons, N2.out, N3.out, N4.out, Option.bind_some, rowT_insert, hw]]
      have hs : ∀ c ∈ l, Small c.text.size := vals_small G.out.some
      exact ⟨_, rfl, ⟨_, _, rfl, ⟨((G.out.own.hi kbf (fun g e => by have e' : g = _ := e; omega)).down (by omega) (by omega)), hz, hs⟩, .inr g2, .inr g3, .inr g4, .inl rfl, small_z⟩, wdf⟩
    | cons t rest =>
      have HE := Lib.hid (more_yes b p t rest wr g.bx.ds)
      have HQ := Lib.hid (value_rd b p (t :: rest) wr.drew (g.bx.ds.aft (Aft.refl _).drew))
      have HL := Lib.hid (g.more rfl)
      obtain ⟨q1, q2, q3⟩ := g.fields (by simp) (Kw.refl b wr) S.out
      have KF := Lib.hid (fun V (k : Kw b wr V) => g.fields (by simp) k S.out)
      clear g
      obtain ⟨q, hq⟩ : ∃ q, valB t = q := ⟨_, rfl⟩
      have HQT := Lib.hid hq
      cases q with
      | none =>
        have HQ' := Lib.hid (HQ.out.mono fun e w1 (h : RdQ _ _ _ _ _ _ _) => (rd_cons h).elim (fun h => h.2) (fun ⟨x, v, h, _⟩ => absurd (hq.symm.trans h) (by simp)))
        clear hq HQ
        go_wp2_with (first | (go_at_call 19; refine HE.out.mono ?_; rintro e w' ⟨rfl, rfl⟩))
        go_region_dies
        all_goals
          refine HQ'.out.mono ?_
          rintro e w6 ⟨he, k6⟩
          unfold NoL at he
          subst he
          refine ⟨rfl, G.out.bx.kw.trans (((Kw.refl b wr).drew).trans k6), ?_⟩
          have hw : valsP W4 = none := by rw [G.out.split]; exact many_fail G.out.some HQT.out
          rw [show rowP (b_insert :: WW) = none by simp only [rowP_cons, N2.out, N3.out, N4.out, Option.bind_some, rowT_insert, hw, Option.bind_none]]; rfl
      | some y =>
        have HQ' := Lib.hid (HQ.out.mono fun e w1 (h : RdQ _ _ _ _ _ _ _) => (rd_cons h).elim (fun ⟨h, _⟩ => absurd (hq.symm.trans h) (by simp)) (fun ⟨z, v, h1, h2, h3, h4, h5⟩ => (show e = Ending.returned (.agg #[.int .i64 y.kind, .int .i64 y.int, .string y.text]) ∧ WdS w1 b p rest ∧ Kw b wr w1 from by
          rw [hq] at h1; cases h1; exact ⟨by rw [h2, h3.1], h4, ((Kw.refl b wr).drew).trans h5⟩)))
        clear hq HQ
        have HOW := Lib.hid (fun V (k : Kw b wr V) => G.out.own.kw k)
        go_wp2_with (first | (go_at_call 19; refine HE.out.mono ?_; rintro e w' ⟨rfl, rfl⟩))
        have HBZ := Lib.hid (fun V (k : Kw b wr V) => (show w5.heap.size ≤ (V.alloc (.cells #[.int .i64 y.kind, .int .i64 y.int, .string y.text] 39)).heap.size from by
          have h1 := (G.out.own.kw k)
          have h2 := k.size
          have h3 : (V.alloc (.cells #[.int .i64 y.kind, .int .i64 y.int, .string y.text] 39)).heap.size = V.heap.size + 1 := by simp
          have h4 : w5.heap.size ≤ V.heap.size := ownR_base h1 G.out.ne
          omega))
        have HSF := Lib.hid (fun V v5 (k : Kw b wr V) (hg : (V.alloc (.cells #[.int .i64 y.kind, .int .i64 y.int, .string y.text] 39)).grownBy v5 (Value.slice h.a l.length h.c).ownBlock) => G.out.after (by simp) k S.out LS.out.2.1 hg)
        have h63 : l.length + 1 ≤ maxLen := by unfold maxLen; omega
        obtain ⟨i0, hi0, hz0, hz1, hz2⟩ := info_partsD infoDV
        go_region_law ((first | (go_simp; go_at_call 53; refine HQ'.out.mono ?_; rintro e w6 ⟨rfl, d6, k6⟩; have D6 := Lib.hid d6; have K6 := Lib.hid k6; obtain ⟨p1, p2, p3⟩ := KF.out w6 k6; clear d6 k6; dsimp only) | (refine step_append_lies _ (by rfl) _ _ _ (by rfl) w5.heap.size 39 i0 _ 3 32 Tryz.underlying36 hi0 hz0 hz1 hz2 rfl (by omega) (.slice h.a l.length h.c) l.length (l.flatMap valC) (by rfl) ((ownR_of (HOW.out w6 K6.out)).alloc _) ⟨w6.heap.size, 0, none⟩ 1 1 [.int .i64 y.kind, .int .i64 y.int, .string y.text] (by rfl) (by rfl) (World.news_of_block (cs := #[.int .i64 y.kind, .int .i64 y.int, .string y.text]) (t := 39) (fr := (0, 0)) (heap_alloc_new w6 _)) (by simp [Value.oneCell']) (by omega) h63 (by omega) (HBZ.out w6 K6.out) (w6.heap.size + 1) (by simp) ?_; intro gg cap' v5 hown5 hgrow hat hgl; obtain ⟨s1, s2, s3⟩ := HSF.out w6 v5 K6.out hgrow)))
        all_goals
          go_roundw
          case rel =>
            repeat (apply Exists.intro)
            refine ⟨⟨pre ++ [t], rest, l ++ [y], ⟨some ⟨gg, 0, none⟩, l.length + 1, cap'⟩, G.out.step S.out (by simp) LS.out.2.1 LS.out.1 LS.out.2.2.1 LS.out.2.2.2 HQT.out K6.out D6.out hown5 hgrow⟩, rfl⟩
          case measure =>
            rw [q1, World.cell?_setCell_same (h := s1)]
            have := HL.out
            simp [lenV]
            omega

theorem row_rd (b p : Nat) (W : Ws) (w : World) (h : WdS w b p W) : Calls Tryz.prog 31 #[.pointer (some ⟨b, 0, none⟩)] w (RdQ b p w (RopV b w.heap.size) (rowP W)) := by
  cases W with
  | nil =>
    have HW0 := Lib.hid (word_no b p _ (h.aft ((Aft.refl w).alloc (.cells #[.int .i64 0, .string ⟨#[]⟩, .string ⟨#[]⟩, .string ⟨#[]⟩, .slice none 0 0, .string ⟨#[]⟩, .int .i64 0, .int .i64 0, .string ⟨#[]⟩] 41))))
    clear h
    go_enter Tryz.func31, Tryz.ntmps31
    go_wp2_with (first | (go_at_call 27; refine HW0.out.mono ?_; rintro e w' ⟨he, rfl⟩; unfold NoL at he; subst he))
    exact ⟨rfl, (Kw.refl _ _).alloc _, rfl⟩
  | cons f WW =>
    cases h1 : eqS f b_insert with
    | true => rw [eqS_iffD] at h1; subst h1; exact row_insert b p WW w h
    | false =>
    cases h2 : eqS f b_remove with
    | true => rw [eqS_iffD] at h2; subst h2; exact row_remove b p WW w h
    | false =>
    cases h3 : eqS f b_select with
    | true => rw [eqS_iffD] at h3; subst h3; exact row_select b p WW w h
    | false => exact row_none b p f WW w h h1 h2 h3
end Go.Proofs.YtbdanlipghhgpaaGreatDoor

