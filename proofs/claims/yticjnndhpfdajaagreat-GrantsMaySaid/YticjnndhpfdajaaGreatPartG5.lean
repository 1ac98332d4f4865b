/- Contracts of the program, part 5. -/
import Derived.Test.YticjnndhpfdajaaGreatPartG4
import Derived.Deep.AppendLies
import Derived.Laws.EntriesVeiled
import Derived.Test.YticjnndhpfdajaaGreatRows
import Derived.WalkKit
import Derived.WalkSpells
import Derived.WalkLawsBesides
import Derived.Lib.Bytealg
import Derived.Lib.Hide
/- roles.seen: what can be reached from a role is counted. -/
namespace Go.Proofs.YticjnndhpfdajaaGreat
open Go.RowKit Go.Deep
set_option maxRecDepth 100000
set_option linter.unusedVariables false
theorem mbr_at {w : World} {A : Option Addr} {cap : Nat} {l : List Mbr} (h : SlAt w 2 MbrR A cap l) {k : Nat} (hk : k < l.length) :
    ∃ b off, A = some ⟨b, off, none⟩ ∧ b < w.heap.size ∧ w.cell? ⟨b, off + k * 2, none⟩ = some (.string l[k].role) ∧ w.cell? ⟨b, off + k * 2 + 1, none⟩ = some (.string l[k].of) ∧ Small l[k].role.size ∧ Small l[k].of.size := by
  obtain ⟨b, off, cs, hA, hb, hl, ⟨rfl, hs⟩, hc⟩ := h.2.2 k hk
  refine ⟨b, off, hA, hb, ?_, ?_, hs⟩
  · simpa using hc 0 (by omega)
  · simpa [Nat.add_assoc] using hc 1 (by omega)
theorem mbrs_aft {w w' : World} (a : Aft w w') {A : Option Addr} {cap : Nat} {l : List Mbr} (h : SlAt w 2 MbrR A cap l) : SlAt w' 2 MbrR A cap l := h.aft a fun _ _ h => h
theorem succ_snoc (ms : List Mbr) (m : Mbr) (s : Txt) : succ (ms ++ [m]) s = succ ms s ++ if txt m.role = s then [m.of] else [] := by
  unfold succ
  rw [List.filter_append, List.map_append]
  congr 1
  by_cases e : txt m.role = s <;> simp [e]
/-- the map that is made: at each text whom it joins, each row our own, no two in one block -/
structure NxIn (w : World) (B bn k : Nat) (ms : List Mbr) (H : Txt → Hd) : Prop where
  mp : MapF Tryz.prog 9 w bn k (.slice none 0 0) (fun s => (H s).v)
  row : ∀ s, w.ownsRow B 9 1 (H s).v (succ ms s).length ((succ ms s).flatMap nameC)
  dis : ∀ s t g, g ∈ (H s).blk → g ∈ (H t).blk → s = t
  lt : bn < B
theorem NxIn.kb {Q : Nat → Prop} {w w' : World} {B bn k : Nat} {ms : List Mbr} {H : Txt → Hd} (h : NxIn w B bn k ms H) (kb : Kb Q w w') (h1 : ¬ Q bn) (h2 : ∀ g, B ≤ g → ¬ Q g) : NxIn w' B bn k ms H :=
  ⟨h.mp.kb kb h1, fun s => own_kb (h.row s) kb fun g hg => h2 g ((h.row s).lt g hg).1, h.dis, h.lt⟩
theorem NxIn.aft {w w' : World} {B bn k : Nat} {ms : List Mbr} {H : Txt → Hd} (h : NxIn w B bn k ms H) (a : Aft w w') : NxIn w' B bn k ms H := h.kb (Q := fun _ => False) (Kb.of_aft a) (fun h => h) fun _ _ h => h
theorem NxIn.step {w w5 : World} {B bn k : Nat} {ms : List Mbr} {H : Txt → Hd} (h : NxIn w B bn k ms H) (hBw : B ≤ w.heap.size) (m : Mbr) (hs : m.role.size ≤ maxLen) (hk : k < maxLen) {v' : Hd} (kb : Kb (InV (H (txt m.role)).v) w w5)
    (ho : w5.ownsRow B 9 1 v'.v ((succ ms (txt m.role)).length + 1) ((succ ms (txt m.role)).flatMap nameC ++ [.string m.of])) (hat : ∀ g ∈ v'.blk, g ∈ (H (txt m.role)).blk ∨ w.heap.size ≤ g) :
    ∃ w6, (Instr.mapUpdate 129 (.map (some bn)) (.string m.role) v'.v).run Tryz.prog w5 = .ok () w6 ∧ NxIn w6 B bn (k + 1) (ms ++ [m]) (fun x => if x = txt m.role then v' else H x) ∧ Kb (fun g => g = bn) w5 w6 := by
  have hlt := h.lt
  have hb : ¬ InV (H (txt m.role)).v bn := fun e => by have := ((h.row (txt m.role)).lt bn e).1; omega
  obtain ⟨w6, p6, M6, g6⟩ := (h.mp.kb kb hb).put Tryz.underlying9 Tryz.underlying129 hk m.role hs v'.v
  have k6 : Kb (fun g => g = bn) w5 w6 := (Kb.of_grown g6).mono fun g _ e => (Option.some.inj e).symm
  refine ⟨w6, p6, ⟨?_, ?_, ?_, hlt⟩, k6⟩
  · have e : (fun s => ((fun x => if x = txt m.role then v' else H x) s).v) = fun x => if x = m.role.data.toList then v'.v else (H x).v := by
      funext x
      show (if x = m.role.data.toList then v' else H x).v = _
      split <;> rfl
    rw [e]; exact M6
  · intro s
    rw [succ_snoc]
    by_cases e : s = txt m.role
    · subst e
      rw [if_pos rfl, if_pos rfl, List.length_append, List.flatMap_append]
      exact own_kb ho k6 fun g hg e => by have := (ho.lt g hg).1; omega
    · have e2 : ¬ txt m.role = s := fun h => e h.symm
      rw [if_neg e, if_neg e2, List.append_nil]
      refine own_kb (own_kb (h.row s) kb fun g hg h2 => e (h.dis s (txt m.role) g (Hd.mem_blk.2 hg) (Hd.mem_blk.2 h2))) k6 fun g hg e => ?_
      have := ((h.row s).lt g hg).1
      omega
  · have hx : ∀ s g, ¬ s = txt m.role → g ∈ v'.blk → g ∈ (H s).blk → False := fun s g e h1 h2 => by
      rcases hat g h1 with h3 | h3
      · exact e (h.dis s _ g h2 h3)
      · have := ((h.row s).lt g (Hd.mem_blk.1 h2)).2
        omega
    intro s t g h1 h2
    by_cases e1 : s = txt m.role
    · by_cases e2 : t = txt m.role
      · rw [e1, e2]
      · rw [if_pos e1] at h1
        rw [if_neg e2] at h2
        exact absurd h2 (fun h2 => hx t g e2 h1 h2)
    · rw [if_neg e1] at h1
      by_cases e2 : t = txt m.role
      · rw [if_pos e2] at h2
        exact absurd h1 (fun h1 => hx s g e1 h2 h1)
      · rw [if_neg e2] at h2
        exact h.dis s t g h1 h2
theorem NxIn.next {w : World} {B bn k bf : Nat} {ms : List Mbr} {H : Txt → Hd} (h : NxIn w B bn k ms H) (hbf : ∀ s, bf ∉ (H s).blk) : NextAt w ms bf bn k :=
  ⟨_, h.mp, fun s => ⟨H s, rfl, own_down (h.row s) (Nat.zero_le _), hbf s⟩⟩
theorem NextAt.aft2 {w w' : World} {ms : List Mbr} {bf bn N : Nat} (h : NextAt w ms bf bn N) (a : Aft w w') : NextAt w' ms bf bn N := by
  obtain ⟨nx, h1, h2⟩ := h
  exact ⟨nx, h1.aft a, fun s => by obtain ⟨h, e, o, n⟩ := h2 s; exact ⟨h, e, own_aft o a, n⟩⟩
theorem nxIn_made (w : World) (B : Nat) (hB : w.heap.size < B) : NxIn (w.alloc (.map #[] 0)) B w.heap.size 0 [] (fun _ => ⟨none, 0, 0⟩) :=
  ⟨mapF_made w _, fun s => own_nil _ _ _ _, fun s t g h => by simp [blk_nil] at h, hB⟩
theorem dedup_list (l : List Txt) : ∃ U : List Txt, U.Nodup ∧ ∀ x, x ∈ U ↔ x ∈ l := by
  induction l with
  | nil => exact ⟨[], by simp, by simp⟩
  | cons a l ih =>
    obtain ⟨U, h1, h2⟩ := ih
    by_cases e : a ∈ U
    · exact ⟨U, h1, fun x => by rw [List.mem_cons, h2]; exact ⟨.inr, fun h => h.elim (fun h => h ▸ (h2 a).1 e) id⟩⟩
    · exact ⟨a :: U, List.nodup_cons.2 ⟨e, h1⟩, fun x => by rw [List.mem_cons, List.mem_cons, h2]⟩
theorem ind_out {U : List Txt} {a : Txt} (h : a ∉ U) : (U.map fun s => if a = s then 1 else 0).sum = 0 := by
  induction U with
  | nil => rfl
  | cons b U ih =>
    rw [List.mem_cons, not_or] at h
    simp only [List.map_cons, List.sum_cons, if_neg h.1, ih h.2]
theorem ind_one {U : List Txt} (hU : U.Nodup) (a : Txt) : (U.map fun s => if a = s then 1 else 0).sum ≤ 1 := by
  induction U with
  | nil => simp
  | cons b U ih =>
    rw [List.nodup_cons] at hU
    simp only [List.map_cons, List.sum_cons]
    by_cases e : a = b
    · subst e
      rw [ind_out hU.1]; simp
    · rw [if_neg e]
      have := ih hU.2
      omega
theorem sum_add (U : List Txt) (f g : Txt → Nat) : (U.map fun s => f s + g s).sum = (U.map f).sum + (U.map g).sum := by
  induction U with
  | nil => rfl
  | cons a U ih => simp only [List.map_cons, List.sum_cons, ih]; omega
theorem phi_le {U : List Txt} (hU : U.Nodup) (ms : List Mbr) : phi ms U (fun _ => 0) ≤ ms.length := by
  unfold phi
  simp only [if_true]
  induction ms with
  | nil =>
    have : (U.map fun s => (succ [] s).length).sum = 0 := by
      clear hU
      induction U with
      | nil => rfl
      | cons a U ih => simp only [List.map_cons, List.sum_cons, ih]; rfl
    rw [this]; simp
  | cons m ms ih =>
    have e : (fun s => (succ (m :: ms) s).length) = fun s => (succ ms s).length + if txt m.role = s then 1 else 0 := by
      funext s
      unfold succ
      by_cases e : txt m.role = s <;> simp [e]
    rw [e, sum_add]
    have := ind_one hU (txt m.role)
    simp only [List.length_cons]
    omega
/-- what comes back: a map of our own; what it counts is what is reached -/
def SawP (w : World) (ms : List Mbr) (role : ByteArray) (e : Ending) (w' : World) : Prop :=
  ∃ bf, e = .returned (.map (some bf)) ∧ Aft w w' ∧ ∃ (c : Txt → Nat) (n : Nat), MapF Tryz.prog 9 w' bf n (.int .i64 0) (cntV c) ∧ (∀ s, c s ≤ 140737488351232) ∧ ∀ s, 0 < c s ↔ Reach ms (txt role) s
structure NxS (w wr : World) (ms : List Mbr) (k : Nat) (H : Txt → Hd) : Prop where
  aft : Aft w wr
  pn : wr.cell? ⟨w.heap.size + 2, 0, none⟩ = some (.map (some (w.heap.size + 1)))
  nx : NxIn wr (w.heap.size + 3) (w.heap.size + 1) k (ms.take k) H
  sz : w.heap.size + 3 ≤ wr.heap.size
set_option maxHeartbeats 8000000 in
theorem seen_in (r : Rls) (An : Option Addr) (capn : Nat) (Am : Option Addr) (capm : Nat) (role : ByteArray) (w : World) (hm : SlAt w 2 MbrR Am capm r.members) (hrs : Small role.size) :
    Calls Tryz.prog 174 #[.agg #[.slice An r.names.length capn, .slice Am r.members.length capm], .string role] w (SawP w r.members role) := by
  have hlen := hm.len
  have hmm := @run_makeMap Tryz.prog
  have l1 : w.heap.size < w.heap.size + 1 := by omega
  have l2 : w.heap.size < w.heap.size + 1 + 1 := by omega
  have l3 : w.heap.size < w.heap.size + 1 + 1 + 1 := by omega
  have HM := Lib.hid hm
  go_enter Tryz.func174, Tryz.ntmps174
  go_wp2_with fail
  go_loopw [14] (fun i wr => ∃ (k : Nat) (H : Txt → Hd), k ≤ r.members.length ∧ i = .int .i64 k ∧ NxS w wr r.members k H) (fun i _ => r.members.length - (intOf i).toNat)
  case atStart =>
    refine ⟨0, fun _ => ⟨none, 0, 0⟩, Nat.zero_le _, rfl, ((((Aft.refl w).alloc _).alloc _).alloc _), ?_, ?_, by simp⟩
    · obtain ⟨hb, _, _, _, _⟩ := aft_box (Aft.refl (((w.alloc (.cells #[.slice An r.names.length capn, .slice Am r.members.length capm] 56)).alloc (.map #[] 0)).alloc (.cells #[.map (some (w.heap.size + 1))] 129)))
      have := hb 0
      simpa [World.size_alloc] using this
    · have := nxIn_made (w.alloc (.cells #[.slice An r.names.length capn, .slice Am r.members.length capm] 56)) (w.heap.size + 3) (by simp)
      simp only [World.size_alloc] at this
      exact this.aft ((Aft.refl _).alloc _)
  case round =>
    obtain ⟨k, H, hk, rfl, hs⟩ := hrel
    have HS := Lib.hid hs
    have pn := hs.pn
    have sz := hs.sz
    by_cases hlt : k < r.members.length
    · obtain ⟨b, off, rfl, hb, t0, t1, hs1, hs2⟩ := mbr_at (mbrs_aft hs.aft HM.out) hlt
      obtain ⟨m, hmm2⟩ : ∃ m, r.members[k] = m := ⟨_, rfl⟩
      rw [hmm2] at t0 t1 hs1 hs2
      obtain ⟨W, hW⟩ : ∃ W, W = wr.alloc (.cells #[.string m.role, .string m.of] 185) := ⟨_, rfl⟩
      have aW : Aft wr W := by rw [hW]; exact (Aft.refl _).alloc _
      have zW : W.heap.size = wr.heap.size + 1 := by rw [hW]; simp
      have hnx := hs.nx.aft aW
      have hrow := hnx.row (txt m.role)
      obtain ⟨a0, n0, c0, hv⟩ : ∃ a0 n0 c0, H (txt m.role) = ⟨a0, n0, c0⟩ := ⟨_, _, _, rfl⟩
      have hn0 := own_n hrow
      rw [hv] at hrow hn0
      dsimp only at hn0
      have HLEN := Lib.hid hn0
      have hle : n0 ≤ k := by
        rw [hn0]
        unfold succ
        rw [List.length_map]
        refine Nat.le_trans (List.length_filter_le _ _) ?_
        rw [List.length_take]; omega
      rw [← hn0] at hrow
      have HOW := Lib.hid (show W.ownsRow (w.heap.size + 3) 9 1 (.slice a0 n0 c0) n0 ((succ (r.members.take k) (txt m.role)).flatMap nameC) from hrow)
      have hlook : ∀ x : KLat (.slice a0 n0 c0) W, (Instr.lookup 129 (.map (some (w.heap.size + 1))) (.string m.role) false).run Tryz.prog (klat (.slice a0 n0 c0) W x) = .ok (.slice a0 n0 c0) (klat (.slice a0 n0 c0) W x) := fun x => by
        have h1 := (hnx.mp.kb x.kb (not_in HOW.out (by omega))).look Tryz.underlying9 Tryz.underlying129 (zero_strs _) m.role hs1.max
        rw [show H m.role.data.toList = ⟨a0, n0, c0⟩ from hv] at h1
        exact h1
      have p1 := aW.cell_kept pn
      have q0 : W.cell? ⟨wr.heap.size, 0, none⟩ = some (.string m.role) := by
        rw [hW]
        simp
      have q1 : W.cell? ⟨wr.heap.size, 1, none⟩ = some (.string m.of) := by
        rw [hW]
        simp
      have e1 : w.heap.size + 2 < W.heap.size := by omega
      have e1' : w.heap.size + 1 + 1 < W.heap.size := by omega
      have e2 : wr.heap.size < W.heap.size := by omega
      have n1 : ¬ InV (.slice a0 n0 c0) (w.heap.size + 2) := not_in HOW.out (by omega)
      have n1' : ¬ InV (.slice a0 n0 c0) (w.heap.size + 1 + 1) := not_in HOW.out (by omega)
      have n2 : ¬ InV (.slice a0 n0 c0) wr.heap.size := fun h => by
        have := ((hs.nx.row (txt m.role)).lt wr.heap.size (by rw [hv]; exact h)).2
        omega
      obtain ⟨i0, hi0, hz0, hz1, hz2⟩ := info_parts info2Str2
      have HI := Lib.hid hi0
      have HZ := Lib.hid (And.intro hz0 (And.intro hz1 hz2))
      have HN := Lib.hid (And.intro hnx (And.intro hv (And.intro hmm2 (And.intro (hs.aft.trans aW) (And.intro aW hs1)))))
      have HZW := Lib.hid (And.intro sz (And.intro zW hle))
      have hk63 : n0 + 1 ≤ 140737488351232 := by omega
      clear hi0 hz0 hz1 hz2 hs hnx hv hrow hn0 hle aW hmm2 hs1 hs2
      go_wp2_with fail
      rw [← hW]
      clear hW zW
      go_wp2_with fail
      refine wp_region_reads 9 11 (fun w' => ∃ x : KLat (.slice a0 n0 c0) W, w' = klat (.slice a0 n0 c0) W x) (by kernel_rfl) (by kernel_rfl) (KL.aft (Aft.refl W).drew) ?_
      simp only [List.take_succ_cons, List.take_zero, List.drop_succ_cons, List.drop_zero]
      repeat (go_big_quiet_step (fail))
      refine wpQuiet_nil ?_
      refine wpChain_step (fun K hK => ?_)
      go_simp
      refine hK _ _ (fun _ => KL.aft (((Aft.refl W).alloc _).drew)) ?_
      clear hK K
      refine wpChain_step (fun K hK => ?_)
      refine wp_append_lies _ (.tmp 24) (.tmp 27) 27 rfl (w.heap.size + 3) 9 i0 _ 1 16 Tryz.underlying27 HI.out HZ.out.1 HZ.out.2.1 HZ.out.2.2 rfl (by decide) (.slice a0 n0 c0) n0 ((succ (r.members.take k) (txt m.role)).flatMap nameC) (by rfl) ((HOW.out.alloc _).drew) ⟨W.heap.size, 0, none⟩ 1 1 [.string m.of] (by rfl) (by rfl) (World.news_of_block (cs := #[.string m.of]) (t := 9) (fr := (0, 0)) (heap_alloc_new W _)) (by simp [Value.oneCell']) (by omega) (by unfold maxLen; omega) (by have := HZW.out; omega) (by have := HZW.out; simp; omega) (W.heap.size + 1) (by simp) ?_
      intro gg cap' w5 hown5 hgrow hat hgl
      refine hK _ _ (fun _ => KL.of ((Kb.of_aft (((Aft.refl W).alloc _).drew)).trans (kb_in hgrow))) ?_
      clear hK K
      refine wpChain_list _ (by simp) (by decide) ?_
      have kw5 : Kb (InV (.slice a0 n0 c0)) W w5 := (Kb.of_aft (((Aft.refl W).alloc _).drew)).trans (kb_in hgrow)
      obtain ⟨hnx, hv, hmk, hwW, haW, hsr⟩ := HN.out
      have hBW : w.heap.size + 3 ≤ W.heap.size := by omega
      obtain ⟨w6, p6, nx6, k6⟩ := hnx.step (v' := ⟨some ⟨gg, 0, none⟩, n0 + 1, cap'⟩) hBW m hsr.max (by unfold maxLen; omega) (by rw [hv]; exact kw5) (by rw [← HLEN.out]; exact hown5) (fun g hg => by
        rw [blk_some, List.mem_singleton] at hg
        have hg : g = gg := hg
        rcases hat with h1 | h1
        · exact .inl (by rw [hv, hg]; exact Hd.mem_blk.2 h1)
        · exact .inr (by omega))
      have hnv : ∀ g, g < w.heap.size + 3 → ¬ InV (.slice a0 n0 c0) g := fun g hg => not_in HOW.out hg
      have HNEXT := Lib.hid (show ∃ H', NxS w w6 r.members (k + 1) H' from ⟨_, (k6.to_aft (kw5.to_aft hwW (fun g hg => hnv g (by omega))) (fun g hg => by omega)),
        k6.cell (kw5.cell p1 n1) (by show ¬ w.heap.size + 2 = w.heap.size + 1; omega), by rw [List.take_succ_eq_append_getElem hlt, hmk]; exact nx6, by have := kw5.size; have := k6.size; omega⟩)
      change (Instr.mapUpdate 129 (.map (some (w.heap.size + 1))) (.string m.role) (.slice (some ⟨gg, 0, none⟩) (n0 + 1) cap')).run Tryz.prog w5 = .ok () w6 at p6
      clear hnx hv hmk hwW haW hsr hnv nx6 k6 kw5 hown5 hgrow hat hgl hlook
      go_wp2_with fail
      refine NoPanic.normal ?_
      go_wp2_with fail
      go_roundw
      case rel => obtain ⟨H', hx⟩ := HNEXT.out; exact ⟨k + 1, H', by omega, by go_num, hx⟩
      case measure => simp [intOf]; omega
    · have hke : k = r.members.length := by omega
      subst hke
      have hnx := hs.nx
      rw [List.take_length] at hnx
      have m1 : wr.heap.size + 1 + 1 < wr.heap.size + 1 + 1 + 1 := by omega
      have m2 : wr.heap.size + 1 < wr.heap.size + 1 + 1 + 1 := by omega
      have m3 : wr.heap.size < wr.heap.size + 1 + 1 + 1 := by omega
      have m4 : w.heap.size + 2 < wr.heap.size := by omega
      obtain ⟨F, hF⟩ : ∃ F, F = ((wr.alloc (.map #[] 0)).alloc (.cells #[.map (some wr.heap.size)] 175)).alloc (.cells #[.func (.func 230) #[] #[.pointer (some ⟨wr.heap.size + 1, 0, none⟩), .pointer (some ⟨w.heap.size + 1 + 1, 0, none⟩), .pointer (some ⟨wr.heap.size + 1 + 1, 0, none⟩)]] 219) := ⟨_, rfl⟩
      have aF : Aft wr F := by rw [hF]; exact (((Aft.refl wr).alloc _).alloc _).alloc _
      have MF : MapF Tryz.prog 9 F wr.heap.size 0 (.int .i64 0) (cntV fun _ => 0) := by rw [hF]; exact (mapF_made wr _).aft (((Aft.refl _).alloc _).alloc _)
      have d1 : F.cell? ⟨wr.heap.size + 1, 0, none⟩ = some (.map (some wr.heap.size)) := by
        rw [hF]
        obtain ⟨hb, _, _, _, _⟩ := aft_box ((Aft.refl ((wr.alloc (.map #[] 0)).alloc (.cells #[.map (some wr.heap.size)] 175))).alloc (.cells #[.func (.func 230) #[] #[.pointer (some ⟨wr.heap.size + 1, 0, none⟩), .pointer (some ⟨w.heap.size + 1 + 1, 0, none⟩), .pointer (some ⟨wr.heap.size + 1 + 1, 0, none⟩)]] 219))
        have := hb 0
        simpa [World.size_alloc] using this
      have d2 : F.cell? ⟨wr.heap.size + 2, 0, none⟩ = some (.func (.func 230) #[] #[.pointer (some ⟨wr.heap.size + 1, 0, none⟩), .pointer (some ⟨w.heap.size + 1 + 1, 0, none⟩), .pointer (some ⟨wr.heap.size + 1 + 1, 0, none⟩)]) := by
        rw [hF]
        obtain ⟨hb, _, _, _, _⟩ := aft_box (Aft.refl (((wr.alloc (.map #[] 0)).alloc (.cells #[.map (some wr.heap.size)] 175)).alloc (.cells #[.func (.func 230) #[] #[.pointer (some ⟨wr.heap.size + 1, 0, none⟩), .pointer (some ⟨w.heap.size + 1 + 1, 0, none⟩), .pointer (some ⟨wr.heap.size + 1 + 1, 0, none⟩)]] 219)))
        have := hb 0
        simpa [World.size_alloc] using this
      have SI : SeenIn F r.members (wr.heap.size + 1) (w.heap.size + 2) (wr.heap.size + 2) wr.heap.size (w.heap.size + 1) r.members.length :=
        ⟨d1, aF.cell_kept pn, d2, (hnx.next (bf := wr.heap.size) fun s h => by have := ((hnx.row s).lt _ (Hd.mem_blk.1 h)).2; omega).aft2 aF, by omega, by omega, by omega, by omega⟩
      obtain ⟨U, u1, u2⟩ := dedup_list (txt role :: r.members.map fun m => txt m.of)
      have hsm := sm_mem HM.out (P := fun m : Mbr => Small m.of.size) fun _ _ h => h.2.2
      have C := Lib.hid (seen1_in r.members U (wr.heap.size + 1) (w.heap.size + 2) (wr.heap.size + 2) wr.heap.size (w.heap.size + 1) r.members.length hsm
        (fun s _ x hx => by
          rw [u2]
          unfold succ at hx
          rw [List.mem_map] at hx
          obtain ⟨m, hm, rfl⟩ := hx
          exact List.mem_cons.2 (.inr (List.mem_map.2 ⟨m, (List.mem_filter.1 hm).1, rfl⟩)))
        _ role (fun _ => 0) 0 F (Nat.le_refl _) hrs (by rw [u2]; simp) (fun _ => Nat.le_refl _) (by have := phi_le u1 r.members; omega) SI MF)
      have HPH := Lib.hid (And.intro (phi_le u1 r.members) (And.intro hlen (And.intro (hs.aft.trans aF) (And.intro d1 hs.aft.size))))
      rw [hF] at C
      clear hs hnx MF d1 d2 SI u1 u2 hsm
      go_wp2_with (go_at_call 230; refine C.out.mono ?_; rintro e w2 ⟨rfl, kb2, c2, n2, M2, g2⟩; rw [← hF] at kb2; have dd := kb2.cell HPH.out.2.2.2.1 (by show ¬ wr.heap.size + 1 = wr.heap.size; omega))
      go_ret
      refine ⟨_, rfl, kb2.to_aft HPH.out.2.2.1 (fun k hk => by omega), c2, n2, M2, fun s => ?_, fun s => g2.reach s⟩
      have := g2.bd s
      have := g2.size
      have := HPH.out.1
      have := HPH.out.2.1
      omega
end Go.Proofs.YticjnndhpfdajaaGreat
/- The leaves: what strings.IndexByte and strings.Compare return; the world is as it was. -/
namespace Go.Proofs.YticjnndhpfdajaaGreat
open Go.RowKit
set_option maxRecDepth 100000

set_option maxHeartbeats 400000 in
theorem sliteIndexByte (s : ByteArray) (c : Int) (w : World) :
    Calls Tryz.prog 208 #[.string s, .int .u8 c] w fun e w' => e = .returned (.int .i64 (Lib.indexByte s.data.toList c.toNat.toUInt8)) ∧ w = w' := by
  go_enter Tryz.func208, Tryz.ntmps208
  go_wp2
  rw [run_callFunc_extern Tryz.func250 (by kernel_rfl) (by kernel_rfl) (by kernel_rfl) (e := Extern.BytealgIndexByte.indexByte) (by kernel_rfl), Lib.run_indexByteString]
  simp only [Result.andThen]
  rw [Oper.upon_value]
  go_wp2
  go_ret
  exact ⟨rfl, rfl⟩

set_option maxHeartbeats 400000 in
theorem indexByte (s : ByteArray) (c : Int) (w : World) :
    Calls Tryz.prog 158 #[.string s, .int .u8 c] w fun e w' => e = .returned (.int .i64 (Lib.indexByte s.data.toList c.toNat.toUInt8)) ∧ w = w' := by
  go_enter Tryz.func158, Tryz.ntmps158
  go_wp2_with (go_at_call 208; refine (sliteIndexByte _ _ _).mono ?_; rintro e w' ⟨rfl, rfl⟩)
  go_ret
  exact ⟨rfl, rfl⟩

end Go.Proofs.YticjnndhpfdajaaGreat
/- Plain definitions and laws, of no program: names, letters. -/
namespace Go.Proofs.YticjnndhpfdajaaGreat

def isLet (c : UInt8) : Bool := decide (97 ≤ c) && decide (c ≤ 122)
def isPl (c : UInt8) : Bool := isLet c || (decide (48 ≤ c) && decide (c ≤ 57)) || c == 95
def plB (s : ByteArray) : Bool := s.data.toList.all isPl
/-- a text is a name -/
def nameB (s : ByteArray) : Bool := decide (0 < s.size) && decide (s.size ≤ 16) && isLet (s.data.toList.headD 0) && plB s

def ltIdx (c : UInt8) : Int := Lib.indexByte [97, 98, 99, 100, 101, 102, 103, 104, 105, 106, 107, 108, 109, 110, 111, 112, 113, 114, 115, 116, 117, 118, 119, 120, 121, 122] c
def plIdx (c : UInt8) : Int := Lib.indexByte [97, 98, 99, 100, 101, 102, 103, 104, 105, 106, 107, 108, 109, 110, 111, 112, 113, 114, 115, 116, 117, 118, 119, 120, 121, 122, 48, 49, 50, 51, 52, 53, 54, 55, 56, 57, 95] c
theorem all256 {p : UInt8 → Bool} (h : ∀ n : Fin 256, p (UInt8.ofNat n.val) = true) (c : UInt8) : p c = true := by
  have := h ⟨c.toNat, c.toNat_lt⟩
  simpa using this
theorem ltIdx_neg (c : UInt8) : decide (ltIdx c < 0) = !isLet c := by
  have := all256 (p := fun c => decide (ltIdx c < 0) == !isLet c) (by decide +kernel) c
  simpa using this
theorem plIdx_neg (c : UInt8) : decide (plIdx c < 0) = !isPl c := by
  have := all256 (p := fun c => decide (plIdx c < 0) == !isPl c) (by decide +kernel) c
  simpa using this
theorem ltIdx_iff (c : UInt8) : ltIdx c < 0 ↔ isLet c = false := by
  have := ltIdx_neg c; cases h : isLet c <;> simp_all
theorem plIdx_iff (c : UInt8) : plIdx c < 0 ↔ isPl c = false := by
  have := plIdx_neg c; cases h : isPl c <;> simp_all
theorem isLet_iff (c : UInt8) : isLet c = true ↔ 97 ≤ (c.toNat : Int) ∧ (c.toNat : Int) ≤ 122 := by
  simp [isLet, UInt8.le_iff_toNat_le]; omega
theorem isPl_iff (c : UInt8) : isPl c = true ↔ (97 ≤ (c.toNat : Int) ∧ (c.toNat : Int) ≤ 122) ∨ (48 ≤ (c.toNat : Int) ∧ (c.toNat : Int) ≤ 57) ∨ (c.toNat : Int) = 95 := by
  simp [isPl, isLet, UInt8.le_iff_toNat_le, ← UInt8.toNat_inj]; omega
theorem all_take_succ {α : Type} (p : α → Bool) (l : List α) (k : Nat) (h : k < l.length) : (l.take (k + 1)).all p = ((l.take k).all p && p l[k]) := by
  rw [List.take_succ_eq_append_getElem h]; simp only [List.all_append, List.all_cons, List.all_nil, Bool.and_true]
theorem ba_length (s : ByteArray) : s.data.toList.length = s.size := by simp
theorem ba_get (s : ByteArray) (k : Nat) (h : k < s.size) : s.data.toList[k]'(by simpa using h) = s[k] := rfl
theorem pl_succ (s : ByteArray) (k : Nat) (h : k < s.size) : (s.data.toList.take (k + 1)).all isPl = ((s.data.toList.take k).all isPl && isPl s[k]) := by
  rw [all_take_succ isPl _ k (by simpa using h)]; rfl
theorem pl_false (s : ByteArray) (k : Nat) (h : k < s.size) (hp : isPl s[k] = false) : plB s = false := by
  have : s[k] ∈ s.data.toList := by rw [← ba_get s k h]; exact List.getElem_mem _
  simp only [plB, Bool.eq_false_iff, ne_eq, List.all_eq_true]
  intro hall; have := hall _ this; simp [hp] at this
theorem pl_true (s : ByteArray) (k : Nat) (h : ¬ k < s.size) (hp : (s.data.toList.take k).all isPl = true) : plB s = true := by
  rw [List.take_of_length_le (by rw [ba_length]; omega)] at hp; exact hp
theorem head_get (s : ByteArray) (h : 0 < s.size) : s.data.toList.headD 0 = s[0] := by
  have h1 : s.data.toList ≠ [] := by intro e; have := ba_length s; simp [e] at this; omega
  obtain ⟨a, l, e⟩ := List.exists_cons_of_ne_nil h1
  have : s.data.toList[0]'(by rw [ba_length]; exact h) = s[0] := rfl
  simp only [e, List.headD_cons] at this ⊢
  simpa using this
end Go.Proofs.YticjnndhpfdajaaGreat
/- objects.Name and the document's Name: both return nameB of the text; the world is as it was. -/
namespace Go.Proofs.YticjnndhpfdajaaGreat
open Go.RowKit
set_option maxRecDepth 100000

theorem indexLet (c : UInt8) (w : World) :
    Calls Tryz.prog 158 #[.string { data := #[97, 98, 99, 100, 101, 102, 103, 104, 105, 106, 107, 108, 109, 110, 111, 112, 113, 114, 115, 116, 117, 118, 119, 120, 121, 122] }, .int .u8 c.toNat] w fun e w' => e = .returned (.int .i64 (ltIdx c)) ∧ w = w' := by
  refine (indexByte _ _ w).mono ?_
  rintro e w' ⟨rfl, rfl⟩
  refine ⟨?_, rfl⟩
  have : ((c.toNat : Int).toNat.toUInt8) = c := by simp
  rw [this]; rfl
theorem indexPl (c : UInt8) (w : World) :
    Calls Tryz.prog 158 #[.string { data := #[97, 98, 99, 100, 101, 102, 103, 104, 105, 106, 107, 108, 109, 110, 111, 112, 113, 114, 115, 116, 117, 118, 119, 120, 121, 122, 48, 49, 50, 51, 52, 53, 54, 55, 56, 57, 95] }, .int .u8 c.toNat] w fun e w' => e = .returned (.int .i64 (plIdx c)) ∧ w = w' := by
  refine (indexByte _ _ w).mono ?_
  rintro e w' ⟨rfl, rfl⟩
  refine ⟨?_, rfl⟩
  have : ((c.toNat : Int).toNat.toUInt8) = c := by simp
  rw [this]; rfl

set_option maxHeartbeats 400000 in
theorem plain_any (s : ByteArray) (w : World) (hs : s.size ≤ maxLen) :
    Calls Tryz.prog 159 #[.string s] w fun e w' => e = .returned (.bool (plB s)) ∧ w = w' := by
  unfold maxLen at hs
  go_enter Tryz.func159, Tryz.ntmps159
  go_wp2_with fail
  go_loop [6] (fun i => ∃ k : Nat, k ≤ s.size ∧ i = .int .i64 k ∧ (s.data.toList.take k).all isPl = true) (fun i => s.size - (intOf i).toNat)
  case atStart => exact ⟨0, Nat.zero_le _, rfl, rfl⟩
  case round =>
    obtain ⟨k, hk, rfl, ha⟩ := hrel
    have HA := Lib.hid ha; clear ha
    by_cases hlt : k < s.size
    · go_wp2_with (go_at_call 158; refine (indexPl _ _).mono ?_; rintro e w' ⟨rfl, rfl⟩)
      · have hp : isPl s[k] = false := (plIdx_iff _).1 (by assumption)
        go_ret
        exact ⟨by rw [pl_false s k hlt hp]; rfl, rfl⟩
      · have hp : isPl s[k] = true := by
          have h0 : 0 ≤ plIdx s[k] := by assumption
          have := plIdx_iff s[k]
          cases h : isPl s[k]
          · have := this.2 h; omega
          · rfl
        go_round
        case rel => exact ⟨k + 1, by omega, by go_num, by rw [pl_succ s k hlt, HA.out, hp]; rfl⟩
        case measure => simp [intOf]; omega
    · go_wp2_with fail
      go_ret
      exact ⟨by rw [pl_true s k hlt HA.out]; rfl, rfl⟩

theorem toList_nil_iff (s : ByteArray) : s.toList = [] ↔ s.size = 0 := by
  rw [ByteArray.toList_eq]
  rw [← List.length_eq_zero_iff, ba_length]
theorem isEmpty_iff (s : ByteArray) : s.toList.isEmpty = decide (s.size = 0) := by
  rw [Bool.eq_iff_iff]; simp [toList_nil_iff]
theorem nameB_of (s : ByteArray) (h : 0 < s.size) : nameB s = (decide (s.size ≤ 16) && (isLet s[0] && plB s)) := by
  unfold nameB; rw [head_get s h, decide_eq_true h, Bool.true_and, Bool.and_assoc]
set_option maxHeartbeats 400000 in
theorem name_any (s : ByteArray) (w : World) (hs : s.size ≤ maxLen) :
    Calls Tryz.prog 87 #[.string s] w fun e w' => e = .returned (.bool (nameB s)) ∧ w = w' := by
  have hs' := hs
  unfold maxLen at hs
  by_cases h0 : 0 < s.size
  · have H := Lib.hid (nameB_of s h0)
    have hl := Lib.hid (ltIdx_iff s[0])
    have he : s.toList.isEmpty = false := by rw [isEmpty_iff]; exact decide_eq_false (by omega)
    have he' : ¬ s.toList = [] := by rw [toList_nil_iff]; omega
    go_enter Tryz.func87, Tryz.ntmps87
    go_wp2_with (first | (go_at_call 158; refine (indexLet _ _).mono ?_; rintro e w' ⟨rfl, rfl⟩) | (go_at_call 159; refine (plain_any _ _ hs').mono ?_; rintro e w' ⟨rfl, rfl⟩))
    · have a1 : s.size ≤ 16 := by have : (s.size : Int) ≤ 16 := by assumption
                                  omega
      have a2 : isLet s[0] = true := by
        have h0 : 0 ≤ ltIdx s[0] := by assumption
        cases h : isLet s[0]
        · have := hl.out.2 h; omega
        · rfl
      go_ret
      exact ⟨by rw [H.out, decide_eq_true a1, a2]; rfl, rfl⟩
    · have a2 : isLet s[0] = false := hl.out.1 (by assumption)
      go_ret
      exact ⟨by rw [H.out, a2, Bool.false_and, Bool.and_false]; rfl, rfl⟩
    · have a1 : ¬ s.size ≤ 16 := by have : 16 < (s.size : Int) := by assumption
                                    omega
      go_ret
      exact ⟨by rw [H.out, decide_eq_false a1]; rfl, rfl⟩
  · have he : s.toList.isEmpty = true := by rw [isEmpty_iff]; exact decide_eq_true (by omega)
    have he' : s.toList = [] := by rw [toList_nil_iff]; omega
    have H := Lib.hid (show nameB s = false by simp [nameB, h0])
    go_enter Tryz.func87, Tryz.ntmps87
    go_wp2_with fail
    go_ret
    exact ⟨by rw [H.out]; rfl, rfl⟩

theorem isPl_false (c : UInt8) : isPl c = false ↔ ¬ ((97 ≤ (c.toNat : Int) ∧ (c.toNat : Int) ≤ 122) ∨ (48 ≤ (c.toNat : Int) ∧ (c.toNat : Int) ≤ 57) ∨ (c.toNat : Int) = 95) := by
  rw [← isPl_iff]; simp
set_option maxHeartbeats 400000 in
theorem rname_no (s : ByteArray) (w : World) (hs : s.size ≤ maxLen) (hn : nameB s = false) (hx : s.size = 0 ∨ 16 < s.size ∨ ∃ h : 0 < s.size, (s[0].toNat : Int) < 97 ∨ 122 < (s[0].toNat : Int)) :
    Calls Tryz.prog 153 #[.string s] w fun e w' => e = .returned (.bool (nameB s)) ∧ w = w' := by
  unfold maxLen at hs
  have H := Lib.hid hn
  clear hn
  rcases hx with hx | hx | ⟨h0, hx⟩
  · have hx' : (s.size : Int) < 1 := by omega
    clear hx
    go_enter Tryz.func153, Tryz.ntmps153
    go_wp2_with fail
    go_ret
    exact ⟨by rw [H.out]; rfl, rfl⟩
  · go_enter Tryz.func153, Tryz.ntmps153
    go_wp2_with fail
    go_ret
    exact ⟨by rw [H.out]; rfl, rfl⟩
  · by_cases h1 : s.size ≤ 16
    · rcases hx with hx | hx
      all_goals
        go_enter Tryz.func153, Tryz.ntmps153
        go_wp2_with fail
        go_ret
        exact ⟨by rw [H.out]; rfl, rfl⟩
    · go_enter Tryz.func153, Tryz.ntmps153
      go_wp2_with fail
      go_ret
      exact ⟨by rw [H.out]; rfl, rfl⟩
set_option maxHeartbeats 1000000 in
theorem rname_yes (s : ByteArray) (w : World) (hs : s.size ≤ maxLen) (h0 : 0 < s.size) (h1 : s.size ≤ 16) (h2 : 97 ≤ (s[0].toNat : Int)) (h3 : (s[0].toNat : Int) ≤ 122) (hn : nameB s = plB s) :
    Calls Tryz.prog 153 #[.string s] w fun e w' => e = .returned (.bool (nameB s)) ∧ w = w' := by
  unfold maxLen at hs
  have H := Lib.hid hn
  clear hn
  go_enter Tryz.func153, Tryz.ntmps153
  go_wp2_with fail
  go_loop [3] (fun i => ∃ k : Nat, k ≤ s.size ∧ i = .int .i64 k ∧ (s.data.toList.take k).all isPl = true) (fun i => s.size - (intOf i).toNat)
  case atStart => exact ⟨0, Nat.zero_le _, rfl, rfl⟩
  case round =>
    obtain ⟨k, hk, rfl, ha⟩ := hrel
    have HA := Lib.hid ha; clear ha
    by_cases hlt : k < s.size
    · have hp := isPl_false s[k]
      have hps := pl_succ s k hlt
      cases hq : isPl s[k]
      · have H2 := Lib.hid (pl_false s k hlt hq)
        have hb0 := hp.1 hq
        have hb : (s[k].toNat : Int) < 48 ∨ (58 ≤ (s[k].toNat : Int) ∧ (s[k].toNat : Int) < 95) ∨ (96 ≤ (s[k].toNat : Int) ∧ (s[k].toNat : Int) < 97) ∨ 122 < (s[k].toNat : Int) := by omega
        have hne : ((s[k].toNat : Int) != 95) = true := by rw [bne_iff_ne]; omega
        clear hp hq hps hb0
        rcases hb with hb | hb | hb | hb
        all_goals
          go_wp2_with fail
          go_ret
          exact ⟨by rw [H.out, H2.out]; rfl, rfl⟩
      · rw [hq] at hps hp
        have HS := Lib.hid hps
        have hb : ((97 ≤ (s[k].toNat : Int) ∧ (s[k].toNat : Int) ≤ 122) ∨ (48 ≤ (s[k].toNat : Int) ∧ (s[k].toNat : Int) ≤ 57) ∨ (s[k].toNat : Int) = 95) := by
          rw [← isPl_iff, hq]
        clear hp hq hps
        have fin : (List.take (k + 1) s.data.toList).all isPl = true := by rw [HS.out, HA.out]; rfl
        have FIN := Lib.hid fin
        clear fin
        rcases hb with hb | hb | hb
        all_goals
          go_wp2_with fail
          go_round
          case rel => exact ⟨k + 1, by omega, by go_num, FIN.out⟩
          case measure => simp [intOf]; omega
    · go_wp2_with fail
      go_ret
      exact ⟨by rw [H.out, pl_true s k hlt HA.out]; rfl, rfl⟩
theorem rname_any (s : ByteArray) (w : World) (hs : s.size ≤ maxLen) :
    Calls Tryz.prog 153 #[.string s] w fun e w' => e = .returned (.bool (nameB s)) ∧ w = w' := by
  by_cases h0 : 0 < s.size
  · by_cases h1 : s.size ≤ 16
    · by_cases h2 : 97 ≤ (s[0].toNat : Int)
      · by_cases h3 : (s[0].toNat : Int) ≤ 122
        · exact rname_yes s w hs h0 h1 h2 h3 (by rw [nameB_of s h0, decide_eq_true h1, (isLet_iff _).2 ⟨h2, h3⟩]; rfl)
        · refine rname_no s w hs ?_ (.inr (.inr ⟨h0, .inr (by omega)⟩))
          rw [nameB_of s h0, show isLet s[0] = false by rw [← Bool.not_eq_true, isLet_iff]; omega]; simp
      · refine rname_no s w hs ?_ (.inr (.inr ⟨h0, .inl (by omega)⟩))
        rw [nameB_of s h0, show isLet s[0] = false by rw [← Bool.not_eq_true, isLet_iff]; omega]; simp
    · exact rname_no s w hs (by rw [nameB_of s h0, decide_eq_false h1]; rfl) (.inr (.inl (by omega)))
  · exact rname_no s w hs (by simp [nameB, h0]) (.inl (by omega))
end Go.Proofs.YticjnndhpfdajaaGreat
