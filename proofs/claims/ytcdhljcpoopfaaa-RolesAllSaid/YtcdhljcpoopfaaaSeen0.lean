/- roles.seen's closure: what it makes of the counts. -/
import Derived.Test.YtcdhljcpoopfaaaMapV
import Derived.Test.YtcdhljcpoopfaaaRoles
import Derived.StillTailTactics
namespace Go.Proofs.Ytcdhljcpoopfaaa
open Go.RowKit Go.Deep
set_option maxRecDepth 100000
set_option linter.unusedVariables false
def cntV (c : Txt → Nat) : Txt → Value := fun s => .int .i64 (c s)
theorem zero_int (w : World) : (zeroValue 3).run Try.prog w = .ok (.int .i64 0) w := by kernel_rfl
theorem zero_strs (w : World) : (zeroValue 22).run Try.prog w = .ok (.slice none 0 0) w := by kernel_rfl
/-- at each text, whom it joins; bf is the other map's block -/
def NextAt (w : World) (ms : List Mbr) (bf bn N : Nat) : Prop :=
  ∃ nx : Txt → Value, MapF Try.prog 9 w bn N (.slice none 0 0) nx ∧ ∀ s, ∃ h : Hd, nx s = h.v ∧ w.ownsRow 0 9 1 h.v (succ ms s).length ((succ ms s).flatMap nameC) ∧ bf ∉ h.blk
structure SeenIn (w : World) (ms : List Mbr) (pf pn pw bf bn N : Nat) : Prop where
  cf : w.cell? ⟨pf, 0, none⟩ = some (.map (some bf))
  cn : w.cell? ⟨pn, 0, none⟩ = some (.map (some bn))
  cw : w.cell? ⟨pw, 0, none⟩ = some (.func (.func 107) #[] #[.pointer (some ⟨pf, 0, none⟩), .pointer (some ⟨pn, 0, none⟩), .pointer (some ⟨pw, 0, none⟩)])
  nx : NextAt w ms bf bn N
  ne : pf ≠ bf ∧ pn ≠ bf ∧ pw ≠ bf ∧ bn ≠ bf
theorem NextAt.kb {w w' : World} {ms : List Mbr} {bf bn N : Nat} (h : NextAt w ms bf bn N) (k : Kb (fun g => g = bf) w w') (hb : bn ≠ bf) : NextAt w' ms bf bn N := by
  obtain ⟨nx, h1, h2⟩ := h
  refine ⟨nx, h1.kb k hb, fun s => ?_⟩
  obtain ⟨h, e, o, n⟩ := h2 s
  exact ⟨h, e, own_kb o k fun g hg e2 => n (by subst e2; exact Hd.mem_blk.2 hg), n⟩
theorem SeenIn.kb {w w' : World} {ms : List Mbr} {pf pn pw bf bn N : Nat} (h : SeenIn w ms pf pn pw bf bn N) (k : Kb (fun g => g = bf) w w') : SeenIn w' ms pf pn pw bf bn N :=
  ⟨k.cell h.cf h.ne.1, k.cell h.cn h.ne.2.1, k.cell h.cw h.ne.2.2.1, h.nx.kb k h.ne.2.2.2, h.ne⟩
def SeenP (w : World) (ms : List Mbr) (U : List Txt) (bf : Nat) (r : Txt) (c : Txt → Nat) (n : Nat) (e : Ending) (w' : World) : Prop :=
  e = .returned (.tuple #[]) ∧ Kb (fun g => g = bf) w w' ∧ ∃ (c' : Txt → Nat) (n' : Nat), MapF Try.prog 9 w' bf n' (.int .i64 0) (cntV c') ∧ Grown ms U r c n c' n'
def MidP (w : World) (ms : List Mbr) (U : List Txt) (bf : Nat) (r : Txt) (c : Txt → Nat) (n k : Nat) (w' : World) : Prop :=
  Kb (fun g => g = bf) w w' ∧ ∃ (c' : Txt → Nat) (n' : Nat), MapF Try.prog 9 w' bf n' (.int .i64 0) (cntV c') ∧ Mid ms U r c n k c' n'
theorem succ_small {ms : List Mbr} (sm : Small (ms.length * 16) ∧ ∀ m ∈ ms, Small m.of.size) (s : Txt) : Small ((succ ms s).length * 16) ∧ ∀ x ∈ succ ms s, Small x.size := by
  unfold succ
  constructor
  · have h1 := sm.1
    have h2 : (ms.filter fun m => txt m.role == s).length ≤ ms.length := List.length_filter_le _ _
    unfold Small at h1 ⊢
    rw [List.length_map]
    omega
  · intro x hx
    rw [List.mem_map] at hx
    obtain ⟨m, hm, rfl⟩ := hx
    exact sm.2 m (List.mem_filter.1 hm).1
theorem cnt_bump {c : Txt → Nat} {r : Txt} : (fun x => if x = r then Value.int .i64 ((c r : Int) + 1) else cntV c x) = cntV (bump c r) := by
  funext x
  unfold cntV bump
  split <;> simp_all
/-- the state behind the count of role -/
theorem seen1_head {ms : List Mbr} {pf pn pw bf bn N : Nat} {role : ByteArray} {c : Txt → Nat} {n : Nat} {w : World} (hrs : Small role.size) (hn : n < 140737488351232) (S : SeenIn w ms pf pn pw bf bn N) (M : MapF Try.prog 9 w bf n (.int .i64 0) (cntV c)) :
    (Instr.lookup 64 (.map (some bf)) (.string role) false).run Try.prog w = .ok (.int .i64 (c (txt role))) w ∧
    ∃ w1, (Instr.mapUpdate 64 (.map (some bf)) (.string role) (.int .i64 ((c (txt role) : Int) + 1))).run Try.prog w = .ok () w1 ∧ (Instr.lookup 64 (.map (some bf)) (.string role) false).run Try.prog w1 = .ok (.int .i64 ((c (txt role) : Int) + 1)) w1 ∧ SeenIn w1 ms pf pn pw bf bn N ∧ MapF Try.prog 9 w1 bf (n + 1) (.int .i64 0) (cntV (bump c (txt role))) ∧ Kb (fun g => g = bf) w w1 := by
  obtain ⟨w1, p1, M1, g1⟩ := M.put Try.underlying9 Try.underlying64 (by unfold maxLen; omega) role hrs.max (Value.int .i64 ((c (txt role) : Int) + 1))
  have k1 : Kb (fun g => g = bf) w w1 := (Kb.of_grown g1).mono fun g _ e => (Option.some.inj e).symm
  have M2 : MapF Try.prog 9 w1 bf (n + 1) (.int .i64 0) (cntV (bump c (txt role))) := by rw [← cnt_bump]; exact M1
  refine ⟨M.look Try.underlying9 Try.underlying64 (zero_int w) role hrs.max, w1, p1, ?_, S.kb k1, M2, k1⟩
  rw [M2.look Try.underlying9 Try.underlying64 (zero_int w1) role hrs.max]
  show Result.ok (Value.int .i64 ((bump c (txt role) (txt role) : Nat) : Int)) w1 = _
  rw [bump_self]; simp
set_option maxHeartbeats 4000000 in
theorem seen1_again (ms : List Mbr) (U : List Txt) (pf pn pw bf bn N : Nat) (role : ByteArray) (c : Txt → Nat) (n : Nat) (w : World) (hrs : Small role.size) (hn : n < 140737488351232) (hbd : ∀ s, c s ≤ n) (S : SeenIn w ms pf pn pw bf bn N) (M : MapF Try.prog 9 w bf n (.int .i64 0) (cntV c)) (h0 : 0 < c (txt role)) :
    Calls Try.prog 107 #[.string role, .pointer (some ⟨pf, 0, none⟩), .pointer (some ⟨pn, 0, none⟩), .pointer (some ⟨pw, 0, none⟩)] w (SeenP w ms U bf (txt role) c n) := by
  have cf := S.cf
  have hcn := hbd (txt role)
  obtain ⟨l1, w1, p1, l2, S1, M1, k1⟩ := seen1_head hrs hn S M
  have cf1 := S1.cf
  have H1 := Lib.hid (And.intro S1 (And.intro M1 k1))
  have HB := Lib.hid hbd
  have H0 := Lib.hid h0
  obtain ⟨q, hq⟩ : ∃ q, q = c (txt role) := ⟨_, rfl⟩
  rw [← hq] at l1 p1 l2 hcn h0
  have HQ := Lib.hid hq
  clear S M S1 M1 k1 hbd hq
  go_enter Try.func107, Try.ntmps107
  go_wp2_with fail
  go_end0
  exact ⟨rfl, H1.out.2.2, _, _, H1.out.2.1, Grown.again HB.out H0.out⟩
set_option maxHeartbeats 4000000 in
theorem seen1_first (ms : List Mbr) (U : List Txt) (pf pn pw bf bn N : Nat) (sm : Small (ms.length * 16) ∧ ∀ m ∈ ms, Small m.of.size) (hU : ∀ s ∈ U, ∀ x ∈ succ ms s, txt x ∈ U) (role : ByteArray) (c : Txt → Nat) (n : Nat) (w : World) (hrs : Small role.size) (hrU : txt role ∈ U) (hbd : ∀ s, c s ≤ n) (hsz : n + 1 + phi ms U c ≤ 140737488351232) (S : SeenIn w ms pf pn pw bf bn N) (M : MapF Try.prog 9 w bf n (.int .i64 0) (cntV c)) (h0 : c (txt role) = 0)
    (ih : ∀ (x : ByteArray) (c1 : Txt → Nat) (n1 : Nat) (w1 : World), mu U c1 < mu U c → Small x.size → txt x ∈ U → (∀ s, c1 s ≤ n1) → n1 + 1 + phi ms U c1 ≤ 140737488351232 → SeenIn w1 ms pf pn pw bf bn N → MapF Try.prog 9 w1 bf n1 (.int .i64 0) (cntV c1) →
      Calls Try.prog 107 #[.string x, .pointer (some ⟨pf, 0, none⟩), .pointer (some ⟨pn, 0, none⟩), .pointer (some ⟨pw, 0, none⟩)] w1 (SeenP w1 ms U bf (txt x) c1 n1)) :
    Calls Try.prog 107 #[.string role, .pointer (some ⟨pf, 0, none⟩), .pointer (some ⟨pn, 0, none⟩), .pointer (some ⟨pw, 0, none⟩)] w (SeenP w ms U bf (txt role) c n) := by
  have cf := S.cf
  obtain ⟨l1, w1, p1, l2, S1, M1, k1⟩ := seen1_head hrs (by omega) S M
  rw [h0] at l1 p1 l2
  simp only [Int.natCast_zero, Int.zero_add] at l1 p1 l2
  have cf1 := S1.cf
  have cn1 := S1.cn
  obtain ⟨nx, N1, N2⟩ := S.nx
  obtain ⟨h, hh, ho, hb⟩ := N2 (txt role)
  have l3 := (N1.kb k1 S.ne.2.2.2).look Try.underlying9 Try.underlying119 (zero_strs w1) role hrs.max
  replace l3 : _ = Result.ok (Value.slice h.a (succ ms (txt role)).length h.c) w1 := l3.trans (by rw [show nx role.data.toList = nx (txt role) from rfl, hh, own_slice ho])
  obtain ⟨sl, ss⟩ := succ_small sm (txt role)
  have hsl : ∀ w', Kb (fun g => g = bf) w w' → SlAt w' 1 StrR h.a h.c (succ ms (txt role)) := fun w' k => own_slf nameC (own_kb ho k fun g hg e2 => hb (by subst e2; exact Hd.mem_blk.2 hg)) (fun x hx => ⟨rfl, rfl, ss x hx⟩) sl
  have hlen := (hsl w1 k1).len
  have HS := Lib.hid hsl
  have H1 := Lib.hid S
  have HM := Lib.hid (show MidP w ms U bf (txt role) c n 0 w1 from ⟨k1, _, _, M1, Mid.start hbd hrU h0⟩)
  have HU := Lib.hid (show ∀ x ∈ succ ms (txt role), txt x ∈ U ∧ Small x.size from fun x hx => ⟨hU _ hrU x hx, ss x hx⟩)
  have IH := Lib.hid ih
  have HSZ := Lib.hid hsz
  obtain ⟨ha, hn, hc⟩ := h
  dsimp only at l3 HS
  obtain ⟨l, hl⟩ : ∃ l, l = succ ms (txt role) := ⟨_, rfl⟩
  rw [← hl] at l3 hlen HS HU
  have HL := Lib.hid hl
  clear S M S1 M1 k1 hbd N1 N2 hh ho hb sm hU hrU ih sl ss hsl hl h0 hsz
  go_enter Try.func107, Try.ntmps107
  go_wp2_with fail
  go_loopw [19] (fun i wr => ∃ k : Nat, k ≤ l.length ∧ i = .int .i64 k ∧ MidP w ms U bf (txt role) c n k wr) (fun i _ => l.length - (intOf i).toNat)
  case atStart => exact ⟨0, Nat.zero_le _, rfl, HM.out⟩
  case round =>
    clear HM l1 l2 l3 p1 cf cf1 cn1
    obtain ⟨k, hk, rfl, hmid⟩ := hrel
    by_cases hlt : k < l.length
    · obtain ⟨kb, c', n', M', md⟩ := hmid
      have S' := H1.out.kb kb
      obtain ⟨b, off, rfl, hb, d0, ds⟩ := str_at (HS.out wr kb) hlt
      obtain ⟨x, hx⟩ : ∃ x, l[k] = x := ⟨_, rfl⟩
      rw [hx] at d0 ds
      have cw := S'.cw
      have hxl : x ∈ l := by rw [← hx]; exact List.getElem_mem hlt
      have hk' : k < (succ ms (txt role)).length := by rw [← HL.out]; exact hlt
      have hx' : (succ ms (txt role))[k] = x := by rw [← hx]; congr 1; exact HL.out.symm
      have C := Lib.hid (IH.out x c' n' wr md.mu (HU.out x hxl).2 (HU.out x hxl).1 md.bd (by have := md.size; have := HSZ.out; omega) S' M')
      have HMD := Lib.hid (And.intro kb md)
      clear kb M' md S' hx hxl
      go_wp2_with (go_at_call 107; refine C.out.mono ?_; rintro e w2 ⟨rfl, kb2, c2, n2, M2, g2⟩; have HMN := Lib.hid (show MidP w ms U bf (txt role) c n (k + 1) w2 from ⟨HMD.out.1.trans kb2, c2, n2, M2, HMD.out.2.step hk' (by rw [hx']; exact g2)⟩); clear kb2 M2 g2)
      go_roundw
      case rel => exact ⟨k + 1, by omega, by go_num, HMN.out⟩
      case measure => simp [intOf]; omega
    · have HMD := Lib.hid hmid
      clear hmid
      go_wp2_with fail
      go_end0
      have hkl : k = (succ ms (txt role)).length := by rw [← HL.out]; omega
      obtain ⟨kb, c', n', M', md⟩ := HMD.out
      exact ⟨rfl, kb, c', n', M', md.all hkl⟩
theorem mu_zero {U : List Txt} {c : Txt → Nat} {r : Txt} (hr : r ∈ U) (h : mu U c = 0) : c r ≠ 0 := by
  intro e
  unfold mu at h
  have : r ∈ U.filter fun s => c s == 0 := List.mem_filter.2 ⟨hr, by simp [e]⟩
  rw [List.eq_nil_of_length_eq_zero h] at this
  simp at this
theorem seen1_in (ms : List Mbr) (U : List Txt) (pf pn pw bf bn N : Nat) (sm : Small (ms.length * 16) ∧ ∀ m ∈ ms, Small m.of.size) (hU : ∀ s ∈ U, ∀ x ∈ succ ms s, txt x ∈ U) :
    ∀ (m : Nat) (role : ByteArray) (c : Txt → Nat) (n : Nat) (w : World), mu U c ≤ m → Small role.size → txt role ∈ U → (∀ s, c s ≤ n) → n + 1 + phi ms U c ≤ 140737488351232 → SeenIn w ms pf pn pw bf bn N → MapF Try.prog 9 w bf n (.int .i64 0) (cntV c) →
      Calls Try.prog 107 #[.string role, .pointer (some ⟨pf, 0, none⟩), .pointer (some ⟨pn, 0, none⟩), .pointer (some ⟨pw, 0, none⟩)] w (SeenP w ms U bf (txt role) c n) := by
  intro m
  induction m with
  | zero =>
    intro role c n w hmu hrs hrU hbd hsz S M
    exact seen1_again ms U pf pn pw bf bn N role c n w hrs (by omega) hbd S M (Nat.pos_of_ne_zero (mu_zero hrU (by omega)))
  | succ m ih =>
    intro role c n w hmu hrs hrU hbd hsz S M
    by_cases h0 : c (txt role) = 0
    · exact seen1_first ms U pf pn pw bf bn N sm hU role c n w hrs hrU hbd hsz S M h0 fun x c1 n1 w1 h1 h2 h3 h4 h5 h6 h7 => ih x c1 n1 w1 (by omega) h2 h3 h4 h5 h6 h7
    · exact seen1_again ms U pf pn pw bf bn N role c n w hrs (by omega) hbd S M (Nat.pos_of_ne_zero h0)
end Go.Proofs.Ytcdhljcpoopfaaa
