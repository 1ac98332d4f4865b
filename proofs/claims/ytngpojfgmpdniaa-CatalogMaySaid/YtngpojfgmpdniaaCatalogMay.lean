/- For every command x: CatalogMay(x) returns true, and x reads afterwards as before. No condition. -/
import Derived.Test.YtngpojfgmpdniaaMayH
import Derived.Test.YtngpojfgmpdniaaLaw
namespace Go.Proofs.Ytngpojfgmpdniaa.catalogMay
open Go.ChangeShapes Go.WideShapes Go.ChangeAt Go.RowKit
set_option maxRecDepth 100000

theorem cells_string : Try.prog.cellsOf 9 = 1 := by kernel_rfl
theorem cells_int : Try.prog.cellsOf 3 = 1 := by kernel_rfl
theorem cells_bool : Try.prog.cellsOf 4 = 1 := by kernel_rfl
theorem cells_kind : Try.prog.cellsOf 23 = 1 := by kernel_rfl
theorem cells_rkind : Try.prog.cellsOf 25 = 1 := by kernel_rfl
theorem cells_right : Try.prog.cellsOf 29 = 1 := by kernel_rfl
theorem cells_cols : Try.prog.cellsOf 24 = 1 := by kernel_rfl
theorem cells_strs : Try.prog.cellsOf 26 = 1 := by kernel_rfl
theorem cells_rule : Try.prog.cellsOf 28 = 8 := by kernel_rfl
theorem cells_cmd : Try.prog.cellsOf 31 = 17 := by kernel_rfl

section
variable {H : Type} {enc : TypeId × Value → H} {w : World}
/-- a slice, of whose elements nothing is asked -/
theorem rd_slice {P : Program} {t e : TypeId} {cs : List Value} (ht : P.underlying t = some (.slice e)) (hpos : 0 < P.cellsOf e) (hby : 0 < P.bytesOf e) (h : Rd enc P w t cs) : ∃ A n c, cs = [.slice A n c] ∧ n ≤ c ∧ Small c := by
  obtain ⟨l, A, c, hcs, h1, h2, _⟩ := Rd.slice (α := Unit) (R := fun _ _ _ => True) ht rfl hpos hby (fun _ _ => ⟨(), trivial⟩) h
  exact ⟨A, l.length, c, hcs, h1, h2⟩

theorem rd_cmd {cs : List Value} (h : Rd enc Try.prog w 31 cs) :
    ∃ (k : Int) (actor schema table name role : ByteArray) (A : Option Addr) (n c : Nat) (rname : ByteArray) (rkind : Int) (A2 : Option Addr) (n2 c2 : Nat) (low high : Int) (rs rt rk : ByteArray) (right : Int) (opt : Bool),
      cs = [.int .i64 k, .string actor, .string schema, .string table, .string name, .string role, .slice A n c, .string rname, .int .i64 rkind, .slice A2 n2 c2, .int .i64 low, .int .i64 high, .string rs, .string rt, .string rk, .int .i64 right, .bool opt] ∧
      Small actor.size ∧ Small schema.size ∧ Small table.size ∧ Small name.size ∧ Small role.size ∧ Small n ∧ Small rname.size ∧ Small n2 ∧ Small rs.size ∧ Small rt.size ∧ Small rk.size := by
  obtain ⟨hl, hf⟩ := h.struct Try.underlying31
  rw [cells_cmd] at hl
  match cs, hl with
  | [c0, c1, c2, c3, c4, c5, c6, c7, c8, c9, c10, c11, c12, c13, c14, c15, c16], _ =>
    have f0 := h.field Try.underlying31 0 23 0 1 rfl cells_kind
    have f1 := h.field Try.underlying31 1 9 1 1 rfl cells_string
    have f2 := h.field Try.underlying31 2 9 2 1 rfl cells_string
    have f3 := h.field Try.underlying31 3 9 3 1 rfl cells_string
    have f4 := h.field Try.underlying31 4 9 4 1 rfl cells_string
    have f5 := h.field Try.underlying31 5 9 5 1 rfl cells_string
    have f6 := h.field Try.underlying31 6 24 6 1 rfl cells_cols
    have f7 := h.field Try.underlying31 7 28 7 8 rfl cells_rule
    have f8 := h.field Try.underlying31 8 29 15 1 rfl cells_right
    have f9 := h.field Try.underlying31 9 4 16 1 rfl cells_bool
    clear h hf
    obtain ⟨k, e0, _⟩ := f0.int Try.underlying23
    obtain ⟨s1, e1, z1⟩ := f1.string Try.underlying9
    obtain ⟨s2, e2, z2⟩ := f2.string Try.underlying9
    obtain ⟨s3, e3, z3⟩ := f3.string Try.underlying9
    obtain ⟨s4, e4, z4⟩ := f4.string Try.underlying9
    obtain ⟨s5, e5, z5⟩ := f5.string Try.underlying9
    obtain ⟨A, n, c, e6, z6, z6'⟩ := rd_slice Try.underlying24 (of_decide_eq_true (by kernel_rfl)) (of_decide_eq_true (by kernel_rfl)) f6
    obtain ⟨r, e8, _⟩ := f8.int Try.underlying29
    obtain ⟨o, e9⟩ := f9.bool Try.underlying4
    have g0 := f7.field Try.underlying28 0 9 0 1 rfl cells_string
    have g1 := f7.field Try.underlying28 1 25 1 1 rfl cells_rkind
    have g2 := f7.field Try.underlying28 2 26 2 1 rfl cells_strs
    have g3 := f7.field Try.underlying28 3 3 3 1 rfl cells_int
    have g4 := f7.field Try.underlying28 4 3 4 1 rfl cells_int
    have g5 := f7.field Try.underlying28 5 9 5 1 rfl cells_string
    have g6 := f7.field Try.underlying28 6 9 6 1 rfl cells_string
    have g7 := f7.field Try.underlying28 7 9 7 1 rfl cells_string
    clear f7
    obtain ⟨t0, d0, y0⟩ := g0.string Try.underlying9
    obtain ⟨rkd, d1, _⟩ := g1.int Try.underlying25
    obtain ⟨A2, n2, c2, d2, y2, y2'⟩ := rd_slice Try.underlying26 (of_decide_eq_true (by kernel_rfl)) (of_decide_eq_true (by kernel_rfl)) g2
    obtain ⟨lo, d3, _⟩ := g3.int Try.underlying3
    obtain ⟨hi, d4, _⟩ := g4.int Try.underlying3
    obtain ⟨t5, d5, y5⟩ := g5.string Try.underlying9
    obtain ⟨t6, d6, y6⟩ := g6.string Try.underlying9
    obtain ⟨t7, d7, y7⟩ := g7.string Try.underlying9
    simp at e0 e1 e2 e3 e4 e5 e6 e8 e9 d0 d1 d2 d3 d4 d5 d6 d7
    subst e0 e1 e2 e3 e4 e5 e6 e8 e9 d0 d1 d2 d3 d4 d5 d6 d7
    exact ⟨k, s1, s2, s3, s4, s5, A, n, c, t0, rkd, A2, n2, c2, lo, hi, t5, t6, t7, r, o, rfl, z1, z2, z3, z4, z5, Nat.le_trans z6 z6', y0, Nat.le_trans y2 y2', y5, y6, y7⟩
end

theorem own : ownKnob Try.prog.godebug = none := by kernel_rfl
theorem laid : laidOutB Try.prog = true := by kernel_rfl

theorem lifted (os : Os) (started : os.Started) (H : Type) (enc : TypeId × Value → H) :
    ReturnsInHanded {} Try.checked os 4 .any (Rows.catalogMaySpec.pre6 enc Try.prog Try.f4 Rows.catalogMayRow.domain false) (Rows.catalogMaySpec.post enc Try.prog Try.f4 false true false false) := by
  refine law_lifted (C := Try.checked) (tb := 4) H enc own started (by kernel_rfl) Try.func4
    (ChangeSpec.witness6 (enc := enc) (C := Try.checked) false ⟨#[], #[.agg #[.int .i64 0, .string ByteArray.empty, .string ByteArray.empty, .string ByteArray.empty, .string ByteArray.empty, .string ByteArray.empty, .slice none 0 0, .string ByteArray.empty, .int .i64 0, .slice none 0 0, .int .i64 0, .int .i64 0, .string ByteArray.empty, .string ByteArray.empty, .string ByteArray.empty, .int .i64 0, .bool false]], []⟩ 8 (by kernel_rfl) (by kernel_rfl) (by kernel_rfl) (by kernel_rfl))
    rfl rfl Try.underlying4 ?_ laid ?_ ?_
  · intro ds hds
    match ds, hds with
    | [d], _ => rfl
  · intro t ht
    have : t = 31 := by simpa [Try.params4] using ht
    subst this
    exact ⟨by kernel_rfl, of_decide_eq_true (by kernel_rfl)⟩
  · intro W vs hl hrd
    match vs, hl with
    | [v], _ =>
      have h0 := hrd 0 31 v rfl rfl
      obtain ⟨cs, rfl, hcs⟩ := h0.struct Try.underlying31
      obtain ⟨k, s1, s2, s3, s4, s5, A, n, c, t0, rkd, A2, n2, c2, lo, hi, t5, t6, t7, r, o, rfl, z1, z2, z3, z4, z5, z6, y0, y2, y5, y6, y7⟩ := rd_cmd hcs
      exact law_may k s1 s2 s3 s4 s5 A n c t0 rkd A2 n2 c2 lo hi t5 t6 t7 r o W z1.max z2.max z3.max z4.max z5.max y0 y5 y6 y7 z6.le y2.le

theorem proved : Rows.CatalogMaySaid :=
  OpenClaim.holds_of_wide 4 Try.f4 rfl rfl rfl rfl rfl rfl rfl ⟨rfl, rfl, rfl, rfl, rfl⟩ rfl rfl rfl rfl rfl (by kernel_rfl) Try.func4 (by kernel_rfl)
    (of_decide_eq_true (by kernel_rfl)) (by unfold Func.isWrapper; first | (rw [if_pos (by decide +kernel)]; kernel_rfl) | (rw [if_neg (by decide +kernel)]; exact ⟨rfl, rfl⟩))
    (fun os started H enc _ => lifted os started H enc)
#print axioms proved
end Go.Proofs.Ytngpojfgmpdniaa.catalogMay
