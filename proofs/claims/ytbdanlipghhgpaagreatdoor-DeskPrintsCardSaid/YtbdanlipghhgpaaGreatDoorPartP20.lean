import Derived.Test.YtbdanlipghhgpaaGreatDoorPartP19
namespace Go.Proofs.YtbdanlipghhgpaaGreatDoor
open Go.RowKit Go.Deep
set_option maxRecDepth 100000
set_option linter.unusedVariables false
set_option maxHeartbeats 64000000
theorem szS_small {s:ByteArray} (h:SzS s):Small s.size:=by unfold SzS at h;unfold Small;omega
theorem refparse_act (s:ByteArray) (w:World) (hs:Small s.size):Calls Tryz.prog 7 #[.string s] w (PActQ w (parseB s)):=by
 refine (refparse_dn s w hs).mono ?_
 rintro e w' ⟨a,h⟩
 refine ⟨a,?_⟩
 rw [parse_same] at h
 cases hp:parseB s with
 | none =>
  rw [hp] at h
  exact ⟨none,0,none,0,none,0,h,actX_z w'⟩
 | some y =>
  rw [hp] at h
  obtain ⟨b,B,v,_,⟨A,k,A2,k2,A3,k3,rfl,⟨c1,c2,c3⟩,⟨n1,n2,n3⟩,⟨v1,v2,v3⟩,ok,_⟩,rfl⟩:=h
  refine ⟨A,k,A2,k2,A3,k3,rfl,sl_ownr c1 c2 fun x hx=>⟨rfl,rfl,szS_small (c3 x hx)⟩,sl_ownr n1 n2 fun x hx=>⟨rfl,rfl,szS_small (n3 x hx)⟩,sl_ownr v1 v2 fun x hx=>⟨rfl,rfl,szS_small (v3 x hx)⟩,szS_small ok.rname,szS_small ok.rs,szS_small ok.rt,szS_small ok.rk⟩
def RPQ (w:World) (a:Dact) (e:Ending) (w':World):Prop :=
 Aft w w'∧((parseB (docT a)=some a∧e=.returned (.tuple #[.string (docT a),.int .i64 0]))∨(parseB (docT a)≠some a∧e=.returned (.tuple #[.string ⟨#[]⟩,.int .i64 230])))
theorem rprint_dx (a:Dact) (A:Option Addr) (k:Nat) (A2:Option Addr) (k2:Nat) (A3:Option Addr) (k3:Nat) (w:World) (hx:ActG w a A k A2 k2 A3 k3) :
  Calls Tryz.prog 12 #[.agg (c33 a A k A2 k2 A3 k3).toArray] w (RPQ w a):=by
 obtain ⟨W,hW⟩:∃ W,W=w.alloc (.cells (c33 a A k A2 k2 A3 k3).toArray 43):=⟨_,rfl⟩
 have aW:Aft w W:=by rw [hW];exact (Aft.refl w).alloc _
 have ra:RowAt W w.heap.size (c33 a A k A2 k2 A3 k3):=by rw [hW];exact rowAt_newD w _ _
 have e1:(lvAct ⟨w.heap.size,0,none⟩).run Tryz.prog W=.ok (.agg (c33 a A k A2 k2 A3 k3).toArray) W:=lvAct_row ra rfl
 obtain ⟨s,hs⟩:∃ s,docT a=s:=⟨_,rfl⟩
 have HA:=gH (show Calls Tryz.prog 25 #[.agg (c33 a A k A2 k2 A3 k3).toArray] W fun e w'=>e=.returned (.string s)∧Aft W w' from hs▸act_dx a A k A2 k2 A3 k3 W (hx.aft aW))
 have zs:Small s.size:=hs▸docT_small a
 obtain ⟨y,hy⟩:∃ y,actO (parseB s)=y:=⟨_,rfl⟩
 obtain ⟨c,hc⟩:∃ c,codeO (parseB s)=c:=⟨_,rfl⟩
 obtain ⟨r,hr⟩:∃ r:Bool,r=true↔a=y:=by
  by_cases h:a=y
  ·exact ⟨true,fun _=>h,fun _=>rfl⟩
  ·exact ⟨false,fun e=>(by cases e),fun e=>absurd e h⟩
 have HP:=gH (show ∀ V,Calls Tryz.prog 7 #[.string s] V fun e w'=>∃ B m B2 m2 B3 m3,e=.returned (.tuple #[.agg (c33 y B m B2 m2 B3 m3).toArray,.int .i64 c])∧Aft V w'∧ActX w' y B m B2 m2 B3 m3 from fun V=>(refparse_act s V zs).mono fun e w' ⟨a2,B,m,B2,m2,B3,m3,he,hq⟩=>by
  rw [hy] at hq
  rw [hy,hc] at he
  exact ⟨B,m,B2,m2,B3,m3,he,a2,hq⟩)
 have HSM:=gH (show ∀ (V:World) (B:Option Addr) (m:Nat) (B2:Option Addr) (m2:Nat) (B3:Option Addr) (m3:Nat),Aft W V→ActX V y B m B2 m2 B3 m3→Calls Tryz.prog 9 #[.agg (c33 a A k A2 k2 A3 k3).toArray,.agg (c33 y B m B2 m2 B3 m3).toArray] V fun e w'=>e=.returned (.bool r)∧Aft V w' from fun V B m B2 m2 B3 m3 aV hq=>(same24 a y A k A2 k2 A3 k3 B m B2 m2 B3 m3 V (hx.aft (aW.trans aV)).x hq).mono fun e w' ⟨a1,r',he,h2⟩=>⟨by
  rw [he]
  have:r'=r:=by cases r<;>cases r'<;>simp_all
  rw [this],a1⟩)
 have HB:=gH (show ∀ (w1 w2:World) (B:Option Addr) (m:Nat) (B2:Option Addr) (m2:Nat) (B3:Option Addr) (m3:Nat),Aft W w1→Aft w1 w2→ActX w2 y B m B2 m2 B3 m3→(lvAct ⟨w.heap.size,0,none⟩).run Tryz.prog (w2.alloc (.cells (c33 y B m B2 m2 B3 m3).toArray 43))=.ok (.agg (c33 a A k A2 k2 A3 k3).toArray) (w2.alloc (.cells (c33 y B m B2 m2 B3 m3).toArray 43))∧(lvAct ⟨w2.heap.size,0,none⟩).run Tryz.prog (w2.alloc (.cells (c33 y B m B2 m2 B3 m3).toArray 43))=.ok (.agg (c33 y B m B2 m2 B3 m3).toArray) (w2.alloc (.cells (c33 y B m B2 m2 B3 m3).toArray 43))∧Hid (ActX (w2.alloc (.cells (c33 y B m B2 m2 B3 m3).toArray 43)) y B m B2 m2 B3 m3∧Aft W (w2.alloc (.cells (c33 y B m B2 m2 B3 m3).toArray 43))) from fun w1 w2 B m B2 m2 B3 m3 a1 a2 hq=>⟨lvAct_row ((ra.aft (a1.trans a2)).aft ((Aft.refl _).alloc _)) rfl,lvAct_row (rowAt_newD w2 _ _) rfl,gH ⟨hq.aft ((Aft.refl _).alloc _),(a1.trans a2).alloc _⟩⟩)
 have HL:=gH (show (c=0∧r=true→parseB (docT a)=some a)∧(c=230∨r=false→parseB (docT a)≠some a)∧docT a=s from by
  rw [hs]
  cases hp:parseB s with
  | none =>
   rw [hp] at hc
   refine ⟨fun h=>?_,fun _ h=>(by cases h),rfl⟩
   rw [h.1] at hc;cases hc
  | some x =>
   rw [hp] at hc hy
   have hy:x=y:=hy
   have hc:(0:Int)=c:=hc
   refine ⟨fun h=>by rw [hy,← hr.1 h.2],fun h e=>?_,rfl⟩
   injection e with e
   have h2:=hr.2 (e.symm.trans hy)
   rcases h with h | h
   ·omega
   ·rw [h] at h2;cases h2)
 have hc2:c=0∨c=230:=by
  rw [← hc]
  cases parseB s
  ·exact .inr rfl
  ·exact .inl rfl
 have HAW:=gH aW
 have HS:=gH hs
 clear hx aW ra hs hy hc hr
 dsimp only [c33] at hW e1 HA HP HSM HB ⊢
 rcases hc2 with rfl | rfl<;>cases r
 all_goals
  first
   | have HO:=gH (And.intro HL.out.2.2 (HL.out.1 ⟨rfl,rfl⟩))
   | have HO:=gH (And.intro HL.out.2.2 (HL.out.2.1 (.inr rfl)))
   | have HO:=gH (And.intro HL.out.2.2 (HL.out.2.1 (.inl rfl)))
  clear HL
  go_enter Tryz.func12,Tryz.ntmps12
  go_upto_region 1 with fail
  rw [← hW]
  clear hW
  go_wp2_with (first
   | (go_at_call 25;(with_reducible refine HA.out.mono ?_);rintro e w1 ⟨rfl,a1⟩;have H1:=gH a1;clear a1)
   | (go_at_call 7;(with_reducible refine (HP.out _).mono ?_);rintro e w2 ⟨B,m,B2,m2,B3,m3,rfl,a2,y2⟩;obtain ⟨g1,g2,H2⟩:=HB.out _ _ _ _ _ _ _ _ H1.out a2 y2;clear a2 y2)
   | (go_at_call 9;(with_reducible refine (HSM.out _ _ _ _ _ _ _ H2.out.2 H2.out.1).mono ?_);rintro e w3 ⟨rfl,a3⟩;have H3:=gH a3;clear a3))
  go_ret2
  first
   | exact ⟨HAW.out.trans H2.out.2,.inr ⟨HO.out.2,rfl⟩⟩
   | exact ⟨(HAW.out.trans H2.out.2).trans H3.out,.inr ⟨HO.out.2,rfl⟩⟩
   | exact ⟨(HAW.out.trans H2.out.2).trans H3.out,.inl ⟨HO.out.2,by rw [HO.out.1];rfl⟩⟩
theorem law_prints24 (a:Dact) (A:Option Addr) (k:Nat) (A2:Option Addr) (k2:Nat) (A3:Option Addr) (k3:Nat) (w:World) (hx:ActG w a A k A2 k2 A3 k3) (ht:TabW w) (hl:LibV w) :
  Calls Tryz.prog 4 #[.agg (c33 a A k A2 k2 A3 k3).toArray] w fun e w'=>e=.returned (.bool true)∧Aft w w':=by
 obtain ⟨W,hW⟩:∃ W,W=w.alloc (.cells (c33 a A k A2 k2 A3 k3).toArray 43):=⟨_,rfl⟩
 have aW:Aft w W:=by rw [hW];exact (Aft.refl w).alloc _
 have ra:RowAt W w.heap.size (c33 a A k A2 k2 A3 k3):=by rw [hW];exact rowAt_newD w _ _
 have e1:(lvAct ⟨w.heap.size,0,none⟩).run Tryz.prog W=.ok (.agg (c33 a A k A2 k2 A3 k3).toArray) W:=lvAct_row ra rfl
 have HE:=gH (show ∀ V,Aft W V→(lvAct ⟨w.heap.size,0,none⟩).run Tryz.prog V=.ok (.agg (c33 a A k A2 k2 A3 k3).toArray) V from fun V aV=>lvAct_row (ra.aft aV) rfl)
 have HAW:=gH aW
 have hxW:=hx.aft aW
 by_cases hfew:Few a∧Few3 a
 ·obtain ⟨s,c,hsc⟩:∃ (s:ByteArray) (c:Int),(∀ V,Aft W V→Calls Tryz.prog 11 #[.agg (c33 a A k A2 k2 A3 k3).toArray] V fun e w'=>e=.returned (.tuple #[.string s,.int .i64 c])∧Aft V w')∧(∀ V,Aft W V→Calls Tryz.prog 12 #[.agg (c33 a A k A2 k2 A3 k3).toArray] V fun e w'=>e=.returned (.tuple #[.string s,.int .i64 c])∧Aft V w'):=by
   have p1:=fun V (aV:Aft W V)=>print_in a A k A2 k2 A3 k3 V (hxW.aft aV) hfew.1 (ht.aft (aW.trans aV)) (hl.kb (P:=fun _=>False) (Kb.of_aft (aW.trans aV)) id)
   have p2:=fun V (aV:Aft W V)=>rprint_dx a A k A2 k2 A3 k3 V (hxW.aft aV)
   by_cases hp:parseB (docT a)=some a
   ·refine ⟨docT a,0,fun V aV=>(p1 V aV).mono fun e w' ⟨a1,h⟩=>⟨?_,a1⟩,fun V aV=>(p2 V aV).mono fun e w' ⟨a1,h⟩=>⟨?_,a1⟩⟩
    ·rcases h with ⟨X,h1,h2,h3⟩ | ⟨h1,h3⟩
     ·rw [h3,doc_line h2 hfew.2]
     ·obtain ⟨X,h4,h5⟩:=doc_laid hp
      exact absurd (by rw [h5];exact hp) (h1 X h4)
    ·rcases h with ⟨_,h⟩ | ⟨h,_⟩
     ·exact h
     ·exact absurd hp h
   ·refine ⟨⟨#[]⟩,230,fun V aV=>(p1 V aV).mono fun e w' ⟨a1,h⟩=>⟨?_,a1⟩,fun V aV=>(p2 V aV).mono fun e w' ⟨a1,h⟩=>⟨?_,a1⟩⟩
    ·rcases h with ⟨X,h1,h2,h3⟩ | ⟨h1,h3⟩
     ·exact absurd (by rw [doc_line h2 hfew.2];exact h2) hp
     ·exact h3
    ·rcases h with ⟨h,_⟩ | ⟨_,h⟩
     ·exact absurd h hp
     ·exact h
  have H1:=gH hsc.1
  have H2:=gH hsc.2
  have H0:=gH (show Calls Tryz.prog 10 #[.agg (c33 a A k A2 k2 A3 k3).toArray] W fun e w'=>∃ r:Bool,e=.returned (.bool r)∧Aft W w' from (large_in a A k A2 k2 A3 k3 W hxW.x).mono fun e w' (⟨a1,r,he,hr⟩:LgQ _ _ _ _)=>⟨r,he,a1⟩)
  have H3:=gH (show ∀ V,Aft W V→Calls Tryz.prog 13 #[] V fun e w'=>e=.returned (.bool true)∧Aft V w' from fun V aV=>prints24 V (ht.aft (aW.trans aV)) (hl.kb (P:=fun _=>False) (Kb.of_aft (aW.trans aV)) id))
  clear hsc hxW hx ht hl aW ra hfew
  dsimp only [c33] at hW e1 HE H0 H1 H2 ⊢
  go_enter Tryz.func4,Tryz.ntmps4
  go_upto_region 1 with fail
  rw [← hW]
  clear hW
  go_wp2_with (first
   | (go_at_call 10;(with_reducible refine H0.out.mono ?_);rintro e w1 ⟨r,rfl,a1⟩;have e2:=HE.out _ a1;have A1:=gH a1;clear a1;cases r)
   | (go_at_call 11;(with_reducible refine (H1.out _ A1.out).mono ?_);rintro e w2 ⟨rfl,a2⟩;have e3:=HE.out _ (A1.out.trans a2);have A2:=gH (A1.out.trans a2);clear a2)
   | (go_at_call 12;(with_reducible refine (H2.out _ A2.out).mono ?_);rintro e w3 ⟨rfl,a3⟩;have A3:=gH (A2.out.trans a3);clear a3)
   | (go_at_call 13;(with_reducible refine (H3.out _ A3.out).mono ?_);rintro e w4 ⟨rfl,a4⟩;have A4:=gH (A3.out.trans a4);clear a4))
  all_goals go_ret
  all_goals first
   | exact ⟨by simp,HAW.out.trans A4.out⟩
   | exact ⟨rfl,HAW.out.trans A1.out⟩
 ·have H0:=gH (show Calls Tryz.prog 10 #[.agg (c33 a A k A2 k2 A3 k3).toArray] W fun e w'=>e=.returned (.bool true)∧Aft W w' from (large_in a A k A2 k2 A3 k3 W hxW.x).mono fun e w' (⟨a1,r,he,hr⟩:LgQ _ _ _ _)=>⟨by
   cases r
   ·exact absurd (hr rfl) hfew
   ·exact he,a1⟩)
  clear hxW hx ht hl aW ra hfew HE
  dsimp only [c33] at hW e1 H0 ⊢
  go_enter Tryz.func4,Tryz.ntmps4
  go_upto_region 1 with fail
  rw [← hW]
  clear hW
  go_wp2_with (first
   | (go_at_call 10;(with_reducible refine H0.out.mono ?_);rintro e w1 ⟨rfl,a1⟩;have A1:=gH a1;clear a1))
  go_ret
  exact ⟨rfl,HAW.out.trans A1.out⟩
end Go.Proofs.YtbdanlipghhgpaaGreatDoor
namespace Go.Proofs.YtbdanlipghhgpaaGreatDoor
open Go.ChangeShapes Go.WideShapes Go.ChangeAt Go.RowKit
set_option maxRecDepth 100000
set_option linter.unusedVariables false
set_option maxHeartbeats 64000000
section
variable {H : Type} {enc : TypeId × Value → H} {w : World}
theorem rd_str {cs:List Value} (h:Rd enc Tryz.prog w 9 cs):∃ x,StrR w cs x:=by
 obtain ⟨s,e,z⟩:=h.string Tryz.underlying9
 exact ⟨s,e,z⟩
theorem rd_strs {cs:List Value} (h:Rd enc Tryz.prog w 26 cs):∃ l,SlOf w 1 StrR cs l :=
 Rd.slice Tryz.underlying26 (by kernel_rfl:Tryz.prog.cellsOf 9=1) (by decide) (of_decide_eq_true (by kernel_rfl)) (fun _ h=>rd_str h) h
theorem rd_col {cs:List Value} (h:Rd enc Tryz.prog w 67 cs):∃ x,ColR w cs x:=by
 obtain ⟨hl,_⟩:=h.struct Tryz.underlying67
 rw [show Tryz.prog.cellsOf 67=3 by kernel_rfl] at hl
 match cs,hl with
 | [c0,c1,c2],_ =>
  have f0:=h.field Tryz.underlying67 0 9 0 1 rfl (by kernel_rfl)
  have f1:=h.field Tryz.underlying67 1 37 1 1 rfl (by kernel_rfl)
  have f2:=h.field Tryz.underlying67 2 4 2 1 rfl (by kernel_rfl)
  clear h
  obtain ⟨x0,e0,z0⟩:=f0.string Tryz.underlying9
  obtain ⟨x1,e1,_⟩:=f1.int Tryz.underlying37
  obtain ⟨x2,e2⟩:=f2.bool Tryz.underlying4
  simp at e0 e1 e2
  subst e0 e1 e2
  exact ⟨⟨x0,x1,x2⟩,rfl,z0⟩
theorem rd_cols {cs:List Value} (h:Rd enc Tryz.prog w 24 cs):∃ l,SlOf w 3 ColR cs l :=
 Rd.slice Tryz.underlying24 (by kernel_rfl:Tryz.prog.cellsOf 67=3) (by decide) (of_decide_eq_true (by kernel_rfl)) (fun _ h=>rd_col h) h
theorem rd_rule {cs:List Value} (h:Rd enc Tryz.prog w 28 cs):∃ x,RulR w cs x:=by
 obtain ⟨hl,_⟩:=h.struct Tryz.underlying28
 rw [show Tryz.prog.cellsOf 28=8 by kernel_rfl] at hl
 match cs,hl with
 | [c0,c1,c2,c3,c4,c5,c6,c7],_ =>
  have f0:=h.field Tryz.underlying28 0 9 0 1 rfl (by kernel_rfl)
  have f1:=h.field Tryz.underlying28 1 25 1 1 rfl (by kernel_rfl)
  have f2:=h.field Tryz.underlying28 2 26 2 1 rfl (by kernel_rfl)
  have f3:=h.field Tryz.underlying28 3 3 3 1 rfl (by kernel_rfl)
  have f4:=h.field Tryz.underlying28 4 3 4 1 rfl (by kernel_rfl)
  have f5:=h.field Tryz.underlying28 5 9 5 1 rfl (by kernel_rfl)
  have f6:=h.field Tryz.underlying28 6 9 6 1 rfl (by kernel_rfl)
  have f7:=h.field Tryz.underlying28 7 9 7 1 rfl (by kernel_rfl)
  clear h
  obtain ⟨x0,e0,z0⟩:=f0.string Tryz.underlying9
  obtain ⟨x1,e1,_⟩:=f1.int Tryz.underlying25
  obtain ⟨x2,A2,cap2,e2,z2⟩:=rd_strs f2
  obtain ⟨x3,e3,_⟩:=f3.int Tryz.underlying3
  obtain ⟨x4,e4,_⟩:=f4.int Tryz.underlying3
  obtain ⟨x5,e5,z5⟩:=f5.string Tryz.underlying9
  obtain ⟨x6,e6,z6⟩:=f6.string Tryz.underlying9
  obtain ⟨x7,e7,z7⟩:=f7.string Tryz.underlying9
  simp at e0 e1 e2 e3 e4 e5 e6 e7
  subst e0 e1 e2 e3 e4 e5 e6 e7
  exact ⟨⟨x0,x1,x2,x3,x4,x5,x6,x7⟩,A2,cap2,rfl,z2,z0,z5,z6,z7⟩
end
section
variable {H : Type} {enc : TypeId × Value → H} {w : World}
theorem rd_val {cs:List Value} (h:Rd enc Tryz.prog w 39 cs):∃ x,ValR w cs x:=by
 obtain ⟨hl,_⟩:=h.struct Tryz.underlying39
 rw [show Tryz.prog.cellsOf 39=3 by kernel_rfl] at hl
 match cs,hl with
 | [c0,c1,c2],_ =>
  have f0:=h.field Tryz.underlying39 0 37 0 1 rfl (by kernel_rfl)
  have f1:=h.field Tryz.underlying39 1 3 1 1 rfl (by kernel_rfl)
  have f2:=h.field Tryz.underlying39 2 9 2 1 rfl (by kernel_rfl)
  clear h
  obtain ⟨x0,e0,_⟩:=f0.int Tryz.underlying37
  obtain ⟨x1,e1,_⟩:=f1.int Tryz.underlying3
  obtain ⟨x2,e2,z2⟩:=f2.string Tryz.underlying9
  simp at e0 e1 e2
  subst e0 e1 e2
  exact ⟨⟨x0,x1,x2⟩,rfl,z2⟩
theorem rd_vals {cs:List Value} (h:Rd enc Tryz.prog w 36 cs):∃ l,SlOf w 3 ValR cs l :=
 Rd.slice Tryz.underlying36 (by kernel_rfl:Tryz.prog.cellsOf 39=3) (by decide) (of_decide_eq_true (by kernel_rfl)) (fun _ h=>rd_val h) h
end
section
variable {H : Type} {enc : TypeId × Value → H} {w : World}
theorem rd_cmdD {cs:List Value} (h:Rd enc Tryz.prog w 31 cs) :
  ∃ (x:Cmd) (A:Option Addr) (k:Nat) (A2:Option Addr) (k2:Nat),cs=cmdV x A k A2 k2∧SlAt w 3 ColR A k x.cols∧SlAt w 1 StrR A2 k2 x.rule.cols∧SmC x:=by
 obtain ⟨hl,hf⟩:=h.struct Tryz.underlying31
 rw [show Tryz.prog.cellsOf 31=17 by kernel_rfl] at hl
 match cs,hl with
 | [c0,c1,c2,c3,c4,c5,c6,c7,c8,c9,c10,c11,c12,c13,c14,c15,c16],_ =>
  have f0:=h.field Tryz.underlying31 0 23 0 1 rfl (by kernel_rfl)
  have f1:=h.field Tryz.underlying31 1 9 1 1 rfl (by kernel_rfl)
  have f2:=h.field Tryz.underlying31 2 9 2 1 rfl (by kernel_rfl)
  have f3:=h.field Tryz.underlying31 3 9 3 1 rfl (by kernel_rfl)
  have f4:=h.field Tryz.underlying31 4 9 4 1 rfl (by kernel_rfl)
  have f5:=h.field Tryz.underlying31 5 9 5 1 rfl (by kernel_rfl)
  have f6:=h.field Tryz.underlying31 6 24 6 1 rfl (by kernel_rfl)
  have f7:=h.field Tryz.underlying31 7 28 7 8 rfl (by kernel_rfl)
  have f8:=h.field Tryz.underlying31 8 29 15 1 rfl (by kernel_rfl)
  have f9:=h.field Tryz.underlying31 9 4 16 1 rfl (by kernel_rfl)
  clear h hf
  obtain ⟨k,e0,_⟩:=f0.int Tryz.underlying23
  obtain ⟨s1,e1,z1⟩:=f1.string Tryz.underlying9
  obtain ⟨s2,e2,z2⟩:=f2.string Tryz.underlying9
  obtain ⟨s3,e3,z3⟩:=f3.string Tryz.underlying9
  obtain ⟨s4,e4,z4⟩:=f4.string Tryz.underlying9
  obtain ⟨s5,e5,z5⟩:=f5.string Tryz.underlying9
  obtain ⟨l6,A,c,e6,z6⟩:=rd_cols f6
  obtain ⟨r,e8,w8⟩:=f8.int Tryz.underlying29
  obtain ⟨o,e9⟩:=f9.bool Tryz.underlying4
  obtain ⟨ru,A2,cap2,e7,z7,y0,y5,y6,y7⟩:=rd_rule f7
  simp at e0 e1 e2 e3 e4 e5 e6 e7 e8 e9
  obtain ⟨d0,d1,d2,d3,d4,d5,d6,d7⟩:=e7
  subst e0 e1 e2 e3 e4 e5 e6 e8 e9 d0 d1 d2 d3 d4 d5 d6 d7
  exact ⟨⟨k,s1,s2,s3,s4,s5,l6,ru,r,o⟩,A,c,A2,cap2,rfl,z6,z7,⟨z1,z2,z3,z4,z5,y0,y5,y6,y7⟩⟩
theorem rd_ropD {cs:List Value} (h:Rd enc Tryz.prog w 41 cs):∃ (x:ROp) (A:Option Addr) (k:Nat),cs=ropV x A k∧SlAt w 3 ValR A k x.row∧SmO x:=by
 obtain ⟨hl,_⟩:=h.struct Tryz.underlying41
 rw [show Tryz.prog.cellsOf 41=9 by kernel_rfl] at hl
 match cs,hl with
 | [c0,c1,c2,c3,c4,c5,c6,c7,c8],_ =>
  have f0:=h.field Tryz.underlying41 0 35 0 1 rfl (by kernel_rfl)
  have f1:=h.field Tryz.underlying41 1 9 1 1 rfl (by kernel_rfl)
  have f2:=h.field Tryz.underlying41 2 9 2 1 rfl (by kernel_rfl)
  have f3:=h.field Tryz.underlying41 3 9 3 1 rfl (by kernel_rfl)
  have f4:=h.field Tryz.underlying41 4 36 4 1 rfl (by kernel_rfl)
  have f5:=h.field Tryz.underlying41 5 9 5 1 rfl (by kernel_rfl)
  have f6:=h.field Tryz.underlying41 6 39 6 3 rfl (by kernel_rfl)
  clear h
  obtain ⟨x0,e0,z0⟩:=f0.int Tryz.underlying35
  obtain ⟨x1,e1,z1⟩:=rd_str f1
  obtain ⟨x2,e2,z2⟩:=rd_str f2
  obtain ⟨x3,e3,z3⟩:=rd_str f3
  obtain ⟨x4,A,cap,e4,z4⟩:=rd_vals f4
  obtain ⟨x5,e5,z5⟩:=rd_str f5
  obtain ⟨x6,e6,z6⟩:=rd_val f6
  simp at e0 e1 e2 e3 e4 e5 e6
  obtain ⟨e6,e7,e8⟩:=e6
  subst e0 e1 e2 e3 e4 e5 e6 e7 e8
  exact ⟨⟨x0,x1,x2,x3,x4,x5,x6⟩,A,cap,rfl,z4,⟨z1,z2,z3,z5,z6⟩⟩
theorem rd_act {cs:List Value} (h:Rd enc Tryz.prog w 43 cs):∃ (a:Dact) (A:Option Addr) (k:Nat) (A2:Option Addr) (k2:Nat) (A3:Option Addr) (k3:Nat),cs=actV a A k A2 k2 A3 k3∧ActG w a A k A2 k2 A3 k3:=by
 obtain ⟨hl,_⟩:=h.struct Tryz.underlying43
 rw [show Tryz.prog.cellsOf 43=33 by kernel_rfl] at hl
 match cs,hl with
 | c0::c1::c2::c3::c4::c5::c6::c7::c8::c9::c10::c11::c12::c13::c14::c15::c16::c17::c18::c19::c20::c21::c22::c23::c24::c25::c26::c27::c28::c29::c30::c31::c32::[],_ =>
  have f0:=h.field Tryz.underlying43 0 22 0 1 rfl (by kernel_rfl)
  have f1:=h.field Tryz.underlying43 1 3 1 1 rfl (by kernel_rfl)
  have f2:=h.field Tryz.underlying43 2 3 2 1 rfl (by kernel_rfl)
  have f3:=h.field Tryz.underlying43 3 3 3 1 rfl (by kernel_rfl)
  have f4:=h.field Tryz.underlying43 4 3 4 1 rfl (by kernel_rfl)
  have f5:=h.field Tryz.underlying43 5 31 5 17 rfl (by kernel_rfl)
  have f6:=h.field Tryz.underlying43 6 34 22 2 rfl (by kernel_rfl)
  have f7:=h.field Tryz.underlying43 7 41 24 9 rfl (by kernel_rfl)
  clear h
  have g0:=f6.field Tryz.underlying34 0 32 0 1 rfl (by kernel_rfl)
  have g1:=f6.field Tryz.underlying34 1 3 1 1 rfl (by kernel_rfl)
  obtain ⟨x0,e0,z0⟩:=f0.int Tryz.underlying22
  obtain ⟨x1,e1,z1⟩:=f1.int Tryz.underlying3
  obtain ⟨x2,e2,z2⟩:=f2.int Tryz.underlying3
  obtain ⟨x3,e3,z3⟩:=f3.int Tryz.underlying3
  obtain ⟨x4,e4,z4⟩:=f4.int Tryz.underlying3
  obtain ⟨x,A,k,A2,k2,e5,y1,y2,y3⟩:=rd_cmdD f5
  obtain ⟨k0,e6,w6⟩:=g0.int Tryz.underlying32
  obtain ⟨k1,e7,w7⟩:=g1.int Tryz.underlying3
  obtain ⟨r,A3,k3,e8,u1,u2⟩:=rd_ropD f7
  have hw : -9223372036854775808≤k0∧k0≤9223372036854775807:=by simpa [Lit.wf,IntKind.min,IntKind.max,IntKind.signed,IntKind.bits] using w6
  refine ⟨⟨x0,x1,x2,x3,x4,x,k0,k1,r⟩,A,k,A2,k2,A3,k3,?_,⟨⟨y1,y2,u1,y3.rname,y3.rs,y3.rt,y3.rk⟩,y3,u2,hw.1,hw.2⟩⟩
  simp at e0 e1 e2 e3 e4 e6 e7
  simp only [List.drop_succ_cons,List.drop_zero,List.take_succ_cons,List.take_zero] at e5 e8
  unfold actV
  rw [← e5,← e8,e0,e1,e2,e3,e4,e6,e7]
  rfl
end
end Go.Proofs.YtbdanlipghhgpaaGreatDoor
