import Derived.Test.YtmflccbnoeaafaaGreatPartC24
namespace Go.Proofs.YtmflccbnoeaafaaGreat
open Go.RowKit Go.Deep
set_option maxRecDepth 100000
set_option linter.unusedVariables false
set_option maxHeartbeats 64000000
structure kM (w:World) (x:eW) (A6:Option Addr) (c6:Nat) (A9:Option Addr) (c9:Nat):Prop where
 ak:aL w 3 iv A6 c6 x.ak
 names:aL w 1 dK A9 c9 x.rule.ak
 s1:Small x.aJ.size
 s2:Small x.aa.size
 s3:Small x.table.size
 s4:Small x.name.size
 s5:Small x.role.size
 t1:Small x.rule.name.size
 t2:Small x.rule.aa.size
 t3:Small x.rule.table.size
 t4:Small x.rule.key.size
 r:(Lit.int .i64 x.right).wf=true
theorem kM.az {w w':World} {x:eW} {A6:Option Addr} {c6:Nat} {A9:Option Addr} {c9:Nat} (h:kM w x A6 c6 A9 c9) (a:ag w w'):kM w' x A6 c6 A9 c9:=⟨cy a h.ak,aM a h.names,h.s1,h.s2,h.s3,h.s4,h.s5,h.t1,h.t2,h.t3,h.t4,h.r⟩
theorem kM.kv {w:World} {x:eW} {A6:Option Addr} {c6:Nat} {A9:Option Addr} {c9:Nat} (h:kM w x A6 c6 A9 c9):oL (p9 x):=⟨h.s2,h.s3,h.s1,h.s5,h.r⟩
theorem bU.into {w W w':World} {B b:Nat} {r s:bW × Int} {e:Ending} (a:ag w W) (g:Pa r s) (h:bU W B b r e w'):bU w B b s e w':=bU.after (Kb.aH a) (h.agr g)
theorem LZ {c:bW} {x:eW} (h:x.kind≤8) (h4:x.kind≠4) (h0:1≤x.kind):dt c x=(if x.kind=1 then cR c.ai (dp x.aa x.aJ c.ai) else if x.kind=2 then cR c.ai (cP x.aa c.ai) else if x.kind=3 then cR c.ai (dy ⟨x.aa,x.table,x.aJ,x.ak,[]⟩ c.ai) else if x.kind=5 then cR c.ai (cY c.ai x.aa x.table (eF (dP x))) else if x.kind=6 then cR c.ai (cY c.ai x.aa x.table (eB x.name)) else if x.kind=7 then cR c.ai (cY c.ai x.aa x.table (eo c.ai.tables x.rule)) else cR c.ai (cY c.ai x.aa x.table (dN c.ai.tables x.aa x.table x.name))):=by
 unfold dt;rw [if_neg h4];by_cases h8:x.kind=8
 ·rw [if_pos h8]
 ·rw [if_neg h8]
  have:x.kind=1∨x.kind=2∨x.kind=3∨x.kind=5∨x.kind=6∨x.kind=7:=by omega
  rcases this with h | h | h | h | h | h<;>simp [h]
theorem L1 {c:bW} {x:eW} (h:x.kind=10∨x.kind=12∨x.kind=13):gC c x=(if x.kind=10 then eC c.aj (lR x.role c.aj) else if x.kind=12 then eC c.aj (iD ⟨x.role,x.name⟩ c.aj) else eC c.aj (gD ⟨x.role,x.name⟩ c.aj)):=by
 unfold gC
 rcases h with h | h | h<;>simp [h]
theorem Xz (c:bW) (hs ht hn hm hg:Hd) (L:List ay) (B b:Nat) (x:eW) (A6:Option Addr) (c6:Nat) (A9:Option Addr) (c9:Nat) (w:World) (hb:b < B) (tK:B≤w.heap.size) (C:dc w B c hs ht hn hm hg L) (sm:xK c) (R:ap w b (cK c hs ht hn hm hg)) (XA:kM w x A6 c6 A9 c9) (hr:bN c.aj=true) (h5:x.kind=5→0 < x.ak.length) (hk:1≤x.kind∧x.kind≤15) (BO:c.af.length≤1000000) :
  Calls Tryz.prog 24 #[.pointer (some ⟨b,0,none⟩),.agg #[.int .i64 x.kind,.string x.aJ,.string x.aa,.string x.table,.string x.name,.string x.role,.slice A6 x.ak.length c6,.string x.rule.name,.int .i64 x.rule.kind,.slice A9 x.rule.ak.length c9,.int .i64 x.rule.low,.int .i64 x.rule.high,.string x.rule.aa,.string x.rule.table,.string x.rule.key,.int .i64 x.right,.bool x.opt]] w (bU w B b (bZ c x)):=by
 have l1:w.heap.size < w.heap.size+1:=by omega
 obtain ⟨k,rJ⟩:∃ k,x.kind=k:=⟨_,rfl⟩;obtain ⟨F,hF⟩:∃ F,bZ c x=F:=⟨_,rfl⟩;obtain ⟨W,hW⟩:∃ W,W=w.alloc (.cells #[.int .i64 k,.string x.aJ,.string x.aa,.string x.table,.string x.name,.string x.role,.slice A6 x.ak.length c6,.string x.rule.name,.int .i64 x.rule.kind,.slice A9 x.rule.ak.length c9,.int .i64 x.rule.low,.int .i64 x.rule.high,.string x.rule.aa,.string x.rule.table,.string x.rule.key,.int .i64 x.right,.bool x.opt] 40):=⟨_,rfl⟩
 have aW:ag w W:=by rw [hW];exact (ag.refl w).alloc _
 have Ln:B≤W.heap.size:=Nat.le_trans tK aW.size
 have r1:ap W w.heap.size [.int .i64 k,.string x.aJ,.string x.aa,.string x.table,.string x.name,.string x.role,.slice A6 x.ak.length c6,.string x.rule.name,.int .i64 x.rule.kind,.slice A9 x.rule.ak.length c9,.int .i64 x.rule.low,.int .i64 x.rule.high,.string x.rule.aa,.string x.rule.table,.string x.rule.key,.int .i64 x.right,.bool x.opt]:=by rw [hW];exact bv (ag.refl _) (by simp)
 have r0:=R.az aW;have pZ:=gH (C.at sm)
 have H4:=gH (show k=4→Calls Tryz.prog 55 #[.pointer (some ⟨b,0,none⟩),.agg #[.int .i64 k,.string x.aJ,.string x.aa,.string x.table,.string x.name,.string x.role,.slice A6 x.ak.length c6,.string x.rule.name,.int .i64 x.rule.kind,.slice A9 x.rule.ak.length c9,.int .i64 x.rule.low,.int .i64 x.rule.high,.string x.rule.aa,.string x.rule.table,.string x.rule.key,.int .i64 x.right,.bool x.opt]] W (bU w B b F) from fun h=>by
  rw [← rJ]
  exact (zD c hs ht hn hm hg L B b x A6 x.ak.length c6 A9 x.rule.ak.length c9 W hb Ln (C.az aW) sm (R.az aW) BO).mono fun e w' hp=>hF▸bU.into aW (Pb (rJ.trans h)) hp)
 have H9:=gH (show k=9→Calls Tryz.prog 56 #[.pointer (some ⟨b,0,none⟩),.agg #[.int .i64 k,.string x.aJ,.string x.aa,.string x.table,.string x.name,.string x.role,.slice A6 x.ak.length c6,.string x.rule.name,.int .i64 x.rule.kind,.slice A9 x.rule.ak.length c9,.int .i64 x.rule.low,.int .i64 x.rule.high,.string x.rule.aa,.string x.rule.table,.string x.rule.key,.int .i64 x.right,.bool x.opt]] W (bU w B b F) from fun h=>by
  rw [← rJ]
  exact (BS c hs ht hn hm hg L B b x A6 x.ak.length c6 A9 x.rule.ak.length c9 W hb Ln (C.az aW) sm (R.az aW) XA.s5.max).mono fun e w' hp=>hF▸bU.into aW (Pc (rJ.trans h)) hp)
 have Kl:=gH (show k=11→Calls Tryz.prog 57 #[.pointer (some ⟨b,0,none⟩),.agg #[.int .i64 k,.string x.aJ,.string x.aa,.string x.table,.string x.name,.string x.role,.slice A6 x.ak.length c6,.string x.rule.name,.int .i64 x.rule.kind,.slice A9 x.rule.ak.length c9,.int .i64 x.rule.low,.int .i64 x.rule.high,.string x.rule.aa,.string x.rule.table,.string x.rule.key,.int .i64 x.right,.bool x.opt]] W (bU w B b F) from fun h=>by
  rw [← rJ]
  exact (B6 c hs ht hn hm hg L B b x A6 x.ak.length c6 A9 x.rule.ak.length c9 W hb Ln (C.az aW) sm (R.az aW)).mono fun e w' hp=>hF▸bU.into aW (Pd hr (rJ.trans h)) hp)
 have Km:=gH (show k=14→Calls Tryz.prog 58 #[.pointer (some ⟨b,0,none⟩),.agg #[.int .i64 k,.string x.aJ,.string x.aa,.string x.table,.string x.name,.string x.role,.slice A6 x.ak.length c6,.string x.rule.name,.int .i64 x.rule.kind,.slice A9 x.rule.ak.length c9,.int .i64 x.rule.low,.int .i64 x.rule.high,.string x.rule.aa,.string x.rule.table,.string x.rule.key,.int .i64 x.right,.bool x.opt]] W (bU w B b F) from fun h=>by
  rw [← rJ]
  exact (PC c hs ht hn hm hg L B b x A6 x.ak.length c6 A9 x.rule.ak.length c9 W hb Ln (C.az aW) sm (R.az aW) XA.kv).mono fun e w' hp=>hF▸bU.into aW (Pe (rJ.trans h)) hp)
 have Kn:=gH (show k=15→Calls Tryz.prog 59 #[.pointer (some ⟨b,0,none⟩),.agg #[.int .i64 k,.string x.aJ,.string x.aa,.string x.table,.string x.name,.string x.role,.slice A6 x.ak.length c6,.string x.rule.name,.int .i64 x.rule.kind,.slice A9 x.rule.ak.length c9,.int .i64 x.rule.low,.int .i64 x.rule.high,.string x.rule.aa,.string x.rule.table,.string x.rule.key,.int .i64 x.right,.bool x.opt]] W (bU w B b F) from fun h=>by
  rw [← rJ]
  exact (Jh c hs ht hn hm hg L B b x A6 x.ak.length c6 A9 x.rule.ak.length c9 W hb Ln (C.az aW) sm (R.az aW) BO XA.s1).mono fun e w' hp=>hF▸bU.into aW (Pf (rJ.trans h)) hp)
 obtain ⟨G,hG⟩:∃ G,dt c x=G:=⟨_,rfl⟩;obtain ⟨D,hD⟩:∃ D,gC c x=D:=⟨_,rfl⟩
 have HO:=gH (show k≤8∧k≠4→∀ V,ag W V→Calls Tryz.prog 61 #[.agg #[.slice hs.a c.ai.ae.length hs.c,.slice ht.a c.ai.tables.length ht.c],.agg #[.int .i64 k,.string x.aJ,.string x.aa,.string x.table,.string x.name,.string x.role,.slice A6 x.ak.length c6,.string x.rule.name,.int .i64 x.rule.kind,.slice A9 x.rule.ak.length c9,.int .i64 x.rule.low,.int .i64 x.rule.high,.string x.rule.aa,.string x.rule.table,.string x.rule.key,.int .i64 x.right,.bool x.opt]] V (ix V G) from fun h V a=>by
  rw [← rJ,← hG,LZ (by omega) (by omega) (by omega)]
  exact zM c.ai hs.a hs.c ht.a ht.c x A6 c6 A9 c9 V (bm (aW.trans a) pZ.out.gQ) (aQ (aW.trans a) pZ.out.tab) (cy (aW.trans a) XA.ak) (aM (aW.trans a) XA.names) h5 XA.s1 XA.s2 XA.s3 XA.t1 XA.t2 XA.t3 XA.t4)
 have Ko:=gH (show k≤8∧k≠4→F=({ c with ai:=G.1 },G.2) from fun h=>by rw [← hF,← hG];exact LM (by omega) (by omega))
 have HL:=gH (show k=10∨k=12∨k=13→∀ V,ag W V→Calls Tryz.prog 60 #[.agg #[.slice hn.a c.aj.names.length hn.c,.slice hm.a c.aj.members.length hm.c],.agg #[.int .i64 k,.string x.aJ,.string x.aa,.string x.table,.string x.name,.string x.role,.slice A6 x.ak.length c6,.string x.rule.name,.int .i64 x.rule.kind,.slice A9 x.rule.ak.length c9,.int .i64 x.rule.low,.int .i64 x.rule.high,.string x.rule.aa,.string x.rule.table,.string x.rule.key,.int .i64 x.right,.bool x.opt]] V (jE V D) from fun h V a=>by
  rw [← rJ,← hD,L1 (by omega)]
  exact FC c.aj hn.a hn.c hm.a hm.c x A6 x.ak.length c6 A9 x.rule.ak.length c9 V (aM (aW.trans a) pZ.out.fK) (bJ (aW.trans a) pZ.out.mem) XA.s5 XA.s4)
 have D5:=gH (show k=10∨k=12∨k=13→F=({ c with aj:=D.1 },D.2) from fun h=>by rw [← hF,← hD];exact LO (by omega) (by omega));rw [hF];rw [rJ] at hk ⊢;have HC:=gH C;have m8:=gH R;have br:=gH aW;have je:=gH r0;have x2:=r0.cell (j:=2) rfl;have x3:=r0.cell (j:=3) rfl;have x4:=r0.cell (j:=4) rfl;have x5:=r0.cell (j:=5) rfl;have y0:=r1.cell (j:=0) rfl;have y1:=r1.cell (j:=1) rfl;have y2:=r1.cell (j:=2) rfl;have y3:=r1.cell (j:=3) rfl;have y4:=r1.cell (j:=4) rfl;have y5:=r1.cell (j:=5) rfl;have y6:=r1.cell (j:=6) rfl;have y7:=r1.cell (j:=7) rfl;have y8:=r1.cell (j:=8) rfl;have y9:=r1.cell (j:=9) rfl;have jq:=r1.cell (j:=10) rfl;have jS:=r1.cell (j:=11) rfl;have jT:=r1.cell (j:=12) rfl;have jU:=r1.cell (j:=13) rfl;have jV:=r1.cell (j:=14) rfl;have jw:=r1.cell (j:=15) rfl;have jx:=r1.cell (j:=16) rfl;have z0:=r0.1;have z1:=r1.1;clear C sm R aW r0 r1 hF hG hD pZ XA hr h5 BO rJ Ln;by_cases h4:k=4
 case pos =>
  subst h4;have HK:=gH (H4.out rfl);clear H4 H9 Kl Km Kn HO Ko HL D5
  go_enter Tryz.func24,Tryz.ntmps24
  go_wp2_with fail;rw [← hW];clear hW
  (try go_wp2_with fail)
  refine HK.out.mono ?_;rintro e w2 ⟨hkb,hno,kx⟩;by_cases h0:F.2=0
  ·obtain ⟨rfl,hh⟩:=kx h0
   have HP:=gH (show bU w B b F (.returned (.tuple #[])) w2 from ⟨hkb,hno,fun _=>⟨rfl,hh⟩⟩);clear hkb hno kx hh;go_wp2_with fail;refine (fH _).mono ?_;rintro e w5 ⟨rfl,rfl⟩;go_wp2_with fail
   go_end0
   exact HP.out
  ·obtain ⟨he,hrow⟩:=hno h0
   have HP:=gH (show bU w B b F (js F.2) w2 from ⟨hkb,fun _=>⟨rfl,hrow⟩,fun h=>absurd h h0⟩);clear hkb hno kx hrow;unfold js at he;subst he
   dsimp only
   exact ⟨rfl,HP.out⟩
 by_cases h9:k=9
 case pos =>
  subst h9;have HK:=gH (H9.out rfl);clear H4 H9 Kl Km Kn HO Ko HL D5
  go_enter Tryz.func24,Tryz.ntmps24
  go_wp2_with fail;rw [← hW];clear hW
  (try go_wp2_with fail)
  refine HK.out.mono ?_;rintro e w2 ⟨hkb,hno,kx⟩;by_cases h0:F.2=0
  ·obtain ⟨rfl,hh⟩:=kx h0
   have HP:=gH (show bU w B b F (.returned (.tuple #[])) w2 from ⟨hkb,hno,fun _=>⟨rfl,hh⟩⟩);clear hkb hno kx hh;go_wp2_with fail;refine (fH _).mono ?_;rintro e w5 ⟨rfl,rfl⟩;go_wp2_with fail
   go_end0
   exact HP.out
  ·obtain ⟨he,hrow⟩:=hno h0
   have HP:=gH (show bU w B b F (js F.2) w2 from ⟨hkb,fun _=>⟨rfl,hrow⟩,fun h=>absurd h h0⟩);clear hkb hno kx hrow;unfold js at he;subst he
   dsimp only
   exact ⟨rfl,HP.out⟩
 by_cases h11:k=11
 case pos =>
  subst h11;have HK:=gH (Kl.out rfl);clear H4 H9 Kl Km Kn HO Ko HL D5
  go_enter Tryz.func24,Tryz.ntmps24
  go_wp2_with fail;rw [← hW];clear hW
  (try go_wp2_with fail)
  refine HK.out.mono ?_;rintro e w2 ⟨hkb,hno,kx⟩;by_cases h0:F.2=0
  ·obtain ⟨rfl,hh⟩:=kx h0
   have HP:=gH (show bU w B b F (.returned (.tuple #[])) w2 from ⟨hkb,hno,fun _=>⟨rfl,hh⟩⟩);clear hkb hno kx hh;go_wp2_with fail;refine (fH _).mono ?_;rintro e w5 ⟨rfl,rfl⟩;go_wp2_with fail
   go_end0
   exact HP.out
  ·obtain ⟨he,hrow⟩:=hno h0
   have HP:=gH (show bU w B b F (js F.2) w2 from ⟨hkb,fun _=>⟨rfl,hrow⟩,fun h=>absurd h h0⟩);clear hkb hno kx hrow;unfold js at he;subst he
   dsimp only
   exact ⟨rfl,HP.out⟩
 by_cases J6:k=14
 case pos =>
  subst J6;have HK:=gH (Km.out rfl);clear H4 H9 Kl Km Kn HO Ko HL D5
  go_enter Tryz.func24,Tryz.ntmps24
  go_wp2_with fail;rw [← hW];clear hW
  (try go_wp2_with fail)
  refine HK.out.mono ?_;rintro e w2 ⟨hkb,hno,kx⟩;by_cases h0:F.2=0
  ·obtain ⟨rfl,hh⟩:=kx h0
   have HP:=gH (show bU w B b F (.returned (.tuple #[])) w2 from ⟨hkb,hno,fun _=>⟨rfl,hh⟩⟩);clear hkb hno kx hh;go_wp2_with fail;refine (fH _).mono ?_;rintro e w5 ⟨rfl,rfl⟩;go_wp2_with fail
   go_end0
   exact HP.out
  ·obtain ⟨he,hrow⟩:=hno h0
   have HP:=gH (show bU w B b F (js F.2) w2 from ⟨hkb,fun _=>⟨rfl,hrow⟩,fun h=>absurd h h0⟩);clear hkb hno kx hrow;unfold js at he;subst he
   dsimp only
   exact ⟨rfl,HP.out⟩
 by_cases GA:k=15
 case pos =>
  subst GA;have HK:=gH (Kn.out rfl);clear H4 H9 Kl Km Kn HO Ko HL D5
  go_enter Tryz.func24,Tryz.ntmps24
  go_wp2_with fail;rw [← hW];clear hW
  (try go_wp2_with fail)
  refine HK.out.mono ?_;rintro e w2 ⟨hkb,hno,kx⟩;by_cases h0:F.2=0
  ·obtain ⟨rfl,hh⟩:=kx h0
   have HP:=gH (show bU w B b F (.returned (.tuple #[])) w2 from ⟨hkb,hno,fun _=>⟨rfl,hh⟩⟩);clear hkb hno kx hh;go_wp2_with fail;refine (fH _).mono ?_;rintro e w5 ⟨rfl,rfl⟩;go_wp2_with fail
   go_end0
   exact HP.out
  ·obtain ⟨he,hrow⟩:=hno h0
   have HP:=gH (show bU w B b F (js F.2) w2 from ⟨hkb,fun _=>⟨rfl,hrow⟩,fun h=>absurd h h0⟩);clear hkb hno kx hrow;unfold js at he;subst he
   dsimp only
   exact ⟨rfl,HP.out⟩
 by_cases h10:k=10
 case pos =>
  subst h10;have HK:=gH (HL.out (by omega));have ej:=gH (D5.out (by omega));clear H4 H9 Kl Km Kn HO Ko HL D5;obtain ⟨D0,D2⟩:=D
  go_enter Tryz.func24,Tryz.ntmps24
  go_wp2_with fail;rw [← hW];clear hW
  (try go_wp2_with fail)
  go_region_law (go_simp;go_at_call 60;refine (HK.out _ (ag.refl W).drew).mono ?_;rintro e w3 ⟨⟨A1,n1,c1⟩,⟨A2,n2,c2⟩,rfl,a3,ob⟩;simp only [Hd.v];have a4:ag W w3:=(ag.refl _).drew.trans a3;have q:=je.out.az a4;have u4:=q.cell (j:=4) rfl;have u5:=q.cell (j:=5) rfl;have g4:=q.2.2 4 (by simp [cK]);have g5:=q.2.2 5 (by simp [cK]);have qz:=q.1)
  all_goals
   have jr:=gH (br.out.trans a4);have lB:=gH ob
   skip
   clear a3 a4 ob q u4 u5 g4 g5 qz;by_cases h2:D2=0
   ·subst h2
    have HP:=gH (DR hb tK HC.out m8.out jr.out (D:=W.heap.size) br.out.size lB.out (gm lB.out.fK) (gm lB.out.mem));go_wp2_with fail;refine (fH _).mono ?_;rintro e w5 ⟨rfl,rfl⟩;go_wp2_with fail
    go_end0
    rw [ej.out];exact HP.out
   ·have HP:=gH (show bU w B b F (js D2) ((w3.setCell ⟨b,4,none⟩ (.slice A1 n1 c1)).setCell ⟨b,5,none⟩ (.slice A2 n2 c2)) from bU.no ((Kb.aH jr.out).trans (((Kb.set w3 b 4 (.slice A1 n1 c1)).trans (Kb.set _ b 5 (.slice A2 n2 c2))).mono fun g _ e=>.inl e)) (((m8.out.az jr.out).set 4 _ (by simp [cK])).set 5 _ (by simp [cK])) (by simp [cK]) (by rw [ej.out]) h2)
    go_wp2_with fail;refine (ja D2 h2 _).mono ?_;rintro e w5 ⟨he,rfl⟩;unfold js at he;subst he
    dsimp only
    exact ⟨rfl,HP.out⟩
 by_cases Aw:k=12
 case pos =>
  subst Aw;have HK:=gH (HL.out (by omega));have ej:=gH (D5.out (by omega));clear H4 H9 Kl Km Kn HO Ko HL D5;obtain ⟨D0,D2⟩:=D
  go_enter Tryz.func24,Tryz.ntmps24
  go_wp2_with fail;rw [← hW];clear hW
  (try go_wp2_with fail)
  go_region_law (go_simp;go_at_call 60;refine (HK.out _ (ag.refl W).drew).mono ?_;rintro e w3 ⟨⟨A1,n1,c1⟩,⟨A2,n2,c2⟩,rfl,a3,ob⟩;simp only [Hd.v];have a4:ag W w3:=(ag.refl _).drew.trans a3;have q:=je.out.az a4;have u4:=q.cell (j:=4) rfl;have u5:=q.cell (j:=5) rfl;have g4:=q.2.2 4 (by simp [cK]);have g5:=q.2.2 5 (by simp [cK]);have qz:=q.1)
  all_goals
   have jr:=gH (br.out.trans a4);have lB:=gH ob
   skip
   clear a3 a4 ob q u4 u5 g4 g5 qz;by_cases h2:D2=0
   ·subst h2
    have HP:=gH (DR hb tK HC.out m8.out jr.out (D:=W.heap.size) br.out.size lB.out (gm lB.out.fK) (gm lB.out.mem));go_wp2_with fail;refine (fH _).mono ?_;rintro e w5 ⟨rfl,rfl⟩;go_wp2_with fail
    go_end0
    rw [ej.out];exact HP.out
   ·have HP:=gH (show bU w B b F (js D2) ((w3.setCell ⟨b,4,none⟩ (.slice A1 n1 c1)).setCell ⟨b,5,none⟩ (.slice A2 n2 c2)) from bU.no ((Kb.aH jr.out).trans (((Kb.set w3 b 4 (.slice A1 n1 c1)).trans (Kb.set _ b 5 (.slice A2 n2 c2))).mono fun g _ e=>.inl e)) (((m8.out.az jr.out).set 4 _ (by simp [cK])).set 5 _ (by simp [cK])) (by simp [cK]) (by rw [ej.out]) h2)
    go_wp2_with fail;refine (ja D2 h2 _).mono ?_;rintro e w5 ⟨he,rfl⟩;unfold js at he;subst he
    dsimp only
    exact ⟨rfl,HP.out⟩
 by_cases Gj:k=13
 case pos =>
  subst Gj;have HK:=gH (HL.out (by omega));have ej:=gH (D5.out (by omega));clear H4 H9 Kl Km Kn HO Ko HL D5;obtain ⟨D0,D2⟩:=D
  go_enter Tryz.func24,Tryz.ntmps24
  go_wp2_with fail;rw [← hW];clear hW
  (try go_wp2_with fail)
  go_region_law (go_simp;go_at_call 60;refine (HK.out _ (ag.refl W).drew).mono ?_;rintro e w3 ⟨⟨A1,n1,c1⟩,⟨A2,n2,c2⟩,rfl,a3,ob⟩;simp only [Hd.v];have a4:ag W w3:=(ag.refl _).drew.trans a3;have q:=je.out.az a4;have u4:=q.cell (j:=4) rfl;have u5:=q.cell (j:=5) rfl;have g4:=q.2.2 4 (by simp [cK]);have g5:=q.2.2 5 (by simp [cK]);have qz:=q.1)
  all_goals
   have jr:=gH (br.out.trans a4);have lB:=gH ob
   skip
   clear a3 a4 ob q u4 u5 g4 g5 qz;by_cases h2:D2=0
   ·subst h2
    have HP:=gH (DR hb tK HC.out m8.out jr.out (D:=W.heap.size) br.out.size lB.out (gm lB.out.fK) (gm lB.out.mem));go_wp2_with fail;refine (fH _).mono ?_;rintro e w5 ⟨rfl,rfl⟩;go_wp2_with fail
    go_end0
    rw [ej.out];exact HP.out
   ·have HP:=gH (show bU w B b F (js D2) ((w3.setCell ⟨b,4,none⟩ (.slice A1 n1 c1)).setCell ⟨b,5,none⟩ (.slice A2 n2 c2)) from bU.no ((Kb.aH jr.out).trans (((Kb.set w3 b 4 (.slice A1 n1 c1)).trans (Kb.set _ b 5 (.slice A2 n2 c2))).mono fun g _ e=>.inl e)) (((m8.out.az jr.out).set 4 _ (by simp [cK])).set 5 _ (by simp [cK])) (by simp [cK]) (by rw [ej.out]) h2)
    go_wp2_with fail;refine (ja D2 h2 _).mono ?_;rintro e w5 ⟨he,rfl⟩;unfold js at he;subst he
    dsimp only
    exact ⟨rfl,HP.out⟩
 have h8:k≤8∧k≠4:=by omega
 have HK:=gH (HO.out h8);have ej:=gH (Ko.out h8);clear H4 H9 Kl Km Kn HO Ko HL D5 h8 hk;obtain ⟨D0,D2⟩:=G
 go_enter Tryz.func24,Tryz.ntmps24
 go_wp2_with fail;rw [← hW];clear hW
 (try go_wp2_with fail)
 go_region_law (go_simp;go_at_call 61;refine (HK.out _ (ag.refl W).drew).mono ?_;rintro e w3 ⟨⟨A1,n1,c1⟩,⟨A2,n2,c2⟩,L2,hL,rfl,a3,ob⟩;have a4:ag W w3:=(ag.refl _).drew.trans a3;have q:=je.out.az a4;have u2:=q.cell (j:=2) rfl;have u3:=q.cell (j:=3) rfl;have g2:=q.2.2 2 (by simp [cK]);have g3:=q.2.2 3 (by simp [cK]);have qz:=q.1)
 all_goals
  have jr:=gH (br.out.trans a4);have lB:=gH ob;have nT:=gH hL;clear a3 a4 ob q u2 u3 g2 g3 qz hL;by_cases h2:D2=0
  ·subst h2
   have HP:=gH (IK hb tK HC.out m8.out jr.out (D:=W.heap.size) br.out.size lB.out nT.out);go_wp2_with fail;refine (fH _).mono ?_;rintro e w5 ⟨rfl,rfl⟩;go_wp2_with fail
   go_end0
   rw [ej.out];exact HP.out
  ·have HP:=gH (show bU w B b F (js D2) ((w3.setCell ⟨b,2,none⟩ (.slice A1 D0.ae.length c1)).setCell ⟨b,3,none⟩ (.slice A2 D0.tables.length c2)) from bU.no ((Kb.aH jr.out).trans (((Kb.set w3 b 2 (.slice A1 D0.ae.length c1)).trans (Kb.set _ b 3 (.slice A2 D0.tables.length c2))).mono fun g _ e=>.inl e)) (((m8.out.az jr.out).set 2 _ (by simp [cK])).set 3 _ (by simp [cK])) (by simp [cK]) (by rw [ej.out]) h2)
   go_wp2_with fail;refine (ja D2 h2 _).mono ?_;rintro e w5 ⟨he,rfl⟩;unfold js at he;subst he
   dsimp only
   exact ⟨rfl,HP.out⟩
theorem zN {o:bE} {nm ow:ByteArray} (h:kA o) (h1:Small nm.size) (h2:Small ow.size):kA (dp nm ow o).1:=by
 unfold dp
 split
 ·exact dD
 ·split
  ·exact dD
  ·split
   ·exact dD
   ·rename_i h3 h4 h5
    refine ⟨⟨?_,fun s hs=>?_⟩,h.2⟩
    ·show Small ((bQ _ _ _).length*16)
     rw [eI _ _ _ (fD _ _ _)];unfold Small;omega
    ·rcases cj.1 hs with e | e
     ·rw [e];exact ⟨h1,h2⟩
     ·exact h.1.2 s e
theorem xn {o:bE} {nm:ByteArray} (h:kA o):kA (cP nm o).1:=by
 unfold cP
 split
 ·exact dD
 ·split
  ·exact dD
  ·exact ⟨⟨Nat.le_trans (Nat.mul_le_mul_right _ (List.length_eraseIdx_le _ _)) h.1.1,fun s hs=>h.1.2 s (List.mem_of_mem_eraseIdx hs)⟩,h.2⟩
theorem FI {o:bE} {r:bE × Int} (h:bF o=true→kA r.1):kA (cR o r).1:=by
 unfold cR
 split
 ·rename_i h1;exact h h1
 ·exact dD
theorem zO {o:bE} {t:cu} (h:kA o) (ht:rI t):kA (cR o (dy t o)).1:=by
 refine FI fun hc=>?_
 have hl:=(jI hc).2.2.2;unfold dy
 split
 ·exact dD
 ·split
  ·exact dD
  ·split
   ·exact dD
   ·split
    ·exact dD
    ·split
     ·exact dD
     ·refine ⟨h.1,?_,fun y hy=>?_⟩
      ·show Small ((bQ _ _ _).length*16)
       rw [eI _ _ _ (fD _ _ _)];unfold Small;omega
      ·rcases cj.1 hy with e | e
       ·rw [e];exact ht
       ·exact h.2.2 y e
theorem xo {o:bE} {s n:ByteArray} (h:kA o):kA (cv s n o).1:=by
 unfold cv
 split
 ·exact dD
 ·split
  ·exact dD
  ·exact ⟨h.1,Nat.le_trans (Nat.mul_le_mul_right _ (List.length_eraseIdx_le _ _)) h.2.1,fun s hs=>h.2.2 s (List.mem_of_mem_eraseIdx hs)⟩
theorem Cq {t:cu} {v:ByteArray} (h:rI t) (hv:Small v.size):rI { t with owner:=v }:=⟨h.1,h.2.1,h.2.2.1,h.2.2.2.1,hv⟩
theorem lx {o:bE} {s n:ByteArray} {f:cu→cu × Int} (h:kA o) (hf:∀ t∈o.tables,(f t).2=0→rI (f t).1):kA (cY o s n f).1:=by
 unfold cY
 split
 ·rename_i t ht
  split
  ·exact dD
  ·split
   ·rename_i hz;exact Lj h (hf t (List.mem_of_getElem? ht) hz)
   ·exact dD
 ·exact dD
theorem zP {o:bE} {s n v:ByteArray} (h:kA o) (hv:Small v.size):kA (eE o s n v).1:=by
 unfold eE
 split
 ·split
  ·exact lx h fun t ht _=>Cq (h.2.2 t ht) hv
  ·exact dD
 ·exact dD
theorem FJ {t:cu} {c:fc} (h:rI t) (hc:Small c.name.size) (hz:(eF c t).2=0):rI (eF c t).1:=by
 unfold eF at hz ⊢
 split
 ·exact h
 ·split
  ·exact h
  ·split
   ·exact h
   ·rename_i h8
    refine ⟨⟨?_,fun x hx=>?_⟩,h.2.1,h.2.2.1,h.2.2.2.1,h.2.2.2.2⟩
    ·show Small ((t.ak++[c]).length*16)
     simp [Small];omega
    ·rcases List.mem_append.1 hx with e | e
     ·exact h.1.2 x e
     ·rw [List.mem_singleton] at e;rw [e];exact hc
theorem Ct {t:cu} {s:ByteArray} (h:rI t):rI (eB s t).1:=by
 unfold eB
 split
 ·exact h
 ·split
  ·exact h
  ·exact ⟨⟨Nat.le_trans (Nat.mul_le_mul_right _ (List.length_eraseIdx_le _ _)) h.1.1,fun c hc=>h.1.2 c (List.mem_of_mem_eraseIdx hc)⟩,h.2.1,h.2.2.1,h.2.2.2.1,h.2.2.2.2⟩
theorem tU {t:cu} {l:List gi} (h:rI t) (h1:Small (l.length*16)) (h2:∀ r∈l,Pm r):rI { t with rules:=l }:=⟨h.1,⟨h1,h2⟩,h.2.2.1,h.2.2.2.1,h.2.2.2.2⟩
theorem zQ {ts:List cu} {r:gi} {t:cu} (h:rI t) (hr:Pm r) (hz:(eo ts r t).2=0):rI (eo ts r t).1:=by
 unfold eo at hz ⊢
 split
 ·exact h
 ·split
  ·exact h
  ·split
   ·exact h
   ·rename_i h8
    split
    ·exact h
    ·refine tU h ?_ fun y hy=>?_
     ·show Small ((bQ _ _ _).length*16)
      rw [eI _ _ _ (fD _ _ _)];unfold Small;omega
     ·rcases cj.1 hy with e | e
      ·rw [e];exact hr
      ·exact h.2.1.2 y e
theorem xr {ts:List cu} {s n name:ByteArray} {t:cu} (h:rI t):rI (dN ts s n name t).1:=by
 unfold dN
 split
 ·exact h
 ·split
  ·exact h
  ·exact tU h (Nat.le_trans (Nat.mul_le_mul_right _ (List.length_eraseIdx_le _ _)) h.2.1.1) fun y hy=>h.2.1.2 y (List.mem_of_mem_eraseIdx hy)
theorem Cu:kO DN:=⟨⟨by unfold Small;decide,fun x hx=>by simp [DN] at hx⟩,by unfold Small;decide,fun x hx=>by simp [DN] at hx⟩
theorem sB {r:fX} {f:fX × Int} (h:bN r=true→f.2=0→kO f.1):kO (eC r f).1:=by
 unfold eC
 split
 ·split
  ·next h1 h2=>exact h h1 h2
  ·exact Cu
 ·exact Cu
theorem L8 {r:fX} {name:ByteArray} (h:kO r) (hs:Small name.size):kO (eC r (lR name r)).1:=sB fun hr hz=>by
 have hp:=cQ.1 hr;unfold lR at hz ⊢
 split at hz
 ·split at hz
  ·exact absurd hz (by simp)
  ·split at hz
   ·exact absurd hz (by simp)
   ·rename_i h1 h2 h3
    rw [if_pos h1,if_neg h2,if_neg h3];refine ⟨⟨?_,fun x hx=>?_⟩,h.2⟩
    ·show Small ((bQ _ _ _).length*16)
     rw [eI _ _ _ (fD _ _ _)];unfold Small;omega
    ·rcases cj.1 hx with e | e
     ·rw [e];exact hs
     ·exact h.1.2 x e
 ·exact absurd hz (by simp)
theorem Jm {r:fX} {name:ByteArray} (h:kO r):kO (eC r (fO name r)).1:=sB fun hr hz=>by
 unfold fO at hz ⊢
 split at hz
 ·split at hz
  ·exact absurd hz (by simp)
  ·rename_i h1 h2
   rw [if_pos h1,if_neg h2];exact ⟨⟨Nat.le_trans (Nat.mul_le_mul_right _ (List.length_eraseIdx_le _ _)) h.1.1,fun x hx=>h.1.2 x (List.mem_of_mem_eraseIdx hx)⟩,h.2⟩
 ·exact absurd hz (by simp)
theorem Jn {r:fX} {x:em} (h:kO r) (h1:Small x.role.size) (h2:Small x.of.size):kO (eC r (iD x r)).1:=sB fun hr hz=>by
 have hp:=cQ.1 hr;unfold iD at hz ⊢
 split at hz
 ·split at hz
  ·exact absurd hz (by simp)
  ·split at hz
   ·exact absurd hz (by simp)
   ·rename_i AZ h2' KM
    rw [if_pos AZ,if_neg h2',if_neg KM];refine ⟨h.1,?_,fun y hy=>?_⟩
    ·show Small ((bQ _ _ _).length*16)
     rw [eI _ _ _ (fD _ _ _)];unfold Small;omega
    ·rcases cj.1 hy with e | e
     ·rw [e];exact ⟨h1,h2⟩
     ·exact h.2.2 y e
 ·exact absurd hz (by simp)
theorem FL {r:fX} {x:em} (h:kO r):kO (eC r (gD x r)).1:=sB fun hr hz=>by
 unfold gD at hz ⊢
 split at hz
 ·rename_i h1
  rw [if_pos h1];exact ⟨h.1,Nat.le_trans (Nat.mul_le_mul_right _ (List.length_eraseIdx_le _ _)) h.2.1,fun x hx=>h.2.2 x (List.mem_of_mem_eraseIdx hx)⟩
 ·exact absurd hz (by simp)
theorem L9:xK lH:=⟨⟨⟨by unfold Small;decide,fun x hx=>by simp [lH] at hx⟩,by unfold Small;decide,fun x hx=>by simp [lH] at hx⟩,⟨⟨by unfold Small;decide,fun x hx=>by simp [lH] at hx⟩,by unfold Small;decide,fun x hx=>by simp [lH] at hx⟩,by unfold Small;decide,fun x hx=>by simp [lH] at hx⟩
theorem xt (l:List cB) (g:cB):(laid l g).length≤l.length+1:=by
 cases h:mv l g
 ·rw [j9 h,eI _ _ _ (fD _ _ _)];omega
 ·rw [kf h];simp
theorem Jo {l:List cB} {g:cB} (h:∀ x∈l,oL x) (hg:oL g):∀ x∈laid l g,oL x:=fun x hx=>by
 cases hi:mv l g
 ·rw [j9 hi] at hx
  rcases cj.1 hx with e | e
  ·subst e;exact hg
  ·exact h x e
 ·rw [kf hi] at hx
  obtain ⟨y,hy,rfl⟩:=List.mem_map.1 hx;unfold lI
  split
  ·exact h y hy
  ·exact h y hy
theorem FM {c:bW} {g:cB} (h:(dX c g).2≠0):(dX c g).1=lH:=by
 unfold dX at h ⊢
 split
 ·rfl
 ·next h1 =>
  rw [if_neg h1] at h
  split
  ·rfl
  ·next h2 =>
   rw [if_neg h2] at h
   split
   ·rfl
   ·next h3 =>
    rw [if_neg h3] at h
    split
    ·rfl
    ·next h4 =>
     rw [if_neg h4] at h
     split
     ·rfl
     ·next h5=>rw [if_neg h5] at h;exact absurd rfl h
theorem FN {c:bW} {g:cB} (h:xK c) (hg:oL g):xK (dX c g).1:=by
 by_cases he:(dX c g).2=0
 ·have k:=sr he
  rw [k.is];have Vz:=(bO.1 (cZ.1 k.whole).1).1;exact ⟨h.1,h.2.1,by have:=xt c.af g;unfold Small;show (laid c.af g).length*16≤_;omega,Jo h.2.2.2 hg⟩
 ·rw [FM he];exact L9
structure PK (x:eW):Prop where
 ak:Small (x.ak.length*16)∧∀ c∈x.ak,Small c.name.size
 names:Small (x.rule.ak.length*16)∧∀ c∈x.rule.ak,Small c.size
 s1:Small x.aJ.size
 s2:Small x.aa.size
 s3:Small x.table.size
 s4:Small x.name.size
 s5:Small x.role.size
 t1:Small x.rule.name.size
 t2:Small x.rule.aa.size
 t3:Small x.rule.table.size
 t4:Small x.rule.key.size
 r:(Lit.int .i64 x.right).wf=true
theorem kM.sm {w:World} {x:eW} {A6:Option Addr} {c6:Nat} {A9:Option Addr} {c9:Nat} (h:kM w x A6 c6 A9 c9):PK x:=⟨DU h.ak,gT h.names,h.s1,h.s2,h.s3,h.s4,h.s5,h.t1,h.t2,h.t3,h.t4,h.r⟩
theorem Ma {x:eW} (s:PK x):Pm x.rule:=⟨s.names.1,s.names.2,s.t1,s.t2,s.t3,s.t4⟩
theorem Jp {c:bW} {x:eW} (h:kA c.ai) (s:PK x) (h5:x.kind=5→0 < x.ak.length):kA (dt c x).1:=by
 unfold dt
 split
 ·exact lK (zN h s.s2 s.s1)
 split
 ·exact lK (xn h)
 split
 ·exact zO h ⟨s.ak,⟨by show Small (0*16);unfold Small;decide,fun r hr=>by simp at hr⟩,s.s2,s.s3,s.s1⟩
 split
 ·exact lK (xo h)
 split
 ·rename_i k5
  refine lK (lx h fun t ht hz=>FJ (h.2.2 t ht) ?_ hz);have h1:=h5 k5;unfold dP
  cases hc:x.ak with
  | nil=>rw [hc] at h1;simp at h1
  | cons a l=>exact s.ak.2 a (by rw [hc];simp)
 split
 ·exact lK (lx h fun t ht hz=>Ct (h.2.2 t ht))
 split
 ·exact lK (lx h fun t ht hz=>zQ (h.2.2 t ht) (Ma s) hz)
 split
 ·exact lK (lx h fun t ht hz=>xr (h.2.2 t ht))
 split
 ·exact zP h s.s5
 ·exact dD
theorem Jq {c:bW} {x:eW} (h:kO c.aj) (s:PK x):kO (gC c x).1:=by
 unfold gC
 split
 ·exact L8 h s.s5
 split
 ·split
  ·exact Cu
  ·exact Jm h
 split
 ·exact Jn h s.s5 s.s4
 ·exact FL h
theorem xu {l:List cB} (p:cB→Bool) (h:Small (l.length*16)∧∀ g∈l,oL g):Small ((l.filter p).length*16)∧∀ g∈l.filter p,oL g :=
 ⟨by have:=h.1;have:=List.length_filter_le p l;unfold Small at *;omega,fun g hg=>h.2 g ((List.mem_filter.1 hg).1)⟩
theorem D6 {c:bW} {x:eW} (h:xK c) (s:PK x) (h5:x.kind=5→0 < x.ak.length):xK (bZ c x).1:=by
 by_cases k9:x.kind≤9
 ·rw [kj k9]
  refine ⟨Jp h.1 s h5,h.2.1,?_⟩
  show Small ((if x.kind=4 then ml c.af x.aa x.table else c.af).length*16)∧∀ g∈(if x.kind=4 then ml c.af x.aa x.table else c.af),oL g
  split
  ·exact xu _ h.2.2
  ·exact h.2.2
 by_cases LI:x.kind≤13
 ·rw [pX (by omega) LI];exact ⟨h.1,Jq h.2.1 s,h.2.2⟩
 by_cases O7:x.kind=14
 ·rw [nK O7];exact FN h ⟨s.s2,s.s3,s.s1,s.s5,s.r⟩
 ·rw [tM (by omega)];exact ⟨h.1,h.2.1,xu _ h.2.2⟩
theorem FO {c:bW} {x:eW} (h:xK c) (s:PK x) (h5:x.kind=5→0 < x.ak.length):xK { (bZ c x).1 with af:=cH (bZ c x).1 }:=by
 have h1:=D6 h s h5;refine ⟨h1.1,h1.2.1,?_⟩
 show Small ((cH (bZ c x).1).length*16)∧∀ g∈cH (bZ c x).1,oL g
 unfold cH
 split
 ·exact xu _ h1.2.2
 ·exact ⟨by unfold Small;decide,fun g hg=>by simp at hg⟩
structure qh (w wr:World) (t:cu) (hc hr:Hd) (L0 L:List b7) (k:Nat):Prop where
 az:ag w wr
 box:ap wr w.heap.size [.string t.aa,.string t.name,.string t.owner,.slice hc.a t.ak.length hc.c,.slice hr.a t.rules.length hr.c]
 qp:wr.ownsRow (w.heap.size+1) 98 3 hc.v t.ak.length (t.ak.flatMap qM)
 nw:wr.ownsRow (w.heap.size+1) 37 8 hr.v t.rules.length ((L++L0.drop k).flatMap b7.cells)
 len:L.length=k
 is:L.map (·.r)=t.rules.take k
 each:∀ x∈L,kJ wr (w.heap.size+1) x
 nd:(hc.blk++(hr.blk++L.flatMap (·.h.blk))).Nodup
theorem qh.lt {w wr:World} {t:cu} {hc hr:Hd} {L0 L:List b7} {k:Nat} (s:qh w wr t hc hr L0 L k):∀ g∈hc.blk++(hr.blk++L.flatMap (·.h.blk)),w.heap.size+1≤g∧g < wr.heap.size:=by
 intro g hg;simp only [List.mem_append,List.mem_flatMap] at hg
 rcases hg with hg | hg | ⟨r,hr,hg⟩
 ·exact fV s.qp g hg
 ·exact fV s.nw g hg
 ·exact fV (s.each r hr).fK g hg
theorem qh.step {w wr w4:World} {t:cu} {hc hr h4:Hd} {L0 L:List b7} {k gr:Nat} (s:qh w wr t hc hr L0 L k) (h0:L0.map (·.r)=t.rules) (hk:k < t.rules.length) (hgr:hr.a=some ⟨gr,0,none⟩)
  (a4:ag wr w4) (pA:w4.ownsRow wr.heap.size 9 1 h4.v t.rules[k].ak.length (t.rules[k].ak.flatMap bY)):qh w (w4.setCell ⟨gr,k*8+2,none⟩ h4.v) t hc hr L0 (L++[⟨t.rules[k],h4⟩]) (k+1):=by
 have Kg:L0.length=t.rules.length:=by rw [← h0];simp
 have hgb:gr∈hr.blk:=by rw [Hd.au];unfold Hd.v;rw [hgr];rfl
 have hlt:=s.lt;have hg:=hlt gr (by simp [hgb]);have kb:=Kb.set w4 gr (k*8+2) h4.v;have ka:Kb (fun x=>x=gr) wr (w4.setCell ⟨gr,k*8+2,none⟩ h4.v):=(Kb.aH a4).trans kb;have xJ:=s.nd;have hbz:=s.box.1
 have XB:∀ g∈hc.blk,¬ g=gr:=fun g ot e=>by
  subst e;exact (List.nodup_append.1 xJ).2.2 g ot g (by simp [hgb]) rfl
 have xO:∀ x∈L,∀ g∈x.h.blk,¬ g=gr:=fun x hx g ot e=>by
  subst e;exact (List.nodup_append.1 (List.nodup_append.1 xJ).2.1).2.2 g hgb g (by simp only [List.mem_flatMap];exact ⟨x,hx,ot⟩) rfl
 refine ⟨ka.aZ s.az (fun x hx e=>by omega),ka.row s.box (by omega),aP s.qp ka fun g hgo=>XB g (Hd.au.2 hgo),?_,by simp [s.len],?_,?_,?_⟩
 ·have h1:=fB (bu s.nw a4) (Hd.au.1 hgb) (k*8+2) h4.v
  have uh:k < (L++L0.drop k).length:=by simp [s.len];omega
  have xv:(L++L0.drop k)[k]=L0[k]'(by omega):=by
   rw [List.getElem_append_right (by rw [s.len];exact Nat.le_refl _)];simp [s.len]
  have uj:(L0[k]'(by omega)).r=t.rules[k]:=by
   have:(L0.map (·.r))[k]'(by simpa using (by omega:k < L0.length))=t.rules[k]:=by simp only [h0]
   simpa using this
  rw [dm (size:=8) (fun _=>rfl) (L++L0.drop k) k 2 uh (by decide) h4.v ⟨t.rules[k],h4⟩ (by rw [xv];unfold b7.cells xd;rw [uj];rfl)] at h1
  have uC:(L++L0.drop k).set k ⟨t.rules[k],h4⟩=(L++[⟨t.rules[k],h4⟩])++L0.drop (k+1):=by
   have hd:L0.drop k=L0[k]'(by omega)::L0.drop (k+1):=List.drop_eq_getElem_cons (by omega:k < L0.length);rw [List.set_append_right _ _ (by rw [s.len];exact Nat.le_refl _),s.len,Nat.sub_self,hd];simp only [List.set_cons_zero,List.append_assoc,List.cons_append,List.nil_append]
  rw [uC] at h1;exact h1
 ·rw [List.map_append,s.is,List.take_succ_eq_append_getElem hk];rfl
 ·intro x hx
  simp only [List.mem_append,List.mem_singleton] at hx
  rcases hx with hx | rfl
  ·exact (s.each x hx).kb ka fun g hgo=>xO x hx g hgo
  ·exact ⟨bV (aP pA kb fun g hgo e=>by have:=(pA.lt g hgo).1;omega) (by omega)⟩
 ·have e:hc.blk++(hr.blk++(L++[b7.mk t.rules[k] h4]).flatMap (·.h.blk))=(hc.blk++(hr.blk++L.flatMap (·.h.blk)))++h4.blk:=by simp [List.append_assoc]
  rw [e];exact gy xJ (cX h4) (fun g hg=>(hlt g hg).2) (fun g hg=>(fV pA g hg).1)
theorem qh.done {w wr:World} {t:cu} {hc hr:Hd} {L0 L:List b7} {k:Nat} (s:qh w wr t hc hr L0 L k) (h0:L0.map (·.r)=t.rules) (hk:k=t.rules.length) :
  (ay.mk t.aa t.name t.owner t.ak L hc hr).t=t∧dW wr w.heap.size ⟨t.aa,t.name,t.owner,t.ak,L,hc,hr⟩∧(ay.mk t.aa t.name t.owner t.ak L hc hr).bI.Nodup:=by
 subst hk;have x8:=s.is;rw [List.take_of_length_le (Nat.le_refl _)] at x8
 have Jr:L0.length=t.rules.length:=by rw [← h0];simp
 have Js:=s.nw;rw [List.drop_of_length_le (by omega),List.append_nil] at Js;have Jt:L.length=t.rules.length:=s.len;refine ⟨by unfold ay.t;rw [x8],?_,s.nd⟩;exact dW.down (w:=wr) (B:=w.heap.size+1) ⟨s.qp,by show wr.ownsRow _ _ 8 _ L.length _;rw [Jt];exact Js,s.each⟩ (by omega)
structure Ju (w wr:World) (c:bW) (v4 v5 v6:Value) (hs ht:Hd) (L:List ay) (k:Nat):Prop where
 az:ag w wr
 box:ap wr w.heap.size [.int .i64 c.aA,.int .i64 c.version,.slice hs.a c.ai.ae.length hs.c,.slice ht.a k ht.c,v4,v5,v6]
 out:ap wr (w.heap.size+1) [.int .i64 0,.int .i64 0,.slice none 0 0,.slice none 0 0,.slice none 0 0,.slice none 0 0,.slice none 0 0]
 obj:bC wr (w.heap.size+2) hs ht c.ai.ae L
 is:L.map ay.t=c.ai.tables.take k
 len:L.length=k
theorem Ju.step {w wr w4 w5:World} {c:bW} {v4 v5 v6:Value} {hs ht ju:Hd} {L:List ay} {x:ay} {k:Nat} (s:Ju w wr c v4 v5 v6 hs ht L k) (hk:k < c.ai.tables.length) (AD:x.t=c.ai.tables[k]) (a4:ag wr w4) (hx:dW w4 wr.heap.size x) (nx:x.bI.Nodup)
  (hg:w4.grownBy w5 ht.v.ownBlock) (ho:w5.ownsRow (w.heap.size+2) 53 5 ju.v (k+1) (L.flatMap ay.cells++x.cells)) (hb:∀ g∈ju.blk,g∈ht.blk∨w4.heap.size≤g) (hn:∀ g∈ju.blk,g∉x.bI) :
  Ju w (w5.setCell ⟨w.heap.size,3,none⟩ (.slice ju.a (k+1) ju.c)) c v4 v5 v6 hs ju (L++[x]) (k+1):=by
 have hz:=a4.size;have VW:=hg.size;have hb3:=s.out.1
 have hzz:w.heap.size+2≤wr.heap.size:=by omega
 have ob:=s.obj.push a4 hx nx hzz hg (by rw [s.len];exact ho) hb hn;have obl:=ob.lt;have k5:Kb (fun g=>g=w.heap.size) w5 (w5.setCell ⟨w.heap.size,3,none⟩ (.slice ju.a (k+1) ju.c)):=Kb.set _ _ _ _;have kg:Kb (fun g=>ht.v.ownBlock=some g) w4 w5:=Kb.ey hg
 have Ew:∀ g,ht.v.ownBlock=some g→w.heap.size+2≤g:=fun g h1=>(s.obj.tab.lt g h1).1
 refine ⟨k5.aZ (kg.aZ (s.az.trans a4) (fun g nR h1=>by have:=Ew g h1;omega)) (fun g nR e=>by omega),?_,k5.row (kg.row (s.out.az a4) (fun h1=>by have:=Ew _ h1;omega)) (by omega),ob.kb k5 (fun g Di e=>by have:=(obl g Di).1;have e:g=w.heap.size:=e;omega),?_,by simp [s.len]⟩
 ·have:=(kg.row (s.box.az a4) (fun h1=>by have:=Ew _ h1;omega)).set 3 (.slice ju.a (k+1) ju.c) (by simp)
  exact this
 ·rw [List.map_append,s.is,List.take_succ_eq_append_getElem hk,← AD];rfl
theorem T2 (c:bW) (As:Option Addr) (ar:Nat) (At:Option Addr) (ax:Nat) (An:Option Addr) (aI:Nat) (Am:Option Addr) (aK:Nat) (Ag:Option Addr) (aS:Nat) (w:World) (H:eH w c As ar At ax An aI Am aK Ag aS) (gA:bF c.ai=true) (WT:c.aj.names.length≤1000000) (O2:c.aj.members.length≤1000000) (BO:c.af.length≤1000000) :
  Calls Tryz.prog 23 #[.agg #[.int .i64 c.aA,.int .i64 c.version,.slice As c.ai.ae.length ar,.slice At c.ai.tables.length ax,.slice An c.aj.names.length aI,.slice Am c.aj.members.length aK,.slice Ag c.af.length aS]] w (Nq c w):=by
 have l1:w.heap.size < w.heap.size+1:=by omega
 have l2:w.heap.size < w.heap.size+1+1:=by omega
 obtain ⟨W,hW⟩:∃ W,W=(w.alloc (.cells #[.int .i64 c.aA,.int .i64 c.version,.slice As c.ai.ae.length ar,.slice At c.ai.tables.length ax,.slice An c.aj.names.length aI,.slice Am c.aj.members.length aK,.slice Ag c.af.length aS] 32)).alloc (.cells #[.int .i64 0,.int .i64 0,.slice none 0 0,.slice none 0 0,.slice none 0 0,.slice none 0 0,.slice none 0 0] 32):=⟨_,rfl⟩
 have aW:ag w W:=by rw [hW];exact ((ag.refl w).alloc _).alloc _
 have r0:ap W (w.heap.size) [.int .i64 c.aA,.int .i64 c.version,.slice As c.ai.ae.length ar,.slice At c.ai.tables.length ax,.slice An c.aj.names.length aI,.slice Am c.aj.members.length aK,.slice Ag c.af.length aS]:=by rw [hW];exact ap.up (bv (ag.refl _) (by simp))
 have r1:ap W (w.heap.size+1) [.int .i64 0,.int .i64 0,.slice none 0 0,.slice none 0 0,.slice none 0 0,.slice none 0 0,.slice none 0 0]:=by rw [hW];exact bv (ag.refl _) (by simp)
 have zW:W.heap.size=w.heap.size+2:=by rw [hW];simp
 have HR:=gH (And.intro r0 r1);have br:=gH aW;have lc:=gH zW;have HH:=gH H;have hlt:=H.tab.len;have mV:=jM gA;have C1:=gH (fun w' (a:ag W w')=>qx As ar c.ai.ae w' w' (ag.refl _) (bm (aW.trans a) H.gQ) mV.1);have HM:=gH mV;have x2:=r0.cell (j:=2) rfl;have x3:=r0.cell (j:=3) rfl;have f2:=r0.2.2 2 (by simp);have f3:=r0.2.2 3 (by simp);have xz:=r0.1;clear H r0 r1 aW mV gA
 go_enter Tryz.func23,Tryz.ntmps23
 go_wp2_with fail;rw [← hW];go_wp2_with fail;clear hW x2 x3 xz f2 f3;refine (C1.out _ (ag.refl _)).mono ?_;rintro e w1 ⟨v1,N9,rfl,a1,fo,GK⟩;obtain ⟨Bs,ip,rfl⟩:=dw fo;rw [qy GK] at fo;have p0:=HR.out.1.az a1;have p1:=HR.out.2.az a1;have xz:=p0.1;have x2:=p0.cell (j:=2) rfl;have x3:=p0.cell (j:=3) rfl;have f2:=p0.2.2 2 (by simp);have f3:=p0.2.2 3 (by simp);obtain ⟨X,hX⟩:∃ V,V=(w1.setCell ⟨w.heap.size,2,none⟩ (.slice Bs c.ai.ae.length ip)).setCell ⟨w.heap.size,3,none⟩ (.slice none 0 0):=⟨_,rfl⟩
 have kX:Kb (fun g=>g=w.heap.size) w1 X:=by rw [hX];exact (Kb.set _ _ _ _).trans (Kb.set _ _ _ _)
 have zX:X.heap.size=w1.heap.size:=by rw [hX];simp
 have Zy:=a1.size
 have LOOP:=gH (show Ju w X c (.slice An c.aj.names.length aI) (.slice Am c.aj.members.length aK) (.slice Ag c.af.length aS) ⟨Bs,c.ai.ae.length,ip⟩ ⟨none,0,0⟩ [] 0 from by
  have Rj:=lc.out;have o1:X.ownsRow (w.heap.size+2) 61 2 (Hd.mk Bs c.ai.ae.length ip).v c.ai.ae.length (c.ai.ae.flatMap iJ):=bV (aP fo kX (fun g hg e=>by have:=(fo.lt g hg).1;have e:g=w.heap.size:=e;omega)) (by omega);refine ⟨kX.aZ (br.out.trans a1) (fun g hg e=>by have e:g=w.heap.size:=e;omega),?_,kX.row p1 (by omega),⟨o1,dl _ _ _ _,fun x hx=>by simp at hx,by simpa [i6] using cX _⟩,rfl,rfl⟩
  rw [hX];exact (p0.set 2 _ (by simp)).set 3 _ (by simp))
 have Vq:=gH (show W.heap.size≤X.heap.size by rw [zX];exact Zy);clear a1 fo GK p0 p1 kX zX C1 Zy;go_wp2_with fail;rw [← hX];clear hX x2 x3 f2 f3 xz
 go_loopw [18] (fun i wr=>∃ (k:Nat) (ht:Hd) (L:List ay),k≤c.ai.tables.length∧i=.int .i64 k∧Ju w wr c (.slice An c.aj.names.length aI) (.slice Am c.aj.members.length aK) (.slice Ag c.af.length aS) ⟨Bs,c.ai.ae.length,ip⟩ ht L k) (fun i _=>c.ai.tables.length - (intOf i).toNat)
 case atStart=>exact ⟨0,_,[],Nat.zero_le _,rfl,LOOP.out⟩
 case round =>
  clear LOOP;obtain ⟨wo,rfl⟩:∃ v,v=wr:=⟨_,rfl⟩;obtain ⟨k,ht,L,hk,rfl,hs⟩:=hrel;have HS:=gH hs;by_cases jF:k < c.ai.tables.length
  ·obtain ⟨b,off,A2,bT,A3,fA,rfl,hb,t0,t1,t2,t3,t4,eA,mf,ur⟩:=jt (aQ hs.az HH.out.tab) jF
   obtain ⟨p,nZ⟩:∃ p,c.ai.tables[k]=p:=⟨_,rfl⟩;rw [nZ] at t0 t1 t2 t3 t4 eA mf ur;have Gk:=gH nZ;have VE:T3 p:=HM.out.2.2 p (by rw [← nZ];exact List.getElem_mem jF);have Zz:=gH VE;have D1:=gH (fun w' (a:ag wo w')=>vL A2 bT p.ak w' w' (ag.refl _) (cy a eA) VE.1);have D2:=gH (fun w' (a:ag wo w')=>vK A3 fA p.rules wo w' a mf VE.2.1)
   have qY:w.heap.size+2≤wo.heap.size:=by have:=hs.out.1;have:=hs.az.size;have:=lc.out;have:=Vq.out;omega
   clear hs nZ eA mf VE;obtain ⟨V,hV⟩:∃ V,V=wo.alloc (.cells #[.string p.aa,.string p.name,.string p.owner,.slice A2 p.ak.length bT,.slice A3 p.rules.length fA] 53):=⟨_,rfl⟩
   have aV:ag wo V:=by rw [hV];exact (ag.refl _).alloc _
   have zV:V.heap.size=wo.heap.size+1:=by rw [hV];simp
   have rV:ap V wo.heap.size [.string p.aa,.string p.name,.string p.owner,.slice A2 p.ak.length bT,.slice A3 p.rules.length fA]:=by rw [hV];exact aO (ag.refl _)
   have RV:=gH rV;have lC:=gH aV;have Kh:=gH zV;have q3:=rV.cell (j:=3) rfl;have q4:=rV.cell (j:=4) rfl;have g3:=rV.2.2 3 (by simp);have g4:=rV.2.2 4 (by simp);have qz:=rV.1;have KF:=gH (show ∀ w',ag V w'→(w'.cell? ⟨wo.heap.size,3,none⟩=some (.slice A2 p.ak.length bT)∧w'.cell? ⟨wo.heap.size,4,none⟩=some (.slice A3 p.rules.length fA)∧w'.frozen? ⟨wo.heap.size,3,none⟩=false∧w'.frozen? ⟨wo.heap.size,4,none⟩=false∧wo.heap.size < w'.heap.size) from fun w' a=>⟨a.cell_kept q3,a.cell_kept q4,(RV.out.az a).2.2 3 (by simp),(RV.out.az a).2.2 4 (by simp),(RV.out.az a).1⟩);clear rV aV zV;go_wp2_with fail;rw [← hV];clear hV
   go_region_law (first
    | (go_simp;go_at_call 50;(first | refine (D1.out _ (lC.out.trans (ag.refl V).drew)).mono ?_ | refine (D1.out _ lC.out).mono ?_);rintro e w4 ⟨v4,LD,rfl,a4,o4,h4⟩;have b4:ag V w4:=(by first | exact (ag.refl V).drew.trans a4 | exact a4);obtain ⟨k4,k5,k6,k7,k8⟩:=KF.out w4 b4;rw [vM h4] at o4;clear h4;obtain ⟨A4,c4,hv4⟩:=dw o4;subst hv4)
    | (go_simp;go_at_call 51;refine (D2.out _ (lC.out.trans b4)).mono ?_;rintro e w5 ⟨v5,O3,rfl,a5,o5,h5⟩;have b5:ag V w5:=b4.trans a5;obtain ⟨Tk,Tl,Tm,Tn,Tp⟩:=KF.out w5 b5;obtain ⟨A5,c5,O4⟩:=dw o5;subst O4))
   all_goals
    obtain ⟨L0,Kg,Jv,Cv⟩:=vN h5;rw [Jv,← List.flatMap_def] at o5;obtain ⟨Z,hZ⟩:∃ Z,Z=(w5.setCell ⟨wo.heap.size,3,none⟩ (.slice A4 p.ak.length c4)).setCell ⟨wo.heap.size,4,none⟩ (.slice A5 p.rules.length c5):=⟨_,rfl⟩
    have kZ:Kb (fun g=>g=wo.heap.size) w5 Z:=by rw [hZ];exact (Kb.set _ _ _ _).trans (Kb.set _ _ _ _)
    have rZ:ap Z wo.heap.size [.string p.aa,.string p.name,.string p.owner,.slice A4 p.ak.length c4,.slice A5 p.rules.length c5]:=by rw [hZ];exact ((RV.out.az b5).set 3 _ (by simp)).set 4 _ (by simp)
    have NA:=Kh.out;have s4:=b4.size;have s5:=a5.size
    have l4:∀ g,(Hd.mk A4 p.ak.length c4).v.ownBlock=some g→wo.heap.size+1≤g∧g < w4.heap.size:=fun g hg=>by have:=o4.lt g hg;(try simp at this);omega
    have l5:∀ g,(Hd.mk A5 p.rules.length c5).v.ownBlock=some g→w4.heap.size≤g∧g < w5.heap.size:=fun g hg=>by have:=o5.lt g hg;(try simp at this);omega
    have Ku:=gH (show qh wo Z p ⟨A4,p.ak.length,c4⟩ ⟨A5,p.rules.length,c5⟩ L0 [] 0 from by
     refine ⟨kZ.aZ (lC.out.trans b5) (fun g hg e=>by have e:g=wo.heap.size:=e;omega),rZ,iF (aP (bu o4 a5) kZ (fun g hg e=>by have:=(l4 g hg).1;have e:g=wo.heap.size:=e;omega)) (fun g hg=>(l4 g hg).1),iF (aP o5 kZ (fun g hg e=>by have:=(l5 g hg).1;have e:g=wo.heap.size:=e;omega)) (fun g hg=>by have:=(l5 g hg).1;omega),rfl,rfl,fun x hx=>by simp at hx,?_⟩;simp only [List.flatMap_nil,List.append_nil]
     exact gy (cX _) (cX _) (fun g hg=>(l4 g (Hd.au.1 hg)).2) (fun g hg=>(l5 g (Hd.au.1 hg)).1))
    have ID:=gH Kg;have IC:=gH (show ∀ x∈L0,∀ w',ag wo w'→x.h.n=x.r.ak.length∧aL w' 1 dK x.h.a x.h.c x.r.ak from fun x hx w' a=>⟨(Cv x hx).1,aM a (Cv x hx).2⟩);have y4:=rZ.cell (j:=4) rfl;have yz:=rZ.1;rw [hZ] at y4 yz;clear o4 o5 h5 Jv Kg Cv kZ rZ s4 s5 l4 l5 NA q3 q4 g3 g4 qz k4 k5 k6 k7 k8 a4 b4 a5 b5
    (try clear t0 t1 t2 t3 t4 ur)
    go_wp2_with fail;rw [← hZ];clear hZ y4 yz Tk Tl Tm Tn Tp;have aal:p.rules.length≤1000000:=Zz.out.2.1
    go_loopw [33] (fun i wr=>∃ (m:Nat) (M:List b7),m≤p.rules.length∧i=.int .i64 m∧qh wo wr p ⟨A4,p.ak.length,c4⟩ ⟨A5,p.rules.length,c5⟩ L0 M m) (fun i _=>p.rules.length - (intOf i).toNat)
    case atStart=>exact ⟨0,[],Nat.zero_le _,rfl,Ku.out⟩
    case round =>
     clear Ku;obtain ⟨m,M,hm,rfl,hq⟩:=hrel;have b4:=hq.box.cell (j:=4) rfl;have bz:=hq.box.1;have HQ:=gH hq;by_cases Jw:m < p.rules.length
     ·have Jr:L0.length=p.rules.length:=by rw [← ID.out];simp
      obtain ⟨gr,T4,XC,rg⟩:=jN hq.nw (by omega);have PL:A5=some ⟨gr,0,none⟩:=T4;subst PL
      have uh:m < L0.length:=by omega
      have xv:(M++L0.drop m)[m]'(by simp [hq.len];omega)=L0[m]:=by
       rw [List.getElem_append_right (by rw [hq.len];exact Nat.le_refl _)];simp [hq.len]
      have uj:L0[m].r=p.rules[m]:=by
       have:(L0.map (·.r))[m]'(by simpa using uh)=p.rules[m]:=by simp only [ID.out]
       simpa using this
      obtain ⟨hn,hD⟩:=IC.out L0[m] (List.getElem_mem uh) wr hq.az;obtain ⟨r,jz⟩:∃ r,p.rules[m]=r:=⟨_,rfl⟩
      have x2:wr.cell? ⟨gr,m*8+2,none⟩=some (.slice L0[m].h.a r.ak.length L0[m].h.c):=by
       refine rg.cell ?_;rw [jd b7.cells 8 (fun _=>rfl) _ m 2 (by simp [hq.len];omega) (by decide),xv];unfold b7.cells xd Hd.v;rw [hn,uj,jz];rfl
      rw [uj,jz] at hD;obtain ⟨E2,ZA⟩:∃ D,L0[m].h.a=D:=⟨_,rfl⟩;obtain ⟨e2,LX⟩:∃ c,L0[m].h.c=c:=⟨_,rfl⟩;rw [ZA,LX] at x2 hD;have Kp:=gH jz;have f2:=rg.2.2 (m*8+2) (by rw [ce (size:=8) (fun _=>rfl)];simp [hq.len];omega);have gz:=rg.1;have XD:r.ak.length≤1000000:=Zz.out.2.2 r (by rw [← jz];exact List.getElem_mem Jw);have hpl:=hD.len;have C3:=gH (show ∀ w',ag wr w'→_ from fun w' a=>iq E2 e2 r.ak wr w' a hD XD)
      have Az:gr≠wo.heap.size:=by omega
      clear jz xv uj hn hD ZA LX hq rg T4 Jr;go_wp2_with fail
      go_region_with ((go_at_call 52;refine (C3.out _ (ag.refl _).drew).mono ?_;rintro e w6 ⟨v6,LF,rfl,a6,jk,DO⟩;have x6:=a6.cell_kept x2;have b6:=a6.cell_kept b4;have f6:=(Below.frozen a6 (p:=⟨gr,m*8+2,none⟩) gz).trans f2;obtain ⟨Dn,cn,hv6⟩:=dw jk;subst hv6))
      all_goals
       have Q6:ag wr w6:=(ag.refl _).drew.trans a6;have wn:=gH (HQ.out.step (h4:=⟨Dn,r.ak.length,cn⟩) ID.out Jw rfl Q6 (by rw [fG DO] at jk;rw [Kp.out];exact jk));rw [Kp.out] at wn;clear jk DO a6 Q6 x6 b6 f6;go_wp2_with fail
       go_roundw
       case rel=>exact ⟨m+1,_,by omega,by go_num,wn.out⟩
       case measure=>simp [intOf];omega
     ·have hmn:m=p.rules.length:=by omega
      obtain ⟨AD,rR,Dk⟩:=hq.done ID.out hmn;obtain ⟨x,hx⟩:∃ x,(ay.mk p.aa p.name p.owner p.ak M ⟨A4,p.ak.length,c4⟩ ⟨A5,p.rules.length,c5⟩)=x:=⟨_,rfl⟩
      have Tb:x.cells=[.string p.aa,.string p.name,.string p.owner,.slice A4 p.ak.length c4,.slice A5 p.rules.length c5]:=by rw [← hx];rfl
      rw [hx] at AD rR Dk;have aq:=hq.az;have y0:=hq.box.cell (j:=0) rfl;have y1:=hq.box.cell (j:=1) rfl;have y2:=hq.box.cell (j:=2) rfl;have y3:=hq.box.cell (j:=3) rfl;have z3:=(HS.out.box.az aq).cell (j:=3) rfl;have zz:=(HS.out.box.az aq).1;have HT:=gH (And.intro AD (And.intro rR Dk));have XE:=gH aq;have HXC:=gH Tb;obtain ⟨J8,nt,ct⟩:=ht;have bB:=HS.out.obj.tab;rw [HS.out.len] at bB;obtain rfl:nt=k:=gm bB;have AE:=gH (show wo.ownsRow (w.heap.size+2) 53 5 (.slice J8 nt ct) nt (L.flatMap ay.cells) from bB)
      have h1m:nt≤1000000:=by have:=HM.out.2.1;omega
      have hbz:w.heap.size+2≤wr.heap.size+1:=by have:=aq.size;omega
      have TA:=gH (fun w' (kb:Kb (fun g=>(Value.slice J8 nt ct).ownBlock=some g) wr w')=>kb.row (HS.out.box.az aq) (fun h1=>by have:=(AE.out.lt _ h1).1;omega));clear hq AD rR Dk hx Tb aq bB;simp only [] at z3
      go_wp2_with (at_builtin;(refine Lu rfl _ _ rfl (w.heap.size+2) (.slice J8 nt ct) nt (L.flatMap ay.cells) rfl (bu AE.out (XE.out.alloc _)) wr.heap.size x p.aa p.name p.owner A4 p.ak.length c4 A5 p.rules.length c5 HXC.out rfl (heap_alloc_new wr _) h1m (by simp;omega) ?_);intro gg cap' w7 NK hgrow hat;have r7:=TA.out w7 ((Kb.aH ((ag.refl wr).alloc _)).trans (Kb.ey hgrow));have m3:=r7.cell (j:=3) rfl;have n3:=r7.2.2 3 (by simp);have mz:=r7.1;have wn:=gH (HS.out.step (ju:=⟨some ⟨gg,0,none⟩,nt+1,cap'⟩) (x:=x) jF (by rw [HT.out.1,Gk.out]) (XE.out.alloc _) (HT.out.2.1.az ((ag.refl _).alloc _)) HT.out.2.2 hgrow NK
       (fun g hg=>by
        rw [cM,List.mem_singleton] at hg;subst hg
        rcases hat with h1 | h1
        ·exact .inl (Hd.au.2 h1)
        ·refine .inr ?_
         omega)
       (fun g hg hx=>by
        rw [cM,List.mem_singleton] at hg;subst hg;have h2:=HT.out.2.1.lt _ hx;have h3:=XE.out.size
        rcases hat with h1 | h1
        ·have:=(AE.out.lt _ h1).2
         omega
        ·simp at h1
         omega))
                                                            ;clear r7 NK hgrow hat)
      go_roundw
      case rel=>exact ⟨nt+1,_,_,by omega,by go_num,wn.out⟩
      case measure=>simp [intOf];omega
  ·have Gl:k=c.ai.tables.length:=by omega
   subst Gl;have p0:=hs.box;have t4:=p0.cell (j:=4) rfl;have t5:=p0.cell (j:=5) rfl;have f4:=p0.2.2 4 (by simp);have f5:=p0.2.2 5 (by simp);have tz:=p0.1;have D1:=gH (fun w' (a:ag wo w')=>iq An aI c.aj.names w' w' (ag.refl _) (aM (HS.out.az.trans a) HH.out.fK) WT);have D2:=gH (fun w' (a:ag wo w')=>nI Am aK c.aj.members w' w' (ag.refl _) (bJ (HS.out.az.trans a) HH.out.mem) O2);have KF:=gH (show ∀ w',ag wo w'→(w'.cell? ⟨w.heap.size,4,none⟩=some (.slice An c.aj.names.length aI)∧w'.cell? ⟨w.heap.size,5,none⟩=some (.slice Am c.aj.members.length aK)∧w'.frozen? ⟨w.heap.size,4,none⟩=false∧w'.frozen? ⟨w.heap.size,5,none⟩=false∧w.heap.size < w'.heap.size) from fun w' a=>⟨a.cell_kept t4,a.cell_kept t5,(p0.az a).2.2 4 (by simp),(p0.az a).2.2 5 (by simp),(p0.az a).1⟩);have hwr:=hs.out.1;clear p0 hs;go_wp2_with fail
   go_region_law (first
    | (go_simp;go_at_call 52;(first | refine (D1.out _ ((ag.refl wo).drew)).mono ?_ | refine (D1.out _ (ag.refl wo)).mono ?_);rintro e w4 ⟨v4,LD,rfl,a4,o4,h4⟩;have q4:ag wo w4:=(by first | exact (ag.refl wo).drew.trans a4 | exact a4);obtain ⟨k4,k5,k6,k7,k8⟩:=KF.out w4 q4;rw [fG h4] at o4;clear h4;obtain ⟨A4,c4,hv4⟩:=dw o4;subst hv4)
    | (go_simp;go_at_call 53;refine (D2.out _ q4).mono ?_;rintro e w5 ⟨v5,O3,rfl,a5,o5,h5⟩;have q5:ag wo w5:=q4.trans a5;obtain ⟨Tk,Tl,Tm,Tn,Tp⟩:=KF.out w5 q5;rw [nJ h5] at o5;clear h5;obtain ⟨A5,c5,O4⟩:=dw o5;subst O4))
   all_goals
    have s4:=q4.size;have s5:=a5.size;obtain ⟨Z,hZ⟩:∃ Z,Z=(w5.setCell ⟨w.heap.size,4,none⟩ (.slice A4 c.aj.names.length c4)).setCell ⟨w.heap.size,5,none⟩ (.slice A5 c.aj.members.length c5):=⟨_,rfl⟩
    have kZ:Kb (fun g=>g=w.heap.size) w5 Z:=by rw [hZ];exact (Kb.set _ _ _ _).trans (Kb.set _ _ _ _)
    have zZ:Z.heap.size=w5.heap.size:=by rw [hZ];simp
    have RZ:=gH (show ap Z (w.heap.size) [.int .i64 c.aA,.int .i64 c.version,.slice Bs c.ai.ae.length ip,.slice ht.a c.ai.tables.length ht.c,.slice A4 c.aj.names.length c4,.slice A5 c.aj.members.length c5,.slice Ag c.af.length aS] by rw [hZ];exact ((HS.out.box.az q5).set 4 _ (by simp)).set 5 _ (by simp));have Tr:=gH (kZ.row (HS.out.out.az q5) (by omega));have O5:=gH (kZ.aZ (HS.out.az.trans q5) (fun g hg e=>by have e:g=_:=e;omega));have NL:=gH (show ∀ g,(Hd.mk A4 c.aj.names.length c4).v.ownBlock=some g→wo.heap.size≤g∧g < w4.heap.size from fun g hg=>by have:=o4.lt g hg;(try simp at this);omega);have ML:=gH (show ∀ g,(Hd.mk A5 c.aj.members.length c5).v.ownBlock=some g→w4.heap.size≤g∧g < w5.heap.size from fun g hg=>by have:=o5.lt g hg;(try simp at this);omega);have ON:=gH (show Z.ownsRow wo.heap.size 9 1 (Hd.mk A4 c.aj.names.length c4).v c.aj.names.length (c.aj.names.flatMap bY) from iF (aP (bu o4 a5) kZ (fun g hg e=>by have:=(NL.out g hg).1;have e:g=_:=e;omega)) (fun g hg=>(NL.out g hg).1));have OM:=gH (show Z.ownsRow w4.heap.size 103 2 (Hd.mk A5 c.aj.members.length c5).v c.aj.members.length (c.aj.members.flatMap fP) from iF (aP o5 kZ (fun g hg e=>by have:=(ML.out g hg).1;have e:g=_:=e;omega)) (fun g hg=>(ML.out g hg).1));have KZ:=gH (show Kb (fun g=>g=w.heap.size) wo Z from (Kb.aH q5).trans kZ);have WX:=gH (show wo.heap.size≤w4.heap.size∧w4.heap.size≤w5.heap.size∧Z.heap.size=w5.heap.size∧w.heap.size+2≤wo.heap.size from ⟨s4,s5,zZ,by omega⟩)
    have CG:=gH (lS Ag aS c.af Z Z (ag.refl _) (eZ O5.out HH.out.kv) BO);have y6:=RZ.out.cell (j:=6) rfl;have yz:=RZ.out.1;rw [hZ] at y6 yz;clear q4 q5 a4 a5 o4 o5 s4 s5 kZ zZ k4 k5 k6 k7 k8 Tk Tl Tm Tn Tp t4 t5 f4 f5 tz D1 D2 KF;go_wp2_with fail;rw [← hZ];clear hZ y6 yz;refine CG.out.mono ?_;rintro e w6 ⟨v6,LF,rfl,a6,jk,DO⟩;obtain ⟨Ad,cd,rfl⟩:=dw jk;rw [fy (f:=cC) (fun _ _ h=>h.1) DO] at jk;have Gv:=gH jk;have nX:=gH a6;have p0:=RZ.out.az a6;have p1:=Tr.out.az a6;have z0:=p0.cell (j:=0) rfl;have u0:=p1.cell (j:=0) rfl;have v0:=p1.2.2 0 (by simp);have z1:=p0.cell (j:=1) rfl;have u1:=p1.cell (j:=1) rfl;have v1:=p1.2.2 1 (by simp);have z2:=p0.cell (j:=2) rfl;have u2:=p1.cell (j:=2) rfl;have v2:=p1.2.2 2 (by simp);have z3:=p0.cell (j:=3) rfl;have u3:=p1.cell (j:=3) rfl;have v3:=p1.2.2 3 (by simp);have z4:=p0.cell (j:=4) rfl;have u4:=p1.cell (j:=4) rfl;have v4:=p1.2.2 4 (by simp);have z5:=p0.cell (j:=5) rfl;have u5:=p1.cell (j:=5) rfl;have v5:=p1.2.2 5 (by simp);have z6:=p0.cell (j:=6) rfl;have u6:=p1.cell (j:=6) rfl;have v6:=p1.2.2 6 (by simp);have zf:=p0.2.2 6 (by simp);have zz:=p0.1;have vz:=p1.1;have ne:w.heap.size+1≠w.heap.size:=(by omega);clear jk a6 p0 p1 DO;go_wp2_with fail
    (try simp only [Exit.inBlock,Exit.then])
    have k3:=Kb.set w6 (w.heap.size) 6 (.slice Ad c.af.length cd);have q1:=k3.row (Tr.out.az nX.out) (by omega);have k4:=dG (w6.setCell ⟨w.heap.size,6,none⟩ (.slice Ad c.af.length cd)) (w.heap.size+1) (.int .i64 c.aA) (.int .i64 c.version) (.slice Bs c.ai.ae.length ip) (.slice ht.a c.ai.tables.length ht.c) (.slice A4 c.aj.names.length c4) (.slice A5 c.aj.members.length c5) (.slice Ad c.af.length cd);refine bodyPost_ret (dv (v:=.agg #[.int .i64 c.aA,.int .i64 c.version,.slice Bs c.ai.ae.length ip,.slice ht.a c.ai.tables.length ht.c,.slice A4 c.aj.names.length c4,.slice A5 c.aj.members.length c5,.slice Ad c.af.length cd]) rfl _ rfl (dr (cO q1 rfl _ _ _ _ _ _ _))) rfl ?_;obtain ⟨e1,e2,e3,e4⟩:=WX.out;have kC:=k3.or k4;have KB:=(Kb.aH (P:=fun _=>False) nX.out).or kC;have KA:=KZ.out.or KB
    have g6:∀ g,(Hd.mk Ad c.af.length cd).v.ownBlock=some g→Z.heap.size≤g:=fun g hg=>(Gv.out.lt g hg).1
    refine ⟨⟨Bs,c.ai.ae.length,ip⟩,ht,⟨A4,c.aj.names.length,c4⟩,⟨A5,c.aj.members.length,c5⟩,⟨Ad,c.af.length,cd⟩,L,rfl,KA.aZ HS.out.az (fun g hg e=>by rcases e with e | e | e | e<;>first | exact e | (have e:g=_:=e;omega)),?_⟩;have ZB:=HS.out.obj.lt
    have hNb:∀ g,g∈(Hd.mk A4 c.aj.names.length c4).blk∨g∈(Hd.mk A5 c.aj.members.length c5).blk→wo.heap.size≤g∧g < w5.heap.size:=fun g hg=>by
     rcases hg with h1 | h1
     ·have:=NL.out g (Hd.au.1 h1);omega
     ·have:=ML.out g (Hd.au.1 h1);omega
    refine ⟨?_,?_,⟨?_,?_,?_⟩,?_,?_,?_⟩
    ·exact (HS.out.obj.kb KA (fun g hg e=>by have:=(ZB g hg).1;rcases e with e | e | e | e<;>first | exact e | (have e:g=_:=e;omega))).down (by omega)
    ·have:=HS.out.is
     rw [List.take_of_length_le (Nat.le_refl _)] at this;exact this
    ·exact bV (aP ON.out KB (fun g hg e=>by have:=(NL.out g hg).1;rcases e with e | e | e<;>first | exact e | (have e:g=_:=e;omega))) (by omega)
    ·exact bV (aP OM.out KB (fun g hg e=>by have:=(ML.out g hg).1;rcases e with e | e | e<;>first | exact e | (have e:g=_:=e;omega))) (by omega)
    ·intro g hg gl
     have h8:=(NL.out g (Hd.au.1 hg)).2;have h9:=(ML.out g (Hd.au.1 gl)).1;omega
    ·exact bV (aP Gv.out kC (fun g hg e=>by have:=g6 g hg;rcases e with e | e<;>(have e:g=_:=e;omega))) (by omega)
    ·intro g hg
     have h1:=(ZB g hg).2;exact ⟨fun h2=>by have:=(hNb g h2).1;omega,fun h2=>by have:=g6 g (Hd.au.1 h2);omega⟩
    ·intro g hg h2
     have h1:=(hNb g hg).2;have:=g6 g (Hd.au.1 h2);omega
theorem xw {k:Int}:xN k=1↔(k=2∨k=3):=by
 unfold xN;by_cases h:k=2∨k=3
 ·rw [if_pos h];simp [h]
 ·rw [if_neg h];split
  ·simp [h]
  ·split<;>simp [h]
theorem D7 {k:Int}:xN k=2↔(4≤k∧k≤9):=by
 unfold xN;by_cases h:k=2∨k=3
 ·rw [if_pos h];constructor
  ·intro h2;omega
  ·intro h2;omega
 ·rw [if_neg h]
  by_cases h2:4≤k∧k≤9
  ·rw [if_pos h2];simp [h2]
  ·rw [if_neg h2]
   constructor
   ·intro h3;split at h3<;>omega
   ·intro h3;exact absurd h3 h2
theorem vU {k:Int}:xN k=3↔(k=14∨k=15):=by
 unfold xN;by_cases h:k=2∨k=3
 ·rw [if_pos h];constructor
  ·intro h2;omega
  ·intro h2;omega
 ·rw [if_neg h]
  by_cases h2:4≤k∧k≤9
  ·rw [if_pos h2];constructor
   ·intro h3;omega
   ·intro h3;omega
  ·rw [if_neg h2]
   by_cases h3:k=14∨k=15
   ·rw [if_pos h3];simp [h3]
   ·rw [if_neg h3];simp [h3]
theorem FQ (c:bW) (x:eW) (h:xN x.kind=1):gB c x=(BJ c.aj x.aJ dL || BJ c.aj x.aJ (oa c.ai x.aa)):=by
 unfold gB;rw [if_pos (xw.1 h)]
theorem FT (c:bW) (x:eW) (h:xN x.kind=2):gB c x=ji c x.aJ x.aa x.table:=by
 have:=D7.1 h;unfold gB;rw [if_neg (by omega),if_pos this]
theorem zR (c:bW) (x:eW) (h:xN x.kind=3):gB c x=true:=by
 have:=vU.1 h;unfold gB;rw [if_neg (by omega),if_neg (by omega),if_pos this]
theorem Cx (c:bW) (x:eW) (h1:xN x.kind≠1) (h2:xN x.kind≠2) (h3:xN x.kind≠3):gB c x=BJ c.aj x.aJ dL:=by
 unfold gB;rw [if_neg (fun h=>h1 (xw.2 h)),if_neg (fun h=>h2 (D7.2 h)),if_neg (fun h=>h3 (vU.2 h))]
theorem FU (c:bW) (As:Option Addr) (ar:Nat) (At:Option Addr) (ax:Nat) (An:Option Addr) (aI:Nat) (Am:Option Addr) (aK:Nat) (Ag:Option Addr) (aS:Nat) (x:eW) (A6:Option Addr) (n6 c6:Nat) (A9:Option Addr) (n9 c9:Nat) (w:World) (H:eH w c As ar At ax An aI Am aK Ag aS) (s1:Small x.aJ.size) (hsc:xN x.kind=1→0≤cE c.ai.ae x.aa) :
  Calls Tryz.prog 22 #[.agg #[.int .i64 c.aA,.int .i64 c.version,.slice As c.ai.ae.length ar,.slice At c.ai.tables.length ax,.slice An c.aj.names.length aI,.slice Am c.aj.members.length aK,.slice Ag c.af.length aS],.agg #[.int .i64 x.kind,.string x.aJ,.string x.aa,.string x.table,.string x.name,.string x.role,.slice A6 n6 c6,.string x.rule.name,.int .i64 x.rule.kind,.slice A9 n9 c9,.int .i64 x.rule.low,.int .i64 x.rule.high,.string x.rule.aa,.string x.rule.table,.string x.rule.key,.int .i64 x.right,.bool x.opt]] w fun e w'=>e=.returned (.bool (gB c x))∧ag w w':=by
 have hlen:=H.gQ.len
 have l1:w.heap.size < w.heap.size+1:=by omega
 have l2:w.heap.size < w.heap.size+1+1:=by omega
 have bR:=enters (P:=Tryz.prog) Tryz.func47 (by kernel_rfl) rfl;obtain ⟨W,hW⟩:∃ W,W=(w.alloc (.cells #[.int .i64 c.aA,.int .i64 c.version,.slice As c.ai.ae.length ar,.slice At c.ai.tables.length ax,.slice An c.aj.names.length aI,.slice Am c.aj.members.length aK,.slice Ag c.af.length aS] 32)).alloc (.cells #[.int .i64 x.kind,.string x.aJ,.string x.aa,.string x.table,.string x.name,.string x.role,.slice A6 n6 c6,.string x.rule.name,.int .i64 x.rule.kind,.slice A9 n9 c9,.int .i64 x.rule.low,.int .i64 x.rule.high,.string x.rule.aa,.string x.rule.table,.string x.rule.key,.int .i64 x.right,.bool x.opt] 40):=⟨_,rfl⟩
 have aW:ag w W:=by rw [hW];exact ((ag.refl w).alloc _).alloc _
 have r0:ap W (w.heap.size) [.int .i64 c.aA,.int .i64 c.version,.slice As c.ai.ae.length ar,.slice At c.ai.tables.length ax,.slice An c.aj.names.length aI,.slice Am c.aj.members.length aK,.slice Ag c.af.length aS]:=by rw [hW];exact ap.up (bv (ag.refl _) (by simp))
 have r1:ap W (w.heap.size+1) [.int .i64 x.kind,.string x.aJ,.string x.aa,.string x.table,.string x.name,.string x.role,.slice A6 n6 c6,.string x.rule.name,.int .i64 x.rule.kind,.slice A9 n9 c9,.int .i64 x.rule.low,.int .i64 x.rule.high,.string x.rule.aa,.string x.rule.table,.string x.rule.key,.int .i64 x.right,.bool x.opt]:=by rw [hW];exact bv (ag.refl _) (by simp)
 obtain ⟨b1,hb1⟩:∃ b,BJ c.aj x.aJ dL=b:=⟨_,rfl⟩;obtain ⟨k,hk⟩:∃ k,xN x.kind=k:=⟨_,rfl⟩;have C1:=gH (show Calls Tryz.prog 45 #[.agg #[.slice An c.aj.names.length aI,.slice Am c.aj.members.length aK],.string x.aJ,.string dL] W fun e w''=>e=.returned (.bool b1)∧ag W w'' from hb1▸ZC c.aj An aI Am aK x.aJ dL W (aM aW H.fK) (bJ aW H.mem) s1);have C2:=gH (show ∀ V,Calls Tryz.prog 46 #[.int .i64 x.kind] V fun e w'=>e=.returned (.int .i64 k)∧V=w' from fun V=>hk▸W7 x.kind V);have C3:=gH (show ∀ V,ag W V→∀ nm,Calls Tryz.prog 45 #[.agg #[.slice An c.aj.names.length aI,.slice Am c.aj.members.length aK],.string x.aJ,.string nm] V fun e w''=>e=.returned (.bool (BJ c.aj x.aJ nm))∧ag V w'' from fun V a nm=>ZC c.aj An aI Am aK x.aJ nm V (aM (aW.trans a) H.fK) (bJ (aW.trans a) H.mem) s1);have C4:=gH (show ∀ V,ag W V→Calls Tryz.prog 48 #[.agg #[.int .i64 c.aA,.int .i64 c.version,.slice As c.ai.ae.length ar,.slice At c.ai.tables.length ax,.slice An c.aj.names.length aI,.slice Am c.aj.members.length aK,.slice Ag c.af.length aS],.string x.aJ,.string x.aa,.string x.table] V fun e w''=>e=.returned (.bool (ji c x.aJ x.aa x.table))∧ag V w'' from fun V a=>Np c As ar At ax An aI Am aK Ag aS x.aJ x.aa x.table s1 V (H.az (aW.trans a)))
 have CI:=gH (show ∀ w',ag W w'→Calls Tryz.prog 41 #[.slice As c.ai.ae.length ar,.func (.func 47) #[] #[.pointer (some ⟨w.heap.size+1,0,none⟩)]] w' fun e w''=>e=.returned (.int .i64 (cE c.ai.ae x.aa))∧ag w' w'' from
  fun w' a=>wE As ar c.ai.ae 47 #[.pointer (some ⟨w.heap.size+1,0,none⟩)] (fun s=>bk s.name x.aa) w' (bm (aW.trans a) H.gQ) bR (fun w'' b j hj=>by
   have p1:=r1.az (a.trans b)
   exact LQ _ _ x.aa _ w'' p1.1 (p1.cell (j:=2) rfl)))
 have HS:=gH (show k=1→∃ q:Nat,∃ gs os:Nat,∃ ov,cE c.ai.ae x.aa=q∧q < c.ai.ae.length∧As=some ⟨gs,os,none⟩∧gs < w.heap.size∧oa c.ai x.aa=ov∧∀ V,ag W V→V.cell? ⟨gs,os+q*2+1,none⟩=some (.string ov) from fun h=>by
  obtain ⟨q,hq⟩:=Int.eq_ofNat_of_zero_le (hsc (hk.trans h));have ye : -1≤cE c.ai.ae x.aa∧cE c.ai.ae x.aa < c.ai.ae.length:=bg _ _
  have q9:q < c.ai.ae.length:=by omega
  obtain ⟨bs,off,hA,Sw,t0,t1,_⟩:=oC H.gQ q9
  exact ⟨q,bs,off,_,hq,q9,hA,Sw,sY hq q9,fun V a=>(aW.trans a).cell_kept t1⟩)
 have HV:=gH (And.intro (FQ c x) (And.intro (FT c x) (And.intro (zR c x) (Cx c x))));rw [hk,hb1] at HV;have br:=gH aW;have je:=gH r0;have qs:=gH r1;have z0:=r0.1;have z1:=r1.1;have x2:=r0.cell (j:=2) rfl;have x4:=r0.cell (j:=4) rfl;have x5:=r0.cell (j:=5) rfl;have y0:=r1.cell (j:=0) rfl;have y1:=r1.cell (j:=1) rfl;clear H s1 hsc bR aW r0 r1 hb1 hk
 go_enter Tryz.func22,Tryz.ntmps22
 go_wp2_with fail;rw [← hW];clear hW;refine C1.out.mono ?_;rintro e w1 ⟨rfl,a1⟩;have A1:=gH a1;have p0:=je.out.az a1;have p1:=qs.out.az a1;clear z0 z1 x2 x4 x5 y0 y1 a1;have z0:=p0.1;have z1:=p1.1;have x0:=p0.cell (j:=0) rfl;have x1:=p0.cell (j:=1) rfl;have x2:=p0.cell (j:=2) rfl;have x3:=p0.cell (j:=3) rfl;have x4:=p0.cell (j:=4) rfl;have x5:=p0.cell (j:=5) rfl;have x6:=p0.cell (j:=6) rfl;have y0:=p1.cell (j:=0) rfl;have y1:=p1.cell (j:=1) rfl;have y2:=p1.cell (j:=2) rfl;have y3:=p1.cell (j:=3) rfl;clear p0 p1;go_wp2_with fail;refine (C2.out _).mono ?_;rintro e w2 ⟨rfl,rfl⟩;by_cases k1:k=1
 case pos =>
  subst k1;obtain ⟨q,gs,os,ov,hq,q9,rfl,hgs,Jc,hcc⟩:=HS.out rfl;rw [hq] at CI;rw [Jc] at HV;have XF:=gH (HV.out.1 rfl);obtain ⟨b2,hb2⟩:∃ b,BJ c.aj x.aJ ov=b:=⟨_,rfl⟩;have C5:=gH (show ∀ V,ag W V→Calls Tryz.prog 45 #[.agg #[.slice An c.aj.names.length aI,.slice Am c.aj.members.length aK],.string x.aJ,.string ov] V fun e w''=>e=.returned (.bool b2)∧ag V w'' from fun V a=>hb2▸C3.out V a ov);rw [hb2] at XF;have ZE:=gH (And.intro hgs hcc);clear HV hb2 hq Jc hcc C3;go_wp2_with fail;refine (CI.out _ A1.out).mono ?_;rintro e w3 ⟨rfl,a3⟩;have A3:=gH (A1.out.trans a3);clear x0 x1 x2 x3 x4 x5 x6 y0 y1 y2 y3 z0 z1;have p0:=je.out.az (A1.out.trans a3);have p1:=qs.out.az (A1.out.trans a3);have x2:=p0.cell (j:=2) rfl;have x4:=p0.cell (j:=4) rfl;have x5:=p0.cell (j:=5) rfl;have y1:=p1.cell (j:=1) rfl;have z0:=p0.1;have z1:=p1.1;have zg:=Nat.lt_of_lt_of_le ZE.out.1 (br.out.trans (A1.out.trans a3)).size;have u1:=ZE.out.2 _ (A1.out.trans a3);clear p0 p1 a3
  cases b1
  ·have KS:=gH (show ∀ V,ag w3 V→(V.cell? ⟨w.heap.size,2,none⟩=some (.slice (some ⟨gs,os,none⟩) c.ai.ae.length ar)∧V.cell? ⟨w.heap.size,4,none⟩=some (.slice An c.aj.names.length aI)∧V.cell? ⟨w.heap.size,5,none⟩=some (.slice Am c.aj.members.length aK)∧V.cell? ⟨w.heap.size+1,1,none⟩=some (.string x.aJ)∧V.cell? ⟨gs,os+q*2+1,none⟩=some (.string ov)) from fun V a=>⟨a.cell_kept x2,a.cell_kept x4,a.cell_kept x5,a.cell_kept y1,a.cell_kept u1⟩)
   clear x2 x4 x5 y1 u1;go_wp2_with fail
   go_region_held3 (fun V=>V.cell? ⟨w.heap.size,2,none⟩=some (.slice (some ⟨gs,os,none⟩) c.ai.ae.length ar)∧V.cell? ⟨w.heap.size,4,none⟩=some (.slice An c.aj.names.length aI)∧V.cell? ⟨w.heap.size,5,none⟩=some (.slice Am c.aj.members.length aK)∧V.cell? ⟨w.heap.size+1,1,none⟩=some (.string x.aJ)∧V.cell? ⟨gs,os+q*2+1,none⟩=some (.string ov))
    ((refine KS.out _ ?_;first
     | with_reducible exact (ag.refl _).drew
     | with_reducible exact a5))
    ((go_at_call 45;refine (C5.out _ (A3.out.trans (ag.refl _).drew)).mono ?_;rintro e w4 ⟨rfl,a4⟩;have a5:ag w3 w4:=(ag.refl _).drew.trans a4))
   go_wp2_with fail;go_ret;exact ⟨by rw [XF.out];rfl,(br.out.trans A3.out).trans a5⟩
  ·go_wp2_with fail
   go_region
   go_wp2_with fail;go_ret;exact ⟨by rw [XF.out];rfl,(br.out.trans A3.out).drew⟩
 by_cases k2:k=2
 case pos =>
  subst k2;have HV2:=gH (HV.out.2.1 rfl);clear HV;go_wp2_with fail;refine (C4.out _ A1.out).mono ?_;rintro e w3 ⟨rfl,a3⟩;have A3:=gH ((br.out.trans A1.out).trans a3);clear a3;go_wp2_with fail;go_ret;exact ⟨by rw [HV2.out];rfl,A3.out⟩
 by_cases k3:k=3
 case pos =>
  subst k3;have HV3:=gH (HV.out.2.2.1 rfl);clear HV;go_wp2_with fail;go_ret;exact ⟨by rw [HV3.out];rfl,br.out.trans A1.out⟩
 go_wp2_with fail;go_ret;exact ⟨by rw [HV.out.2.2.2 k1 k2 k3];rfl,br.out.trans A1.out⟩
theorem qT {c:bW} {x:eW} {k:Int} (h:dC c x=k) (hk:k≠0):cV c x=(lH,k):=by unfold cV;rw [if_pos (by rw [h];exact hk),h]
theorem XG {c:bW} {x:eW} (h:eu c=false):dC c x=1:=by unfold dC;rw [if_pos h]
theorem XH {c:bW} {x:eW} (h1:eu c=true) (h:fF x=false):dC c x=90:=by unfold dC;rw [if_neg (by rw [h1];decide),if_pos h]
theorem XI {c:bW} {x:eW} (h1:eu c=true) (h2:fF x=true) (h:dQ c.aj.names x.aJ=false):dC c x=71:=by unfold dC;rw [if_neg (by rw [h1];decide),if_neg (by rw [h2];decide),if_pos h]
theorem XJ {c:bW} {x:eW} (h1:eu c=true) (h2:fF x=true) (h3:dQ c.aj.names x.aJ=true) (h:emp x.aa=false∧x.kind≠1∧cE c.ai.ae x.aa < 0):dC c x=61:=by unfold dC;rw [if_neg (by rw [h1];decide),if_neg (by rw [h2];decide),if_neg (by rw [h3];decide),if_pos h]
theorem XK {c:bW} {x:eW} (h1:eu c=true) (h2:fF x=true) (h3:dQ c.aj.names x.aJ=true) (h4:¬ (emp x.aa=false∧x.kind≠1∧cE c.ai.ae x.aa < 0)) (h:emp x.table=false∧x.kind≠3∧bj c.ai.tables x.aa x.table < 0):dC c x=61:=by unfold dC;rw [if_neg (by rw [h1];decide),if_neg (by rw [h2];decide),if_neg (by rw [h3];decide),if_neg h4,if_pos h]
theorem T5 {c:bW} {x:eW} (h1:eu c=true) (h2:fF x=true) (h3:dQ c.aj.names x.aJ=true) (h4:¬ (emp x.aa=false∧x.kind≠1∧cE c.ai.ae x.aa < 0)) (h5:¬ (emp x.table=false∧x.kind≠3∧bj c.ai.tables x.aa x.table < 0)):dC c x=if gB c x=false then 91 else 0:=by unfold dC;rw [if_neg (by rw [h1];decide),if_neg (by rw [h2];decide),if_neg (by rw [h3];decide),if_neg h4,if_neg h5]
theorem Mb {c:bW} {x:eW} {k:Int} (h:dC c x=0) (h2:(bZ c x).2=k) (hk:k≠0):cV c x=(lH,k):=by unfold cV;rw [if_neg (by rw [h];decide),if_pos (by rw [h2];exact hk),h2]
theorem Jy {c:bW} {x:eW} (h:dC c x=0) (h2:(bZ c x).2=0) (h3:1000000000≤c.version∨(cD x=true∧1000≤c.aA)):cV c x=(lH,92):=by unfold cV;rw [if_neg (by rw [h];decide),if_neg (by rw [h2];decide),if_pos h3]
theorem T6 {c:bW} {x:eW} (h:dC c x=0) (h2:(bZ c x).2=0) (h3:¬ (1000000000≤c.version∨(cD x=true∧1000≤c.aA))):cV c x=(ki (bZ c x).1 (cD x),0):=by unfold cV;rw [if_neg (by rw [h];decide),if_neg (by rw [h2];decide),if_neg h3]
theorem Mc (l:List gj) (s:ByteArray):l.any (fun z=>bk z.name s)=decide (0≤cE l s):=by
 have h:=iV (fun z:gj=>bk z.name s) l;have e:cE l s=bK (fun z:gj=>bk z.name s) l:=rfl;rw [e,← h]
theorem Jz {s:ByteArray} (h:bP s=true):emp s=false:=by
 cases he:emp s
 ·rfl
 ·unfold emp at he
  have h1:s.toList=[]:=by simpa using he
  have h2:s.size=0:=(gF s).1 h1
  have h3:s=⟨#[]⟩:=by
   cases s with
   | mk a=>simp [ByteArray.size] at h2;subst h2;rfl
  subst h3;exact absurd h (by decide +kernel)
theorem qU {x:eW} (h:fF x=true):vh x.aa (uS x.kind)=true∧(x.kind=5→0 < x.ak.length):=by
 unfold fF at h;rw [DC] at h;simp only [Bool.and_eq_true] at h;refine ⟨h.1.1.1.1.2,fun h5=>?_⟩;have h6:=h.2;rw [h5] at h6;unfold yI at h6;rw [if_neg (by decide),if_pos (by decide)] at h6;simp only [Bool.and_eq_true,beq_iff_eq] at h6;omega
theorem Md {x:eW} (h:fF x=true) (hk:x.kind=2∨x.kind=3):emp x.aa=false:=by
 have h1:=(qU h).1;unfold vh at h1;rw [if_pos (by unfold uS;rcases hk with e | e<;>rw [e]<;>rfl)] at h1;exact Jz h1
end Go.Proofs.YtmflccbnoeaafaaGreat
