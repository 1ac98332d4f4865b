import Derived.Test.YtmflccbnoeaafaaGreatPartC21
namespace Go.Proofs.YtmflccbnoeaafaaGreat
open Go.RowKit Go.Deep
set_option maxRecDepth 100000
set_option linter.unusedVariables false
set_option maxHeartbeats 64000000
theorem TN {w V:World} {B b D:Nat} {c c2:bW} {hs ht hn hm hg:Hd} {A1 A2 A3 A4 A5:Option Addr} {n1 n2 n3 n4 n5 c1 k2 c3 c4 c5:Nat} {L2:List ay} (hb:b < B) (tK:B≤w.heap.size) (R0:ap w b (cK c hs ht hn hm hg)) (aV:ag w V) (hD:w.heap.size≤D) (ob:dc V D c2 ⟨A1,n1,c1⟩ ⟨A2,n2,k2⟩ ⟨A3,n3,c3⟩ ⟨A4,n4,c4⟩ ⟨A5,n5,c5⟩ L2) :
  bU w B b (c2,0) (.returned (.tuple #[])) (((((((V.setCell ⟨b,0,none⟩ (.int .i64 c2.aA)).setCell ⟨b,1,none⟩ (.int .i64 c2.version)).setCell ⟨b,2,none⟩ (.slice A1 c2.ai.ae.length c1)).setCell ⟨b,3,none⟩ (.slice A2 c2.ai.tables.length k2)).setCell ⟨b,4,none⟩ (.slice A3 c2.aj.names.length c3)).setCell ⟨b,5,none⟩ (.slice A4 c2.aj.members.length c4)).setCell ⟨b,6,none⟩ (.slice A5 c2.af.length c5)):=by
 have k:=dG V b (.int .i64 c2.aA) (.int .i64 c2.version) (.slice A1 c2.ai.ae.length c1) (.slice A2 c2.ai.tables.length k2) (.slice A3 c2.aj.names.length c3) (.slice A4 c2.aj.members.length c4) (.slice A5 c2.af.length c5);refine ⟨(Kb.aH aV).trans (k.mono fun g _ e=>.inl e),fun h=>absurd rfl h,fun _=>⟨rfl,⟨A1,n1,c1⟩,⟨A2,n2,k2⟩,⟨A3,n3,c3⟩,⟨A4,n4,c4⟩,⟨A5,n5,c5⟩,L2,(ob.kb k fun g gl e=>?_).down (by omega),?_⟩⟩
 ·have:=(ob.lt gl).1
  have e:g=b:=e;omega
 ·exact cO (R0.az aV) rfl _ _ _ _ _ _ _
theorem PC (c:bW) (hs ht hn hm hg:Hd) (L:List ay) (B b:Nat) (x:eW) (A6:Option Addr) (n6 c6:Nat) (A9:Option Addr) (n9 c9:Nat) (w:World) (hb:b < B) (tK:B≤w.heap.size) (C:dc w B c hs ht hn hm hg L) (sm:xK c) (R:ap w b (cK c hs ht hn hm hg)) (sg:oL (p9 x)) :
  Calls Tryz.prog 58 #[.pointer (some ⟨b,0,none⟩),.agg #[.int .i64 x.kind,.string x.aJ,.string x.aa,.string x.table,.string x.name,.string x.role,.slice A6 n6 c6,.string x.rule.name,.int .i64 x.rule.kind,.slice A9 n9 c9,.int .i64 x.rule.low,.int .i64 x.rule.high,.string x.rule.aa,.string x.rule.table,.string x.rule.key,.int .i64 x.right,.bool x.opt]] w (bU w B b (vJ c x)):=by
 have l1:w.heap.size < w.heap.size+1:=by omega
 obtain ⟨W,hW⟩:∃ W,W=w.alloc (.cells #[.int .i64 x.kind,.string x.aJ,.string x.aa,.string x.table,.string x.name,.string x.role,.slice A6 n6 c6,.string x.rule.name,.int .i64 x.rule.kind,.slice A9 n9 c9,.int .i64 x.rule.low,.int .i64 x.rule.high,.string x.rule.aa,.string x.rule.table,.string x.rule.key,.int .i64 x.right,.bool x.opt] 40):=⟨_,rfl⟩
 have aW:ag w W:=by rw [hW];exact (ag.refl w).alloc _
 have r1:ap W w.heap.size [.int .i64 x.kind,.string x.aJ,.string x.aa,.string x.table,.string x.name,.string x.role,.slice A6 n6 c6,.string x.rule.name,.int .i64 x.rule.kind,.slice A9 n9 c9,.int .i64 x.rule.low,.int .i64 x.rule.high,.string x.rule.aa,.string x.rule.table,.string x.rule.key,.int .i64 x.right,.bool x.opt]:=by rw [hW];exact bv (ag.refl _) (by simp)
 have r0:=R.az aW;have pZ:=gH (C.at sm);obtain ⟨F,hF⟩:∃ F,dX c (p9 x)=F:=⟨_,rfl⟩;have C2:=gH (show ∀ V,ag W V→Calls Tryz.prog 96 #[.agg #[.int .i64 c.aA,.int .i64 c.version,.slice hs.a c.ai.ae.length hs.c,.slice ht.a c.ai.tables.length ht.c,.slice hn.a c.aj.names.length hn.c,.slice hm.a c.aj.members.length hm.c,.slice hg.a c.af.length hg.c],.agg #[.string x.aa,.string x.table,.int .i64 x.right,.string x.aJ,.string x.role,.bool x.opt]] V (pg V F) from fun V a=>hF▸TG c hs.a hs.c ht.a ht.c hn.a hn.c hm.a hm.c hg.a hg.c (p9 x) sg V (pZ.out.az (aW.trans a)));have ej:=gH (show vJ c x=if F.2=0 then (F.1,0) else (c,F.2) by unfold vJ;rw [hF]);have HC:=gH C;have m8:=gH R;have br:=gH aW;have qs:=gH r1;have nU:=gH sm;have z0:=r0.1;have z1:=r1.1;have x0:=r0.cell (j:=0) rfl;have x1:=r0.cell (j:=1) rfl;have x2:=r0.cell (j:=2) rfl;have x3:=r0.cell (j:=3) rfl;have x4:=r0.cell (j:=4) rfl;have x5:=r0.cell (j:=5) rfl;have x6:=r0.cell (j:=6) rfl;have y1:=r1.cell (j:=1) rfl;have y2:=r1.cell (j:=2) rfl;have y3:=r1.cell (j:=3) rfl;have y5:=r1.cell (j:=5) rfl;have jw:=r1.cell (j:=15) rfl;have jx:=r1.cell (j:=16) rfl;clear C sm R aW r0 r1 hF pZ sg;have KX:=gH (show ∀ V,ag W V→(V.cell? ⟨b,0,none⟩=some (.int .i64 c.aA)∧V.cell? ⟨b,1,none⟩=some (.int .i64 c.version)∧V.cell? ⟨b,2,none⟩=some (.slice hs.a c.ai.ae.length hs.c)∧V.cell? ⟨b,3,none⟩=some (.slice ht.a c.ai.tables.length ht.c)∧V.cell? ⟨b,4,none⟩=some (.slice hn.a c.aj.names.length hn.c)∧V.cell? ⟨b,5,none⟩=some (.slice hm.a c.aj.members.length hm.c)∧V.cell? ⟨b,6,none⟩=some (.slice hg.a c.af.length hg.c)∧V.cell? ⟨w.heap.size,1,none⟩=some (.string x.aJ)∧V.cell? ⟨w.heap.size,2,none⟩=some (.string x.aa)∧V.cell? ⟨w.heap.size,3,none⟩=some (.string x.table)∧V.cell? ⟨w.heap.size,5,none⟩=some (.string x.role)∧V.cell? ⟨w.heap.size,15,none⟩=some (.int .i64 x.right)∧V.cell? ⟨w.heap.size,16,none⟩=some (.bool x.opt)) from fun V a=>⟨a.cell_kept x0,a.cell_kept x1,a.cell_kept x2,a.cell_kept x3,a.cell_kept x4,a.cell_kept x5,a.cell_kept x6,a.cell_kept y1,a.cell_kept y2,a.cell_kept y3,a.cell_kept y5,a.cell_kept jw,a.cell_kept jx⟩)
 clear x0 x1 x2 x3 x4 x5 x6 y1 y2 y3 y5 jw jx;obtain ⟨F0,F2⟩:=F
 go_enter Tryz.func58,Tryz.ntmps58
 go_wp2_with fail;rw [← hW];clear hW
 go_region_held3 (fun V=>V.cell? ⟨b,0,none⟩=some (.int .i64 c.aA)∧V.cell? ⟨b,1,none⟩=some (.int .i64 c.version)∧V.cell? ⟨b,2,none⟩=some (.slice hs.a c.ai.ae.length hs.c)∧V.cell? ⟨b,3,none⟩=some (.slice ht.a c.ai.tables.length ht.c)∧V.cell? ⟨b,4,none⟩=some (.slice hn.a c.aj.names.length hn.c)∧V.cell? ⟨b,5,none⟩=some (.slice hm.a c.aj.members.length hm.c)∧V.cell? ⟨b,6,none⟩=some (.slice hg.a c.af.length hg.c)∧V.cell? ⟨w.heap.size,1,none⟩=some (.string x.aJ)∧V.cell? ⟨w.heap.size,2,none⟩=some (.string x.aa)∧V.cell? ⟨w.heap.size,3,none⟩=some (.string x.table)∧V.cell? ⟨w.heap.size,5,none⟩=some (.string x.role)∧V.cell? ⟨w.heap.size,15,none⟩=some (.int .i64 x.right)∧V.cell? ⟨w.heap.size,16,none⟩=some (.bool x.opt))
  ((refine KX.out _ ?_;first
   | with_reducible exact (ag.refl _).drew
   | with_reducible exact a4
   | with_reducible exact ((ag.refl _).alloc _).drew
   | with_reducible exact a4.alloc _
   | (with_reducible refine ag.setCell (ag.setCell (ag.setCell (ag.setCell (ag.setCell (ag.setCell (ag.setCell a4 _ _ ?_) _ _ ?_) _ _ ?_) _ _ ?_) _ _ ?_) _ _ ?_) _ _ ?_)<;>exact Nat.le_refl _
   | (with_reducible refine ag.setCell (ag.setCell (ag.setCell (ag.setCell (ag.setCell (ag.setCell (ag.setCell (a4.alloc _) _ _ ?_) _ _ ?_) _ _ ?_) _ _ ?_) _ _ ?_) _ _ ?_) _ _ ?_)<;>exact a4.size
   | fail))
  ((go_at_call 96;first
   | (refine (C2.out W.drew ((ag.refl W).trans (ag.refl _).drew)).mono ?_;rintro e w3 ⟨⟨A1,n1,c1⟩,⟨A2,n2,c2⟩,⟨A3,n3,c3⟩,⟨A4,n4,c4⟩,⟨A5,n5,c5⟩,L2,rfl,a3,ob⟩;have a4:ag W w3:=(ag.refl _).drew.trans a3;simp only [lq])
   | (refine (C2.out _ ((ag.refl W).trans ((ag.refl _).alloc _).drew)).mono ?_;rintro e w3 ⟨⟨A1,n1,c1⟩,⟨A2,n2,c2⟩,⟨A3,n3,c3⟩,⟨A4,n4,c4⟩,⟨A5,n5,c5⟩,L2,rfl,a3,ob⟩;have a4:ag W w3:=((ag.refl _).alloc _).drew.trans a3;have rb:=(bv (w:=W) (c:=[.int .i64 0,.int .i64 0,.slice none 0 0,.slice none 0 0,.slice none 0 0,.slice none 0 0,.slice none 0 0]) (t:=32) (((ag.refl _)).drew.trans a3) rfl);have Fu:=rb.1;have LJ:=rb.cell (j:=0) rfl;have LL:=rb.2.2 0 (by simp);have O8:=rb.cell (j:=1) rfl;have O9:=rb.2.2 1 (by simp);have rb2:=rb.cell (j:=2) rfl;have rf2:=rb.2.2 2 (by simp);have Il:=rb.cell (j:=3) rfl;have rf3:=rb.2.2 3 (by simp);have TP:=rb.cell (j:=4) rfl;have rf4:=rb.2.2 4 (by simp);have gO:=rb.cell (j:=5) rfl;have rf5:=rb.2.2 5 (by simp);have rb6:=rb.cell (j:=6) rfl;have rf6:=rb.2.2 6 (by simp);simp only [lq])))
 focus
  obtain ⟨V,hV⟩:∃ V,V=w3.alloc (.cells #[.int .i64 F0.aA,.int .i64 F0.version,.slice A1 F0.ai.ae.length c1,.slice A2 F0.ai.tables.length c2,.slice A3 F0.aj.names.length c3,.slice A4 F0.aj.members.length c4,.slice A5 F0.af.length c5] 32):=⟨_,rfl⟩;obtain ⟨bx,lf⟩:∃ bx,bx=w3.heap.size:=⟨_,rfl⟩
  have rV:ap V bx [.int .i64 F0.aA,.int .i64 F0.version,.slice A1 F0.ai.ae.length c1,.slice A2 F0.ai.tables.length c2,.slice A3 F0.aj.names.length c3,.slice A4 F0.aj.members.length c4,.slice A5 F0.af.length c5]:=by rw [hV,lf];exact bv (ag.refl _) rfl
  have aV:ag W V:=by rw [hV];exact a4.alloc _
  have xb:dc V W.heap.size F0 ⟨A1,n1,c1⟩ ⟨A2,n2,c2⟩ ⟨A3,n3,c3⟩ ⟨A4,n4,c4⟩ ⟨A5,n5,c5⟩ L2:=by rw [hV];exact dc.down (ob.az ((ag.refl _).alloc _)) (Nat.le_refl W.heap.size)
  have pk:W.heap.size≤bx:=by rw [lf];exact a4.size
 rotate_left
 focus
  obtain ⟨V,hV⟩:∃ V,V=((((((w3.setCell ⟨W.heap.size,0,none⟩ (.int .i64 F0.aA)).setCell ⟨W.heap.size,1,none⟩ (.int .i64 F0.version)).setCell ⟨W.heap.size,2,none⟩ (.slice A1 F0.ai.ae.length c1)).setCell ⟨W.heap.size,3,none⟩ (.slice A2 F0.ai.tables.length c2)).setCell ⟨W.heap.size,4,none⟩ (.slice A3 F0.aj.names.length c3)).setCell ⟨W.heap.size,5,none⟩ (.slice A4 F0.aj.members.length c4)).setCell ⟨W.heap.size,6,none⟩ (.slice A5 F0.af.length c5):=⟨_,rfl⟩;obtain ⟨bx,lf⟩:∃ bx,bx=W.heap.size:=⟨_,rfl⟩
  have rV:ap V bx [.int .i64 F0.aA,.int .i64 F0.version,.slice A1 F0.ai.ae.length c1,.slice A2 F0.ai.tables.length c2,.slice A3 F0.aj.names.length c3,.slice A4 F0.aj.members.length c4,.slice A5 F0.af.length c5]:=by rw [hV,lf];exact cO rb rfl _ _ _ _ _ _ _
  have aV:ag W V:=by rw [hV];exact ag.setCell (ag.setCell (ag.setCell (ag.setCell (ag.setCell (ag.setCell (ag.setCell a4 _ _ (Nat.le_refl _)) _ _ (Nat.le_refl _)) _ _ (Nat.le_refl _)) _ _ (Nat.le_refl _)) _ _ (Nat.le_refl _)) _ _ (Nat.le_refl _)) _ _ (Nat.le_refl _)
  have xb:dc V W.heap.size F0 ⟨A1,n1,c1⟩ ⟨A2,n2,c2⟩ ⟨A3,n3,c3⟩ ⟨A4,n4,c4⟩ ⟨A5,n5,c5⟩ L2:=by rw [hV];exact dc.down (ob.kb (dG w3 W.heap.size (.int .i64 F0.aA) (.int .i64 F0.version) (.slice A1 F0.ai.ae.length c1) (.slice A2 F0.ai.tables.length c2) (.slice A3 F0.aj.names.length c3) (.slice A4 F0.aj.members.length c4) (.slice A5 F0.af.length c5)) fun g hg e=>by have h1:=(ob.lt hg).1;have h2:((W.alloc (.cells #[.int .i64 0,.int .i64 0,.slice none 0 0,.slice none 0 0,.slice none 0 0,.slice none 0 0,.slice none 0 0] 32)).drew).heap.size=W.heap.size+1:=(by simp);have e2:g=W.heap.size:=e;omega) (by show W.heap.size≤((W.alloc (.cells #[.int .i64 0,.int .i64 0,.slice none 0 0,.slice none 0 0,.slice none 0 0,.slice none 0 0,.slice none 0 0] 32)).drew).heap.size;simp)
  have pk:W.heap.size≤bx:=by rw [lf];exact Nat.le_refl _
 rotate_left
 all_goals
  rw [← hV,← lf];have HV:=gH (And.intro rV (And.intro aV (And.intro xb trivial)));have TA:=gH pk;clear hV lf rV aV xb ob a3 a4 pk
  (try clear rb Fu LJ LL O8 O9 rb2 rf2 Il rf3 TP rf4 gO rf5 rb6 rf6)
  have aT:=br.out.trans HV.out.2.1;have q:=m8.out.az aT;have u0:=q.cell (j:=0) rfl;have g0:=q.2.2 0 (by simp [cK]);have u1:=q.cell (j:=1) rfl;have g1:=q.2.2 1 (by simp [cK]);have u2:=q.cell (j:=2) rfl;have g2:=q.2.2 2 (by simp [cK]);have u3:=q.cell (j:=3) rfl;have g3:=q.2.2 3 (by simp [cK]);have u4:=q.cell (j:=4) rfl;have g4:=q.2.2 4 (by simp [cK]);have u5:=q.cell (j:=5) rfl;have g5:=q.2.2 5 (by simp [cK]);have u6:=q.cell (j:=6) rfl;have g6:=q.2.2 6 (by simp [cK]);have qz:=q.1;have v0:=HV.out.1.cell (j:=0) rfl;have v1:=HV.out.1.cell (j:=1) rfl;have vz:=HV.out.1.1;have rN:=gH aT;have v2:=HV.out.1.cell (j:=2) rfl;have v3:=HV.out.1.cell (j:=3) rfl;have v4:=HV.out.1.cell (j:=4) rfl;have v5:=HV.out.1.cell (j:=5) rfl;have v6:=HV.out.1.cell (j:=6) rfl;clear aT q;by_cases h2:F2=0
  ·subst h2
   have HP:=gH (TN hb tK m8.out rN.out br.out.size HV.out.2.2.1);go_wp2_with fail;refine (fH _).mono ?_;rintro e w5 ⟨rfl,rfl⟩;go_wp2_with fail
   go_end0
   rw [ej.out];exact HP.out
  ·have HP:=gH (show bU w B b (vJ c x) (js F2) V from bU.NB rN.out m8.out (by rw [ej.out,if_neg h2]) h2)
   go_wp2_with fail;refine (ja F2 h2 _).mono ?_;rintro e w5 ⟨he,rfl⟩;unfold js at he;subst he
   dsimp only
   exact ⟨rfl,HP.out⟩
theorem Jh (c:bW) (hs ht hn hm hg:Hd) (L:List ay) (B b:Nat) (x:eW) (A6:Option Addr) (n6 c6:Nat) (A9:Option Addr) (n9 c9:Nat) (w:World) (hb:b < B) (tK:B≤w.heap.size) (C:dc w B c hs ht hn hm hg L) (sm:xK c) (R:ap w b (cK c hs ht hn hm hg)) (BO:c.af.length≤1000000) (lp:Small x.aJ.size) :
  Calls Tryz.prog 59 #[.pointer (some ⟨b,0,none⟩),.agg #[.int .i64 x.kind,.string x.aJ,.string x.aa,.string x.table,.string x.name,.string x.role,.slice A6 n6 c6,.string x.rule.name,.int .i64 x.rule.kind,.slice A9 n9 c9,.int .i64 x.rule.low,.int .i64 x.rule.high,.string x.rule.aa,.string x.rule.table,.string x.rule.key,.int .i64 x.right,.bool x.opt]] w (bU w B b (BU c x)):=by
 have bR:=enters (P:=Tryz.prog) Tryz.func97 (by kernel_rfl) rfl
 have l1:w.heap.size < w.heap.size+1:=by omega
 obtain ⟨W,hW⟩:∃ W,W=w.alloc (.cells #[.int .i64 x.kind,.string x.aJ,.string x.aa,.string x.table,.string x.name,.string x.role,.slice A6 n6 c6,.string x.rule.name,.int .i64 x.rule.kind,.slice A9 n9 c9,.int .i64 x.rule.low,.int .i64 x.rule.high,.string x.rule.aa,.string x.rule.table,.string x.rule.key,.int .i64 x.right,.bool x.opt] 40):=⟨_,rfl⟩
 have aW:ag w W:=by rw [hW];exact (ag.refl w).alloc _
 have r1:ap W w.heap.size [.int .i64 x.kind,.string x.aJ,.string x.aa,.string x.table,.string x.name,.string x.role,.slice A6 n6 c6,.string x.rule.name,.int .i64 x.rule.kind,.slice A9 n9 c9,.int .i64 x.rule.low,.int .i64 x.rule.high,.string x.rule.aa,.string x.rule.table,.string x.rule.key,.int .i64 x.right,.bool x.opt]:=by rw [hW];exact bv (ag.refl _) (by simp)
 have r0:=R.az aW;have pZ:=gH (C.at sm);obtain ⟨bb,ol⟩:∃ bb,ji c x.aJ x.aa x.table=bb:=⟨_,rfl⟩;have C2:=gH (show ∀ V,ag W V→Calls Tryz.prog 48 #[.agg #[.int .i64 c.aA,.int .i64 c.version,.slice hs.a c.ai.ae.length hs.c,.slice ht.a c.ai.tables.length ht.c,.slice hn.a c.aj.names.length hn.c,.slice hm.a c.aj.members.length hm.c,.slice hg.a c.af.length hg.c],.string x.aJ,.string x.aa,.string x.table] V fun e w''=>e=.returned (.bool bb)∧ag V w'' from fun V a=>ol▸Np c hs.a hs.c ht.a ht.c hn.a hn.c hm.a hm.c hg.a hg.c x.aJ x.aa x.table lp V (pZ.out.az (aW.trans a)));have ej:=gH (show BU c x=if (oX c.af bb x).length < c.af.length then ({ c with af:=oX c.af bb x },0) else (c,80) by unfold BU;rw [ol]);have HGR:=gH (fun V (a:ag W V)=>eZ (aW.trans a) pZ.out.kv);have HC:=gH C;have m8:=gH R;have br:=gH aW;have qs:=gH r1;have nU:=gH sm;have z0:=r0.1;have z1:=r1.1;have Pu:=gH bR;have Xa:=gH BO;have x0:=r0.cell (j:=0) rfl;have x1:=r0.cell (j:=1) rfl;have x2:=r0.cell (j:=2) rfl;have x3:=r0.cell (j:=3) rfl;have x4:=r0.cell (j:=4) rfl;have x5:=r0.cell (j:=5) rfl;have x6:=r0.cell (j:=6) rfl;have y1:=r1.cell (j:=1) rfl;have y2:=r1.cell (j:=2) rfl;have y3:=r1.cell (j:=3) rfl;clear C sm R aW r0 r1 ol pZ bR BO lp;have KX:=gH (show ∀ V,ag W V→(V.cell? ⟨b,0,none⟩=some (.int .i64 c.aA)∧V.cell? ⟨b,1,none⟩=some (.int .i64 c.version)∧V.cell? ⟨b,2,none⟩=some (.slice hs.a c.ai.ae.length hs.c)∧V.cell? ⟨b,3,none⟩=some (.slice ht.a c.ai.tables.length ht.c)∧V.cell? ⟨b,4,none⟩=some (.slice hn.a c.aj.names.length hn.c)∧V.cell? ⟨b,5,none⟩=some (.slice hm.a c.aj.members.length hm.c)∧V.cell? ⟨b,6,none⟩=some (.slice hg.a c.af.length hg.c)∧V.cell? ⟨w.heap.size,1,none⟩=some (.string x.aJ)∧V.cell? ⟨w.heap.size,2,none⟩=some (.string x.aa)∧V.cell? ⟨w.heap.size,3,none⟩=some (.string x.table)) from fun V a=>⟨a.cell_kept x0,a.cell_kept x1,a.cell_kept x2,a.cell_kept x3,a.cell_kept x4,a.cell_kept x5,a.cell_kept x6,a.cell_kept y1,a.cell_kept y2,a.cell_kept y3⟩)
 clear x0 x1 x2 x3 x4 x5 x6 y1 y2 y3
 go_enter Tryz.func59,Tryz.ntmps59
 go_wp2_with fail;rw [← hW];clear hW
 go_region_held3 (fun V=>V.cell? ⟨b,0,none⟩=some (.int .i64 c.aA)∧V.cell? ⟨b,1,none⟩=some (.int .i64 c.version)∧V.cell? ⟨b,2,none⟩=some (.slice hs.a c.ai.ae.length hs.c)∧V.cell? ⟨b,3,none⟩=some (.slice ht.a c.ai.tables.length ht.c)∧V.cell? ⟨b,4,none⟩=some (.slice hn.a c.aj.names.length hn.c)∧V.cell? ⟨b,5,none⟩=some (.slice hm.a c.aj.members.length hm.c)∧V.cell? ⟨b,6,none⟩=some (.slice hg.a c.af.length hg.c)∧V.cell? ⟨w.heap.size,1,none⟩=some (.string x.aJ)∧V.cell? ⟨w.heap.size,2,none⟩=some (.string x.aa)∧V.cell? ⟨w.heap.size,3,none⟩=some (.string x.table))
  ((refine KX.out _ ?_;first
   | with_reducible exact (ag.refl _).drew
   | with_reducible exact a4
   | with_reducible exact ((ag.refl _).alloc _).drew
   | with_reducible exact a4.alloc _
   | (with_reducible refine ag.setCell a4 _ _ ?_)<;>exact Nat.le_refl _
   | (with_reducible refine ag.setCell (a4.alloc _) _ _ ?_)<;>exact a4.size
   | fail))
  ((go_at_call 48;first
   | (refine (C2.out W.drew ((ag.refl W).trans (ag.refl _).drew)).mono ?_;rintro e w3 ⟨rfl,a3⟩;have a4:ag W w3:=(ag.refl _).drew.trans a3)
   | (refine (C2.out _ ((ag.refl W).trans ((ag.refl _).alloc _).drew)).mono ?_;rintro e w3 ⟨rfl,a3⟩;have a4:ag W w3:=((ag.refl _).alloc _).drew.trans a3;have rb:=(bv (w:=W) (c:=[.bool false]) (t:=4) (((ag.refl _)).drew.trans a3) rfl);have Fu:=rb.1;have LJ:=rb.cell (j:=0) rfl;have LL:=rb.2.2 0 (by simp))))
 focus
  obtain ⟨V,hV⟩:∃ V,V=w3.alloc (.cells #[.bool bb] 4):=⟨_,rfl⟩;obtain ⟨bx,lf⟩:∃ bx,bx=w3.heap.size:=⟨_,rfl⟩
  have rV:ap V bx [.bool bb]:=by rw [hV,lf];exact bv (ag.refl _) rfl
  have aV:ag W V:=by rw [hV];exact a4.alloc _
  have xb:True:=by exact trivial
  have pk:W.heap.size≤bx:=by rw [lf];exact a4.size
 rotate_left
 focus
  obtain ⟨V,hV⟩:∃ V,V=w3.setCell ⟨W.heap.size,0,none⟩ (.bool bb):=⟨_,rfl⟩;obtain ⟨bx,lf⟩:∃ bx,bx=W.heap.size:=⟨_,rfl⟩
  have rV:ap V bx [.bool bb]:=by rw [hV,lf];exact rb.set 0 _ (by simp)
  have aV:ag W V:=by rw [hV];exact ag.setCell a4 _ _ (Nat.le_refl _)
  have xb:True:=by exact trivial
  have pk:W.heap.size≤bx:=by rw [lf];exact Nat.le_refl _
 rotate_left
 all_goals
  rw [← hV,← lf];have HV:=gH (And.intro rV (And.intro aV (And.intro xb trivial)));have TA:=gH pk;clear hV lf rV aV xb a3 a4 pk
  (try clear rb Fu LJ LL)
  have aT:=br.out.trans HV.out.2.1;have q:=m8.out.az aT;have y6:=q.cell (j:=6) rfl;have yz:=q.1;have rN:=gH aT;have RY:=gH q;have RX:=gH (qs.out.az HV.out.2.1);have CC:=gH (lS hg.a hg.c c.af V V (ag.refl _) (HGR.out V HV.out.2.1) Xa.out);clear aT q;go_wp2_with fail;refine CC.out.mono ?_;rintro e w6 ⟨v6,LF,rfl,a6,o6,DO⟩;obtain ⟨Ad,cd,rfl⟩:=dw o6;rw [fy (f:=cC) (fun _ _ h=>h.1) DO] at o6;have nX:=gH a6;have Gv:=gH o6;have HXV:=gH (show bx < V.heap.size from HV.out.1.1)
  have C5:=gH (NE (.slice Ad c.af.length cd) c.af 97 #[.pointer (some ⟨w.heap.size,0,none⟩),.pointer (some ⟨bx,0,none⟩)] (LC bb x) V.heap.size w6 o6 nU.out.2.2.1 (lX o6) nU.out.2.2.2 Pu.out (fun w' kb g hg=>by
   have p:=kb.row (RX.out.az nX.out) (gh Gv.out RX.out.1);have p2:=kb.row (HV.out.1.az nX.out) (gh Gv.out HXV.out)
   exact LR g x bb w.heap.size bx w' p.1 p2.1 (p.cell (j:=1) rfl) (p.cell (j:=2) rfl) (p.cell (j:=3) rfl) (p.cell (j:=5) rfl) (p.cell (j:=15) rfl) (p2.cell (j:=0) rfl)))
  clear a6 o6 DO y6 yz;go_wp2_with fail;refine C5.out.mono ?_;rintro e w7 ⟨⟨A3,n3,c3⟩,rfl,o7,TB,-⟩;have o7:w7.ownsRow V.heap.size 106 6 (Hd.mk A3 n3 c3).v (oX c.af bb x).length ((oX c.af bb x).flatMap cC):=o7;obtain ⟨l,hl⟩:∃ l,oX c.af bb x=l:=⟨_,rfl⟩;rw [hl] at o7 ej;obtain rfl:=gm o7;have aY:ag V w7:=TB.aZ nX.out (fun g hg=>gh Gv.out hg);have jG:=gH (rN.out.trans aY);have r7:=RY.out.az aY;have z7:=r7.1;have f7:=r7.2.2 6 (by simp [cK]);have u7:=r7.cell (j:=6) rfl;have HG:=gH (NC hb tK HC.out m8.out jG.out (D:=V.heap.size) rN.out.size o7);clear o7 TB aY r7 hl;simp only [Hd.v];by_cases h2:l.length < c.af.length
  ·have h3:(l.length:Int) < (c.af.length:Int):=by omega
   have Ib:=gH (show BU c x=({ c with af:=l },0) by rw [ej.out,if_pos h2]);clear ej h2;go_wp2_with fail;refine (ou 80 _).mono ?_;rintro e w8 ⟨rfl,rfl⟩;go_wp2_with fail
   go_end0
   rw [Ib.out];exact HG.out
  ·have h3:¬ (l.length:Int) < (c.af.length:Int):=by omega
   have HP:=gH (show bU w B b (BU c x) (js 80) w7 from bU.NB jG.out m8.out (by rw [ej.out,if_neg h2]) (by decide));clear ej h2;go_wp2_with fail;refine (lv 80 _).mono ?_;rintro e w8 ⟨he,rfl⟩;unfold js at he;subst he
   dsimp only
   exact ⟨rfl,HP.out⟩
theorem xl {w w1 W:World} {F:fX × Int} {A1 A2:Option Addr} {n1 c1 n2 c2 b:Nat} (aW:ag w W) (a:ag W w1) (hb:w.heap.size≤b) (hb2:b < W.heap.size) (fj:dY w1 W.heap.size ⟨A1,n1,c1⟩ ⟨A2,n2,c2⟩ F.1):jE w F (.returned (.tuple #[.agg #[.slice A1 n1 c1,.slice A2 n2 c2],.int .i64 F.2])) ((w1.setCell ⟨b,0,none⟩ (.slice A1 n1 c1)).setCell ⟨b,1,none⟩ (.slice A2 n2 c2)):=by
 have k9:=(Kb.set w1 b 0 (.slice A1 n1 c1)).trans (Kb.set _ b 1 (.slice A2 n2 c2));have z:=aW.1;refine ⟨⟨A1,n1,c1⟩,⟨A2,n2,c2⟩,rfl,((aW.trans a).setCell _ _ hb).setCell _ _ hb,?_⟩;have r9:=fj.down (B':=w.heap.size) (by omega);exact ⟨aP r9.fK k9 (fun g hg e=>by have e:g=b:=e;have:=(fj.fK.lt g hg).1;omega),aP r9.mem k9 (fun g hg e=>by have e:g=b:=e;have:=(fj.mem.lt g hg).1;omega),fj.mU⟩
theorem FC (r:fX) (An:Option Addr) (aI:Nat) (Am:Option Addr) (aK:Nat) (x:eW) (A6:Option Addr) (n6 c6:Nat) (A9:Option Addr) (n9 c9:Nat) (w:World) (hn:aL w 1 dK An aI r.names) (hm:aL w 2 ia Am aK r.members) (s1:Small x.role.size) (s2:Small x.name.size) :
  Calls Tryz.prog 60 #[.agg #[.slice An r.names.length aI,.slice Am r.members.length aK],.agg #[.int .i64 x.kind,.string x.aJ,.string x.aa,.string x.table,.string x.name,.string x.role,.slice A6 n6 c6,.string x.rule.name,.int .i64 x.rule.kind,.slice A9 n9 c9,.int .i64 x.rule.low,.int .i64 x.rule.high,.string x.rule.aa,.string x.rule.table,.string x.rule.key,.int .i64 x.right,.bool x.opt]] w (jE w (if x.kind=10 then eC r (lR x.role r) else if x.kind=12 then eC r (iD ⟨x.role,x.name⟩ r) else eC r (gD ⟨x.role,x.name⟩ r))):=by
 have l1:w.heap.size < w.heap.size+1:=by omega
 have l2:w.heap.size < w.heap.size+1+1:=by omega
 have l3:w.heap.size < w.heap.size+1+1+1:=by omega
 have l4:w.heap.size+1 < w.heap.size+1+1+1:=by omega
 obtain ⟨W,hW⟩:∃ W,W=((w.alloc (.cells #[.slice An r.names.length aI,.slice Am r.members.length aK] 29)).alloc (.cells #[.int .i64 x.kind,.string x.aJ,.string x.aa,.string x.table,.string x.name,.string x.role,.slice A6 n6 c6,.string x.rule.name,.int .i64 x.rule.kind,.slice A9 n9 c9,.int .i64 x.rule.low,.int .i64 x.rule.high,.string x.rule.aa,.string x.rule.table,.string x.rule.key,.int .i64 x.right,.bool x.opt] 40)).alloc (.cells #[.slice none 0 0,.slice none 0 0] 29):=⟨_,rfl⟩
 have aW:ag w W:=by rw [hW];exact (((ag.refl w).alloc _).alloc _).alloc _
 have r0:ap W (w.heap.size) [.slice An r.names.length aI,.slice Am r.members.length aK]:=by rw [hW];exact ap.up (ap.up (bv (ag.refl _) (by simp)))
 have r1:ap W (w.heap.size+1) [.int .i64 x.kind,.string x.aJ,.string x.aa,.string x.table,.string x.name,.string x.role,.slice A6 n6 c6,.string x.rule.name,.int .i64 x.rule.kind,.slice A9 n9 c9,.int .i64 x.rule.low,.int .i64 x.rule.high,.string x.rule.aa,.string x.rule.table,.string x.rule.key,.int .i64 x.right,.bool x.opt]:=by rw [hW];exact ap.up (bv (ag.refl _) (by simp))
 have r2:ap W (w.heap.size+1+1) [.slice none 0 0,.slice none 0 0]:=by rw [hW];exact bv (ag.refl _) (by simp)
 have zW:W.heap.size=w.heap.size+3:=by rw [hW];simp
 have HR:=gH r2;have br:=gH aW;have lc:=gH zW;have yK:=gH (Xm r An aI Am aK x.role W (aM aW hn) (bJ aW hm) s1);have xL:=gH (TQ r An aI Am aK x.role x.name W (aM aW hn) (bJ aW hm) s1 s2);have Kf:=gH (PD r An aI Am aK x.role x.name W (aM aW hn) (bJ aW hm));have z0:=r0.1;have z1:=r1.1;have z2:=r2.1;have x0:=r0.cell (j:=0) rfl;have x1:=r0.cell (j:=1) rfl;have y0:=r1.cell (j:=0) rfl;have y4:=r1.cell (j:=4) rfl;have y5:=r1.cell (j:=5) rfl;clear hn hm aW r0 r1 r2 zW s1 s2;by_cases h10:x.kind=10
 case pos =>
  rw [if_pos h10]
  go_enter Tryz.func60,Tryz.ntmps60
  go_wp2_with fail;rw [h10] at hW;rw [← hW];clear hW;refine yK.out.mono ?_;rintro e w1 ⟨⟨A1,n1,c1⟩,⟨A2,n2,c2⟩,rfl,a1,fj⟩;have row:=HR.out.az a1;have u0:=row.cell (j:=0) rfl;have u1:=row.cell (j:=1) rfl;have uz:=row.1;have f0:=row.2.2 0 (by simp);have f1:=row.2.2 1 (by simp);obtain ⟨F,hF⟩:∃ F,eC r (lR x.role r)=F:=⟨_,rfl⟩;rw [hF] at fj ⊢;have HP:=gH (xl (b:=w.heap.size+1+1) br.out a1 (by omega) (by have:=lc.out;omega) fj);have fJ:=gH row;obtain ⟨F1,F2⟩:=F;have qR:=gH hF;simp only [Hd.v];clear fj row a1 hF;go_wp2_with fail;refine bodyPost_ret (results_cell_tmp (v:=.agg #[.slice A1 n1 c1,.slice A2 n2 c2]) rfl _ rfl (fT (dg fJ.out rfl _ _))) rfl ?_;rw [qR.out];exact HP.out
 by_cases Aw:x.kind=12
 case pos =>
  rw [if_neg h10,if_pos Aw]
  go_enter Tryz.func60,Tryz.ntmps60
  go_wp2_with fail;rw [Aw] at hW;rw [← hW];clear hW;refine xL.out.mono ?_;rintro e w1 ⟨⟨A1,n1,c1⟩,⟨A2,n2,c2⟩,rfl,a1,fj⟩;have row:=HR.out.az a1;have u0:=row.cell (j:=0) rfl;have u1:=row.cell (j:=1) rfl;have uz:=row.1;have f0:=row.2.2 0 (by simp);have f1:=row.2.2 1 (by simp);obtain ⟨F,hF⟩:∃ F,eC r (iD ⟨x.role,x.name⟩ r)=F:=⟨_,rfl⟩;rw [hF] at fj ⊢;have HP:=gH (xl (b:=w.heap.size+1+1) br.out a1 (by omega) (by have:=lc.out;omega) fj);have fJ:=gH row;obtain ⟨F1,F2⟩:=F;have qR:=gH hF;simp only [Hd.v];clear fj row a1 hF;go_wp2_with fail;refine bodyPost_ret (results_cell_tmp (v:=.agg #[.slice A1 n1 c1,.slice A2 n2 c2]) rfl _ rfl (fT (dg fJ.out rfl _ _))) rfl ?_;rw [qR.out];exact HP.out
 rw [if_neg h10,if_neg Aw]
 go_enter Tryz.func60,Tryz.ntmps60
 go_wp2_with fail
 skip
 rw [← hW];clear hW;refine Kf.out.mono ?_;rintro e w1 ⟨⟨A1,n1,c1⟩,⟨A2,n2,c2⟩,rfl,a1,fj⟩;have row:=HR.out.az a1;have u0:=row.cell (j:=0) rfl;have u1:=row.cell (j:=1) rfl;have uz:=row.1;have f0:=row.2.2 0 (by simp);have f1:=row.2.2 1 (by simp);obtain ⟨F,hF⟩:∃ F,eC r (gD ⟨x.role,x.name⟩ r)=F:=⟨_,rfl⟩;rw [hF] at fj ⊢;have HP:=gH (xl (b:=w.heap.size+1+1) br.out a1 (by omega) (by have:=lc.out;omega) fj);have fJ:=gH row;obtain ⟨F1,F2⟩:=F;have qR:=gH hF;simp only [Hd.v];clear fj row a1 hF;go_wp2_with fail;refine bodyPost_ret (results_cell_tmp (v:=.agg #[.slice A1 n1 c1,.slice A2 n2 c2]) rfl _ rfl (fT (dg fJ.out rfl _ _))) rfl ?_;rw [qR.out];exact HP.out
theorem zI (o:bE) (As:Option Addr) (ar:Nat) (At:Option Addr) (ax:Nat) (t:cu) (Ac:Option Addr) (cc:Nat) (Ar:Option Addr) (cr:Nat) (w:World) (bS:aL w 2 fk As ar o.ae) (bB:aL w 5 dA At ax o.tables) (hcs:aL w 3 iv Ac cc t.ak) (lp:aL w 8 gI Ar cr t.rules) (h1:Small t.aa.size) (h2:Small t.name.size) (h3:Small t.owner.size) :
  Calls Tryz.prog 103 #[.agg #[.slice As o.ae.length ar,.slice At o.tables.length ax],.agg #[.string t.aa,.string t.name,.string t.owner,.slice Ac t.ak.length cc,.slice Ar t.rules.length cr]] w (ix w (cR o (dy t o))):=by
 have hlen:=bS.len;have fl:=bB.len;have sm:kA o:=⟨iy bS,iz bB⟩;have bR:=enters (P:=Tryz.prog) Tryz.func156 (by kernel_rfl) rfl
 have l1:w.heap.size < w.heap.size+1:=by omega
 have l2:w.heap.size < w.heap.size+1+1:=by omega
 obtain ⟨W,hW⟩:∃ W,W=((w.alloc (.cells #[.slice As o.ae.length ar,.slice At o.tables.length ax] 25)).alloc (.cells #[.string t.aa,.string t.name,.string t.owner,.slice Ac t.ak.length cc,.slice Ar t.rules.length cr] 53)).alloc (.cells #[.slice none 0 0,.slice none 0 0] 25):=⟨_,rfl⟩
 have aW:ag w W:=by rw [hW];exact (((ag.refl w).alloc _).alloc _).alloc _
 have yQ:ap W (w.heap.size+1) [.string t.aa,.string t.name,.string t.owner,.slice Ac t.ak.length cc,.slice Ar t.rules.length cr]:=by
  rw [hW];have:=(aO (w:=(w.alloc (.cells #[.slice As o.ae.length ar,.slice At o.tables.length ax] 25))) (c:=[.string t.aa,.string t.name,.string t.owner,.slice Ac t.ak.length cc,.slice Ar t.rules.length cr]) (t:=53) (ag.refl _)).az ((ag.refl _).alloc (.cells #[.slice none 0 0,.slice none 0 0] 25))
  simpa using this
 have r2:ap W (w.heap.size+1+1) [.slice none 0 0,.slice none 0 0]:=by
  rw [hW];have:=(aO (w:=((w.alloc (.cells #[.slice As o.ae.length ar,.slice At o.tables.length ax] 25)).alloc (.cells #[.string t.aa,.string t.name,.string t.owner,.slice Ac t.ak.length cc,.slice Ar t.rules.length cr] 53))) (c:=[.slice none 0 0,.slice none 0 0]) (t:=25) (ag.refl _))
  simpa using this
 have zW:W.heap.size=w.heap.size+3:=by rw [hW];simp
 have CT:=gH (jY o As ar At ax 156 #[.pointer (some ⟨w.heap.size+1,0,none⟩)] (dy t o) W (bm aW bS) (aQ aW bB) bR
  wQ (fun gA w1 hs ht L B n3 a hB hn hL ob hne r3=>Bz t Ac cc Ar cr o w1 hs ht L B n3 (w.heap.size+1) gA hn hL ob hne r3 (yQ.az a) (by omega) (cy (aW.trans a) hcs) (ee (aW.trans a) lp) sm h1 h2 h3))
 obtain ⟨rr,jz⟩:∃ rr,cR o (dy t o)=rr:=⟨_,rfl⟩;rw [jz] at CT ⊢;have br:=gH aW;have mB:=gH r2;have HZ:=gH zW;clear jz bS bB r2 aW zW yQ sm
 go_enter Tryz.func103,Tryz.ntmps103
 go_wp2_with fail;rw [← hW];clear hW;refine CT.out.mono ?_;rintro e w3 ⟨hs,ht,L,hL,rfl,a3,ob⟩;have b2:=mB.out.az a3;have d0:=b2.cell (j:=0) rfl;have d1:=b2.cell (j:=1) rfl;have f0:=b2.2.2 0 (by simp);have f1:=b2.2.2 1 (by simp);have z2:=b2.1;have mq:=gH b2;have iw:=gH (br.out.trans a3);have HO:=gH ob;have HL:=gH hL;clear b2 a3 ob hL;go_wp2_with fail;refine bodyPost_ret (results_cell_tmp (v:=.agg #[.slice hs.a rr.1.ae.length hs.c,.slice ht.a rr.1.tables.length ht.c]) rfl _ rfl (b9 (gU mq.out rfl _ _))) rfl ?_;exact gV iw.out HL.out HO.out (by omega) (by have:=HZ.out;omega) rfl
theorem Kb.Ji {P X:Nat→Prop} {W w w':World} (h:Kb P w w') (a:Kb X W w) (hP:∀ k,k < W.heap.size→P k→X k):Kb X W w' :=
 ⟨h.os.trans a.os,h.tape.trans a.tape,h.output.trans a.output,Nat.le_trans a.size h.size,fun k hk hn=>(h.block k (Nat.lt_of_lt_of_le hk a.size) (fun p=>hn (hP k hk p))).trans (a.block k hk hn)⟩
def TR (X:Nat→Prop) (w:World) (B n3:Nat) (r:bE × Int) (e:Ending) (w':World):Prop :=
 e=.returned (.int .i64 r.2)∧Kb (fun g=>B≤g∨X g) w w'∧(r.2=0→∃ hs ht L,L.map ay.t=r.1.tables∧bC w' B hs ht r.1.ae L∧ap w' n3 [.slice hs.a r.1.ae.length hs.c,.slice ht.a r.1.tables.length ht.c])
def Jj (X:Nat→Prop) (w:World) (r:bE × Int) (e:Ending) (w':World):Prop :=
 ∃ hs ht L,L.map ay.t=r.1.tables∧e=.returned (.tuple #[.agg #[.slice hs.a r.1.ae.length hs.c,.slice ht.a r.1.tables.length ht.c],.int .i64 r.2])∧Kb X w w'∧bC w' w.heap.size hs ht r.1.ae L
def vT (X:Nat→Prop) (w:World) (B n3:Nat) (hs ht:Hd) (ss:List gj) (L:List ay) (q:Nat) (r:cu × Int) (e:Ending) (w':World):Prop :=
 e=.returned (.int .i64 r.2)∧Kb (fun g=>B≤g∨X g) w w'∧(r.2=0→∃ x:ay,x.t=r.1∧bC w' B hs ht ss (L.set q x)∧ap w' n3 [.slice hs.a ss.length hs.c,.slice ht.a L.length ht.c])
theorem tT {X:Nat→Prop} {w w':World} {c:Int} (a:Kb X w w'):Jj X w (cx,c) (.returned (.tuple #[.agg #[.slice none 0 0,.slice none 0 0],.int .i64 c])) w':=⟨⟨none,0,0⟩,⟨none,0,0⟩,[],rfl,rfl,a,sJ _ _⟩
theorem zJ (X:Nat→Prop) (o:bE) (As:Option Addr) (ar:Nat) (At:Option Addr) (ax:Nat) (g:FuncId) (cs:Array Value) (r:bE × Int) (w:World) (bS:aL w 2 fk As ar o.ae) (bB:aL w 5 dA At ax o.tables)
  (bR:∀ (args:Array Value) (w:World),(callFunc g args).run Tryz.prog w=.ok (.enter g args) w) (hr:r.2≠0→r.1=cx) (hX:∀ g,X g→g < w.heap.size)
  (uQ:bF o=true→∀ (w':World) (hs ht:Hd) (L:List ay) (B n3:Nat),ag w w'→w.heap.size≤B→B≤n3→L.map ay.t=o.tables→bC w' B hs ht o.ae L→(∀ g∈hs.blk++(ht.blk++L.flatMap ay.bI),g≠n3) →
   ap w' n3 [.slice hs.a o.ae.length hs.c,.slice ht.a o.tables.length ht.c]→Calls Tryz.prog g (#[.pointer (some ⟨n3,0,none⟩)]++cs) w' (TR X w' B n3 r)) :
  Calls Tryz.prog 129 #[.agg #[.slice As o.ae.length ar,.slice At o.tables.length ax],.func (.func g) #[] cs] w (Jj X w (cR o r)):=by
 have hlen:=bS.len;have fl:=bB.len
 have l1:w.heap.size < w.heap.size+1:=by omega
 have l2:w.heap.size < w.heap.size+1+1:=by omega
 obtain ⟨W,hW⟩:∃ W,W=(w.alloc (.cells #[.slice As o.ae.length ar,.slice At o.tables.length ax] 25)).alloc (.cells #[.slice none 0 0,.slice none 0 0] 25):=⟨_,rfl⟩
 have aW:ag w W:=by rw [hW];exact ((ag.refl w).alloc _).alloc _
 have r1:ap W w.heap.size [.slice As o.ae.length ar,.slice At o.tables.length ax]:=by rw [hW];exact (aO (ag.refl _)).az ((ag.refl _).alloc _)
 have r2:ap W (w.heap.size+1) [.slice none 0 0,.slice none 0 0]:=by
  rw [hW];have:=(aO (w:=w.alloc (.cells #[.slice As o.ae.length ar,.slice At o.tables.length ax] 25)) (c:=[.slice none 0 0,.slice none 0 0]) (t:=25) (ag.refl _))
  simpa using this
 have zW:W.heap.size=w.heap.size+2:=by rw [hW];simp
 obtain ⟨c,hc⟩:∃ c,bF o=c:=⟨_,rfl⟩
 have CK:=gH (show ∀ w',ag w w'→Calls Tryz.prog 42 #[.agg #[.slice As o.ae.length ar,.slice At o.tables.length ax]] w' fun e w''=>e=.returned (.int .i64 (if c=true then 0 else 63))∧ag w' w'' from
  fun w' a=>(lg o As ar At ax w' (bm a bS) (aQ a bB)).mono fun e w'' ⟨he,hw⟩=>⟨he.trans (by unfold eK;rw [hc]),hw⟩)
 have CO:=gH (show c=true→∀ w',ag w w'→_ from fun h w' a=>GJ o As ar At ax w' (bm a bS) (aQ a bB) (jM (hc.trans h)));have GY:=gH (fun h:c=true=>uQ (hc.trans h));have HE:=gH (show cR o r=if c=true then r else (cx,63) by unfold cR;rw [hc]);have br:=gH aW;have HR:=gH hr;have HX:=gH hX;have qs:=gH r1;have mB:=gH r2;have HZ:=gH zW;clear hc uQ bS bB r1 r2 aW zW hr hX
 go_enter Tryz.func129,Tryz.ntmps129
 go_wp2_with fail;rw [← hW];refine (CK.out W br.out).mono ?_;rintro e w1 ⟨rfl,a1⟩;have b2:=mB.out.az a1;have d0:=b2.cell (j:=0) rfl;have d1:=b2.cell (j:=1) rfl;have f0:=b2.2.2 0 (by simp);have f1:=b2.2.2 1 (by simp);have z2:=b2.1;have cG:=gH (br.out.trans a1);have n7:=gH b2;clear hW
 cases c
 ·clear a1 b2
  go_wp2_with fail;obtain ⟨F,hF⟩:∃ F,F=(w1.setCell ⟨w.heap.size+1,0,none⟩ (.slice none 0 0)).setCell ⟨w.heap.size+1,1,none⟩ (.slice none 0 0):=⟨_,rfl⟩
  have rF:ap F (w.heap.size+1) [.slice none 0 0,.slice none 0 0]:=by rw [hF];exact (n7.out.set 0 _ (by simp)).set 1 _ (by simp)
  have aF:ag w F:=by rw [hF];exact (cG.out.setCell _ _ (Nat.le_succ _)).setCell _ _ (Nat.le_succ _)
  rw [← hF];refine bodyPost_ret (results_cell_tmp (v:=.agg #[.slice none 0 0,.slice none 0 0]) rfl _ rfl ?hl) rfl ?_
  case hl=>exact b9 rF
  rw [HE.out];exact tT (Kb.aH aF)
 ·have b1:=qs.out.az a1
  have c0:=b1.cell (j:=0) rfl;have c1:=b1.cell (j:=1) rfl;have z1:=b1.1;have nS:=gH (show w.heap.size+2≤w1.heap.size by have:=a1.size;have:=HZ.out;omega);clear a1 b1 b2;go_wp2_with fail;refine (CO.out (by simp) w1 cG.out).mono ?_;rintro e w2 ⟨hs,ht,L,hL,rfl,a2,ob⟩;obtain ⟨W3,hW3⟩:∃ W3,W3=w2.alloc (.cells #[.slice hs.a o.ae.length hs.c,.slice ht.a o.tables.length ht.c] 25):=⟨_,rfl⟩
  have a3:ag w2 W3:=by rw [hW3];exact (ag.refl _).alloc _
  have r3:ap W3 w2.heap.size [.slice hs.a o.ae.length hs.c,.slice ht.a o.tables.length ht.c]:=by rw [hW3];exact aO (ag.refl _)
  have HD:=gH (GY.out (by simp) W3 hs ht L w1.heap.size w2.heap.size (cG.out.trans (a2.trans a3)) cG.out.size a2.size hL (ob.az a3) (fun g hg e=>by have:=(ob.lt g hg).2;omega) r3);have iw:=gH (cG.out.trans (a2.trans a3));have mq:=gH (n7.out.az (a2.trans a3));clear a2 a3 ob hL CO GY r3 c0 c1 z1 d0 d1 f0 f1 z2 CK;obtain ⟨r0,rc⟩:=r;have mG:=gH (show w.heap.size+1 < w1.heap.size from n7.out.1);go_wp2_with fail;rw [← hW3];clear hW3;refine HD.out.mono ?_;rintro e w4 ⟨rfl,k4,AL⟩;have b4:=k4.row mq.out (fun h=>h.elim (fun h=>by have:=mG.out;omega) (fun h=>by have:=HX.out _ h;omega));have d0:=b4.cell (j:=0) rfl;have d1:=b4.cell (j:=1) rfl;have f0:=b4.2.2 0 (by simp);have f1:=b4.2.2 1 (by simp);have z2:=b4.1;have sK:=gH b4;have jr:=gH (k4.Ji (Kb.aH iw.out) (fun g hg h1=>h1.resolve_left (by have:=cG.out.size;omega)));have Ky:=gH AL;clear b4 k4 AL;by_cases oI:rc=0
  ·subst oI
   obtain ⟨hs',ju,L',Nc,Kz,r4⟩:=Ky.out rfl;have c0:=r4.cell (j:=0) rfl;have c1:=r4.cell (j:=1) rfl;have z3:=r4.1;have HO:=gH Kz;have V7:=gH Nc;clear Kz Nc r4;go_wp2_with fail;obtain ⟨F,hF⟩:∃ F,F=(w4.setCell ⟨w.heap.size+1,0,none⟩ (.slice hs'.a r0.ae.length hs'.c)).setCell ⟨w.heap.size+1,1,none⟩ (.slice ju.a r0.tables.length ju.c):=⟨_,rfl⟩
   have kF:Kb (fun g=>g=w.heap.size+1) w4 F:=by rw [hF];exact (Kb.set _ _ _ _).trans (Kb.set _ _ _ _)
   have rF:ap F (w.heap.size+1) [.slice hs'.a r0.ae.length hs'.c,.slice ju.a r0.tables.length ju.c]:=by rw [hF];exact (sK.out.set 0 _ (by simp)).set 1 _ (by simp)
   rw [← hF];refine bodyPost_ret (results_cell_tmp (v:=.agg #[.slice hs'.a r0.ae.length hs'.c,.slice ju.a r0.tables.length ju.c]) rfl _ rfl ?hl2) rfl ?_
   case hl2=>exact b9 rF
   rw [HE.out];refine ⟨hs',ju,L',V7.out,rfl,kF.Ji jr.out (fun g hg e=>by omega),?_⟩;refine bC.down (HO.out.kb kF fun g hg e=>?_) (by have:=cG.out.size;omega);have:=(HO.out.lt g hg).1;have:=mG.out;omega
  ·have t1:(rc != 0)=true:=by simpa using oI
   have rT:r0=cx:=HR.out oI;have je:=gH rT;have EG:=gH oI;clear oI rT;go_wp2_with fail;obtain ⟨F,hF⟩:∃ F,F=(w4.setCell ⟨w.heap.size+1,0,none⟩ (.slice none 0 0)).setCell ⟨w.heap.size+1,1,none⟩ (.slice none 0 0):=⟨_,rfl⟩
   have rF:ap F (w.heap.size+1) [.slice none 0 0,.slice none 0 0]:=by rw [hF];exact (sK.out.set 0 _ (by simp)).set 1 _ (by simp)
   have aF:Kb X w F:=by rw [hF];exact (show Kb (fun g=>g=w.heap.size+1) w4 _ from (Kb.set _ _ _ _).trans (Kb.set _ _ _ _)).Ji jr.out (fun g hg e=>by omega)
   rw [← hF];refine bodyPost_ret (results_cell_tmp (v:=.agg #[.slice none 0 0,.slice none 0 0]) rfl _ rfl ?Q0) rfl ?_
   case Q0=>exact b9 rF
   rw [HE.out,je.out];exact tT aF
theorem Ch (X:Nat→Prop) (o:bE) (s n:ByteArray) (g2:FuncId) (GZ:Array Value) (f:cu→cu × Int) (w:World) (hs ht:Hd) (L:List ay) (B n3 bs bt bd:Nat) (hL:L.map ay.t=o.tables) (ob:bC w B hs ht o.ae L) (sm:kA o)
  (r3:ap w n3 [.slice hs.a o.ae.length hs.c,.slice ht.a o.tables.length ht.c]) (c1:w.cell? ⟨bs,0,none⟩=some (.string s)) (c2:w.cell? ⟨bt,0,none⟩=some (.string n)) (c3:w.cell? ⟨bd,0,none⟩=some (.func (.func g2) #[] GZ))
  (bR:∀ (args:Array Value) (w:World),(callFunc g2 args).run Tryz.prog w=.ok (.enter g2 args) w)
  (uQ:∀ (w':World) (q gt:Nat) (hq:q < L.length),ag w w'→ht.a=some ⟨gt,0,none⟩→bj o.tables s n=q→Calls Tryz.prog g2 (#[.agg #[.slice hs.a o.ae.length hs.c,.slice ht.a o.tables.length ht.c],.pointer (some ⟨gt,q*5,none⟩)]++GZ) w' (vT X w' B n3 hs ht o.ae L q (f L[q].t))) :
  Calls Tryz.prog 198 #[.pointer (some ⟨n3,0,none⟩),.pointer (some ⟨bs,0,none⟩),.pointer (some ⟨bt,0,none⟩),.pointer (some ⟨bd,0,none⟩)] w (TR X w B n3 (cY o s n f)):=by
 have pD:fL o.ae L=o:=by unfold fL;rw [hL]
 have tabs:=ob.tabs (by rw [pD];exact sm);rw [hL] at tabs;obtain ⟨i,hi⟩:∃ i,bj o.tables s n=i:=⟨_,rfl⟩
 have ye : -1≤i∧i < o.tables.length:=by rw [← hi];exact bg _ _
 have CW:=gH (show ∀ x:ii w,Calls Tryz.prog 43 #[.agg #[.slice hs.a o.ae.length hs.c,.slice ht.a o.tables.length ht.c],.string s,.string n] (bH w x) fun e w'=>e=.returned (.tuple #[.int .i64 i,.bool (decide (0≤i))])∧ag (bH w x) w' from
  fun x=>(jL (.slice hs.a o.ae.length hs.c) ht.a ht.c o.tables s n (bH w x) (aQ ((ag.refl w).bH x) tabs)).mono fun e w' ⟨he,hw⟩=>⟨he.trans (by rw [hi]),hw⟩)
 have e0:=r3.cell (j:=0) rfl;have e1:=r3.cell (j:=1) rfl;have z3:=r3.1;have y1:=World.block_lt_of_cell? _ _ c1;have y2:=World.block_lt_of_cell? _ _ c2;have y3:=World.block_lt_of_cell? _ _ c3;have nT:=gH (show L.length=o.tables.length by rw [← hL];simp);have hlen:o.tables.length*16≤140737488351232:=tabs.len;have HT:=gH ob.tab
 have GY:=gH uQ
 have HL:=gH hL;clear pD tabs uQ ob hL sm r3;by_cases h0:0≤i
 ·obtain ⟨q,rfl⟩:=Int.eq_ofNat_of_zero_le h0
  have hq:q < o.tables.length:=by omega
  obtain ⟨gt,gX,hgb,_⟩:=jN HT.out (by have:=nT.out;omega);obtain ⟨At,nt,ct⟩:=ht;have Oe:At=some ⟨gt,0,none⟩:=gX;subst Oe;have HI:=gH hi
  have hd:decide (0≤(q:Int))=true:=by simp
  clear gX hi h0 ye HT
  go_enter Tryz.func198,Tryz.ntmps198
  go_wp2_with fail;refine av (by kernel_rfl) (by kernel_rfl) ?_
  repeat (go_big_quiet_step ((go_at_call 43;exact Calls.bD (CW.out _))))
  refine wpQuiet_nil ?_;intro _ hw';obtain ⟨x,hw''⟩:=hw';subst hw'';obtain ⟨W,hW⟩:∃ W,W=bH w x:=⟨_,rfl⟩
  have aW:ag w W:=by rw [hW];exact (ag.refl w).bH x
  rw [← hW];have E0:=aW.cell_kept e0;have E1:=aW.cell_kept e1;have C3:=aW.cell_kept c3;have Z3:=Nat.lt_of_lt_of_le z3 aW.size;have Y3:=Nat.lt_of_lt_of_le y3 aW.size;have br:=gH aW;clear hW CW e0 e1 c1 c2 c3 z3 y1 y2 y3 aW
  have Kd:(q:Int) < (o.tables.length:Int):=by omega
  have hqz:(0:Int)≤(q:Int):=by omega
  go_wp2_with fail
  go_still_tail 10,(by kernel_rfl)
  go_wp2_with fail
  have Sm:q < L.length:=by rw [nT.out];exact hq
  refine (GY.out _ q gt Sm br.out.drew rfl HI.out).mono ?_;rintro e w4 ⟨rfl,k4,AL⟩
  have Sn:L[q].t=o.tables[q]:=by
   have:(L.map ay.t)[q]'(by simpa using Sm)=o.tables[q]:=by simp only [HL.out]
   simpa using this
  rw [Sn] at AL ⊢;have KC:=gH ((Kb.aH br.out.drew).trans k4);have Ky:=gH AL;clear k4 AL Sn;have HE:=gH (nA (f:=f) HI.out hq);obtain ⟨fr,mC⟩:∃ fr,f o.tables[q]=fr:=⟨_,rfl⟩;rw [mC] at HE Ky ⊢;clear mC;obtain ⟨r0,rc⟩:=fr;go_wp2_with fail;go_ret;rw [HE.out];by_cases oI:rc=0
  ·subst oI
   rw [if_pos rfl];refine ⟨rfl,KC.out,fun _=>?_⟩;obtain ⟨x',Nd,Kz,r4⟩:=Ky.out rfl;refine ⟨hs,⟨some ⟨gt,0,none⟩,nt,ct⟩,L.set q x',?_,Kz,?_⟩
   ·rw [List.map_set,HL.out,Nd]
   ·have hl:=nT.out
    rw [hl] at r4
    simpa using r4
  ·rw [if_neg (by simpa using oI)]
   exact ⟨rfl,KC.out,fun h=>absurd h (by simpa using oI)⟩
 ·have HI:=gH hi
  have hd:decide (0≤i)=false:=by simpa using h0
  clear hi
  go_enter Tryz.func198,Tryz.ntmps198
  go_wp2_with fail;refine av (by kernel_rfl) (by kernel_rfl) ?_
  repeat (go_big_quiet_step ((go_at_call 43;exact Calls.bD (CW.out _))))
  refine wpQuiet_nil ?_;intro _ hw';obtain ⟨x,hw''⟩:=hw';subst hw'';go_wp2_with fail;go_ret;rw [nz (by rw [HI.out];omega)];exact ⟨rfl,Kb.aH ((ag.refl w).bH x),fun h=>by simp at h⟩
theorem FD (X:Nat→Prop) (o:bE) (As:Option Addr) (ar:Nat) (At:Option Addr) (ax:Nat) (s n:ByteArray) (g:FuncId) (cs:Array Value) (f:cu→cu × Int) (w:World) (bS:aL w 2 fk As ar o.ae) (bB:aL w 5 dA At ax o.tables)
  (bR:∀ (args:Array Value) (w:World),(callFunc g args).run Tryz.prog w=.ok (.enter g args) w)
  (hX:∀ g,X g→g < w.heap.size) (uQ:bF o=true→∀ (w':World) (hs ht:Hd) (L:List ay) (B n3 q gt:Nat) (hq:q < L.length),ag w w'→w.heap.size≤B→B≤n3→L.map ay.t=o.tables→bC w' B hs ht o.ae L→(∀ g∈hs.blk++(ht.blk++L.flatMap ay.bI),g≠n3) →
   ap w' n3 [.slice hs.a o.ae.length hs.c,.slice ht.a o.tables.length ht.c]→ht.a=some ⟨gt,0,none⟩→bj o.tables s n=q→Calls Tryz.prog g (#[.agg #[.slice hs.a o.ae.length hs.c,.slice ht.a o.tables.length ht.c],.pointer (some ⟨gt,q*5,none⟩)]++cs) w' (vT X w' B n3 hs ht o.ae L q (f L[q].t))) :
  Calls Tryz.prog 133 #[.agg #[.slice As o.ae.length ar,.slice At o.tables.length ax],.string s,.string n,.func (.func g) #[] cs] w (Jj X w (cR o (cY o s n f))):=by
 have hlen:=bS.len;have fl:=bB.len;have rh:=enters (P:=Tryz.prog) Tryz.func198 (by kernel_rfl) rfl
 have l1:w.heap.size < w.heap.size+1:=by omega
 have l2:w.heap.size < w.heap.size+1+1:=by omega
 have l3:w.heap.size < w.heap.size+1+1+1:=by omega
 have l4:w.heap.size < w.heap.size+1+1+1+1:=by omega
 have l5:w.heap.size < w.heap.size+1+1+1+1+1:=by omega
 have sm:kA o:=⟨iy bS,iz bB⟩;obtain ⟨W,hW⟩:∃ W,W=((((w.alloc (.cells #[.slice As o.ae.length ar,.slice At o.tables.length ax] 25)).alloc (.cells #[.string s] 9)).alloc (.cells #[.string n] 9)).alloc (.cells #[.func (.func g) #[] cs] 174)).alloc (.cells #[.slice none 0 0,.slice none 0 0] 25):=⟨_,rfl⟩
 have aW:ag w W:=by rw [hW];exact (((((ag.refl w).alloc _).alloc _).alloc _).alloc _).alloc _
 have c1:W.cell? ⟨w.heap.size+1,0,none⟩=some (.string s):=by
  rw [hW];(repeat (refine (World.cell?_alloc_past _ _ _ (by first | (simp;done) | (simp;omega))).trans ?_));exact World.cell?_alloc_at _ _ _ _ (by simp)
 have c2:W.cell? ⟨w.heap.size+1+1,0,none⟩=some (.string n):=by
  rw [hW];(repeat (refine (World.cell?_alloc_past _ _ _ (by first | (simp;done) | (simp;omega))).trans ?_));exact World.cell?_alloc_at _ _ _ _ (by simp)
 have c3:W.cell? ⟨w.heap.size+1+1+1,0,none⟩=some (.func (.func g) #[] cs):=by
  rw [hW];(repeat (refine (World.cell?_alloc_past _ _ _ (by first | (simp;done) | (simp;omega))).trans ?_));exact World.cell?_alloc_at _ _ _ _ (by simp)
 have r4:ap W (w.heap.size+1+1+1+1) [.slice none 0 0,.slice none 0 0]:=by
  rw [hW];have:=(aO (w:=(((w.alloc (.cells #[.slice As o.ae.length ar,.slice At o.tables.length ax] 25)).alloc (.cells #[.string s] 9)).alloc (.cells #[.string n] 9)).alloc (.cells #[.func (.func g) #[] cs] 174)) (c:=[.slice none 0 0,.slice none 0 0]) (t:=25) (ag.refl _))
  simpa using this
 have zW:w.heap.size≤W.heap.size:=aW.size
 have CC:=gH (zJ X o As ar At ax 198 #[.pointer (some ⟨w.heap.size+1,0,none⟩),.pointer (some ⟨w.heap.size+1+1,0,none⟩),.pointer (some ⟨w.heap.size+1+1+1,0,none⟩)] (cY o s n f) W (bm aW bS) (aQ aW bB) rh uU (fun g hg=>Nat.lt_of_lt_of_le (hX g hg) aW.size)
  (fun gA w' hs ht L B n3 a' hB hn hL ob hne r3=>Ch X o s n g cs f w' hs ht L B n3 _ _ _ hL ob sm r3 (a'.cell_kept c1) (a'.cell_kept c2) (a'.cell_kept c3) bR
   (fun w'' q gt hq a'' gX Kd=>uQ gA w'' hs ht L B n3 q gt hq (aW.trans (a'.trans a'')) (Nat.le_trans zW hB) hn hL (ob.az a'') hne (r3.az a'') gX Kd)))
 have HX:=gH hX;have br:=gH aW;have V8:=gH r4;have lc:=gH (show W.heap.size=w.heap.size+5 by rw [hW];simp);obtain ⟨rr,jz⟩:∃ rr,cR o (cY o s n f)=rr:=⟨_,rfl⟩;rw [jz] at CC ⊢;clear c1 c2 c3 r4 aW bS bB uQ zW sm jz hX
 go_enter Tryz.func133,Tryz.ntmps133
 go_wp2_with fail;rw [← hW];clear hW;refine CC.out.mono ?_;rintro e w1 ⟨hs,ht,L,hL,rfl,a1,ob⟩;have b4:=a1.row V8.out (fun h=>by have:=HX.out _ h;omega);have d0:=b4.cell (j:=0) rfl;have d1:=b4.cell (j:=1) rfl;have f0:=b4.2.2 0 (by simp);have f1:=b4.2.2 1 (by simp);have z2:=b4.1;have sK:=gH b4;have cG:=gH (a1.Ji (Kb.aH br.out) (fun _ _ h=>h));have HO:=gH ob;have HL:=gH hL;clear b4 a1 ob hL CC;go_wp2_with fail;obtain ⟨F,hF⟩:∃ F,F=(w1.setCell ⟨w.heap.size+1+1+1+1,0,none⟩ (.slice hs.a rr.1.ae.length hs.c)).setCell ⟨w.heap.size+1+1+1+1,1,none⟩ (.slice ht.a rr.1.tables.length ht.c):=⟨_,rfl⟩
 have kF:Kb (fun g=>g=w.heap.size+1+1+1+1) w1 F:=by rw [hF];exact (Kb.set _ _ _ _).trans (Kb.set _ _ _ _)
 have rF:ap F (w.heap.size+1+1+1+1) [.slice hs.a rr.1.ae.length hs.c,.slice ht.a rr.1.tables.length ht.c]:=by rw [hF];exact (sK.out.set 0 _ (by simp)).set 1 _ (by simp)
 rw [← hF];refine bodyPost_ret (results_cell_tmp (v:=.agg #[.slice hs.a rr.1.ae.length hs.c,.slice ht.a rr.1.tables.length ht.c]) rfl _ rfl ?hl) rfl ?_
 case hl=>exact b9 rF
 refine ⟨hs,ht,L,HL.out,rfl,kF.Ji cG.out (fun g hg e=>by omega),?_⟩;have hz:=lc.out;refine bC.down (HO.out.kb kF fun g hg e=>?_) (show w.heap.size≤W.heap.size by omega);have:=(HO.out.lt g hg).1;omega
end Go.Proofs.YtmflccbnoeaafaaGreat
