import Derived.Test.YtakddkhipelmjaaGreatPartH15
set_option maxRecDepth 100000
set_option linter.unusedVariables false
set_option maxHeartbeats 64000000
namespace Go.Proofs.YtakddkhipelmjaaGreat
open Go.Deep Go.RowKit
theorem dD.GG {w:World} {cs:List Value} {m:fo} (h:dD w cs m):∃ A c,cs[7]? = some (.slice A m.aQ.length c)∧az w 5 fj A c m.aQ:=by
 obtain ⟨As,c1,At,c2,An,c3,Am,c4,Ag,c5,Ad,cd,Al,cl,rfl,h9⟩:=h.at
 exact ⟨Ad,cd,rfl,h9.GG⟩
theorem dD.CU {w:World} {cs:List Value} {m:fo} (h:dD w cs m):∃ A c,cs[8]? = some (.slice A m.bp.length c)∧az w 4 fq A c m.bp:=by
 obtain ⟨As,c1,At,c2,An,c3,Am,c4,Ag,c5,Ad,cd,Al,cl,rfl,h9⟩:=h.at
 exact ⟨Al,cl,rfl,h9.CU⟩
theorem dD.Pr {w w':World} {cs:List Value} {m:fo} {l:List eZ} {A:Option Addr} {c:Nat} (h:dD w cs m) (a:ag w w') (s:az w' 4 fq A c l):dD w' (cs.set 8 (.slice A l.length c)) { m with bp:=l }:=by
 obtain ⟨As,c1,At,c2,An,c3,Am,c4,Ag,c5,Ad,cd,Al,cl,rfl,h9⟩:=h.at
 have h:=iJ.aA h9 a;exact (show iJ w' { m with bp:=l } As c1 At c2 An c3 Am c4 Ag c5 Ad cd A c from ⟨h.cat,h.GG,s⟩).w
theorem dJ.Be {B D:Nat} {w w2 F:World} {cs:List Value} {m:fo} {l:List eZ} {A:Option Addr} {c:Nat} (h:dJ B w cs m) (hB:B≤w.heap.size) (a:ag w w2) (hD:w.heap.size≤D) (o:w2.ownsRow D 55 4 (.slice A l.length c) l.length (l.flatMap eA)) (hs:Small (l.length*16)) (k:Kb (fun g=>w.heap.size≤g∧g < D) w2 F):dJ B F (cs.set 8 (.slice A l.length c)) { m with bp:=l }:=by
 obtain ⟨S,hS,hh⟩:=h
 refine dJ.of (S:=fun j=>(S j∧j < w.heap.size)∨jZ (.slice A l.length c) j) (fun j e=>e.elim (fun e=>(hS j e.1).1) fun e=>Nat.le_trans hB (Nat.le_trans hD (o.lt j e).1)) fun V kv=>?_
 have k2:Kb (fun j=>¬ ((S j∧j < w.heap.size)∨jZ (.slice A l.length c) j)) w2 V:=(k.mono fun j _ e e'=>by
  rcases e' with e' | e'
  ·omega
  ·have:=(o.lt j e').1;omega).trans kv
 have h1:=hh V (((Kb.aO a).trans k2).mono fun j hj e e'=>e (.inl ⟨e',(hS j e').2⟩))
 have o2:=br o k2 fun g hg e=>e (.inr hg)
 have s2:az V 4 fq A c l:=dS (h:=⟨A,l.length,c⟩) eA o2 (fun x hx=>⟨rfl,rfl⟩) hs;exact h1.Pr (ag.refl V) s2
def FR:iF:=⟨0,0,0,0,0⟩
def fA (l:List iF) (c:Int):iF:=if bu (fun d:iF=>d.aC==c) l < 0 then FR else l.getD (bu (fun d:iF=>d.aC==c) l).toNat FR
theorem np {w:World} {p:Nat} {zs:List Value} (d:iF) (r:ai w p zs) (hz:zs.length=5) :
  (ym ⟨p,0,none⟩ (.agg #[.int .i64 d.aC,.int .i64 d.number,.int .i64 d.code,.int .i64 d.fence,.int .i64 d.version])).run Tryz.prog w=.ok () (w.setCells p 0 (cj d))∧ai (w.setCells p 0 (cj d)) p (cj d)∧(uw ⟨p,0,none⟩).run Tryz.prog (w.setCells p 0 (cj d))=.ok (.agg #[.int .i64 d.aC,.int .i64 d.number,.int .i64 d.code,.int .i64 d.fence,.int .i64 d.version]) (w.setCells p 0 (cj d))∧Kb (fun g=>g=p) w (w.setCells p 0 (cj d)):=by
 have r2:ai (w.setCells p 0 (cj d)) p (cj d):=by simpa using eB (cj d) w [] zs r (by rw [hz];rfl)
 exact ⟨ju (T:=48) (k:=5) (vs:=cj d) (by kernel_rfl) r hz rfl (by simp [cj,Value.oneCell']),r2,gA (T:=48) Tryz.underlying48 (by kernel_rfl) r2 rfl,cF p (cj d) w 0⟩
theorem Hr {w:World} {b o:Nat} {d:iF} (c0:w.cell? ⟨b,o,none⟩=some (.int .i64 d.aC)) (c1:w.cell? ⟨b,o+1,none⟩=some (.int .i64 d.number)) (c2:w.cell? ⟨b,o+2,none⟩=some (.int .i64 d.code)) (c3:w.cell? ⟨b,o+3,none⟩=some (.int .i64 d.fence)) (c4:w.cell? ⟨b,o+4,none⟩=some (.int .i64 d.version)) :
  (uw ⟨b,o,none⟩).run Tryz.prog w=.ok (.agg #[.int .i64 d.aC,.int .i64 d.number,.int .i64 d.code,.int .i64 d.fence,.int .i64 d.version]) w:=by
 have:=EB w b o (by rw [c0];rfl) (by rw [c1];rfl) (by rw [c2];rfl) (by rw [c3];rfl) (by rw [c4];rfl);rw [c0,c1,c2,c3,c4] at this;exact this
theorem NA (m:fo) (cs:List Value) (c:Int) (w:World) (H:dD w cs m) :
  Calls Tryz.prog 13 #[.agg cs.toArray,.int .i64 c] w fun e w'=>e=.returned (.agg #[.int .i64 (fA m.aQ c).aC,.int .i64 (fA m.aQ c).number,.int .i64 (fA m.aQ c).code,.int .i64 (fA m.aQ c).fence,.int .i64 (fA m.aQ c).version])∧ag w w':=by
 obtain ⟨A,ca,XF,dv⟩:=H.GG;obtain ⟨W,hW⟩:∃ W,W=((w.alloc (.cells cs.toArray 36)).alloc (.cells #[.int .i64 c] 3)).alloc (.cells #[.int .i64 0,.int .i64 0,.int .i64 0,.int .i64 0,.int .i64 0] 48):=⟨_,rfl⟩
 have aW:ag w W:=by rw [hW];exact (((ag.refl w).alloc _).alloc _).alloc _
 have zW:W.heap.size=w.heap.size+3:=by rw [hW];simp
 have r0:ai W w.heap.size cs:=by rw [hW];exact ai.up (ai.up (aR (ag.refl _) (by simp)))
 have r1:ai W (w.heap.size+1) [.int .i64 c]:=by rw [hW];exact ai.up (aR (ag.refl _) (by simp))
 have r2:ai W (w.heap.size+1+1) [.int .i64 0,.int .i64 0,.int .i64 0,.int .i64 0,.int .i64 0]:=by rw [hW];exact aR (ag.refl _) (by simp)
 have y7:=r0.cell XF
 have Ng:∀ (fn:Fn) (first cap:Array Value) (w:World),(Instr.makeFunc fn first cap).run Tryz.prog w=.ok (.func fn first cap) w:=fun _ _ _ _=>rfl
 obtain ⟨k,hk⟩:∃ k,bu (fun d:iF=>d.aC==c) m.aQ=k:=⟨_,rfl⟩;have Ps:=aT (fun d:iF=>d.aC==c) m.aQ;rw [hk] at Ps;have C:=gH (hk▸Pj A ca m.aQ 38 #[.pointer (some ⟨w.heap.size+1,0,none⟩)] (fun d=>d.aC==c) W (dv.aA aW fun _ _ h=>h) (enters (P:=Tryz.prog) Tryz.func38 (by kernel_rfl) rfl) (fun w' a i hi=>KR m.aQ[i] c _ w' (r1.aA a).1 ((r1.aA a).cell (j:=0) rfl)));have HS:=gH dv;have HR:=gH (And.intro r0 r2);have HA:=gH aW;have HK:=gH hk;have HC7:=gH XF;have z0:=r0.1;have z1:=r1.1;clear H dv aW r0 r1 r2 hk XF zW
 go_in
 go_upto_region 1 with fail
 rw [← hW];clear hW;go_wp2_with fail;refine C.out.mono ?_;rintro e w1 ⟨rfl,a1⟩;have dc:=gH a1;have z0:=(HR.out.1.aA a1).1;have y7:=(HR.out.1.aA a1).cell HC7.out;by_cases h0:k < 0
 ·obtain ⟨s1,r3,s2,kb⟩:=np FR (HR.out.2.aA a1) rfl
  unfold FR at s1;simp only at s1;have HE:=gH (kb.aJ (HA.out.trans a1) fun g hg e=>by have e:g=_:=e;omega);have S2:=gH s2;have HL:=gH (show fA m.aQ c=FR from by unfold fA;rw [HK.out,if_pos h0]);clear a1 r3 kb s2;go_wp2;refine bodyPost_ret (bB rfl _ rfl S2.out) rfl ?_;rw [HL.out];exact ⟨rfl,HE.out⟩
 ·obtain ⟨i,rfl⟩:∃ i:Nat,k=i:=⟨k.toNat,by omega⟩
  have hi:i < m.aQ.length:=by omega
  obtain ⟨b,off,hA,hb,c0,c1,c2,c3,c4⟩:=qP (HS.out.aA (HA.out.trans a1) fun _ _ h=>h) hi;subst hA;have HL:=gH (show fA m.aQ c=m.aQ[i] from by unfold fA;rw [HK.out,if_neg h0];simp [List.getD,hi]);obtain ⟨d,hd⟩:∃ d,m.aQ[i]=d:=⟨_,rfl⟩;rw [hd] at c0 c1 c2 c3 c4 HL;have l1:=Hr c0 c1 c2 c3 c4;obtain ⟨s1,r3,s2,kb⟩:=np d (HR.out.2.aA a1) rfl;have HE:=gH (kb.aJ (HA.out.trans a1) fun g hg e=>by have e:g=_:=e;omega);have S2:=gH s2;clear a1 r3 kb s2 hd c0 c1 c2 c3 c4;go_wp2;refine bodyPost_ret (bB rfl _ rfl S2.out) rfl ?_;rw [HL.out];exact ⟨rfl,HE.out⟩
def yn (l:List eZ) (q:Int):List eZ:=l.filter fun x=>!(x.seq==q)
theorem De (m:fo) (cs oc:List Value) (q:Int) (B:Nat) (w:World) (hB:B≤w.heap.size) (H:dJ B w cs m) (hl:oc.length=23) (hq:oc[22]? = some (.int .i64 q)) (hn:m.bp.length≤1000000) :
  Calls Tryz.prog 36 #[.agg cs.toArray,.agg oc.toArray] w (sX B w ({ m with bp:=yn m.bp q },0)):=by
 obtain ⟨A,ca,ux,dv⟩:=H.w.CU;obtain ⟨W,hW⟩:∃ W,W=((w.alloc (.cells cs.toArray 36)).alloc (.cells oc.toArray 60)).alloc (.cells #[.int .i64 0,.int .i64 0,.slice none 0 0,.slice none 0 0,.slice none 0 0,.slice none 0 0,.slice none 0 0,.slice none 0 0,.slice none 0 0,.int .i64 0] 36):=⟨_,rfl⟩
 have aW:ag w W:=by rw [hW];exact (((ag.refl w).alloc _).alloc _).alloc _
 have r0:ai W w.heap.size cs:=by rw [hW];exact ai.up (ai.up (aR (ag.refl _) (by simp)))
 have r1:ai W (w.heap.size+1) oc:=by rw [hW];exact ai.up (aR (ag.refl _) (by simp))
 have r2:ai W (w.heap.size+1+1) cY:=by rw [hW];exact aR (ag.refl _) (by simp)
 have y8:=r0.cell ux;have HZ:=gH (show W.heap.size=w.heap.size+3 from by rw [hW];simp)
 have Ng:∀ (fn:Fn) (first cap:Array Value) (w:World),(Instr.makeFunc fn first cap).run Tryz.prog w=.ok (.func fn first cap) w:=fun _ _ _ _=>rfl
 have CC:=gH (rP A ca m.bp W W (ag.refl _) (dv.aA aW fun _ _ h=>h) hn);have HS:=gH dv;have HR:=gH (And.intro r0 (And.intro r1 r2));have HA:=gH aW;have HM:=gH H;have HQ:=gH hq;have XG:=gH (enters (P:=Tryz.prog) Tryz.func57 (by kernel_rfl) rfl);have z0:=r0.1;have z1:=r1.1;clear H dv aW r0 r1 r2 hq hl
 go_in
 go_upto_region 1 with fail
 rw [← hW];clear hW;go_wp2_with fail;refine CC.out.mono ?_;rintro e w1 ⟨v,bw,rfl,a1,o1,ch⟩;obtain ⟨Ad,cd,rfl⟩:=dV o1;rw [ew (f:=eA) (fun _ _ h=>h) ch] at o1;have dc:=gH a1;have JT:=gH o1
 have CD:=gH (TJ (.slice Ad m.bp.length cd) m.bp 57 #[.pointer (some ⟨w.heap.size+1,0,none⟩)] (fun x=>x.seq==q) W.heap.size w1 o1 HS.out.2.1 (qB o1) (fun _ _=>trivial) XG.out (fun w' kb x _=>by
  have p:=kb.row (HR.out.2.1.aA dc.out) (gh JT.out HR.out.2.1.1)
  exact Pk x q _ w' p.1 (p.cell HQ.out)))
 clear a1 o1 ch;go_wp2_with fail;refine CD.out.mono ?_;rintro e w2 ⟨⟨A3,n3,c3⟩,rfl,o3,kb3,-⟩;have o3:w2.ownsRow W.heap.size 55 4 (Hd.mk A3 n3 c3).v (yn m.bp q).length ((yn m.bp q).flatMap eA):=o3;obtain ⟨l,pU⟩:∃ l,yn m.bp q=l:=⟨_,rfl⟩;rw [pU] at o3;have XH:=gH pU;have HLN:=gH (show l.length≤m.bp.length from pU▸List.length_filter_le _ _);obtain rfl:=mq o3;have a2:ag W w2:=kb3.aJ dc.out (fun g hg=>gh JT.out hg);have q0:=HR.out.1.aA a2;have y8:=q0.cell ux;have f8:=q0.2.2 8 (by rw [HM.out.w.len];decide);have z0:=q0.1;have r3:=q0.set 8 (.slice A3 l.length c3) (by rw [HM.out.w.len];decide);have zW:=HZ.out;have k8:=Kb.set w2 w.heap.size 8 (.slice A3 l.length c3)
 have hsm:Small (l.length*16):=by have:=HLN.out;have:=HS.out.2.1;unfold Small at *;omega
 have mw:dJ B (w2.setCell ⟨w.heap.size,8,none⟩ (.slice A3 l.length c3)) (cs.set 8 (.slice A3 l.length c3)) { m with bp:=l }:=HM.out.Be hB (HA.out.trans a2) (D:=W.heap.size) (by omega) o3 hsm (k8.mono fun g _ e=>by have e:g=_:=e;omega);have l3:=gM r3 mw.w.len;obtain ⟨s1,r4,s2,kb⟩:=gG (k8.row (HR.out.2.2.aA a2) (by omega)) rfl mw.w;have HE:=gH (And.intro (kb.aJ (k8.aJ (HA.out.trans a2) fun g hg e=>by have e:g=_:=e;omega) fun g hg e=>by have e:g=_:=e;omega) (HM.out.Be hB (HA.out.trans a2) (D:=W.heap.size) (by omega) o3 hsm ((k8.mono fun g _ e=>by have e:g=_:=e;omega).trans (kb.mono fun g _ e=>by have e:g=_:=e;omega))));have S2:=gH s2;clear kb3 o3 a2 q0 r3 mw k8 r4 s2 kb pU hsm zW;simp only [Hd.v];go_wp2;refine bodyPost_ret (results_cell_tmp rfl _ rfl S2.out) rfl ?_;refine ⟨HE.out.1,_,rfl,?_⟩
 show dJ B _ _ ⟨m.cat,m.aQ,yn m.bp q,m.last⟩
 rw [XH.out];exact HE.out.2
noncomputable def fR (m:fo) (c n:Int):iF × Bool:=if c=0∨(fA m.aQ c).aC≠c∨(fA m.aQ c).number≠n∨eh m=false then (FR,false) else (fA m.aQ c,!(m.bp.any fun l=>decide (l.av < (fA m.aQ c).fence)))
theorem yo (m:fo) (cs:List Value) (c n:Int) (w:World) (H:dD w cs m) :
  Calls Tryz.prog 6 #[.agg cs.toArray,.int .i64 c,.int .i64 n] w fun e w'=>e=.returned (.tuple #[.agg #[.int .i64 (fR m c n).1.aC,.int .i64 (fR m c n).1.number,.int .i64 (fR m c n).1.code,.int .i64 (fR m c n).1.fence,.int .i64 (fR m c n).1.version],.bool (fR m c n).2])∧ag w w':=by
 obtain ⟨A,ca,ux,dv⟩:=H.CU;obtain ⟨W,hW⟩:∃ W,W=(w.alloc (.cells cs.toArray 36)).alloc (.cells #[.int .i64 0,.int .i64 0,.int .i64 0,.int .i64 0,.int .i64 0] 48):=⟨_,rfl⟩
 have aW:ag w W:=by rw [hW];exact ((ag.refl w).alloc _).alloc _
 have zW:W.heap.size=w.heap.size+2:=by rw [hW];simp
 have r0:ai W w.heap.size cs:=by rw [hW];exact ai.up (aR (ag.refl _) (by simp))
 have r1:ai W (w.heap.size+1) [.int .i64 0,.int .i64 0,.int .i64 0,.int .i64 0,.int .i64 0]:=by rw [hW];exact aR (ag.refl _) (by simp)
 have l0:=gM r0 H.len
 have Ng:∀ (fn:Fn) (first cap:Array Value) (w:World),(Instr.makeFunc fn first cap).run Tryz.prog w=.ok (.func fn first cap) w:=fun _ _ _ _=>rfl
 obtain ⟨d,hd⟩:∃ d,fA m.aQ c=d:=⟨_,rfl⟩;have C1:=gH (hd▸NA m cs c W (H.aA aW));obtain ⟨e4,XI⟩:∃ e:Int,(if eh m=true then (0:Int) else 1)=e:=⟨_,rfl⟩
 have C2:=gH (show ∀ V,ag W V→Calls Tryz.prog 9 #[.agg cs.toArray] V fun e w'=>e=.returned (.int .i64 e4)∧ag V w' from fun V a=>by
  obtain ⟨As,c1,At,c2,An,c3,Am,c4,Ag,c5,Ad,cd,Al,cl,rfl,h⟩:=(H.aA (aW.trans a)).at
  have:=vF m As c1 At c2 An c3 Am c4 Ag c5 Ad cd Al cl V h
  rwa [XI] at this)
 have C3:=gH (show ∀ V b,ag W V→b < V.heap.size→V.cell? ⟨b,3,none⟩=some (.int .i64 d.fence)→Calls Tryz.prog 14 #[.slice A m.bp.length ca,.func (.func 15) #[] #[.pointer (some ⟨b,0,none⟩)]] V fun e w'=>e=.returned (.bool (m.bp.any fun l=>decide (l.av < d.fence)))∧ag V w' from fun V b a hb hc =>
  Dd A ca m.bp 15 _ (fun l=>decide (l.av < d.fence)) V (dv.aA (aW.trans a) fun _ _ h=>h) (enters (P:=Tryz.prog) Tryz.func15 (by kernel_rfl) rfl) (fun w' a2 i hi=>KU m.bp[i] d.fence b w' (Nat.lt_of_lt_of_le hb a2.size) (a2.cell_kept hc)))
 obtain ⟨fr,p9⟩:∃ b,(m.bp.any fun l=>decide (l.av < d.fence))=b:=⟨_,rfl⟩;rw [p9] at C3;obtain ⟨g1,hg1⟩:∃ b,(c==0)=b:=⟨_,rfl⟩;obtain ⟨g2,hg2⟩:∃ b,(d.aC != c)=b:=⟨_,rfl⟩;obtain ⟨g3,hg3⟩:∃ b,(d.number != n)=b:=⟨_,rfl⟩;obtain ⟨g4,hg4⟩:∃ b,(e4 != 0)=b:=⟨_,rfl⟩
 have HF:=gH (show fR m c n=if g1 || g2 || g3 || g4 then (FR,false) else (d,!fr) from by
  unfold fR;rw [hd,p9];subst hg1 hg2 hg3 hg4 XI
  cases eh m<;>simp [or_assoc])
 have HR:=gH (And.intro r0 r1);have HA:=gH aW;have HZ:=gH zW;have HM:=gH H;have TL:=gH ux;clear H dv aW r0 r1 hd XI p9 ux zW
 go_in
 go_upto_region 1 with fail
 rw [← hW];clear hW;go_wp2_with fail;refine C1.out.mono ?_;rintro e w1 ⟨rfl,a1⟩;have dc:=gH a1;obtain ⟨s1,r3,s2,kb⟩:=np d (aN (w:=w1) (c:=[.int .i64 0,.int .i64 0,.int .i64 0,.int .i64 0,.int .i64 0]) (t:=48) (ag.refl _)) rfl;obtain ⟨F,hF⟩:∃ F,F=(w1.alloc (.cells #[.int .i64 0,.int .i64 0,.int .i64 0,.int .i64 0,.int .i64 0] 48)).setCells w1.heap.size 0 (cj d):=⟨_,rfl⟩;have hz:=HZ.out;have hs1:=a1.size
 have aF:ag W F:=by rw [hF];exact kb.aJ (a1.alloc _) fun g hg e=>by have e:g=_:=e;omega
 have rF:ai F w1.heap.size [.int .i64 d.aC,.int .i64 d.number,.int .i64 d.code,.int .i64 d.fence,.int .i64 d.version]:=by rw [hF];exact r3
 have JU:=gH aF;have HRF:=gH rF;have q0:=HR.out.1.aA aF;have l1:=gM q0 HM.out.len;have y8:=q0.cell TL.out;have q1:=HR.out.2.aA aF;obtain ⟨x0,x1,x2,x3,x4,xz⟩:=mv rF;have qz:=q0.1;have HQ1:=gH q1;have H1:=gH (show (c==0)=g1 from hg1);clear a1 r3 s2 kb aF rF q0 q1
 go_upto_region 2 with fail
 rw [← hF];clear hF s1
 have NO:=gH (show ∀ V,ag F V→(ym ⟨w.heap.size+1,0,none⟩ (.agg #[.int .i64 0,.int .i64 0,.int .i64 0,.int .i64 0,.int .i64 0])).run Tryz.prog V=.ok () (V.setCells (w.heap.size+1) 0 (cj FR))∧(uw ⟨w.heap.size+1,0,none⟩).run Tryz.prog (V.setCells (w.heap.size+1) 0 (cj FR))=.ok (.agg #[.int .i64 0,.int .i64 0,.int .i64 0,.int .i64 0,.int .i64 0]) (V.setCells (w.heap.size+1) 0 (cj FR))∧ag w (V.setCells (w.heap.size+1) 0 (cj FR)) from fun V a=>by
  obtain ⟨s1,r3,s2,kb⟩:=np FR (HQ1.out.aA a) rfl
  exact ⟨s1,s2,kb.aJ (HA.out.trans (JU.out.trans a)) fun g hg e=>by have e:g=_:=e;omega⟩)
 have KK:=gH (show ∀ V,ag F V→Calls Tryz.prog 9 #[.agg cs.toArray] V fun e w'=>e=.returned (.int .i64 e4)∧ag V w' from fun V a=>C2.out V (JU.out.trans a))
 cases g1
 case true =>
  obtain ⟨s1,s2,aE⟩:=NO.out F (ag.refl F);have S2:=gH s2;have HE:=gH aE;clear s2 aE;go_wp2;refine bodyPost_ret (results_cell_tmp rfl _ rfl S2.out) rfl ?_;exact ⟨by rw [HF.out];rfl,HE.out⟩
 cases g2
 case true =>
  obtain ⟨s1,s2,aE⟩:=NO.out F (ag.refl F);have S2:=gH s2;have HE:=gH aE;clear s2 aE;go_wp2;refine bodyPost_ret (results_cell_tmp rfl _ rfl S2.out) rfl ?_;exact ⟨by rw [HF.out];rfl,HE.out⟩
 cases g3
 case true =>
  obtain ⟨s1,s2,aE⟩:=NO.out F (ag.refl F);have S2:=gH s2;have HE:=gH aE;clear s2 aE;go_wp2;refine bodyPost_ret (results_cell_tmp rfl _ rfl S2.out) rfl ?_;exact ⟨by rw [HF.out];rfl,HE.out⟩
 go_wp2_with fail;refine (KK.out _ (ag.refl F)).mono ?_;rintro e w3 ⟨rfl,a3⟩;have A3:=gH a3;clear a3
 cases g4
 case true =>
  obtain ⟨s1,s2,aE⟩:=NO.out w3 A3.out;have S2:=gH s2;have HE:=gH aE;clear s2 aE;go_wp2;refine bodyPost_ret (results_cell_tmp rfl _ rfl S2.out) rfl ?_;exact ⟨by rw [HF.out];rfl,HE.out⟩
 clear l1 y8 x0 x1 x2 x3 x4 xz qz;have rF:=HRF.out.aA A3.out;obtain ⟨x0,x1,x2,x3,x4,xz⟩:=mv rF;have q0:=HR.out.1.aA (JU.out.trans A3.out);have y8:=q0.cell TL.out;have qz:=q0.1;have CT:=gH (show ∀ V,ag w3 V→Calls Tryz.prog 14 #[.slice A m.bp.length ca,.func (.func 15) #[] #[.pointer (some ⟨w1.heap.size,0,none⟩)]] V fun e w'=>e=.returned (.bool fr)∧ag V w' from fun V a=>C3.out V _ (JU.out.trans (A3.out.trans a)) (Nat.lt_of_lt_of_le xz a.size) (a.cell_kept x3));clear rF q0;have KX:=gH (show ∀ V,ag w3 V→(V.cell? ⟨w1.heap.size,0,none⟩=some (.int .i64 d.aC)∧V.cell? ⟨w1.heap.size,1,none⟩=some (.int .i64 d.number)∧V.cell? ⟨w1.heap.size,2,none⟩=some (.int .i64 d.code)∧V.cell? ⟨w1.heap.size,3,none⟩=some (.int .i64 d.fence)∧V.cell? ⟨w1.heap.size,4,none⟩=some (.int .i64 d.version)∧V.cell? ⟨w.heap.size,8,none⟩=some (.slice A m.bp.length ca)) from fun V a=>⟨a.cell_kept x0,a.cell_kept x1,a.cell_kept x2,a.cell_kept x3,a.cell_kept x4,a.cell_kept y8⟩);have HX:=gH (show w.heap.size+1 < w1.heap.size from by have:=HZ.out;have:=dc.out.size;omega);clear x0 x1 x2 x3 x4 y8
 go_upto_region 4 with fail
 go_region_held3 (fun V=>(V.cell? ⟨w1.heap.size,0,none⟩=some (.int .i64 d.aC)∧V.cell? ⟨w1.heap.size,1,none⟩=some (.int .i64 d.number)∧V.cell? ⟨w1.heap.size,2,none⟩=some (.int .i64 d.code)∧V.cell? ⟨w1.heap.size,3,none⟩=some (.int .i64 d.fence)∧V.cell? ⟨w1.heap.size,4,none⟩=some (.int .i64 d.version)∧V.cell? ⟨w.heap.size,8,none⟩=some (.slice A m.bp.length ca)))
  ((
   first
   | (refine KX.out _ ?_;first
    | with_reducible exact (ag.refl _).drew
    | with_reducible exact a5)
   | with_reducible exact hS))
  ((
   go_at_call 14;(with_reducible refine (CT.out w3.drew (ag.refl _).drew).mono ?_);rintro e w4 ⟨rfl,a4⟩;have a5:ag w3 w4:=((ag.refl _).drew).trans a4;obtain ⟨s1,r7,s2,kb⟩:=np d (HQ1.out.aA (A3.out.trans a5)) rfl;have hS:((w4.setCells (w.heap.size+1) 0 (cj d)).cell? ⟨w1.heap.size,0,none⟩=some (.int .i64 d.aC)∧(w4.setCells (w.heap.size+1) 0 (cj d)).cell? ⟨w1.heap.size,1,none⟩=some (.int .i64 d.number)∧(w4.setCells (w.heap.size+1) 0 (cj d)).cell? ⟨w1.heap.size,2,none⟩=some (.int .i64 d.code)∧(w4.setCells (w.heap.size+1) 0 (cj d)).cell? ⟨w1.heap.size,3,none⟩=some (.int .i64 d.fence)∧(w4.setCells (w.heap.size+1) 0 (cj d)).cell? ⟨w1.heap.size,4,none⟩=some (.int .i64 d.version)∧(w4.setCells (w.heap.size+1) 0 (cj d)).cell? ⟨w.heap.size,8,none⟩=some (.slice A m.bp.length ca)):=(by
   have h:=KX.out _ a5;have:=HX.out
   exact ⟨kb.cell h.1 (by simp;omega),kb.cell h.2.1 (by simp;omega),kb.cell h.2.2.1 (by simp;omega),kb.cell h.2.2.2.1 (by simp;omega),kb.cell h.2.2.2.2.1 (by simp;omega),kb.cell h.2.2.2.2.2 (by simp)⟩);have HE:=gH (kb.aJ (HA.out.trans (JU.out.trans (A3.out.trans a5))) fun g hg e=>by have e:g=_:=e;omega);have S2:=gH s2;clear r7 s2 kb a4))
 all_goals
  go_wp2;refine bodyPost_ret (results_cell_tmp rfl _ rfl S2.out) rfl ?_;exact ⟨by rw [HF.out];rfl,HE.out⟩
end Go.Proofs.YtakddkhipelmjaaGreat
namespace Go.Proofs.YtakddkhipelmjaaGreat
open Go.RowKit Go.Deep Go.Lib
theorem Bf (A:Option Addr) (n cap B nb:Nat) (xs:List Value) (x:iF) (w:World) (ho:w.ownsRow B 48 5 (.slice A n cap) n xs) (K0:w.heap[nb]? = some (.cells #[.int .i64 x.aC,.int .i64 x.number,.int .i64 x.code,.int .i64 x.fence,.int .i64 x.version] 48 (0,0))) (hn:n≤1000000) (hB:B≤w.heap.size) :
  Calls Tryz.prog 81 #[.slice A n cap,.int .i64 n,.slice (some ⟨nb,0,none⟩) 1 1] w (K9 48 5 w B (.slice A n cap) n n xs [.int .i64 x.aC,.int .i64 x.number,.int .i64 x.code,.int .i64 x.fence,.int .i64 x.version]):=by
 obtain ⟨i0,mL,hz0,hz1,hz2⟩:=info_parts uv;have HI:=gH mL;have HZ:=gH (And.intro hz0 (And.intro hz1 hz2));have HO:=gH ho;have XJ:=gH K0;have hx:=ho.1
 have XK:n+1≤maxLen:=by unfold maxLen;omega
 have OQ:(n+1)*40≤140737488355328:=by omega
 have pV:n≤cap:=by
  rcases ho.2 with ⟨hv,vO⟩ | ⟨g,c,cur,hv,_,_,hc,_⟩
  ·omega
  ·simp only [Value.slice.injEq] at hv;omega
 have hcm:cap≤9223372036854775807:=by
  rcases ho.2 with ⟨hv,vO⟩ | ⟨g,c,cur,hv,_,_,hc,hm,_⟩
  ·simp only [Value.slice.injEq] at hv;omega
  ·simp only [Value.slice.injEq] at hv;simp only [maxLen] at hm;omega
 have HF:=gH (show ∀ gg cap' w5,w5.ownsRow B 48 5 (.slice (some ⟨gg,0,none⟩) (n+1) cap') (n+1) (xs++[.int .i64 x.aC,.int .i64 x.number,.int .i64 x.code,.int .i64 x.fence,.int .i64 x.version])→w.grownBy w5 (Value.slice A n cap).ownBlock→((Value.slice A n cap).ownBlock=some gg∨gg=w.heap.size)→K9 48 5 w B (.slice A n cap) n n xs [.int .i64 x.aC,.int .i64 x.number,.int .i64 x.code,.int .i64 x.fence,.int .i64 x.version] (.returned (.slice (some ⟨gg,0,none⟩) (n+1) cap')) w5 from fun gg cap' w5 h2 h3 h4=>by
  refine ⟨⟨some ⟨gg,0,none⟩,n+1,cap'⟩,rfl,?_,ub h3,fun g hg=>?_⟩
  ·rw [List.take_of_length_le (by omega),List.drop_of_length_le (by omega),List.append_nil];exact h2
  ·rw [fP,List.mem_singleton] at hg
   have hg:g=gg:=hg;subst hg
   rcases h4 with h | h
   ·exact .inl h
   ·exact .inr (by omega))
 clear mL hz0 hz1 hz2 ho K0 hx
 have k1:(n:Int)≤(cap:Int):=by omega
 have k2:(n:Int)≤(n:Int):=Int.le_refl _
 go_in
 by_cases hc:cap=n
 focus
  subst hc
 rotate_left
 rotate_left
 all_goals
  cases A
  all_goals
   go_wp2_with (at_builtin;go_must (refine wpList_append_lies _ rfl _ _ 33 rfl B 48 i0 _ 5 40 Tryz.underlying33 HI.out HZ.out.1 HZ.out.2.1 HZ.out.2.2 rfl (by decide) _ _ xs rfl HO.out ⟨nb,0,none⟩ 1 1 [.int .i64 x.aC,.int .i64 x.number,.int .i64 x.code,.int .i64 x.fence,.int .i64 x.version] rfl rfl (World.news_of_block (cs:=#[.int .i64 x.aC,.int .i64 x.number,.int .i64 x.code,.int .i64 x.fence,.int .i64 x.version]) (t:=48) (fr:=(0,0)) XJ.out) (by simp [Value.oneCell']) (by omega) XK OQ hB w.heap.size rfl ?_);intro gg cap' w5 jz hgrow hat Ep;have HP:=gH (HF.out gg cap' w5 jz hgrow hat);clear jz hgrow hat Ep)
   go_ret;exact HP.out
theorem Bh (A:Option Addr) (n cap B nb:Nat) (xs:List Value) (x:eZ) (w:World) (ho:w.ownsRow B 55 4 (.slice A n cap) n xs) (K0:w.heap[nb]? = some (.cells #[.int .i64 x.seq,.int .i64 x.node,.int .i64 x.ask,.int .i64 x.av] 55 (0,0))) (hn:n≤1000000) (hB:B≤w.heap.size) :
  Calls Tryz.prog 84 #[.slice A n cap,.int .i64 n,.slice (some ⟨nb,0,none⟩) 1 1] w (K9 55 4 w B (.slice A n cap) n n xs [.int .i64 x.seq,.int .i64 x.node,.int .i64 x.ask,.int .i64 x.av]):=by
 obtain ⟨i0,mL,hz0,hz1,hz2⟩:=info_parts uu;have HI:=gH mL;have HZ:=gH (And.intro hz0 (And.intro hz1 hz2));have HO:=gH ho;have XJ:=gH K0;have hx:=ho.1
 have XK:n+1≤maxLen:=by unfold maxLen;omega
 have OQ:(n+1)*32≤140737488355328:=by omega
 have pV:n≤cap:=by
  rcases ho.2 with ⟨hv,vO⟩ | ⟨g,c,cur,hv,_,_,hc,_⟩
  ·omega
  ·simp only [Value.slice.injEq] at hv;omega
 have hcm:cap≤9223372036854775807:=by
  rcases ho.2 with ⟨hv,vO⟩ | ⟨g,c,cur,hv,_,_,hc,hm,_⟩
  ·simp only [Value.slice.injEq] at hv;omega
  ·simp only [Value.slice.injEq] at hv;simp only [maxLen] at hm;omega
 have HF:=gH (show ∀ gg cap' w5,w5.ownsRow B 55 4 (.slice (some ⟨gg,0,none⟩) (n+1) cap') (n+1) (xs++[.int .i64 x.seq,.int .i64 x.node,.int .i64 x.ask,.int .i64 x.av])→w.grownBy w5 (Value.slice A n cap).ownBlock→((Value.slice A n cap).ownBlock=some gg∨gg=w.heap.size)→K9 55 4 w B (.slice A n cap) n n xs [.int .i64 x.seq,.int .i64 x.node,.int .i64 x.ask,.int .i64 x.av] (.returned (.slice (some ⟨gg,0,none⟩) (n+1) cap')) w5 from fun gg cap' w5 h2 h3 h4=>by
  refine ⟨⟨some ⟨gg,0,none⟩,n+1,cap'⟩,rfl,?_,ub h3,fun g hg=>?_⟩
  ·rw [List.take_of_length_le (by omega),List.drop_of_length_le (by omega),List.append_nil];exact h2
  ·rw [fP,List.mem_singleton] at hg
   have hg:g=gg:=hg;subst hg
   rcases h4 with h | h
   ·exact .inl h
   ·exact .inr (by omega))
 clear mL hz0 hz1 hz2 ho K0 hx
 have k1:(n:Int)≤(cap:Int):=by omega
 have k2:(n:Int)≤(n:Int):=Int.le_refl _
 go_in
 by_cases hc:cap=n
 focus
  subst hc
 rotate_left
 rotate_left
 all_goals
  cases A
  all_goals
   go_wp2_with (at_builtin;go_must (refine wpList_append_lies _ rfl _ _ 34 rfl B 55 i0 _ 4 32 Tryz.underlying34 HI.out HZ.out.1 HZ.out.2.1 HZ.out.2.2 rfl (by decide) _ _ xs rfl HO.out ⟨nb,0,none⟩ 1 1 [.int .i64 x.seq,.int .i64 x.node,.int .i64 x.ask,.int .i64 x.av] rfl rfl (World.news_of_block (cs:=#[.int .i64 x.seq,.int .i64 x.node,.int .i64 x.ask,.int .i64 x.av]) (t:=55) (fr:=(0,0)) XJ.out) (by simp [Value.oneCell']) (by omega) XK OQ hB w.heap.size rfl ?_);intro gg cap' w5 jz hgrow hat Ep;have HP:=gH (HF.out gg cap' w5 jz hgrow hat);clear jz hgrow hat Ep)
   go_ret;exact HP.out
theorem Pt (A:Option Addr) (cap:Nat) (n:Int) (v:Value) (w:World):Calls Tryz.prog 78 #[.slice A 0 cap,.int .i64 n,v] w fun e w'=>e=.returned (.tuple #[.int .i64 0,.bool false])∧ag w w':=by
 go_in
 go_wp2_with fail
 go_loopw [9,10] (fun u7 u8 wr=>u7=.int .i64 0∧u8=.int .i64 0∧ag w wr) (fun _ _ _=>0)
 case atStart=>exact ⟨rfl,rfl,ag.refl _⟩
 case round =>
  obtain ⟨rfl,rfl,ha⟩:=hrel;have HA:=gH ha;clear ha;go_wp2
  go_ret2
  exact ⟨rfl,HA.out⟩
theorem Pu (A:Option Addr) (cap:Nat) (n:Int) (v:Value) (w:World):Calls Tryz.prog 82 #[.slice A 0 cap,.int .i64 n,v] w fun e w'=>e=.returned (.tuple #[.int .i64 0,.bool false])∧ag w w':=by
 go_in
 go_wp2_with fail
 go_loopw [9,10] (fun u7 u8 wr=>u7=.int .i64 0∧u8=.int .i64 0∧ag w wr) (fun _ _ _=>0)
 case atStart=>exact ⟨rfl,rfl,ag.refl _⟩
 case round =>
  obtain ⟨rfl,rfl,ha⟩:=hrel;have HA:=gH ha;clear ha;go_wp2
  go_ret2
  exact ⟨rfl,HA.out⟩
theorem Pv (x:iF) (b:Nat) (w:World) (hb:b < w.heap.size) (hc:w.cell? ⟨b,0,none⟩=some (.func (.func 24) #[] #[])) :
  Calls Tryz.prog 79 (#[.agg #[.int .i64 x.aC,.int .i64 x.number,.int .i64 x.code,.int .i64 x.fence,.int .i64 x.version],.int .i64 x.aC]++#[.pointer (some ⟨b,0,none⟩)]) w fun e w'=>e=.returned (.int .i64 0)∧ag w w':=by
 have hz1:b < w.heap.size+1:=by omega
 have C:=gH (qQ x)
 show Calls _ _ #[.agg #[.int .i64 x.aC,.int .i64 x.number,.int .i64 x.code,.int .i64 x.fence,.int .i64 x.version],.int .i64 x.aC,.pointer (some ⟨b,0,none⟩)] w _
 obtain ⟨W,hW⟩:∃ W,W=w.alloc (.cells #[.int .i64 x.aC,.int .i64 x.number,.int .i64 x.code,.int .i64 x.fence,.int .i64 x.version] 48):=⟨_,rfl⟩;have HA:=gH (show ag w W from by rw [hW];exact (ag.refl w).alloc _);have y0:W.cell? ⟨b,0,none⟩=some (.func (.func 24) #[] #[]):=HA.out.cell_kept hc
 have r0:ai W w.heap.size [.int .i64 x.aC,.int .i64 x.number,.int .i64 x.code,.int .i64 x.fence,.int .i64 x.version]:=by rw [hW];exact aN (ag.refl _)
 obtain ⟨x0,x1,x2,x3,x4,xz⟩:=mv r0;clear r0
 go_in
 go_upto_region 1 with fail
 rw [← hW];clear hW
 go_wp2_with (go_at_call 24;refine (C.out _).mono ?_;rintro e w1 ⟨rfl,a1⟩;have dc:=gH (HA.out.trans a1);clear a1)
 go_ret;exact ⟨by simp,dc.out⟩
theorem Pw (A:Option Addr) (cap:Nat) (y:iF) (b:Nat) (w:World) (h:az w 5 fj A cap [y]) (hb:b < w.heap.size) (hc:w.cell? ⟨b,0,none⟩=some (.func (.func 24) #[] #[])) :
  Calls Tryz.prog 78 #[.slice A 1 cap,.int .i64 y.aC,.func (.func 79) #[] #[.pointer (some ⟨b,0,none⟩)]] w fun e w'=>e=.returned (.tuple #[.int .i64 0,.bool true])∧ag w w':=by
 obtain ⟨bd,off,rfl,Df,c0,c1,c2,c3,c4⟩:=qP h (k:=0) (by simp);simp only [Nat.zero_mul,Nat.add_zero,List.getElem_cons_zero] at c0 c1 c2 c3 c4;have CP:=gH (show ∀ V,ag w V→Calls Tryz.prog 79 #[.agg #[.int .i64 y.aC,.int .i64 y.number,.int .i64 y.code,.int .i64 y.fence,.int .i64 y.version],.int .i64 y.aC,.pointer (some ⟨b,0,none⟩)] V fun e w'=>e=.returned (.int .i64 0)∧ag V w' from fun V a=>Pv y b V (Nat.lt_of_lt_of_le hb a.size) (a.cell_kept hc));have HD:=gH (And.intro c0 (And.intro c1 (And.intro c2 (And.intro c3 c4))));clear h hb hc c0 c1 c2 c3 c4
 go_in
 go_wp2_with fail
 go_loopw [9,10] (fun u7 u8 wr=>u7=.int .i64 0∧(u8=.int .i64 1∨u8=.int .i64 0)∧ag w wr) (fun _ u8 _=>(intOf u8).toNat)
 case atStart=>exact ⟨rfl,.inl rfl,ag.refl _⟩
 case round =>
  obtain ⟨rfl,h8,ha⟩:=hrel;have HA:=gH ha;have c0:=ha.cell_kept HD.out.1;have c1:=ha.cell_kept HD.out.2.1;have c2:=ha.cell_kept HD.out.2.2.1;have c3:=ha.cell_kept HD.out.2.2.2.1;have c4:=ha.cell_kept HD.out.2.2.2.2;clear ha
  rcases h8 with rfl | rfl
  ·go_wp2_with (go_at_call 79;refine (CP.out _ HA.out).mono ?_;rintro e w1 ⟨rfl,a1⟩;have dc:=gH (HA.out.trans a1);clear a1)
   go_roundw
   case rel=>exact ⟨rfl,.inr rfl,dc.out⟩
   case measure=>simp [intOf]
  ·go_wp2_with (go_at_call 79;refine (CP.out _ HA.out).mono ?_;rintro e w1 ⟨rfl,a1⟩;have dc:=gH (HA.out.trans a1);clear a1)
   go_ret2
   exact ⟨rfl,dc.out⟩
def rR (ty:TypeId) (n:Nat) (xs:List Value) (w:World) (e:Ending) (w':World):Prop:=∃ A c,e=.returned (.slice A 1 c)∧ag w w'∧w'.ownsRow w.heap.size ty n (.slice A 1 c) 1 xs
theorem La (A:Option Addr) (cap:Nat) (x:iF) (w:World) (h:az w 5 fj A cap []) :
  Calls Tryz.prog 51 #[.slice A 0 cap,.func (.func 24) #[] #[],.agg #[.int .i64 x.aC,.int .i64 x.number,.int .i64 x.code,.int .i64 x.fence,.int .i64 x.version]] w (rR 48 5 [.int .i64 x.aC,.int .i64 x.number,.int .i64 x.code,.int .i64 x.fence,.int .i64 x.version] w):=by
 obtain ⟨W,hW⟩:∃ W,W=(w.alloc (.cells #[.func (.func 24) #[] #[]] 71)).alloc (.cells #[.int .i64 x.aC,.int .i64 x.number,.int .i64 x.code,.int .i64 x.fence,.int .i64 x.version] 48):=⟨_,rfl⟩
 have aW:ag w W:=by rw [hW];exact ((ag.refl w).alloc _).alloc _
 have r0:ai W w.heap.size [.func (.func 24) #[] #[]]:=by rw [hW];exact ai.up (aR (ag.refl _) (by simp))
 have r1:ai W (w.heap.size+1) [.int .i64 x.aC,.int .i64 x.number,.int .i64 x.code,.int .i64 x.fence,.int .i64 x.version]:=by rw [hW];exact aR (ag.refl _) (by simp)
 have Ng:∀ (fn:Fn) (first cap:Array Value) (w:World),(Instr.makeFunc fn first cap).run Tryz.prog w=.ok (.func fn first cap) w:=fun _ _ _ _=>rfl
 have HR:=gH (And.intro r0 r1);have HA:=gH aW;have C1:=gH (qQ x);have C2:=gH (fun n v=>Pt A cap n v);have C3:=gH (show ∀ V,ag W V→Calls Tryz.prog 80 #[.slice A 0 cap] V _ from fun V a=>rQ A cap [] V V (ag.refl V) (h.aA (aW.trans a) fun _ _ h=>h) (by simp));have q0:=r0.cell (j:=0) rfl;obtain ⟨x0,x1,x2,x3,x4,xz⟩:=mv r1;clear r0 r1 aW h
 go_in
 go_upto_region 1 with fail
 rw [← hW];clear hW
 go_upto_region 2 with (first
  | (go_at_call 24;(with_reducible refine (C1.out _).mono ?_);rintro e w1 ⟨rfl,a1⟩)
  | (go_at_call 78;(with_reducible refine (C2.out _ _ _).mono ?_);rintro e w2 ⟨rfl,a2⟩;have A2:=gH (a1.trans a2);clear a1 a2))
 go_wp2_with fail;refine (C3.out _ A2.out).mono ?_;rintro e w3 ⟨v,bw,rfl,a3,o3,ch⟩;obtain ⟨B,cb,rfl⟩:=dV o3;rw [ew (f:=cj) (fun _ _ h=>h) ch] at o3;have A3:=gH (A2.out.trans a3);have r3:=HR.out.2.aA A3.out;obtain ⟨x0,x1,x2,x3,x4,xz⟩:=mv r3;obtain ⟨Z,hZ⟩:∃ Z,Z=w3.alloc (.cells #[.int .i64 x.aC,.int .i64 x.number,.int .i64 x.code,.int .i64 x.fence,.int .i64 x.version] 48):=⟨_,rfl⟩
 have aZ:ag w3 Z:=by rw [hZ];exact (ag.refl w3).alloc _
 have C4:=gH (Bf B 0 cb w2.heap.size w3.heap.size [] x Z (cA o3 aZ) (by rw [hZ];exact heap_alloc_new w3 _) (by omega) (by have:=a3.size;have:=aZ.size;omega));have HO:=gH (And.intro o3 (And.intro aZ A2.out.size));clear o3 a3 ch aZ r3;go_wp2_with fail;rw [← hZ];clear hZ;refine C4.out.mono ?_;rintro e w4 ⟨⟨D,nd,cd⟩,rfl,o4,kb,-⟩;obtain rfl:=mq o4;simp only [Hd.v];have HE:=gH (show rR 48 5 [.int .i64 x.aC,.int .i64 x.number,.int .i64 x.code,.int .i64 x.fence,.int .i64 x.version] w (.returned (.slice D (0+1) cd)) w4 from ⟨D,cd,rfl,kb.aJ (HA.out.trans (A3.out.trans HO.out.2.1)) (fun g hg e=>by have:=(HO.out.1.lt g e).1;have:=HA.out.size;have:=HO.out.2.2;omega),bM o4 (by have:=HA.out.size;have:=HO.out.2.2;omega)⟩);clear o4 kb;go_wp2;go_ret;exact HE.out
theorem Lb (A:Option Addr) (cap:Nat) (x:eZ) (w:World) (h:az w 4 fq A cap []) :
  Calls Tryz.prog 53 #[.slice A 0 cap,.func (.func 28) #[] #[],.agg #[.int .i64 x.seq,.int .i64 x.node,.int .i64 x.ask,.int .i64 x.av]] w (rR 55 4 [.int .i64 x.seq,.int .i64 x.node,.int .i64 x.ask,.int .i64 x.av] w):=by
 obtain ⟨W,hW⟩:∃ W,W=(w.alloc (.cells #[.func (.func 28) #[] #[]] 75)).alloc (.cells #[.int .i64 x.seq,.int .i64 x.node,.int .i64 x.ask,.int .i64 x.av] 55):=⟨_,rfl⟩
 have aW:ag w W:=by rw [hW];exact ((ag.refl w).alloc _).alloc _
 have r0:ai W w.heap.size [.func (.func 28) #[] #[]]:=by rw [hW];exact ai.up (aR (ag.refl _) (by simp))
 have r1:ai W (w.heap.size+1) [.int .i64 x.seq,.int .i64 x.node,.int .i64 x.ask,.int .i64 x.av]:=by rw [hW];exact aR (ag.refl _) (by simp)
 have Ng:∀ (fn:Fn) (first cap:Array Value) (w:World),(Instr.makeFunc fn first cap).run Tryz.prog w=.ok (.func fn first cap) w:=fun _ _ _ _=>rfl
 have HR:=gH (And.intro r0 r1);have HA:=gH aW;have C1:=gH (zD x);have C2:=gH (fun n v=>Pu A cap n v);have C3:=gH (show ∀ V,ag W V→Calls Tryz.prog 55 #[.slice A 0 cap] V _ from fun V a=>rP A cap [] V V (ag.refl V) (h.aA (aW.trans a) fun _ _ h=>h) (by simp));have q0:=r0.cell (j:=0) rfl;obtain ⟨x0,x1,x2,x3⟩:=DM r1;have xz:=r1.1;clear r0 r1 aW h
 go_in
 go_upto_region 1 with fail
 rw [← hW];clear hW
 go_upto_region 2 with (first
  | (go_at_call 28;(with_reducible refine (C1.out _).mono ?_);rintro e w1 ⟨rfl,a1⟩)
  | (go_at_call 82;(with_reducible refine (C2.out _ _ _).mono ?_);rintro e w2 ⟨rfl,a2⟩;have A2:=gH (a1.trans a2);clear a1 a2))
 go_wp2_with fail;refine (C3.out _ A2.out).mono ?_;rintro e w3 ⟨v,bw,rfl,a3,o3,ch⟩;obtain ⟨B,cb,rfl⟩:=dV o3;rw [ew (f:=eA) (fun _ _ h=>h) ch] at o3;have A3:=gH (A2.out.trans a3);have r3:=HR.out.2.aA A3.out;obtain ⟨x0,x1,x2,x3⟩:=DM r3;have xz:=r3.1;obtain ⟨Z,hZ⟩:∃ Z,Z=w3.alloc (.cells #[.int .i64 x.seq,.int .i64 x.node,.int .i64 x.ask,.int .i64 x.av] 55):=⟨_,rfl⟩
 have aZ:ag w3 Z:=by rw [hZ];exact (ag.refl w3).alloc _
 have C4:=gH (Bh B 0 cb w2.heap.size w3.heap.size [] x Z (cA o3 aZ) (by rw [hZ];exact heap_alloc_new w3 _) (by omega) (by have:=a3.size;have:=aZ.size;omega));have HO:=gH (And.intro o3 (And.intro aZ A2.out.size));clear o3 a3 ch aZ r3;go_wp2_with fail;rw [← hZ];clear hZ;refine C4.out.mono ?_;rintro e w4 ⟨⟨D,nd,cd⟩,rfl,o4,kb,-⟩;obtain rfl:=mq o4;simp only [Hd.v];have HE:=gH (show rR 55 4 [.int .i64 x.seq,.int .i64 x.node,.int .i64 x.ask,.int .i64 x.av] w (.returned (.slice D (0+1) cd)) w4 from ⟨D,cd,rfl,kb.aJ (HA.out.trans (A3.out.trans HO.out.2.1)) (fun g hg e=>by have:=(HO.out.1.lt g e).1;have:=HA.out.size;have:=HO.out.2.2;omega),bM o4 (by have:=HA.out.size;have:=HO.out.2.2;omega)⟩);clear o4 kb;go_wp2;go_ret;exact HE.out
theorem Lc (A:Option Addr) (cap:Nat) (x y:iF) (w:World) (h:az w 5 fj A cap [y]) (hxy:y.aC=x.aC) :
  Calls Tryz.prog 51 #[.slice A 1 cap,.func (.func 24) #[] #[],.agg #[.int .i64 x.aC,.int .i64 x.number,.int .i64 x.code,.int .i64 x.fence,.int .i64 x.version]] w (rR 48 5 [.int .i64 x.aC,.int .i64 x.number,.int .i64 x.code,.int .i64 x.fence,.int .i64 x.version] w):=by
 obtain ⟨W,hW⟩:∃ W,W=(w.alloc (.cells #[.func (.func 24) #[] #[]] 71)).alloc (.cells #[.int .i64 x.aC,.int .i64 x.number,.int .i64 x.code,.int .i64 x.fence,.int .i64 x.version] 48):=⟨_,rfl⟩
 have aW:ag w W:=by rw [hW];exact ((ag.refl w).alloc _).alloc _
 have r0:ai W w.heap.size [.func (.func 24) #[] #[]]:=by rw [hW];exact ai.up (aR (ag.refl _) (by simp))
 have r1:ai W (w.heap.size+1) [.int .i64 x.aC,.int .i64 x.number,.int .i64 x.code,.int .i64 x.fence,.int .i64 x.version]:=by rw [hW];exact aR (ag.refl _) (by simp)
 have Ng:∀ (fn:Fn) (first cap:Array Value) (w:World),(Instr.makeFunc fn first cap).run Tryz.prog w=.ok (.func fn first cap) w:=fun _ _ _ _=>rfl
 have HR:=gH (And.intro r0 r1);have HA:=gH aW;have C1:=gH (qQ x);have C2:=gH (show ∀ V,ag W V→Calls Tryz.prog 78 #[.slice A 1 cap,.int .i64 x.aC,.func (.func 79) #[] #[.pointer (some ⟨w.heap.size,0,none⟩)]] V fun e w'=>e=.returned (.tuple #[.int .i64 0,.bool true])∧ag V w' from fun V a=>hxy▸Pw A cap y w.heap.size V (h.aA (aW.trans a) fun _ _ h=>h) (r0.aA a).1 ((r0.aA a).cell (j:=0) rfl));have C3:=gH (show ∀ V,ag W V→Calls Tryz.prog 80 #[.slice A 1 cap] V _ from fun V a=>rQ A cap [y] V V (ag.refl V) (h.aA (aW.trans a) fun _ _ h=>h) (by simp));have q0:=r0.cell (j:=0) rfl;obtain ⟨x0,x1,x2,x3,x4,xz⟩:=mv r1;clear r0 r1 aW h
 go_in
 go_upto_region 1 with fail
 rw [← hW];clear hW
 go_upto_region 2 with (first
  | (go_at_call 24;(with_reducible refine (C1.out _).mono ?_);rintro e w1 ⟨rfl,a1⟩)
  | (go_at_call 78;(with_reducible refine (C2.out _ a1).mono ?_);rintro e w2 ⟨rfl,a2⟩;have A2:=gH (a1.trans a2);clear a1 a2))
 go_wp2_with fail;refine (C3.out _ A2.out).mono ?_;rintro e w3 ⟨v,bw,rfl,a3,o3,ch⟩;rw [ew (f:=cj) (fun _ _ h=>h) ch] at o3;obtain ⟨g,cb,hv,O6,pV,hr⟩:=bU o3 (by simp);subst hv;have A3:=gH (A2.out.trans a3);have r3:=HR.out.2.aA A3.out;obtain ⟨x0,x1,x2,x3,x4,xz⟩:=mv r3;simp only [List.flatMap_cons,List.flatMap_nil,List.append_nil] at hr;have y0:=hr.cell (j:=0) rfl;have f0:=hr.2.2 0 (by simp [cj]);have y1:=hr.cell (j:=1) rfl;have f1:=hr.2.2 1 (by simp [cj]);have y2:=hr.cell (j:=2) rfl;have f2:=hr.2.2 2 (by simp [cj]);have y3:=hr.cell (j:=3) rfl;have f3:=hr.2.2 3 (by simp [cj]);have y4:=hr.cell (j:=4) rfl;have f4:=hr.2.2 4 (by simp [cj]);have yz:=hr.1;have hn1:1≤cb:=pV
 have k1:(1:Int)≤(cb:Int):=by omega
 have HO:=gH (And.intro o3 (And.intro O6 A2.out.size))
 have HN:=gH (show rR 48 5 [.int .i64 x.aC,.int .i64 x.number,.int .i64 x.code,.int .i64 x.fence,.int .i64 x.version] w (.returned (.slice (some ⟨g,0,none⟩) 1 cb)) (((((w3.setCell ⟨g,0,none⟩ (.int .i64 x.aC)).setCell ⟨g,1,none⟩ (.int .i64 x.number)).setCell ⟨g,2,none⟩ (.int .i64 x.code)).setCell ⟨g,3,none⟩ (.int .i64 x.fence)).setCell ⟨g,4,none⟩ (.int .i64 x.version)) from by
  have o5:=dl (g:=g) rfl (cj x) 0 o3;have kb:Kb (fun k=>k=g) w3 (w3.setCells g 0 (cj x)):=cF g (cj x) w3 0;have hA:=HA.out.size;have h2:=A2.out.size
  exact ⟨_,cb,rfl,kb.aJ (HA.out.trans A3.out) (fun j hj e=>by have e:j=g:=e;omega),bM o5 (by omega)⟩)
 clear o3 a3 ch hr r3;go_wp2;go_ret;exact HN.out
end Go.Proofs.YtakddkhipelmjaaGreat
namespace Go.Proofs.YtakddkhipelmjaaGreat
open Go.Deep Go.RowKit
theorem EC:(Tryz.prog.info? 177).map (fun i=>(i.zero,i.size,i.bytes))=some (some (.agg #[.string ByteArray.empty,.string ByteArray.empty,.int .i64 0,.string ByteArray.empty,.string ByteArray.empty,.bool false]),6,80):=by kernel_rfl
theorem Bi (A:Option Addr) (cap:Nat) (l:List cD) (w0 w:World) (ha:ag w0 w) (h:az w0 6 gy A cap l) (hb:l.length≤1000000) :
  Calls Tryz.prog 123 #[.slice A l.length cap] w (lG 177 6 gy w0 w l):=by
 obtain ⟨i0,hi,hz0,hz1,hz2⟩:=info_parts EC
 have Pm:∀ (w:World) (a:Option Addr) (n c n' c':Nat),(binOp .eql 30 (.slice a n c) (.slice none n' c')).run Tryz.prog w=.ok (.bool a.isNone) w:=fun w a n c n' c'=>Lib.run_eql_slice_nil w _ _ a n c n' c' Tryz.underlying30
 cases A with
 | none =>
  have hl0:l=[]:=by
   cases l with
   | nil=>rfl
   | cons x l=>obtain ⟨b,off,cs,hA,_⟩:=h.2.2 0 (by simp);cases hA
  subst hl0
  go_in
  go_wp2;go_ret;exact ⟨_,[],rfl,ag.refl _,cO _ _ _ _,bL.nil⟩
 | some ad =>
  have HC:∃ bw,bL w0 6 gy bw l∧∀ p u,bw.flatten[p]? = some u→w.cell? (ad.add p)=some u:=by
   by_cases h0:0 < l.length
   ·obtain ⟨b,off,bw,hA,hb',hch,hc⟩:=h.bw h0 (by decide)
    simp only [Option.some.injEq] at hA;subst hA;refine ⟨bw,hch,fun p u hp=>?_⟩
    have hlt:p < l.length*6:=by rw [← hch.len];exact (List.getElem?_eq_some_iff.1 hp).1
    rw [kt];exact ha.cell_kept ((hc p hlt).trans hp)
   ·have hl0:l=[]:=List.eq_nil_of_length_eq_zero (by omega)
    subst hl0;exact ⟨[],bL.nil,fun p u hp=>by simp at hp⟩
  obtain ⟨bw,hch,hcell⟩:=HC;have H1:=gH hcell
  have H2:Hid (∀ u∈bw.flatten,u.oneCell'=true):=gH (by
   intro u hu;obtain ⟨c,hc,hu⟩:=List.mem_flatten.1 hu;obtain ⟨i,hi,rfl⟩:=List.getElem_of_mem hc;have h3:=(hch.2 i hi (by rw [← hch.1];exact hi)).2;obtain ⟨hcs,_⟩:=h3;unfold eR at hcs;rw [hcs] at hu;simp only [List.mem_cons,List.not_mem_nil,or_false] at hu
   rcases hu with rfl | rfl | rfl | rfl | rfl | rfl<;>simp [Value.oneCell'])
  have H3:=gH hch;have HI:=gH hi;have jG:=gH hz0;have jt:=gH hz1;have jX:=gH hz2;clear hcell hch hi hz0 hz1 hz2 h ha
  go_in
  go_wp2_with (at_builtin;refine wpList_append_own _ rfl _ _ 30 rfl w.heap.size 177 i0 (.agg #[.string ByteArray.empty,.string ByteArray.empty,.int .i64 0,.string ByteArray.empty,.string ByteArray.empty,.bool false]) 6 80 Tryz.underlying30 HI.out jG.out jt.out jX.out rfl (by decide) _ _ _ rfl (World.ownsRow_made w #[] 0 (Nat.le_refl _) (Nat.zero_le _) rfl) ad l.length cap bw.flatten rfl ?AP ?AQ ?AR ?AU ?AW ?Ba ?_)
  case AP=>exact H3.out.len
  case AQ =>
   intro j u hj;exact Lib.cell?_alloc_some _ (H1.out j u hj)
  case AR=>exact H2.out
  case AU=>unfold maxLen;omega
  case AW=>omega
  case Ba=>simp
  intro v' w1 hown hgrow hnil;have HO:=gH hown;have HA:=gH (show ag w w1 from ((Below.refl _ w).alloc (Nat.le_refl _) _).grown hgrow (by simp) (by intro k hk;simp [Value.ownBlock] at hk;omega));clear hown hgrow hnil;go_wp2;go_ret;refine ⟨v',bw,rfl,HA.out,?_,H3.out⟩
  simpa using HO.out
theorem Kb.or {P Q:Nat→Prop} {w w' w'':World} (h:Kb P w w') (h':Kb Q w' w''):Kb (fun g=>P g∨Q g) w w'':=(h.mono fun _ _=>.inl).trans (h'.mono fun _ _=>.inr)
def ED (w:World) (r:bS × Int) (e:Ending) (w':World):Prop:=∃ hs ht hn hm hg L,e=.returned (.tuple #[OV r.1 hs ht hn hm hg,.int .i64 r.2])∧ag w w'∧er w' w.heap.size r.1 hs ht hn hm hg L
theorem Hs (w:World) (B:Nat):er w B qY ⟨none,0,0⟩ ⟨none,0,0⟩ ⟨none,0,0⟩ ⟨none,0,0⟩ ⟨none,0,0⟩ [] :=
 ⟨⟨cO _ _ _ _,cO _ _ _ _,fun x hx=>by simp at hx,by simp [im]⟩,rfl,⟨cO _ _ _ _,cO _ _ _ _,fun g hg=>by simp [im] at hg⟩,cO _ _ _ _,fun g hg=>by simp [im] at hg,fun g hg=>by simp [im] at hg⟩
theorem Dg {w w':World} {k:Int} (a:ag w w'):ED w (qY,k) (.returned (.tuple #[.agg #[.int .i64 0,.int .i64 0,.slice none 0 0,.slice none 0 0,.slice none 0 0,.slice none 0 0,.slice none 0 0],.int .i64 k])) w' :=
 ⟨⟨none,0,0⟩,⟨none,0,0⟩,⟨none,0,0⟩,⟨none,0,0⟩,⟨none,0,0⟩,[],rfl,a,Hs _ _⟩
def rS (hs ht hn hm:Hd) (L:List bA) (g:Nat):Prop:=g∈hs.blk++(ht.blk++L.flatMap bA.gu)∨(g∈hn.blk∨g∈hm.blk)
theorem er.lt {w:World} {B:Nat} {c:bS} {hs ht hn hm hg:Hd} {L:List bA} (h:er w B c hs ht hn hm hg L) {g:Nat} (yq:rS hs ht hn hm L g∨g∈hg.blk):B≤g∧g < w.heap.size:=by
 rcases yq with (h1 | h1) | h1
 ·exact h.obj.lt g h1
 ·exact h.GF.lt g h1
 ·exact h.qr.lt g (Hd.bj.1 h1)
theorem er.TM {P:Nat→Prop} {w w':World} {B:Nat} {c:bS} {hs ht hn hm hg yq:Hd} {L:List bA} {l:List cD} (h:er w B c hs ht hn hm hg L) (kb:Kb P w w') (hP:∀ g,rS hs ht hn hm L g→¬ P g)
  (ho:w'.ownsRow B 177 6 yq.v l.length (l.flatMap eR)) (hb:∀ g∈yq.blk,g∈hg.blk∨w.heap.size≤g):er w' B { c with ah:=l } hs ht hn hm yq L :=
 ⟨h.obj.kb kb (fun g hg=>hP g (.inl hg)),h.Nt,h.GF.kb kb (fun g hg=>hP g (.inr hg)),ho,
 fun g hg=>⟨(h.za g hg).1,fun h2=>by
  rcases hb g h2 with h3 | h3
  ·exact (h.za g hg).2 h3
  ·have:=(h.obj.lt g hg).2;omega⟩,
 fun g hg h2=>by
  rcases hb g h2 with h3 | h3
  ·exact h.zS g hg h3
  ·have:=(h.GF.lt g hg).2;omega⟩
theorem er.kb {P:Nat→Prop} {w w':World} {B:Nat} {c:bS} {hs ht hn hm hg:Hd} {L:List bA} (h:er w B c hs ht hn hm hg L) (kb:Kb P w w') (hP:∀ g,rS hs ht hn hm L g∨g∈hg.blk→¬ P g):er w' B c hs ht hn hm hg L :=
 ⟨h.obj.kb kb (fun g hg=>hP g (.inl (.inl hg))),h.Nt,h.GF.kb kb (fun g hg=>hP g (.inl (.inr hg))),br h.qr kb (fun g hg=>hP g (.inr (Hd.bj.2 hg))),h.za,h.zS⟩
theorem er.down {w:World} {B B':Nat} {c:bS} {hs ht hn hm hg:Hd} {L:List bA} (h:er w B c hs ht hn hm hg L) (hb:B'≤B):er w B' c hs ht hn hm hg L:=⟨h.obj.down hb,h.Nt,h.GF.down hb,bM h.qr hb,h.za,h.zS⟩
def zj (k:Int):Ending:=.panicked [{ v:=.iface 103 (.agg #[.int .i64 k]),recovered:=false }]
theorem vP (w:World):Calls Tryz.prog 66 #[.int .i64 0] w fun e w'=>e=.returned (.tuple #[])∧w=w':=by
 go_in
 go_wp2
 go_end0
 exact ⟨rfl,rfl⟩
theorem vQ (k:Int) (h:k≠0) (w:World):Calls Tryz.prog 66 #[.int .i64 k] w fun e w'=>e=zj k∧w=w':=by
 go_in
 go_wp2_with fail;exact ⟨rfl,rfl,rfl⟩
theorem uy (k:Int) (w:World):Calls Tryz.prog 67 #[.bool true,.int .i64 k] w fun e w'=>e=.returned (.tuple #[])∧w=w':=by
 go_in
 go_wp2
 go_end0
 exact ⟨rfl,rfl⟩
theorem uA (k:Int) (w:World):Calls Tryz.prog 67 #[.bool false,.int .i64 k] w fun e w'=>e=zj k∧w=w':=by
 go_in
 go_wp2_with fail;exact ⟨rfl,rfl,rfl⟩
def kP (c:bS) (hs ht hn hm hg:Hd):List Value:=[.int .i64 c.av,.int .i64 c.version,.slice hs.a c.aj.ae.length hs.c,.slice ht.a c.aj.tables.length ht.c,.slice hn.a c.ar.names.length hn.c,.slice hm.a c.ar.members.length hm.c,.slice hg.a c.ah.length hg.c]
def rT (w:World) (B b:Nat) (r:bS × Int) (e:Ending) (w':World):Prop :=
 Kb (fun g=>g=b∨B≤g) w w'∧(r.2≠0→e=zj r.2∧∃ vs,vs.length=7∧ai w' b vs)∧(r.2=0→e=.returned (.tuple #[])∧∃ hs ht hn hm hg L,er w' B r.1 hs ht hn hm hg L∧ai w' b (kP r.1 hs ht hn hm hg))
theorem rT.no {w w':World} {B b:Nat} {r:bS × Int} {k:Int} {vs:List Value} (k0:Kb (fun g=>g=b∨B≤g) w w') (rw0:ai w' b vs) (hl:vs.length=7) (h:r.2=k) (hk:k≠0):rT w B b r (zj k) w':=⟨k0,fun _=>⟨by rw [h],vs,hl,rw0⟩,fun h0=>absurd (h.symm.trans h0) hk⟩
theorem er.aj {w w':World} {B D:Nat} {c:bS} {hs ht hn hm hg hs' kq:Hd} {L L':List bA} {o:bE} (h:er w B c hs ht hn hm hg L) (a:ag w w') (hD:w.heap.size≤D) (hBD:B≤w.heap.size) (ob:dw w' D hs' kq o.ae L') (hL:L'.map bA.t=o.tables):er w' B { c with aj:=o } hs' kq hn hm hg L':=by
 have h2:=h.aA a;refine ⟨ob.down (by omega),hL,h2.GF,h2.qr,fun g yq=>?_,h2.zS⟩;have h3:=(ob.lt g yq).1;refine ⟨fun h4=>?_,fun h4=>?_⟩
 ·have:g < w.heap.size:=by rcases h4 with h4 | h4<;>exact (h.lt (.inl (by unfold rS;simp [h4]))).2
  omega
 ·have:=(h.lt (.inr h4)).2
  omega
theorem TN {w V:World} {B b D:Nat} {c:bS} {hs ht hn hm hg:Hd} {L L2:List bA} {F0:List fK} {F1:List bW} {A1 A2:Option Addr} {n1 c1 n2 c2:Nat} (hb:b < B) (TP:B≤w.heap.size) (h:er w B c hs ht hn hm hg L) (R0:ai w b (kP c hs ht hn hm hg)) (aV:ag w V) (hD:w.heap.size≤D) (ob:dw V D ⟨A1,n1,c1⟩ ⟨A2,n2,c2⟩ F0 L2) (hL:L2.map bA.t=F1) :
  rT w B b ({ c with aj:=⟨F0,F1⟩ },0) (.returned (.tuple #[])) ((V.setCell ⟨b,2,none⟩ (.slice A1 F0.length c1)).setCell ⟨b,3,none⟩ (.slice A2 F1.length c2)):=by
 have h2:=h.aj (o:=⟨F0,F1⟩) aV hD TP ob hL;have k:=(Kb.set V b 2 (.slice A1 F0.length c1)).trans (Kb.set _ b 3 (.slice A2 F1.length c2));refine ⟨(Kb.aO aV).trans (k.mono fun g _ e=>.inl e),fun h=>absurd rfl h,fun _=>⟨rfl,⟨A1,n1,c1⟩,⟨A2,n2,c2⟩,hn,hm,hg,L2,h2.kb k fun g yq e=>?_,?_⟩⟩
 ·have:=(h2.lt yq).1
  omega
 ·exact ((R0.aA aV).set 2 _ (by simp [kP])).set 3 _ (by simp [kP])
structure mM (w:World) (x:gc) (A6:Option Addr) (c6:Nat) (A9:Option Addr) (c9:Nat):Prop where
 au:az w 3 fL A6 c6 x.au
 names:az w 1 dC A9 c9 x.rule.au
 s1:Small x.aK.size
 s2:Small x.af.size
 s3:Small x.table.size
 s4:Small x.name.size
 s5:Small x.role.size
 t1:Small x.rule.name.size
 t2:Small x.rule.af.size
 t3:Small x.rule.table.size
 t4:Small x.rule.key.size
 r:(Lit.int .i64 x.right).wf=true
theorem mM.aA {w w':World} {x:gc} {A6:Option Addr} {c6:Nat} {A9:Option Addr} {c9:Nat} (h:mM w x A6 c6 A9 c9) (a:ag w w'):mM w' x A6 c6 A9 c9:=⟨dF a h.au,aU a h.names,h.s1,h.s2,h.s3,h.s4,h.s5,h.t1,h.t2,h.t3,h.t4,h.r⟩
theorem qa.XL {w w1 W:World} {r:bE × Int} {b:Nat} {hs ht:Hd} {L:List bA} (aW:ag w W) (a:ag W w1) (hb:w.heap.size≤b) (Z2:b < W.heap.size) (hL:L.map bA.t=r.1.tables) (ob:dw w1 W.heap.size hs ht r.1.ae L) :
  qa w r (.returned (.tuple #[.agg #[.slice hs.a r.1.ae.length hs.c,.slice ht.a r.1.tables.length ht.c],.int .i64 r.2])) ((w1.setCell ⟨b,0,none⟩ (.slice hs.a r.1.ae.length hs.c)).setCell ⟨b,1,none⟩ (.slice ht.a r.1.tables.length ht.c)) :=
 ru (W:=W) (aW.trans a) hL ob hb Z2 rfl
def EE (o:bE) (x:gc):bE × Int:=if x.kind=1 then iU o (dg x.af x.aK o) else iU o (cC x.af o)
theorem Px (o:bE) (As:Option Addr) (ax:Nat) (At:Option Addr) (aD:Nat) (x:gc) (A6:Option Addr) (c6:Nat) (A9:Option Addr) (c9:Nat) (w:World) (eJ:az w 2 eE As ax o.ae) (dH:az w 5 dE At aD o.tables) (hk:x.kind=1∨x.kind=2) (s1:Small x.aK.size) (s2:Small x.af.size) :
  Calls Tryz.prog 130 #[.agg #[.slice As o.ae.length ax,.slice At o.tables.length aD],.agg #[.int .i64 x.kind,.string x.aK,.string x.af,.string x.table,.string x.name,.string x.role,.slice A6 x.au.length c6,.string x.rule.name,.int .i64 x.rule.kind,.slice A9 x.rule.au.length c9,.int .i64 x.rule.low,.int .i64 x.rule.high,.string x.rule.af,.string x.rule.table,.string x.rule.key,.int .i64 x.right,.bool x.opt]] w (qa w (EE o x)):=by
 have l1:w.heap.size < w.heap.size+1:=by omega
 have l2:w.heap.size < w.heap.size+1+1:=by omega
 have l3:w.heap.size < w.heap.size+1+1+1:=by omega
 have l4:w.heap.size+1 < w.heap.size+1+1+1:=by omega
 obtain ⟨W,hW⟩:∃ W,W=((w.alloc (.cells #[.slice As o.ae.length ax,.slice At o.tables.length aD] 25)).alloc (.cells #[.int .i64 x.kind,.string x.aK,.string x.af,.string x.table,.string x.name,.string x.role,.slice A6 x.au.length c6,.string x.rule.name,.int .i64 x.rule.kind,.slice A9 x.rule.au.length c9,.int .i64 x.rule.low,.int .i64 x.rule.high,.string x.rule.af,.string x.rule.table,.string x.rule.key,.int .i64 x.right,.bool x.opt] 45)).alloc (.cells #[.slice none 0 0,.slice none 0 0] 25):=⟨_,rfl⟩
 have aW:ag w W:=by rw [hW];exact (((ag.refl w).alloc _).alloc _).alloc _
 have r0:ai W (w.heap.size) [.slice As o.ae.length ax,.slice At o.tables.length aD]:=by rw [hW];exact ai.up (ai.up (aR (ag.refl _) (by simp)))
 have r1:ai W (w.heap.size+1) [.int .i64 x.kind,.string x.aK,.string x.af,.string x.table,.string x.name,.string x.role,.slice A6 x.au.length c6,.string x.rule.name,.int .i64 x.rule.kind,.slice A9 x.rule.au.length c9,.int .i64 x.rule.low,.int .i64 x.rule.high,.string x.rule.af,.string x.rule.table,.string x.rule.key,.int .i64 x.right,.bool x.opt]:=by rw [hW];exact ai.up (aR (ag.refl _) (by simp))
 have r2:ai W (w.heap.size+1+1) [.slice none 0 0,.slice none 0 0]:=by rw [hW];exact aR (ag.refl _) (by simp)
 have zW:W.heap.size=w.heap.size+3:=by rw [hW];simp
 have HR:=gH r2;have cu:=gH aW;have Ht:=gH zW;obtain ⟨k,oY⟩:∃ k,x.kind=k:=⟨_,rfl⟩;obtain ⟨F,hF⟩:∃ F,EE o x=F:=⟨_,rfl⟩
 have TQ:=gH (show k=1→Calls Tryz.prog 202 #[.agg #[.slice As o.ae.length ax,.slice At o.tables.length aD],.string x.af,.string x.aK] W (qa W F) from fun h=>by
  have:=vJ o As ax At aD x.af x.aK W (bQ aW eJ) (bC aW dH) s2 s1;rw [← hF];unfold EE
  rwa [if_pos (oY.trans h)])
 have HC1:=gH (show k=2→Calls Tryz.prog 203 #[.agg #[.slice As o.ae.length ax,.slice At o.tables.length aD],.string x.af] W (qa W F) from fun h=>by
  have:=tE o As ax At aD x.af W (bQ aW eJ) (bC aW dH);rw [← hF];unfold EE
  rwa [if_neg (by omega)])
 rw [hF];rw [oY] at hW r1 hk ⊢;have z0:=r0.1;have z1:=r1.1;have z2:=r2.1;have x0:=r0.cell (j:=0) rfl;have x1:=r0.cell (j:=1) rfl;obtain ⟨y0,y1,y2,y3,y4,y5,y6,y7,y8,y9,pG,pH,pI,pJ,pK,pL,pM⟩:=j0 r1;clear eJ dH aW r0 r1 r2 zW s1 s2 hF oY;obtain ⟨⟨F0,F1⟩,F2⟩:=F
 have HCC:=hk.imp (fun h=>And.intro h (TQ.out h)) fun h=>And.intro h (HC1.out h)
 clear TQ HC1 hk
 rcases HCC with ⟨rfl,HC⟩ | ⟨rfl,HC⟩
 all_goals
  have HC:=gH HC
  go_in
  go_wp2_with fail;rw [← hW];clear hW;refine HC.out.mono ?_;rintro e w1 ⟨⟨A1,n1,c1⟩,⟨A2,n2,c2⟩,L,hL,rfl,a1,ob⟩;have row:=HR.out.aA a1;have u0:=row.cell (j:=0) rfl;have u1:=row.cell (j:=1) rfl;have uz:=row.1;have f0:=row.2.2 0 (by simp);have f1:=row.2.2 1 (by simp);have HP:=gH (qa.XL (b:=w.heap.size+1+1) cu.out a1 (by omega) (by have:=Ht.out;omega) hL ob);have XM:=gH row;simp only;clear ob hL row a1;go_wp2;refine bodyPost_ret (results_cell_tmp (v:=.agg #[.slice A1 F0.length c1,.slice A2 F1.length c2]) rfl _ rfl (gY (Hu XM.out rfl _ _))) rfl ?_;exact HP.out
theorem Hv {c:bS} {x:gc} (h:x.kind≤9) (h4:x.kind≠4):cS c x=({ c with aj:=(dy c x).1 },(dy c x).2):=by unfold cS;rw [if_pos h,if_neg h4]
theorem Hw {c:bS} {x:gc} (hk:x.kind=1∨x.kind=2):dy c x=EE c.aj x:=by
 unfold dy EE
 rcases hk with h | h<;>simp [h]
theorem TR (c:bS) (hs ht hn hm hg:Hd) (L:List bA) (B b:Nat) (x:gc) (A6:Option Addr) (c6:Nat) (A9:Option Addr) (c9:Nat) (w:World) (hb:b < B) (TP:B≤w.heap.size) (C:er w B c hs ht hn hm hg L) (sm:Ed c) (R:ai w b (kP c hs ht hn hm hg)) (XA:mM w x A6 c6 A9 c9) (hr:bI c.ar=true) (hk:x.kind=1∨x.kind=2) :
  Calls Tryz.prog 75 #[.pointer (some ⟨b,0,none⟩),.agg #[.int .i64 x.kind,.string x.aK,.string x.af,.string x.table,.string x.name,.string x.role,.slice A6 x.au.length c6,.string x.rule.name,.int .i64 x.rule.kind,.slice A9 x.rule.au.length c9,.int .i64 x.rule.low,.int .i64 x.rule.high,.string x.rule.af,.string x.rule.table,.string x.rule.key,.int .i64 x.right,.bool x.opt]] w (rT w B b (cS c x)):=by
 have l1:w.heap.size < w.heap.size+1:=by omega
 obtain ⟨k,oY⟩:∃ k,x.kind=k:=⟨_,rfl⟩;obtain ⟨F,hF⟩:∃ F,cS c x=F:=⟨_,rfl⟩;obtain ⟨W,hW⟩:∃ W,W=w.alloc (.cells #[.int .i64 k,.string x.aK,.string x.af,.string x.table,.string x.name,.string x.role,.slice A6 x.au.length c6,.string x.rule.name,.int .i64 x.rule.kind,.slice A9 x.rule.au.length c9,.int .i64 x.rule.low,.int .i64 x.rule.high,.string x.rule.af,.string x.rule.table,.string x.rule.key,.int .i64 x.right,.bool x.opt] 45):=⟨_,rfl⟩
 have aW:ag w W:=by rw [hW];exact (ag.refl w).alloc _
 have VW:B≤W.heap.size:=Nat.le_trans TP aW.size
 have r1:ai W w.heap.size [.int .i64 k,.string x.aK,.string x.af,.string x.table,.string x.name,.string x.role,.slice A6 x.au.length c6,.string x.rule.name,.int .i64 x.rule.kind,.slice A9 x.rule.au.length c9,.int .i64 x.rule.low,.int .i64 x.rule.high,.string x.rule.af,.string x.rule.table,.string x.rule.key,.int .i64 x.right,.bool x.opt]:=by rw [hW];exact aR (ag.refl _) (by simp)
 have r0:=R.aA aW;have XN:=gH (C.at sm);obtain ⟨G,hG⟩:∃ G,dy c x=G:=⟨_,rfl⟩
 have HO:=gH (show ∀ V,ag W V→Calls Tryz.prog 130 #[.agg #[.slice hs.a c.aj.ae.length hs.c,.slice ht.a c.aj.tables.length ht.c],.agg #[.int .i64 k,.string x.aK,.string x.af,.string x.table,.string x.name,.string x.role,.slice A6 x.au.length c6,.string x.rule.name,.int .i64 x.rule.kind,.slice A9 x.rule.au.length c9,.int .i64 x.rule.low,.int .i64 x.rule.high,.string x.rule.af,.string x.rule.table,.string x.rule.key,.int .i64 x.right,.bool x.opt]] V (qa V G) from fun V a=>by
  rw [← oY,← hG,Hw hk]
  exact Px c.aj hs.a hs.c ht.a ht.c x A6 c6 A9 c9 V (bQ (aW.trans a) XN.out.fS) (bC (aW.trans a) XN.out.tab) hk XA.s1 XA.s2)
 have HRO:=gH (show F=({ c with aj:=G.1 },G.2) from by rw [← hF,← hG];exact Hv (by omega) (by omega));rw [hF];rw [oY] at hk ⊢;have HC:=gH C;have HRW:=gH R;have cu:=gH aW;have kJ:=gH r0;have x2:=r0.cell (j:=2) rfl;have x3:=r0.cell (j:=3) rfl;have x4:=r0.cell (j:=4) rfl;have x5:=r0.cell (j:=5) rfl;obtain ⟨y0,y1,y2,y3,y4,y5,y6,y7,y8,y9,pG,pH,pI,pJ,pK,pL,pM⟩:=j0 r1;have z0:=r0.1;have z1:=r1.1;clear C sm R aW r0 r1 hF hG XN XA hr oY VW;have HK:=HO;have mX:=HRO;obtain ⟨D0,D2⟩:=G
 rcases hk with rfl | rfl
 all_goals
  go_in
  go_wp2_with fail;rw [← hW];clear hW
  (try go_wp2_with fail)
  go_region_law (go_simp;go_at_call 130;refine (HK.out _ (ag.refl W).drew).mono ?_;rintro e w3 ⟨⟨A1,n1,c1⟩,⟨A2,n2,c2⟩,L2,hL,rfl,a3,ob⟩;have a4:ag W w3:=(ag.refl _).drew.trans a3;have q:=kJ.out.aA a4;have u2:=q.cell (j:=2) rfl;have u3:=q.cell (j:=3) rfl;have g2:=q.2.2 2 (by simp [kP]);have g3:=q.2.2 3 (by simp [kP]);have qz:=q.1)
  all_goals
   have zk:=gH (cu.out.trans a4);have Ts:=gH ob;have XH:=gH hL;clear a3 a4 ob q u2 u3 g2 g3 qz hL;by_cases h2:D2=0
   ·subst h2
    have HP:=gH (TN hb TP HC.out HRW.out zk.out (D:=W.heap.size) cu.out.size Ts.out XH.out);go_wp2_with fail;refine (vP _).mono ?_;rintro e w5 ⟨rfl,rfl⟩;go_wp2
    go_end0
    rw [mX.out];exact HP.out
   ·have HP:=gH (show rT w B b F (zj D2) ((w3.setCell ⟨b,2,none⟩ (.slice A1 D0.ae.length c1)).setCell ⟨b,3,none⟩ (.slice A2 D0.tables.length c2)) from rT.no ((Kb.aO zk.out).trans (((Kb.set w3 b 2 (.slice A1 D0.ae.length c1)).trans (Kb.set _ b 3 (.slice A2 D0.tables.length c2))).mono fun g _ e=>.inl e)) (((HRW.out.aA zk.out).set 2 _ (by simp [kP])).set 3 _ (by simp [kP])) (by simp [kP]) (by rw [mX.out]) h2)
    go_wp2_with fail;refine (vQ D2 h2 _).mono ?_;rintro e w5 ⟨he,rfl⟩;unfold zj at he;subst he
    dsimp only
    exact ⟨rfl,HP.out⟩
theorem yr (p q:Nat) (k:Int) (v0 v1 v2 v3 v4 v5 v6 x:Value) (w:World) (rp:ai w p [v0,v1,v2,v3,v4,v5,v6]) (rq:ai w q [x]) (Nh:p≠q) :
  CallsD Tryz.prog 65 #[.pointer (some ⟨p,0,none⟩),.pointer (some ⟨q,0,none⟩)] (.panicking [{ v:=.iface 103 (.agg #[.int .i64 k]),recovered:=false }]) w fun e u' w' =>
   e=.returned (.tuple #[])∧u'=.panicking [{ v:=.iface 103 (.agg #[.int .i64 k]),recovered:=true }]∧Kb (fun g=>g=p∨g=q) w w'∧ai w' p [.int .i64 0,.int .i64 0,.slice none 0 0,.slice none 0 0,.slice none 0 0,.slice none 0 0,.slice none 0 0]∧ai w' q [.int .i64 k]:=by
 have hqp:q≠p:=fun e=>Nh e.symm
 refine callsD_of_wpS Tryz.func65 rfl fun Gl cs hu=>?_
 apply wpS_seq;apply wpS_region;simp [wpOpsS,go_sem,recoverD,hu,Tryz.ntmps65,Exit.thenS];have e:(#[Value.pointer (some ⟨p,0,none⟩),Value.pointer (some ⟨q,0,none⟩)]++((Array.replicate 8 undef).setIfInBounds 1 (Value.iface 103 (Value.agg #[Value.int IntKind.i64 k]))).setIfInBounds 0 (Value.iface 103 (Value.agg #[Value.int IntKind.i64 k])))=#[Value.pointer (some ⟨p,0,none⟩),Value.pointer (some ⟨q,0,none⟩),Value.iface 103 (Value.agg #[Value.int IntKind.i64 k]),Value.iface 103 (Value.agg #[Value.int IntKind.i64 k]),undef,undef,undef,undef,undef,undef]:=rfl;rw [e];clear e;have HP:=gH rp;have HQ:=gH rq;have x0:=rp.cell (j:=0) rfl;have f0:=rp.2.2 0 (by simp);have x1:=rp.cell (j:=1) rfl;have f1:=rp.2.2 1 (by simp);have x2:=rp.cell (j:=2) rfl;have f2:=rp.2.2 2 (by simp);have x3:=rp.cell (j:=3) rfl;have f3:=rp.2.2 3 (by simp);have x4:=rp.cell (j:=4) rfl;have f4:=rp.2.2 4 (by simp);have x5:=rp.cell (j:=5) rfl;have f5:=rp.2.2 5 (by simp);have x6:=rp.cell (j:=6) rfl;have f6:=rp.2.2 6 (by simp);have xz:=rp.1;have y0:=rq.cell (j:=0) rfl;have g0:=rq.2.2 0 (by simp);have yz:=rq.1;clear rp rq
 have hta:∀ V:World,(Instr.typeAssert (Value.iface 103 (Value.agg #[Value.int IntKind.i64 k])) 20 103 false).run Tryz.prog V=.ok (.agg #[.int .i64 k]) V:=fun V=>by first | rfl | kernel_rfl
 have Q1:∀ V:World,(Instr.field 103 (Value.agg #[Value.int IntKind.i64 k]) 0).run Tryz.prog V=.ok (.int .i64 k) V:=fun V=>by first | rfl | kernel_rfl
 refine wpS_of_wp ?_;go_wp2_with fail
 go_region
 go_wp2_with fail;have k1:=nQ w p (.int .i64 0) (.int .i64 0) (.slice none 0 0) (.slice none 0 0) (.slice none 0 0) (.slice none 0 0) (.slice none 0 0);have r1:=lw HP.out rfl (.int .i64 0) (.int .i64 0) (.slice none 0 0) (.slice none 0 0) (.slice none 0 0) (.slice none 0 0) (.slice none 0 0);have q1:=k1.row HQ.out hqp;obtain ⟨V,hV⟩:∃ V,V=((((((w.setCell ⟨p,0,none⟩ (.int .i64 0)).setCell ⟨p,1,none⟩ (.int .i64 0)).setCell ⟨p,2,none⟩ (.slice none 0 0)).setCell ⟨p,3,none⟩ (.slice none 0 0)).setCell ⟨p,4,none⟩ (.slice none 0 0)).setCell ⟨p,5,none⟩ (.slice none 0 0)).setCell ⟨p,6,none⟩ (.slice none 0 0):=⟨_,rfl⟩;rw [← hV] at k1 r1 q1 ⊢;refine ⟨rfl,_,rfl,.tuple #[],?_,rfl,rfl,?_,?_,?_⟩
 ·exact results_none rfl _ _ _
 ·exact ((k1.mono fun g _ e=>.inl e).trans ((Kb.set V q 0 _).mono fun g _ e=>.inr e)).trans (Kb.aO (ag.refl _).drew)
 ·exact (r1.Py hqp 0 _).aA (ag.refl _).drew
 ·exact (q1.set 0 _ (by simp)).aA (ag.refl _).drew
theorem vR (p q:Addr) (w:World) :
  CallsD Tryz.prog 65 #[.pointer (some p),.pointer (some q)] .returning w fun e u' w'=>e=.returned (.tuple #[])∧u'=.returning∧w'=w:=by
 refine callsD_of_wpS Tryz.func65 rfl fun Gl cs hu=>?_
 apply wpS_seq;apply wpS_region;simp [wpOpsS,go_sem,recoverD,hu,Tryz.ntmps65,Exit.thenS];have e:(#[Value.pointer (some p),Value.pointer (some q)]++((Array.replicate 8 undef).setIfInBounds 1 Value.nilIface).setIfInBounds 0 Value.nilIface)=#[Value.pointer (some p),Value.pointer (some q),Value.nilIface,Value.nilIface,undef,undef,undef,undef,undef,undef]:=rfl;rw [e];clear e;refine wpS_of_wp ?_;go_wp2_with fail
 cases Gl
 refine ⟨rfl,_,?_,.tuple #[],?_,rfl,rfl,rfl⟩
 ·simp only at hu
  subst hu;rfl
 ·exact results_none rfl _ _ _
theorem lH {fn:Func} {a u:Tmp} {t s:TypeId} (h:fn.results=#[.cell a t,.cell u s]) (tmps:Array Value) {P:Program} {w:World} {p q:Addr} {v x:Value} (ha:tmps.getD a undef=.pointer (some p)) (hu:tmps.getD u undef=.pointer (some q)) (hl:(loadVar t p).run P w=.ok v w) (hm:(loadVar s q).run P w=.ok x w) :
  (results fn tmps).run P w=.ok (.tuple #[v,x]) w:=by
 rw [Array.getD_eq_getD_getElem?] at ha hu;simp [results,h,ha,hu,asAddr,hl,hm]
theorem uB {tmps:Array Value} {R:Ending→World→Prop} {p q:Nat} {k:Int} {vs:List Value} {x:Value} {V:World} (h4:tmps.getD 4 undef=.pointer (some ⟨p,0,none⟩)) (h5:tmps.getD 5 undef=.pointer (some ⟨q,0,none⟩)) (rp:ai V p vs) (hl:vs.length=7) (rq:ai V q [x]) (Nh:p≠q)
  (hR:∀ w',Kb (fun g=>g=p∨g=q) V w'→R (.returned (.tuple #[.agg #[.int .i64 0,.int .i64 0,.slice none 0 0,.slice none 0 0,.slice none 0 0,.slice none 0 0,.slice none 0 0],.int .i64 k])) w') :
  Leaves Tryz.prog Tryz.f49 tmps R [{ target:=Target.fn (Fn.func 65) #[.pointer (some ⟨p,0,none⟩),.pointer (some ⟨q,0,none⟩)],args:=#[] }] (.panicking [{ v:=.iface 103 (.agg #[.int .i64 k]),recovered:=false }]) V:=by
 obtain ⟨v0,v1,v2,v3,v4,v5,v6,rfl⟩:∃ v0 v1 v2 v3 v4 v5 v6,vs=[v0,v1,v2,v3,v4,v5,v6]:=by
  match vs,hl with
  | [a0,a1,a2,a3,a4,a5,a6],_=>exact ⟨a0,a1,a2,a3,a4,a5,a6,rfl⟩
 refine leaves_cons (f:=65) (args:=#[.pointer (some ⟨p,0,none⟩),.pointer (some ⟨q,0,none⟩)]) (by simp) (by simp [go_sem]) ?_;refine (yr p q k v0 v1 v2 v3 v4 v5 v6 x V rp rq Nh).mono ?_;rintro e u' w'' ⟨rfl,rfl,kb,r1,r2⟩;exact ⟨_,lH rfl tmps h4 h5 (l6 r1) (iY r2),hR _ kb⟩
theorem uC {tmps:Array Value} {R:Ending→World→Prop} {p q:Nat} {k:Int} {v0 v1 v2 v3 v4 v5 v6:Value} {V:World} (h4:tmps.getD 4 undef=.pointer (some ⟨p,0,none⟩)) (h5:tmps.getD 5 undef=.pointer (some ⟨q,0,none⟩)) (rp:ai V p [v0,v1,v2,v3,v4,v5,v6]) (rq:ai V q [.int .i64 k])
  (hR:R (.returned (.tuple #[.agg #[v0,v1,v2,v3,v4,v5,v6],.int .i64 k])) V) :
  Leaves Tryz.prog Tryz.f49 tmps R [{ target:=Target.fn (Fn.func 65) #[.pointer (some ⟨p,0,none⟩),.pointer (some ⟨q,0,none⟩)],args:=#[] }] .returning V:=by
 refine leaves_cons (f:=65) (args:=#[.pointer (some ⟨p,0,none⟩),.pointer (some ⟨q,0,none⟩)]) (by simp) (by simp [go_sem]) ?_;refine (vR ⟨p,0,none⟩ ⟨q,0,none⟩ V).mono ?_;rintro e u' w'' ⟨rfl,rfl,rfl⟩;exact ⟨_,lH rfl tmps h4 h5 (l6 rp) (iY rq),hR⟩
theorem yt {o:bE} {nm ow:ByteArray} (h:oH o) (h1:Small nm.size) (h2:Small ow.size):oH (dg nm ow o).1:=by
 unfold dg
 split
 ·exact cQ
 ·split
  ·exact cQ
  ·split
   ·exact cQ
   ·rename_i h3 h4 h5
    refine ⟨⟨?_,fun s hs=>?_⟩,h.2⟩
    ·show Small ((cP _ _ _).length*16)
     rw [eI _ _ _ (fT _ _ _)];unfold Small;omega
    ·rcases bK.1 hs with e | e
     ·rw [e];exact ⟨h1,h2⟩
     ·exact h.1.2 s e
theorem vS {o:bE} {nm:ByteArray} (h:oH o):oH (cC nm o).1:=by
 unfold cC
 split
 ·exact cQ
 ·split
  ·exact cQ
  ·exact ⟨⟨Nat.le_trans (Nat.mul_le_mul_right _ (List.length_eraseIdx_le _ _)) h.1.1,fun s hs=>h.1.2 s (List.mem_of_mem_eraseIdx hs)⟩,h.2⟩
theorem EF {o:bE} {r:bE × Int} (h:bD o=true→oH r.1):oH (iU o r).1:=by
 unfold iU
 split
 ·rename_i h1;exact h h1
 ·exact cQ
theorem yu {o:bE} {t:bW} (h:oH o) (ht:tA t):oH (iU o (ii t o)).1:=by
 refine EF fun hc=>?_
 have hl:=(nT hc).2.2.2;unfold ii
 split
 ·exact cQ
 ·split
  ·exact cQ
  ·split
   ·exact cQ
   ·split
    ·exact cQ
    ·split
     ·exact cQ
     ·refine ⟨h.1,?_,fun y hy=>?_⟩
      ·show Small ((cP _ _ _).length*16)
       rw [eI _ _ _ (fT _ _ _)];unfold Small;omega
      ·rcases bK.1 hy with e | e
       ·rw [e];exact ht
       ·exact h.2.2 y e
theorem vT {o:bE} {s n:ByteArray} (h:oH o):oH (fQ s n o).1:=by
 unfold fQ
 split
 ·exact cQ
 ·split
  ·exact cQ
  ·exact ⟨h.1,Nat.le_trans (Nat.mul_le_mul_right _ (List.length_eraseIdx_le _ _)) h.2.1,fun s hs=>h.2.2 s (List.mem_of_mem_eraseIdx hs)⟩
theorem Bj {t:bW} {v:ByteArray} (h:tA t) (hv:Small v.size):tA { t with owner:=v }:=⟨h.1,h.2.1,h.2.2.1,h.2.2.2.1,hv⟩
theorem kn {o:bE} {s n:ByteArray} {f:bW→bW × Int} (h:oH o) (hf:∀ t∈o.tables,(f t).2=0→tA (f t).1):oH (fD o s n f).1:=by
 unfold fD
 split
 ·rename_i t ht
  split
  ·exact cQ
  ·split
   ·rename_i hz;exact Ky h (hf t (List.mem_of_getElem? ht) hz)
   ·exact cQ
 ·exact cQ
theorem yv {o:bE} {s n v:ByteArray} (h:oH o) (hv:Small v.size):oH (jy o s n v).1:=by
 unfold jy
 split
 ·split
  ·exact kn h fun t ht _=>Bj (h.2.2 t ht) hv
  ·exact cQ
 ·exact cQ
theorem EG {t:bW} {c:dY} (h:tA t) (hc:Small c.name.size) (hz:(iW c t).2=0):tA (iW c t).1:=by
 unfold iW at hz ⊢
 split
 ·exact h
 ·split
  ·exact h
  ·split
   ·exact h
   ·rename_i h8
    refine ⟨⟨?_,fun x hx=>?_⟩,h.2.1,h.2.2.1,h.2.2.2.1,h.2.2.2.2⟩
    ·show Small ((t.au++[c]).length*16)
     simp [Small];omega
    ·rcases List.mem_append.1 hx with e | e
     ·exact h.1.2 x e
     ·rw [List.mem_singleton] at e;rw [e];exact hc
theorem Bk {t:bW} {s:ByteArray} (h:tA t):tA (ix s t).1:=by
 unfold ix
 split
 ·exact h
 ·split
  ·exact h
  ·exact ⟨⟨Nat.le_trans (Nat.mul_le_mul_right _ (List.length_eraseIdx_le _ _)) h.1.1,fun c hc=>h.1.2 c (List.mem_of_mem_eraseIdx hc)⟩,h.2.1,h.2.2.1,h.2.2.2.1,h.2.2.2.2⟩
theorem rU {t:bW} {l:List fh} (h:tA t) (h1:Small (l.length*16)) (h2:∀ r∈l,Pz r):tA { t with rules:=l }:=⟨h.1,⟨h1,h2⟩,h.2.2.1,h.2.2.2.1,h.2.2.2.2⟩
theorem yw {ts:List bW} {r:fh} {t:bW} (h:tA t) (hr:Pz r) (hz:(iV ts r t).2=0):tA (iV ts r t).1:=by
 unfold iV at hz ⊢
 split
 ·exact h
 ·split
  ·exact h
  ·split
   ·exact h
   ·rename_i h8
    split
    ·exact h
    ·refine rU h ?_ fun y hy=>?_
     ·show Small ((cP _ _ _).length*16)
      rw [eI _ _ _ (fT _ _ _)];unfold Small;omega
     ·rcases bK.1 hy with e | e
      ·rw [e];exact hr
      ·exact h.2.1.2 y e
theorem vU {ts:List bW} {s n name:ByteArray} {t:bW} (h:tA t):tA (iv ts s n name t).1:=by
 unfold iv
 split
 ·exact h
 ·split
  ·exact h
  ·exact rU h (Nat.le_trans (Nat.mul_le_mul_right _ (List.length_eraseIdx_le _ _)) h.2.1.1) fun y hy=>h.2.1.2 y (List.mem_of_mem_eraseIdx hy)
theorem Bl:lx O9:=⟨⟨by unfold Small;decide,fun x hx=>by simp [O9] at hx⟩,by unfold Small;decide,fun x hx=>by simp [O9] at hx⟩
theorem qC {r:gW} {f:gW × Int} (h:bI r=true→f.2=0→lx f.1):lx (lC r f).1:=by
 unfold lC
 split
 ·split
  ·next h1 h2=>exact h h1 h2
  ·exact Bl
 ·exact Bl
theorem Ld {r:gW} {name:ByteArray} (h:lx r) (hs:Small name.size):lx (lC r (Ha name r)).1:=qC fun hr hz=>by
 have hp:=cG.1 hr;unfold Ha at hz ⊢
 split at hz
 ·split at hz
  ·exact absurd hz (by simp)
  ·split at hz
   ·exact absurd hz (by simp)
   ·rename_i h1 h2 h3
    rw [if_pos h1,if_neg h2,if_neg h3];refine ⟨⟨?_,fun x hx=>?_⟩,h.2⟩
    ·show Small ((cP _ _ _).length*16)
     rw [eI _ _ _ (fT _ _ _)];unfold Small;omega
    ·rcases bK.1 hx with e | e
     ·rw [e];exact hs
     ·exact h.1.2 x e
 ·exact absurd hz (by simp)
theorem Hx {r:gW} {name:ByteArray} (h:lx r):lx (lC r (xO name r)).1:=qC fun hr hz=>by
 unfold xO at hz ⊢
 split at hz
 ·split at hz
  ·exact absurd hz (by simp)
  ·rename_i h1 h2
   rw [if_pos h1,if_neg h2];exact ⟨⟨Nat.le_trans (Nat.mul_le_mul_right _ (List.length_eraseIdx_le _ _)) h.1.1,fun x hx=>h.1.2 x (List.mem_of_mem_eraseIdx hx)⟩,h.2⟩
 ·exact absurd hz (by simp)
theorem Hy {r:gW} {x:dO} (h:lx r) (h1:Small x.role.size) (h2:Small x.of.size):lx (lC r (xP x r)).1:=qC fun hr hz=>by
 have hp:=cG.1 hr;unfold xP at hz ⊢
 split at hz
 ·split at hz
  ·exact absurd hz (by simp)
  ·split at hz
   ·exact absurd hz (by simp)
   ·rename_i xh h2' Le
    rw [if_pos xh,if_neg h2',if_neg Le];refine ⟨h.1,?_,fun y hy=>?_⟩
    ·show Small ((cP _ _ _).length*16)
     rw [eI _ _ _ (fT _ _ _)];unfold Small;omega
    ·rcases bK.1 hy with e | e
     ·rw [e];exact ⟨h1,h2⟩
     ·exact h.2.2 y e
 ·exact absurd hz (by simp)
theorem EH {r:gW} {x:dO} (h:lx r):lx (lC r (rK x r)).1:=qC fun hr hz=>by
 unfold rK at hz ⊢
 split at hz
 ·rename_i h1
  rw [if_pos h1];exact ⟨h.1,Nat.le_trans (Nat.mul_le_mul_right _ (List.length_eraseIdx_le _ _)) h.2.1,fun x hx=>h.2.2 x (List.mem_of_mem_eraseIdx hx)⟩
 ·exact absurd hz (by simp)
theorem Lf:Ed qY:=⟨⟨⟨by unfold Small;decide,fun x hx=>by simp [qY] at hx⟩,by unfold Small;decide,fun x hx=>by simp [qY] at hx⟩,⟨⟨by unfold Small;decide,fun x hx=>by simp [qY] at hx⟩,by unfold Small;decide,fun x hx=>by simp [qY] at hx⟩,by unfold Small;decide,fun x hx=>by simp [qY] at hx⟩
theorem vV (l:List cD) (g:cD):(laid l g).length≤l.length+1:=by
 cases h:ml l g
 ·rw [j9 h,eI _ _ _ (fT _ _ _)];omega
 ·rw [kf h];simp
theorem Hz {l:List cD} {g:cD} (h:∀ x∈l,wI x) (hg:wI g):∀ x∈laid l g,wI x:=fun x hx=>by
 cases hi:ml l g
 ·rw [j9 hi] at hx
  rcases bK.1 hx with e | e
  ·subst e;exact hg
  ·exact h x e
 ·rw [kf hi] at hx
  obtain ⟨y,hy,rfl⟩:=List.mem_map.1 hx;unfold mV
  split
  ·exact h y hy
  ·exact h y hy
theorem EI {c:bS} {g:cD} (h:(mE c g).2≠0):(mE c g).1=qY:=by
 unfold mE at h ⊢
 split
 ·rfl
 ·next h1 =>
  rw [if_neg h1] at h
  split
  ·rfl
  ·next h2 =>
   rw [if_neg h2] at h
   split
   ·rfl
   ·next h3 =>
    rw [if_neg h3] at h
    split
    ·rfl
    ·next h4 =>
     rw [if_neg h4] at h
     split
     ·rfl
     ·next h5=>rw [if_neg h5] at h;exact absurd rfl h
theorem EJ {c:bS} {g:cD} (h:Ed c) (hg:wI g):Ed (mE c g).1:=by
 by_cases he:(mE c g).2=0
 ·have k:=vy he
  rw [k.is];have h64:=(bP.1 (dX.1 k.whole).1).1;exact ⟨h.1,h.2.1,by have:=vV c.ah g;unfold Small;show (laid c.ah g).length*16≤_;omega,Hz h.2.2.2 hg⟩
 ·rw [EI he];exact Lf
structure TS (x:gc):Prop where
 au:Small (x.au.length*16)∧∀ c∈x.au,Small c.name.size
 names:Small (x.rule.au.length*16)∧∀ c∈x.rule.au,Small c.size
 s1:Small x.aK.size
 s2:Small x.af.size
 s3:Small x.table.size
 s4:Small x.name.size
 s5:Small x.role.size
 t1:Small x.rule.name.size
 t2:Small x.rule.af.size
 t3:Small x.rule.table.size
 t4:Small x.rule.key.size
 r:(Lit.int .i64 x.right).wf=true
theorem mM.sm {w:World} {x:gc} {A6:Option Addr} {c6:Nat} {A9:Option Addr} {c9:Nat} (h:mM w x A6 c6 A9 c9):TS x:=⟨Dh h.au,iq h.names,h.s1,h.s2,h.s3,h.s4,h.s5,h.t1,h.t2,h.t3,h.t4,h.r⟩
theorem Lg {x:gc} (s:TS x):Pz x.rule:=⟨s.names.1,s.names.2,s.t1,s.t2,s.t3,s.t4⟩
theorem H9 {c:bS} {x:gc} (h:oH c.aj) (s:TS x) (h5:x.kind=5→0 < x.au.length):oH (dy c x).1:=by
 unfold dy
 split
 ·exact kB (yt h s.s2 s.s1)
 split
 ·exact kB (vS h)
 split
 ·exact yu h ⟨s.au,⟨by show Small (0*16);unfold Small;decide,fun r hr=>by simp at hr⟩,s.s2,s.s3,s.s1⟩
 split
 ·exact kB (vT h)
 split
 ·rename_i k5
  refine kB (kn h fun t ht hz=>EG (h.2.2 t ht) ?_ hz);have h1:=h5 k5;unfold Ax
  cases hc:x.au with
  | nil=>rw [hc] at h1;simp at h1
  | cons a l=>exact s.au.2 a (by rw [hc];simp)
 split
 ·exact kB (kn h fun t ht hz=>Bk (h.2.2 t ht))
 split
 ·exact kB (kn h fun t ht hz=>yw (h.2.2 t ht) (Lg s) hz)
 split
 ·exact kB (kn h fun t ht hz=>vU (h.2.2 t ht))
 split
 ·exact yv h s.s5
 ·exact cQ
theorem Ia {c:bS} {x:gc} (h:lx c.ar) (s:TS x):lx (iL c x).1:=by
 unfold iL
 split
 ·exact Ld h s.s5
 split
 ·split
  ·exact Bl
  ·exact Hx h
 split
 ·exact Hy h s.s5 s.s4
 ·exact EH h
theorem Di {l:List cD} (p:cD→Bool) (h:Small (l.length*16)∧∀ g∈l,wI g):Small ((l.filter p).length*16)∧∀ g∈l.filter p,wI g :=
 ⟨by have:=h.1;have:=List.length_filter_le p l;unfold Small at *;omega,fun g hg=>h.2 g ((List.mem_filter.1 hg).1)⟩
theorem Lh {c:bS} {x:gc} (h:Ed c) (s:TS x) (h5:x.kind=5→0 < x.au.length):Ed (cS c x).1:=by
 by_cases k9:x.kind≤9
 ·rw [lF k9]
  refine ⟨H9 h.1 s h5,h.2.1,?_⟩
  show Small ((if x.kind=4 then xQ c.ah x.af x.table else c.ah).length*16)∧∀ g∈(if x.kind=4 then xQ c.ah x.af x.table else c.ah),wI g
  split
  ·exact Di _ h.2.2
  ·exact h.2.2
 by_cases Rb:x.kind≤13
 ·rw [rL (by omega) Rb];exact ⟨h.1,Ia h.2.1 s,h.2.2⟩
 by_cases TB:x.kind=14
 ·rw [oX TB];exact EJ h ⟨s.s2,s.s3,s.s1,s.s5,s.r⟩
 ·rw [rM (by omega)];exact ⟨h.1,h.2.1,Di _ h.2.2⟩
end Go.Proofs.YtakddkhipelmjaaGreat
