import Derived.Test.YtakddkhipelmjaaGreatPartF17
set_option maxRecDepth 100000
set_option linter.unusedVariables false
set_option maxHeartbeats 64000000
namespace Go.Proofs.YtakddkhipelmjaaGreat
open Go.Deep Go.RowKit
theorem ed.EB {w:World} {cs:List Value} {m:gD} (h:ed w cs m):∃ A c,cs[7]? = some (.slice A m.aR.length c)∧aA w 5 fQ A c m.aR:=by
 obtain ⟨As,c1,At,c2,An,c3,Am,c4,Ag,c5,Ad,cd,Al,cl,rfl,h9⟩:=h.at
 exact ⟨Ad,cd,rfl,h9.EB⟩
theorem ed.Bb {w:World} {cs:List Value} {m:gD} (h:ed w cs m):∃ A c,cs[8]? = some (.slice A m.bN.length c)∧aA w 4 fY A c m.bN:=by
 obtain ⟨As,c1,At,c2,An,c3,Am,c4,Ag,c5,Ad,cd,Al,cl,rfl,h9⟩:=h.at
 exact ⟨Al,cl,rfl,h9.Bb⟩
theorem ed.Q0 {w w':World} {cs:List Value} {m:gD} {l:List gS} {A:Option Addr} {c:Nat} (h:ed w cs m) (a:ag w w') (s:aA w' 4 fY A c l):ed w' (cs.set 8 (.slice A l.length c)) { m with bN:=l }:=by
 obtain ⟨As,c1,At,c2,An,c3,Am,c4,Ag,c5,Ad,cd,Al,cl,rfl,h9⟩:=h.at
 have h:=iX.aH h9 a;exact (show iX w' { m with bN:=l } As c1 At c2 An c3 Am c4 Ag c5 Ad cd A c from ⟨h.cat,h.EB,s⟩).w
theorem eD.Db {B D:Nat} {w w2 F:World} {cs:List Value} {m:gD} {l:List gS} {A:Option Addr} {c:Nat} (h:eD B w cs m) (hB:B≤w.heap.size) (a:ag w w2) (hD:w.heap.size≤D) (o:w2.ownsRow D 55 4 (.slice A l.length c) l.length (l.flatMap eV)) (hs:Small (l.length*16)) (k:Kb (fun g=>w.heap.size≤g∧g < D) w2 F):eD B F (cs.set 8 (.slice A l.length c)) { m with bN:=l }:=by
 obtain ⟨S,hS,hh⟩:=h
 refine eD.of (S:=fun j=>(S j∧j < w.heap.size)∨kR (.slice A l.length c) j) (fun j e=>e.elim (fun e=>(hS j e.1).1) fun e=>Nat.le_trans hB (Nat.le_trans hD (o.lt j e).1)) fun V kv=>?_
 have k2:Kb (fun j=>¬ ((S j∧j < w.heap.size)∨kR (.slice A l.length c) j)) w2 V:=(k.mono fun j _ e e'=>by
  rcases e' with e' | e'
  ·omega
  ·have:=(o.lt j e').1;omega).trans kv
 have h1:=hh V (((Kb.bl a).trans k2).mono fun j hj e e'=>e (.inl ⟨e',(hS j e').2⟩))
 have o2:=bB o k2 fun g hg e=>e (.inr hg)
 have s2:aA V 4 fY A c l:=dC (h:=⟨A,l.length,c⟩) eV o2 (fun x hx=>⟨rfl,rfl⟩) hs;exact h1.Q0 (ag.refl V) s2
def uJ:iw:=⟨0,0,0,0,0⟩
def ee (l:List iw) (c:Int):iw:=if bD (fun d:iw=>d.aD==c) l < 0 then uJ else l.getD (bD (fun d:iw=>d.aD==c) l).toNat uJ
theorem jT {w:World} {p:Nat} {zs:List Value} (d:iw) (r:au w p zs) (hz:zs.length=5) :
  (tJ ⟨p,0,none⟩ (.agg #[.int .i64 d.aD,.int .i64 d.number,.int .i64 d.code,.int .i64 d.fence,.int .i64 d.version])).run Tryz.prog w=.ok () (w.setCells p 0 (cv d))∧au (w.setCells p 0 (cv d)) p (cv d)∧(ot ⟨p,0,none⟩).run Tryz.prog (w.setCells p 0 (cv d))=.ok (.agg #[.int .i64 d.aD,.int .i64 d.number,.int .i64 d.code,.int .i64 d.fence,.int .i64 d.version]) (w.setCells p 0 (cv d))∧Kb (fun g=>g=p) w (w.setCells p 0 (cv d)):=by
 have r2:au (w.setCells p 0 (cv d)) p (cv d):=by simpa using eW (cv d) w [] zs r (by rw [hz];rfl)
 exact ⟨kh (T:=48) (k:=5) (vs:=cv d) (by kernel_rfl) r hz rfl (by simp [cv,Value.oneCell']),r2,fZ (T:=48) Tryz.underlying48 (by kernel_rfl) r2 rfl,cX p (cv d) w 0⟩
theorem zR {w:World} {b o:Nat} {d:iw} (c0:w.cell? ⟨b,o,none⟩=some (.int .i64 d.aD)) (c1:w.cell? ⟨b,o+1,none⟩=some (.int .i64 d.number)) (c2:w.cell? ⟨b,o+2,none⟩=some (.int .i64 d.code)) (c3:w.cell? ⟨b,o+3,none⟩=some (.int .i64 d.fence)) (c4:w.cell? ⟨b,o+4,none⟩=some (.int .i64 d.version)) :
  (ot ⟨b,o,none⟩).run Tryz.prog w=.ok (.agg #[.int .i64 d.aD,.int .i64 d.number,.int .i64 d.code,.int .i64 d.fence,.int .i64 d.version]) w:=by
 have:=F9 w b o (by rw [c0];rfl) (by rw [c1];rfl) (by rw [c2];rfl) (by rw [c3];rfl) (by rw [c4];rfl);rw [c0,c1,c2,c3,c4] at this;exact this
theorem Pj (m:gD) (cs:List Value) (c:Int) (w:World) (H:ed w cs m) :
  Calls Tryz.prog 13 #[.agg cs.toArray,.int .i64 c] w fun e w'=>e=.returned (.agg #[.int .i64 (ee m.aR c).aD,.int .i64 (ee m.aR c).number,.int .i64 (ee m.aR c).code,.int .i64 (ee m.aR c).fence,.int .i64 (ee m.aR c).version])∧ag w w':=by
 obtain ⟨A,ca,Tz,cM⟩:=H.EB;obtain ⟨W,hW⟩:∃ W,W=((w.alloc (.cells cs.toArray 36)).alloc (.cells #[.int .i64 c] 3)).alloc (.cells #[.int .i64 0,.int .i64 0,.int .i64 0,.int .i64 0,.int .i64 0] 48):=⟨_,rfl⟩
 have aW:ag w W:=by rw [hW];exact (((ag.refl w).alloc _).alloc _).alloc _
 have zW:W.heap.size=w.heap.size+3:=by rw [hW];simp
 have r0:au W w.heap.size cs:=by rw [hW];exact au.up (au.up (bj (ag.refl _) (by simp)))
 have r1:au W (w.heap.size+1) [.int .i64 c]:=by rw [hW];exact au.up (bj (ag.refl _) (by simp))
 have r2:au W (w.heap.size+1+1) [.int .i64 0,.int .i64 0,.int .i64 0,.int .i64 0,.int .i64 0]:=by rw [hW];exact bj (ag.refl _) (by simp)
 have y7:=r0.cell Tz
 have OW:∀ (fn:Fn) (first cap:Array Value) (w:World),(Instr.makeFunc fn first cap).run Tryz.prog w=.ok (.func fn first cap) w:=fun _ _ _ _=>rfl
 obtain ⟨k,hk⟩:∃ k,bD (fun d:iw=>d.aD==c) m.aR=k:=⟨_,rfl⟩;have Q1:=bk (fun d:iw=>d.aD==c) m.aR;rw [hk] at Q1;have C:=gH (hk▸QT A ca m.aR 38 #[.pointer (some ⟨w.heap.size+1,0,none⟩)] (fun d=>d.aD==c) W (cM.aH aW fun _ _ h=>h) (enters (P:=Tryz.prog) Tryz.func38 (by kernel_rfl) rfl) (fun w' a i hi=>Mz m.aR[i] c _ w' (r1.aH a).1 ((r1.aH a).cell (j:=0) rfl)));have HS:=gH cM;have HR:=gH (And.intro r0 r2);have HA:=gH aW;have HK:=gH hk;have HC7:=gH Tz;have z0:=r0.1;have z1:=r1.1;clear H cM aW r0 r1 r2 hk Tz zW
 go_in
 go_upto_region 1 with fail
 rw [← hW];clear hW;go_wp2_with fail;refine C.out.mono ?_;rintro e w1 ⟨rfl,a1⟩;have cT:=gH a1;have z0:=(HR.out.1.aH a1).1;have y7:=(HR.out.1.aH a1).cell HC7.out;by_cases h0:k < 0
 ·obtain ⟨s1,r3,s2,kb⟩:=jT uJ (HR.out.2.aH a1) rfl
  unfold uJ at s1;simp only at s1;have HE:=gH (kb.aN (HA.out.trans a1) fun g hg e=>by have e:g=_:=e;omega);have S2:=gH s2;have HL:=gH (show ee m.aR c=uJ from by unfold ee;rw [HK.out,if_pos h0]);clear a1 r3 kb s2;go_wp2;refine bodyPost_ret (bE rfl _ rfl S2.out) rfl ?_;rw [HL.out];exact ⟨rfl,HE.out⟩
 ·obtain ⟨i,rfl⟩:∃ i:Nat,k=i:=⟨k.toNat,by omega⟩
  have hi:i < m.aR.length:=by omega
  obtain ⟨b,off,hA,hb,c0,c1,c2,c3,c4⟩:=mL (HS.out.aH (HA.out.trans a1) fun _ _ h=>h) hi;subst hA;have HL:=gH (show ee m.aR c=m.aR[i] from by unfold ee;rw [HK.out,if_neg h0];simp [List.getD,hi]);obtain ⟨d,hd⟩:∃ d,m.aR[i]=d:=⟨_,rfl⟩;rw [hd] at c0 c1 c2 c3 c4 HL;have l1:=zR c0 c1 c2 c3 c4;obtain ⟨s1,r3,s2,kb⟩:=jT d (HR.out.2.aH a1) rfl;have HE:=gH (kb.aN (HA.out.trans a1) fun g hg e=>by have e:g=_:=e;omega);have S2:=gH s2;clear a1 r3 kb s2 hd c0 c1 c2 c3 c4;go_wp2;refine bodyPost_ret (bE rfl _ rfl S2.out) rfl ?_;rw [HL.out];exact ⟨rfl,HE.out⟩
def JE (l:List gS) (q:Int):List gS:=l.filter fun x=>!(x.seq==q)
theorem MC (m:gD) (cs oc:List Value) (q:Int) (B:Nat) (w:World) (hB:B≤w.heap.size) (H:eD B w cs m) (hl:oc.length=23) (hq:oc[22]? = some (.int .i64 q)) (hn:m.bN.length≤1000000) :
  Calls Tryz.prog 36 #[.agg cs.toArray,.agg oc.toArray] w (vJ B w ({ m with bN:=JE m.bN q },0)):=by
 obtain ⟨A,ca,zS,cM⟩:=H.w.Bb;obtain ⟨W,hW⟩:∃ W,W=((w.alloc (.cells cs.toArray 36)).alloc (.cells oc.toArray 60)).alloc (.cells #[.int .i64 0,.int .i64 0,.slice none 0 0,.slice none 0 0,.slice none 0 0,.slice none 0 0,.slice none 0 0,.slice none 0 0,.slice none 0 0,.int .i64 0] 36):=⟨_,rfl⟩
 have aW:ag w W:=by rw [hW];exact (((ag.refl w).alloc _).alloc _).alloc _
 have r0:au W w.heap.size cs:=by rw [hW];exact au.up (au.up (bj (ag.refl _) (by simp)))
 have r1:au W (w.heap.size+1) oc:=by rw [hW];exact au.up (bj (ag.refl _) (by simp))
 have r2:au W (w.heap.size+1+1) dN:=by rw [hW];exact bj (ag.refl _) (by simp)
 have y8:=r0.cell zS;have HZ:=gH (show W.heap.size=w.heap.size+3 from by rw [hW];simp)
 have OW:∀ (fn:Fn) (first cap:Array Value) (w:World),(Instr.makeFunc fn first cap).run Tryz.prog w=.ok (.func fn first cap) w:=fun _ _ _ _=>rfl
 have CC:=gH (tH A ca m.bN W W (ag.refl _) (cM.aH aW fun _ _ h=>h) hn);have HS:=gH cM;have HR:=gH (And.intro r0 (And.intro r1 r2));have HA:=gH aW;have HM:=gH H;have HQ:=gH hq;have ZE:=gH (enters (P:=Tryz.prog) Tryz.func57 (by kernel_rfl) rfl);have z0:=r0.1;have z1:=r1.1;clear H cM aW r0 r1 r2 hq hl
 go_in
 go_upto_region 1 with fail
 rw [← hW];clear hW;go_wp2_with fail;refine CC.out.mono ?_;rintro e w1 ⟨v,bH,rfl,a1,o1,ch⟩;obtain ⟨Ad,cd,rfl⟩:=eA o1;rw [eT (f:=eV) (fun _ _ h=>h) ch] at o1;have cT:=gH a1;have LB:=gH o1
 have CD:=gH (VV (.slice Ad m.bN.length cd) m.bN 57 #[.pointer (some ⟨w.heap.size+1,0,none⟩)] (fun x=>x.seq==q) W.heap.size w1 o1 HS.out.2.1 (sj o1) (fun _ _=>trivial) ZE.out (fun w' kb x _=>by
  have p:=kb.row (HR.out.2.1.aH cT.out) (gW LB.out HR.out.2.1.1)
  exact QU x q _ w' p.1 (p.cell HQ.out)))
 clear a1 o1 ch;go_wp2_with fail;refine CD.out.mono ?_;rintro e w2 ⟨⟨A3,n3,c3⟩,rfl,o3,kb3,-⟩;have o3:w2.ownsRow W.heap.size 55 4 (Hd.mk A3 n3 c3).v (JE m.bN q).length ((JE m.bN q).flatMap eV):=o3;obtain ⟨l,rS⟩:∃ l,JE m.bN q=l:=⟨_,rfl⟩;rw [rS] at o3;have ZF:=gH rS;have HLN:=gH (show l.length≤m.bN.length from rS▸List.length_filter_le _ _);obtain rfl:=nX o3;have a2:ag W w2:=kb3.aN cT.out (fun g hg=>gW LB.out hg);have q0:=HR.out.1.aH a2;have y8:=q0.cell zS;have f8:=q0.2.2 8 (by rw [HM.out.w.len];decide);have z0:=q0.1;have r3:=q0.set 8 (.slice A3 l.length c3) (by rw [HM.out.w.len];decide);have zW:=HZ.out;have k8:=Kb.set w2 w.heap.size 8 (.slice A3 l.length c3)
 have hsm:Small (l.length*16):=by have:=HLN.out;have:=HS.out.2.1;unfold Small at *;omega
 have mw:eD B (w2.setCell ⟨w.heap.size,8,none⟩ (.slice A3 l.length c3)) (cs.set 8 (.slice A3 l.length c3)) { m with bN:=l }:=HM.out.Db hB (HA.out.trans a2) (D:=W.heap.size) (by omega) o3 hsm (k8.mono fun g _ e=>by have e:g=_:=e;omega);have l3:=jh r3 mw.w.len;obtain ⟨s1,r4,s2,kb⟩:=jg (k8.row (HR.out.2.2.aH a2) (by omega)) rfl mw.w;have HE:=gH (And.intro (kb.aN (k8.aN (HA.out.trans a2) fun g hg e=>by have e:g=_:=e;omega) fun g hg e=>by have e:g=_:=e;omega) (HM.out.Db hB (HA.out.trans a2) (D:=W.heap.size) (by omega) o3 hsm ((k8.mono fun g _ e=>by have e:g=_:=e;omega).trans (kb.mono fun g _ e=>by have e:g=_:=e;omega))));have S2:=gH s2;clear kb3 o3 a2 q0 r3 mw k8 r4 s2 kb rS hsm zW;simp only [Hd.v];go_wp2;refine bodyPost_ret (results_cell_tmp rfl _ rfl S2.out) rfl ?_;refine ⟨HE.out.1,_,rfl,?_⟩
 show eD B _ _ ⟨m.cat,m.aR,JE m.bN q,m.last⟩
 rw [ZF.out];exact HE.out.2
noncomputable def gm (m:gD) (c n:Int):iw × Bool:=if c=0∨(ee m.aR c).aD≠c∨(ee m.aR c).number≠n∨fB m=false then (uJ,false) else (ee m.aR c,!(m.bN.any fun l=>decide (l.ax < (ee m.aR c).fence)))
theorem JF (m:gD) (cs:List Value) (c n:Int) (w:World) (H:ed w cs m) :
  Calls Tryz.prog 6 #[.agg cs.toArray,.int .i64 c,.int .i64 n] w fun e w'=>e=.returned (.tuple #[.agg #[.int .i64 (gm m c n).1.aD,.int .i64 (gm m c n).1.number,.int .i64 (gm m c n).1.code,.int .i64 (gm m c n).1.fence,.int .i64 (gm m c n).1.version],.bool (gm m c n).2])∧ag w w':=by
 obtain ⟨A,ca,zS,cM⟩:=H.Bb;obtain ⟨W,hW⟩:∃ W,W=(w.alloc (.cells cs.toArray 36)).alloc (.cells #[.int .i64 0,.int .i64 0,.int .i64 0,.int .i64 0,.int .i64 0] 48):=⟨_,rfl⟩
 have aW:ag w W:=by rw [hW];exact ((ag.refl w).alloc _).alloc _
 have zW:W.heap.size=w.heap.size+2:=by rw [hW];simp
 have r0:au W w.heap.size cs:=by rw [hW];exact au.up (bj (ag.refl _) (by simp))
 have r1:au W (w.heap.size+1) [.int .i64 0,.int .i64 0,.int .i64 0,.int .i64 0,.int .i64 0]:=by rw [hW];exact bj (ag.refl _) (by simp)
 have l0:=jh r0 H.len
 have OW:∀ (fn:Fn) (first cap:Array Value) (w:World),(Instr.makeFunc fn first cap).run Tryz.prog w=.ok (.func fn first cap) w:=fun _ _ _ _=>rfl
 obtain ⟨d,hd⟩:∃ d,ee m.aR c=d:=⟨_,rfl⟩;have C1:=gH (hd▸Pj m cs c W (H.aH aW));obtain ⟨e4,ZH⟩:∃ e:Int,(if fB m=true then (0:Int) else 1)=e:=⟨_,rfl⟩
 have C2:=gH (show ∀ V,ag W V→Calls Tryz.prog 9 #[.agg cs.toArray] V fun e w'=>e=.returned (.int .i64 e4)∧ag V w' from fun V a=>by
  obtain ⟨As,c1,At,c2,An,c3,Am,c4,Ag,c5,Ad,cd,Al,cl,rfl,h⟩:=(H.aH (aW.trans a)).at
  have:=I3 m As c1 At c2 An c3 Am c4 Ag c5 Ad cd Al cl V h
  rwa [ZH] at this)
 have C3:=gH (show ∀ V b,ag W V→b < V.heap.size→V.cell? ⟨b,3,none⟩=some (.int .i64 d.fence)→Calls Tryz.prog 14 #[.slice A m.bN.length ca,.func (.func 15) #[] #[.pointer (some ⟨b,0,none⟩)]] V fun e w'=>e=.returned (.bool (m.bN.any fun l=>decide (l.ax < d.fence)))∧ag V w' from fun V b a hb hc =>
  EI A ca m.bN 15 _ (fun l=>decide (l.ax < d.fence)) V (cM.aH (aW.trans a) fun _ _ h=>h) (enters (P:=Tryz.prog) Tryz.func15 (by kernel_rfl) rfl) (fun w' a2 i hi=>MA m.bN[i] d.fence b w' (Nat.lt_of_lt_of_le hb a2.size) (a2.cell_kept hc)))
 obtain ⟨fr,ly⟩:∃ b,(m.bN.any fun l=>decide (l.ax < d.fence))=b:=⟨_,rfl⟩;rw [ly] at C3;obtain ⟨g1,hg1⟩:∃ b,(c==0)=b:=⟨_,rfl⟩;obtain ⟨g2,hg2⟩:∃ b,(d.aD != c)=b:=⟨_,rfl⟩;obtain ⟨g3,hg3⟩:∃ b,(d.number != n)=b:=⟨_,rfl⟩;obtain ⟨g4,hg4⟩:∃ b,(e4 != 0)=b:=⟨_,rfl⟩
 have HF:=gH (show gm m c n=if g1 || g2 || g3 || g4 then (uJ,false) else (d,!fr) from by
  unfold gm;rw [hd,ly];subst hg1 hg2 hg3 hg4 ZH
  cases fB m<;>simp [or_assoc])
 have HR:=gH (And.intro r0 r1);have HA:=gH aW;have HZ:=gH zW;have HM:=gH H;have VX:=gH zS;clear H cM aW r0 r1 hd ZH ly zS zW
 go_in
 go_upto_region 1 with fail
 rw [← hW];clear hW;go_wp2_with fail;refine C1.out.mono ?_;rintro e w1 ⟨rfl,a1⟩;have cT:=gH a1;obtain ⟨s1,r3,s2,kb⟩:=jT d (aU (w:=w1) (c:=[.int .i64 0,.int .i64 0,.int .i64 0,.int .i64 0,.int .i64 0]) (t:=48) (ag.refl _)) rfl;obtain ⟨F,hF⟩:∃ F,F=(w1.alloc (.cells #[.int .i64 0,.int .i64 0,.int .i64 0,.int .i64 0,.int .i64 0] 48)).setCells w1.heap.size 0 (cv d):=⟨_,rfl⟩;have hz:=HZ.out;have hs1:=a1.size
 have aF:ag W F:=by rw [hF];exact kb.aN (a1.alloc _) fun g hg e=>by have e:g=_:=e;omega
 have rF:au F w1.heap.size [.int .i64 d.aD,.int .i64 d.number,.int .i64 d.code,.int .i64 d.fence,.int .i64 d.version]:=by rw [hF];exact r3
 have ye:=gH aF;have X4:=gH rF;have q0:=HR.out.1.aH aF;have l1:=jh q0 HM.out.len;have y8:=q0.cell VX.out;have q1:=HR.out.2.aH aF;obtain ⟨x0,x1,x2,x3,x4,xz⟩:=lX rF;have qz:=q0.1;have HQ1:=gH q1;have H1:=gH (show (c==0)=g1 from hg1);clear a1 r3 s2 kb aF rF q0 q1
 go_upto_region 2 with fail
 rw [← hF];clear hF s1
 have NO:=gH (show ∀ V,ag F V→(tJ ⟨w.heap.size+1,0,none⟩ (.agg #[.int .i64 0,.int .i64 0,.int .i64 0,.int .i64 0,.int .i64 0])).run Tryz.prog V=.ok () (V.setCells (w.heap.size+1) 0 (cv uJ))∧(ot ⟨w.heap.size+1,0,none⟩).run Tryz.prog (V.setCells (w.heap.size+1) 0 (cv uJ))=.ok (.agg #[.int .i64 0,.int .i64 0,.int .i64 0,.int .i64 0,.int .i64 0]) (V.setCells (w.heap.size+1) 0 (cv uJ))∧ag w (V.setCells (w.heap.size+1) 0 (cv uJ)) from fun V a=>by
  obtain ⟨s1,r3,s2,kb⟩:=jT uJ (HQ1.out.aH a) rfl
  exact ⟨s1,s2,kb.aN (HA.out.trans (ye.out.trans a)) fun g hg e=>by have e:g=_:=e;omega⟩)
 have KK:=gH (show ∀ V,ag F V→Calls Tryz.prog 9 #[.agg cs.toArray] V fun e w'=>e=.returned (.int .i64 e4)∧ag V w' from fun V a=>C2.out V (ye.out.trans a))
 cases g1
 case true =>
  obtain ⟨s1,s2,aE⟩:=NO.out F (ag.refl F);have S2:=gH s2;have HE:=gH aE;clear s2 aE;go_wp2;refine bodyPost_ret (results_cell_tmp rfl _ rfl S2.out) rfl ?_;exact ⟨by rw [HF.out];rfl,HE.out⟩
 cases g2
 case true =>
  obtain ⟨s1,s2,aE⟩:=NO.out F (ag.refl F);have S2:=gH s2;have HE:=gH aE;clear s2 aE;go_wp2;refine bodyPost_ret (results_cell_tmp rfl _ rfl S2.out) rfl ?_;exact ⟨by rw [HF.out];rfl,HE.out⟩
 cases g3
 case true =>
  obtain ⟨s1,s2,aE⟩:=NO.out F (ag.refl F);have S2:=gH s2;have HE:=gH aE;clear s2 aE;go_wp2;refine bodyPost_ret (results_cell_tmp rfl _ rfl S2.out) rfl ?_;exact ⟨by rw [HF.out];rfl,HE.out⟩
 go_wp2_with fail;refine (KK.out _ (ag.refl F)).mono ?_;rintro e w3 ⟨rfl,a3⟩;have A3:=gH a3;clear a3
 cases g4
 case true =>
  obtain ⟨s1,s2,aE⟩:=NO.out w3 A3.out;have S2:=gH s2;have HE:=gH aE;clear s2 aE;go_wp2;refine bodyPost_ret (results_cell_tmp rfl _ rfl S2.out) rfl ?_;exact ⟨by rw [HF.out];rfl,HE.out⟩
 clear l1 y8 x0 x1 x2 x3 x4 xz qz;have rF:=X4.out.aH A3.out;obtain ⟨x0,x1,x2,x3,x4,xz⟩:=lX rF;have q0:=HR.out.1.aH (ye.out.trans A3.out);have y8:=q0.cell VX.out;have qz:=q0.1;have CT:=gH (show ∀ V,ag w3 V→Calls Tryz.prog 14 #[.slice A m.bN.length ca,.func (.func 15) #[] #[.pointer (some ⟨w1.heap.size,0,none⟩)]] V fun e w'=>e=.returned (.bool fr)∧ag V w' from fun V a=>C3.out V _ (ye.out.trans (A3.out.trans a)) (Nat.lt_of_lt_of_le xz a.size) (a.cell_kept x3));clear rF q0;have KX:=gH (show ∀ V,ag w3 V→(V.cell? ⟨w1.heap.size,0,none⟩=some (.int .i64 d.aD)∧V.cell? ⟨w1.heap.size,1,none⟩=some (.int .i64 d.number)∧V.cell? ⟨w1.heap.size,2,none⟩=some (.int .i64 d.code)∧V.cell? ⟨w1.heap.size,3,none⟩=some (.int .i64 d.fence)∧V.cell? ⟨w1.heap.size,4,none⟩=some (.int .i64 d.version)∧V.cell? ⟨w.heap.size,8,none⟩=some (.slice A m.bN.length ca)) from fun V a=>⟨a.cell_kept x0,a.cell_kept x1,a.cell_kept x2,a.cell_kept x3,a.cell_kept x4,a.cell_kept y8⟩);have HX:=gH (show w.heap.size+1 < w1.heap.size from by have:=HZ.out;have:=cT.out.size;omega);clear x0 x1 x2 x3 x4 y8
 go_upto_region 4 with fail
 go_region_held3 (fun V=>(V.cell? ⟨w1.heap.size,0,none⟩=some (.int .i64 d.aD)∧V.cell? ⟨w1.heap.size,1,none⟩=some (.int .i64 d.number)∧V.cell? ⟨w1.heap.size,2,none⟩=some (.int .i64 d.code)∧V.cell? ⟨w1.heap.size,3,none⟩=some (.int .i64 d.fence)∧V.cell? ⟨w1.heap.size,4,none⟩=some (.int .i64 d.version)∧V.cell? ⟨w.heap.size,8,none⟩=some (.slice A m.bN.length ca)))
  ((
   first
   | (refine KX.out _ ?_;first
    | with_reducible exact (ag.refl _).drew
    | with_reducible exact a5)
   | with_reducible exact hS))
  ((
   go_at_call 14;(with_reducible refine (CT.out w3.drew (ag.refl _).drew).mono ?_);rintro e w4 ⟨rfl,a4⟩;have a5:ag w3 w4:=((ag.refl _).drew).trans a4;obtain ⟨s1,r7,s2,kb⟩:=jT d (HQ1.out.aH (A3.out.trans a5)) rfl;have hS:((w4.setCells (w.heap.size+1) 0 (cv d)).cell? ⟨w1.heap.size,0,none⟩=some (.int .i64 d.aD)∧(w4.setCells (w.heap.size+1) 0 (cv d)).cell? ⟨w1.heap.size,1,none⟩=some (.int .i64 d.number)∧(w4.setCells (w.heap.size+1) 0 (cv d)).cell? ⟨w1.heap.size,2,none⟩=some (.int .i64 d.code)∧(w4.setCells (w.heap.size+1) 0 (cv d)).cell? ⟨w1.heap.size,3,none⟩=some (.int .i64 d.fence)∧(w4.setCells (w.heap.size+1) 0 (cv d)).cell? ⟨w1.heap.size,4,none⟩=some (.int .i64 d.version)∧(w4.setCells (w.heap.size+1) 0 (cv d)).cell? ⟨w.heap.size,8,none⟩=some (.slice A m.bN.length ca)):=(by
   have h:=KX.out _ a5;have:=HX.out
   exact ⟨kb.cell h.1 (by simp;omega),kb.cell h.2.1 (by simp;omega),kb.cell h.2.2.1 (by simp;omega),kb.cell h.2.2.2.1 (by simp;omega),kb.cell h.2.2.2.2.1 (by simp;omega),kb.cell h.2.2.2.2.2 (by simp)⟩);have HE:=gH (kb.aN (HA.out.trans (ye.out.trans (A3.out.trans a5))) fun g hg e=>by have e:g=_:=e;omega);have S2:=gH s2;clear r7 s2 kb a4))
 all_goals
  go_wp2;refine bodyPost_ret (results_cell_tmp rfl _ rfl S2.out) rfl ?_;exact ⟨by rw [HF.out];rfl,HE.out⟩
end Go.Proofs.YtakddkhipelmjaaGreat
namespace Go.Proofs.YtakddkhipelmjaaGreat
open Go.RowKit Go.Deep Go.Lib
theorem Dc (A:Option Addr) (n cap B nb:Nat) (xs:List Value) (x:iw) (w:World) (ho:w.ownsRow B 48 5 (.slice A n cap) n xs) (MD:w.heap[nb]? = some (.cells #[.int .i64 x.aD,.int .i64 x.number,.int .i64 x.code,.int .i64 x.fence,.int .i64 x.version] 48 (0,0))) (hn:n≤1000000) (hB:B≤w.heap.size) :
  Calls Tryz.prog 81 #[.slice A n cap,.int .i64 n,.slice (some ⟨nb,0,none⟩) 1 1] w (ME 48 5 w B (.slice A n cap) n n xs [.int .i64 x.aD,.int .i64 x.number,.int .i64 x.code,.int .i64 x.fence,.int .i64 x.version]):=by
 obtain ⟨i0,kG,hz0,hz1,hz2⟩:=info_parts vL;have HI:=gH kG;have HZ:=gH (And.intro hz0 (And.intro hz1 hz2));have HO:=gH ho;have ZI:=gH MD;have hx:=ho.1
 have Q2:n+1≤maxLen:=by unfold maxLen;omega
 have AZ:(n+1)*40≤140737488355328:=by omega
 have uW:n≤cap:=by
  rcases ho.2 with ⟨hv,wP⟩ | ⟨g,c,cur,hv,_,_,hc,_⟩
  ·omega
  ·simp only [Value.slice.injEq] at hv;omega
 have hcm:cap≤9223372036854775807:=by
  rcases ho.2 with ⟨hv,wP⟩ | ⟨g,c,cur,hv,_,_,hc,hm,_⟩
  ·simp only [Value.slice.injEq] at hv;omega
  ·simp only [Value.slice.injEq] at hv;simp only [maxLen] at hm;omega
 have HF:=gH (show ∀ gg cap' w5,w5.ownsRow B 48 5 (.slice (some ⟨gg,0,none⟩) (n+1) cap') (n+1) (xs++[.int .i64 x.aD,.int .i64 x.number,.int .i64 x.code,.int .i64 x.fence,.int .i64 x.version])→w.grownBy w5 (Value.slice A n cap).ownBlock→((Value.slice A n cap).ownBlock=some gg∨gg=w.heap.size)→ME 48 5 w B (.slice A n cap) n n xs [.int .i64 x.aD,.int .i64 x.number,.int .i64 x.code,.int .i64 x.fence,.int .i64 x.version] (.returned (.slice (some ⟨gg,0,none⟩) (n+1) cap')) w5 from fun gg cap' w5 h2 h3 h4=>by
  refine ⟨⟨some ⟨gg,0,none⟩,n+1,cap'⟩,rfl,?_,vp h3,fun g hg=>?_⟩
  ·rw [List.take_of_length_le (by omega),List.drop_of_length_le (by omega),List.append_nil];exact h2
  ·rw [gG,List.mem_singleton] at hg
   have hg:g=gg:=hg;subst hg
   rcases h4 with h | h
   ·exact .inl h
   ·exact .inr (by omega))
 clear kG hz0 hz1 hz2 ho MD hx
 have k1:(n:Int)≤(cap:Int):=by omega
 have k2:(n:Int)≤(n:Int):=Int.le_refl _
 go_in
 by_cases hc:cap=n
 focus
  subst hc
 rotate_left
 rotate_left
 all_goals
  cases A
  all_goals
   go_wp2_with (at_builtin;go_must (refine wpList_append_lies _ rfl _ _ 33 rfl B 48 i0 _ 5 40 Tryz.underlying33 HI.out HZ.out.1 HZ.out.2.1 HZ.out.2.2 rfl (by decide) _ _ xs rfl HO.out ⟨nb,0,none⟩ 1 1 [.int .i64 x.aD,.int .i64 x.number,.int .i64 x.code,.int .i64 x.fence,.int .i64 x.version] rfl rfl (World.news_of_block (cs:=#[.int .i64 x.aD,.int .i64 x.number,.int .i64 x.code,.int .i64 x.fence,.int .i64 x.version]) (t:=48) (fr:=(0,0)) ZI.out) (by simp [Value.oneCell']) (by omega) Q2 AZ hB w.heap.size rfl ?_);intro gg cap' w5 ic hgrow hat yZ;have HP:=gH (HF.out gg cap' w5 ic hgrow hat);clear ic hgrow hat yZ)
   go_ret;exact HP.out
theorem Dd (A:Option Addr) (n cap B nb:Nat) (xs:List Value) (x:gS) (w:World) (ho:w.ownsRow B 55 4 (.slice A n cap) n xs) (MD:w.heap[nb]? = some (.cells #[.int .i64 x.seq,.int .i64 x.node,.int .i64 x.ask,.int .i64 x.ax] 55 (0,0))) (hn:n≤1000000) (hB:B≤w.heap.size) :
  Calls Tryz.prog 84 #[.slice A n cap,.int .i64 n,.slice (some ⟨nb,0,none⟩) 1 1] w (ME 55 4 w B (.slice A n cap) n n xs [.int .i64 x.seq,.int .i64 x.node,.int .i64 x.ask,.int .i64 x.ax]):=by
 obtain ⟨i0,kG,hz0,hz1,hz2⟩:=info_parts vK;have HI:=gH kG;have HZ:=gH (And.intro hz0 (And.intro hz1 hz2));have HO:=gH ho;have ZI:=gH MD;have hx:=ho.1
 have Q2:n+1≤maxLen:=by unfold maxLen;omega
 have AZ:(n+1)*32≤140737488355328:=by omega
 have uW:n≤cap:=by
  rcases ho.2 with ⟨hv,wP⟩ | ⟨g,c,cur,hv,_,_,hc,_⟩
  ·omega
  ·simp only [Value.slice.injEq] at hv;omega
 have hcm:cap≤9223372036854775807:=by
  rcases ho.2 with ⟨hv,wP⟩ | ⟨g,c,cur,hv,_,_,hc,hm,_⟩
  ·simp only [Value.slice.injEq] at hv;omega
  ·simp only [Value.slice.injEq] at hv;simp only [maxLen] at hm;omega
 have HF:=gH (show ∀ gg cap' w5,w5.ownsRow B 55 4 (.slice (some ⟨gg,0,none⟩) (n+1) cap') (n+1) (xs++[.int .i64 x.seq,.int .i64 x.node,.int .i64 x.ask,.int .i64 x.ax])→w.grownBy w5 (Value.slice A n cap).ownBlock→((Value.slice A n cap).ownBlock=some gg∨gg=w.heap.size)→ME 55 4 w B (.slice A n cap) n n xs [.int .i64 x.seq,.int .i64 x.node,.int .i64 x.ask,.int .i64 x.ax] (.returned (.slice (some ⟨gg,0,none⟩) (n+1) cap')) w5 from fun gg cap' w5 h2 h3 h4=>by
  refine ⟨⟨some ⟨gg,0,none⟩,n+1,cap'⟩,rfl,?_,vp h3,fun g hg=>?_⟩
  ·rw [List.take_of_length_le (by omega),List.drop_of_length_le (by omega),List.append_nil];exact h2
  ·rw [gG,List.mem_singleton] at hg
   have hg:g=gg:=hg;subst hg
   rcases h4 with h | h
   ·exact .inl h
   ·exact .inr (by omega))
 clear kG hz0 hz1 hz2 ho MD hx
 have k1:(n:Int)≤(cap:Int):=by omega
 have k2:(n:Int)≤(n:Int):=Int.le_refl _
 go_in
 by_cases hc:cap=n
 focus
  subst hc
 rotate_left
 rotate_left
 all_goals
  cases A
  all_goals
   go_wp2_with (at_builtin;go_must (refine wpList_append_lies _ rfl _ _ 34 rfl B 55 i0 _ 4 32 Tryz.underlying34 HI.out HZ.out.1 HZ.out.2.1 HZ.out.2.2 rfl (by decide) _ _ xs rfl HO.out ⟨nb,0,none⟩ 1 1 [.int .i64 x.seq,.int .i64 x.node,.int .i64 x.ask,.int .i64 x.ax] rfl rfl (World.news_of_block (cs:=#[.int .i64 x.seq,.int .i64 x.node,.int .i64 x.ask,.int .i64 x.ax]) (t:=55) (fr:=(0,0)) ZI.out) (by simp [Value.oneCell']) (by omega) Q2 AZ hB w.heap.size rfl ?_);intro gg cap' w5 ic hgrow hat yZ;have HP:=gH (HF.out gg cap' w5 ic hgrow hat);clear ic hgrow hat yZ)
   go_ret;exact HP.out
theorem Q3 (A:Option Addr) (cap:Nat) (n:Int) (v:Value) (w:World):Calls Tryz.prog 78 #[.slice A 0 cap,.int .i64 n,v] w fun e w'=>e=.returned (.tuple #[.int .i64 0,.bool false])∧ag w w':=by
 go_in
 go_wp2_with fail
 go_loopw [9,10] (fun u7 u8 wr=>u7=.int .i64 0∧u8=.int .i64 0∧ag w wr) (fun _ _ _=>0)
 case atStart=>exact ⟨rfl,rfl,ag.refl _⟩
 case round =>
  obtain ⟨rfl,rfl,ha⟩:=hrel;have HA:=gH ha;clear ha;go_wp2
  go_ret2
  exact ⟨rfl,HA.out⟩
theorem Q4 (A:Option Addr) (cap:Nat) (n:Int) (v:Value) (w:World):Calls Tryz.prog 82 #[.slice A 0 cap,.int .i64 n,v] w fun e w'=>e=.returned (.tuple #[.int .i64 0,.bool false])∧ag w w':=by
 go_in
 go_wp2_with fail
 go_loopw [9,10] (fun u7 u8 wr=>u7=.int .i64 0∧u8=.int .i64 0∧ag w wr) (fun _ _ _=>0)
 case atStart=>exact ⟨rfl,rfl,ag.refl _⟩
 case round =>
  obtain ⟨rfl,rfl,ha⟩:=hrel;have HA:=gH ha;clear ha;go_wp2
  go_ret2
  exact ⟨rfl,HA.out⟩
theorem Q5 (x:iw) (b:Nat) (w:World) (hb:b < w.heap.size) (hc:w.cell? ⟨b,0,none⟩=some (.func (.func 24) #[] #[])) :
  Calls Tryz.prog 79 (#[.agg #[.int .i64 x.aD,.int .i64 x.number,.int .i64 x.code,.int .i64 x.fence,.int .i64 x.version],.int .i64 x.aD]++#[.pointer (some ⟨b,0,none⟩)]) w fun e w'=>e=.returned (.int .i64 0)∧ag w w':=by
 have hz1:b < w.heap.size+1:=by omega
 have C:=gH (sH x)
 show Calls _ _ #[.agg #[.int .i64 x.aD,.int .i64 x.number,.int .i64 x.code,.int .i64 x.fence,.int .i64 x.version],.int .i64 x.aD,.pointer (some ⟨b,0,none⟩)] w _
 obtain ⟨W,hW⟩:∃ W,W=w.alloc (.cells #[.int .i64 x.aD,.int .i64 x.number,.int .i64 x.code,.int .i64 x.fence,.int .i64 x.version] 48):=⟨_,rfl⟩;have HA:=gH (show ag w W from by rw [hW];exact (ag.refl w).alloc _);have y0:W.cell? ⟨b,0,none⟩=some (.func (.func 24) #[] #[]):=HA.out.cell_kept hc
 have r0:au W w.heap.size [.int .i64 x.aD,.int .i64 x.number,.int .i64 x.code,.int .i64 x.fence,.int .i64 x.version]:=by rw [hW];exact aU (ag.refl _)
 obtain ⟨x0,x1,x2,x3,x4,xz⟩:=lX r0;clear r0
 go_in
 go_upto_region 1 with fail
 rw [← hW];clear hW
 go_wp2_with (go_at_call 24;refine (C.out _).mono ?_;rintro e w1 ⟨rfl,a1⟩;have cT:=gH (HA.out.trans a1);clear a1)
 go_ret;exact ⟨by simp,cT.out⟩
theorem Q6 (A:Option Addr) (cap:Nat) (y:iw) (b:Nat) (w:World) (h:aA w 5 fQ A cap [y]) (hb:b < w.heap.size) (hc:w.cell? ⟨b,0,none⟩=some (.func (.func 24) #[] #[])) :
  Calls Tryz.prog 78 #[.slice A 1 cap,.int .i64 y.aD,.func (.func 79) #[] #[.pointer (some ⟨b,0,none⟩)]] w fun e w'=>e=.returned (.tuple #[.int .i64 0,.bool true])∧ag w w':=by
 obtain ⟨bd,off,rfl,EJ,c0,c1,c2,c3,c4⟩:=mL h (k:=0) (by simp);simp only [Nat.zero_mul,Nat.add_zero,List.getElem_cons_zero] at c0 c1 c2 c3 c4;have CP:=gH (show ∀ V,ag w V→Calls Tryz.prog 79 #[.agg #[.int .i64 y.aD,.int .i64 y.number,.int .i64 y.code,.int .i64 y.fence,.int .i64 y.version],.int .i64 y.aD,.pointer (some ⟨b,0,none⟩)] V fun e w'=>e=.returned (.int .i64 0)∧ag V w' from fun V a=>Q5 y b V (Nat.lt_of_lt_of_le hb a.size) (a.cell_kept hc));have HD:=gH (And.intro c0 (And.intro c1 (And.intro c2 (And.intro c3 c4))));clear h hb hc c0 c1 c2 c3 c4
 go_in
 go_wp2_with fail
 go_loopw [9,10] (fun u7 u8 wr=>u7=.int .i64 0∧(u8=.int .i64 1∨u8=.int .i64 0)∧ag w wr) (fun _ u8 _=>(intOf u8).toNat)
 case atStart=>exact ⟨rfl,.inl rfl,ag.refl _⟩
 case round =>
  obtain ⟨rfl,h8,ha⟩:=hrel;have HA:=gH ha;have c0:=ha.cell_kept HD.out.1;have c1:=ha.cell_kept HD.out.2.1;have c2:=ha.cell_kept HD.out.2.2.1;have c3:=ha.cell_kept HD.out.2.2.2.1;have c4:=ha.cell_kept HD.out.2.2.2.2;clear ha
  rcases h8 with rfl | rfl
  ·go_wp2_with (go_at_call 79;refine (CP.out _ HA.out).mono ?_;rintro e w1 ⟨rfl,a1⟩;have cT:=gH (HA.out.trans a1);clear a1)
   go_roundw
   case rel=>exact ⟨rfl,.inr rfl,cT.out⟩
   case measure=>simp [intOf]
  ·go_wp2_with (go_at_call 79;refine (CP.out _ HA.out).mono ?_;rintro e w1 ⟨rfl,a1⟩;have cT:=gH (HA.out.trans a1);clear a1)
   go_ret2
   exact ⟨rfl,cT.out⟩
def tK (ty:TypeId) (n:Nat) (xs:List Value) (w:World) (e:Ending) (w':World):Prop:=∃ A c,e=.returned (.slice A 1 c)∧ag w w'∧w'.ownsRow w.heap.size ty n (.slice A 1 c) 1 xs
theorem MG (A:Option Addr) (cap:Nat) (x:iw) (w:World) (h:aA w 5 fQ A cap []) :
  Calls Tryz.prog 51 #[.slice A 0 cap,.func (.func 24) #[] #[],.agg #[.int .i64 x.aD,.int .i64 x.number,.int .i64 x.code,.int .i64 x.fence,.int .i64 x.version]] w (tK 48 5 [.int .i64 x.aD,.int .i64 x.number,.int .i64 x.code,.int .i64 x.fence,.int .i64 x.version] w):=by
 obtain ⟨W,hW⟩:∃ W,W=(w.alloc (.cells #[.func (.func 24) #[] #[]] 71)).alloc (.cells #[.int .i64 x.aD,.int .i64 x.number,.int .i64 x.code,.int .i64 x.fence,.int .i64 x.version] 48):=⟨_,rfl⟩
 have aW:ag w W:=by rw [hW];exact ((ag.refl w).alloc _).alloc _
 have r0:au W w.heap.size [.func (.func 24) #[] #[]]:=by rw [hW];exact au.up (bj (ag.refl _) (by simp))
 have r1:au W (w.heap.size+1) [.int .i64 x.aD,.int .i64 x.number,.int .i64 x.code,.int .i64 x.fence,.int .i64 x.version]:=by rw [hW];exact bj (ag.refl _) (by simp)
 have OW:∀ (fn:Fn) (first cap:Array Value) (w:World),(Instr.makeFunc fn first cap).run Tryz.prog w=.ok (.func fn first cap) w:=fun _ _ _ _=>rfl
 have HR:=gH (And.intro r0 r1);have HA:=gH aW;have C1:=gH (sH x);have C2:=gH (fun n v=>Q3 A cap n v);have C3:=gH (show ∀ V,ag W V→Calls Tryz.prog 80 #[.slice A 0 cap] V _ from fun V a=>tI A cap [] V V (ag.refl V) (h.aH (aW.trans a) fun _ _ h=>h) (by simp));have q0:=r0.cell (j:=0) rfl;obtain ⟨x0,x1,x2,x3,x4,xz⟩:=lX r1;clear r0 r1 aW h
 go_in
 go_upto_region 1 with fail
 rw [← hW];clear hW
 go_upto_region 2 with (first
  | (go_at_call 24;(with_reducible refine (C1.out _).mono ?_);rintro e w1 ⟨rfl,a1⟩)
  | (go_at_call 78;(with_reducible refine (C2.out _ _ _).mono ?_);rintro e w2 ⟨rfl,a2⟩;have A2:=gH (a1.trans a2);clear a1 a2))
 go_wp2_with fail;refine (C3.out _ A2.out).mono ?_;rintro e w3 ⟨v,bH,rfl,a3,o3,ch⟩;obtain ⟨B,cb,rfl⟩:=eA o3;rw [eT (f:=cv) (fun _ _ h=>h) ch] at o3;have A3:=gH (A2.out.trans a3);have r3:=HR.out.2.aH A3.out;obtain ⟨x0,x1,x2,x3,x4,xz⟩:=lX r3;obtain ⟨Z,hZ⟩:∃ Z,Z=w3.alloc (.cells #[.int .i64 x.aD,.int .i64 x.number,.int .i64 x.code,.int .i64 x.fence,.int .i64 x.version] 48):=⟨_,rfl⟩
 have aZ:ag w3 Z:=by rw [hZ];exact (ag.refl w3).alloc _
 have C4:=gH (Dc B 0 cb w2.heap.size w3.heap.size [] x Z (cj o3 aZ) (by rw [hZ];exact heap_alloc_new w3 _) (by omega) (by have:=a3.size;have:=aZ.size;omega));have HO:=gH (And.intro o3 (And.intro aZ A2.out.size));clear o3 a3 ch aZ r3;go_wp2_with fail;rw [← hZ];clear hZ;refine C4.out.mono ?_;rintro e w4 ⟨⟨D,nd,cd⟩,rfl,o4,kb,-⟩;obtain rfl:=nX o4;simp only [Hd.v];have HE:=gH (show tK 48 5 [.int .i64 x.aD,.int .i64 x.number,.int .i64 x.code,.int .i64 x.fence,.int .i64 x.version] w (.returned (.slice D (0+1) cd)) w4 from ⟨D,cd,rfl,kb.aN (HA.out.trans (A3.out.trans HO.out.2.1)) (fun g hg e=>by have:=(HO.out.1.lt g e).1;have:=HA.out.size;have:=HO.out.2.2;omega),bS o4 (by have:=HA.out.size;have:=HO.out.2.2;omega)⟩);clear o4 kb;go_wp2;go_ret;exact HE.out
theorem MH (A:Option Addr) (cap:Nat) (x:gS) (w:World) (h:aA w 4 fY A cap []) :
  Calls Tryz.prog 53 #[.slice A 0 cap,.func (.func 28) #[] #[],.agg #[.int .i64 x.seq,.int .i64 x.node,.int .i64 x.ask,.int .i64 x.ax]] w (tK 55 4 [.int .i64 x.seq,.int .i64 x.node,.int .i64 x.ask,.int .i64 x.ax] w):=by
 obtain ⟨W,hW⟩:∃ W,W=(w.alloc (.cells #[.func (.func 28) #[] #[]] 75)).alloc (.cells #[.int .i64 x.seq,.int .i64 x.node,.int .i64 x.ask,.int .i64 x.ax] 55):=⟨_,rfl⟩
 have aW:ag w W:=by rw [hW];exact ((ag.refl w).alloc _).alloc _
 have r0:au W w.heap.size [.func (.func 28) #[] #[]]:=by rw [hW];exact au.up (bj (ag.refl _) (by simp))
 have r1:au W (w.heap.size+1) [.int .i64 x.seq,.int .i64 x.node,.int .i64 x.ask,.int .i64 x.ax]:=by rw [hW];exact bj (ag.refl _) (by simp)
 have OW:∀ (fn:Fn) (first cap:Array Value) (w:World),(Instr.makeFunc fn first cap).run Tryz.prog w=.ok (.func fn first cap) w:=fun _ _ _ _=>rfl
 have HR:=gH (And.intro r0 r1);have HA:=gH aW;have C1:=gH (Br x);have C2:=gH (fun n v=>Q4 A cap n v);have C3:=gH (show ∀ V,ag W V→Calls Tryz.prog 55 #[.slice A 0 cap] V _ from fun V a=>tH A cap [] V V (ag.refl V) (h.aH (aW.trans a) fun _ _ h=>h) (by simp));have q0:=r0.cell (j:=0) rfl;obtain ⟨x0,x1,x2,x3⟩:=yl r1;have xz:=r1.1;clear r0 r1 aW h
 go_in
 go_upto_region 1 with fail
 rw [← hW];clear hW
 go_upto_region 2 with (first
  | (go_at_call 28;(with_reducible refine (C1.out _).mono ?_);rintro e w1 ⟨rfl,a1⟩)
  | (go_at_call 82;(with_reducible refine (C2.out _ _ _).mono ?_);rintro e w2 ⟨rfl,a2⟩;have A2:=gH (a1.trans a2);clear a1 a2))
 go_wp2_with fail;refine (C3.out _ A2.out).mono ?_;rintro e w3 ⟨v,bH,rfl,a3,o3,ch⟩;obtain ⟨B,cb,rfl⟩:=eA o3;rw [eT (f:=eV) (fun _ _ h=>h) ch] at o3;have A3:=gH (A2.out.trans a3);have r3:=HR.out.2.aH A3.out;obtain ⟨x0,x1,x2,x3⟩:=yl r3;have xz:=r3.1;obtain ⟨Z,hZ⟩:∃ Z,Z=w3.alloc (.cells #[.int .i64 x.seq,.int .i64 x.node,.int .i64 x.ask,.int .i64 x.ax] 55):=⟨_,rfl⟩
 have aZ:ag w3 Z:=by rw [hZ];exact (ag.refl w3).alloc _
 have C4:=gH (Dd B 0 cb w2.heap.size w3.heap.size [] x Z (cj o3 aZ) (by rw [hZ];exact heap_alloc_new w3 _) (by omega) (by have:=a3.size;have:=aZ.size;omega));have HO:=gH (And.intro o3 (And.intro aZ A2.out.size));clear o3 a3 ch aZ r3;go_wp2_with fail;rw [← hZ];clear hZ;refine C4.out.mono ?_;rintro e w4 ⟨⟨D,nd,cd⟩,rfl,o4,kb,-⟩;obtain rfl:=nX o4;simp only [Hd.v];have HE:=gH (show tK 55 4 [.int .i64 x.seq,.int .i64 x.node,.int .i64 x.ask,.int .i64 x.ax] w (.returned (.slice D (0+1) cd)) w4 from ⟨D,cd,rfl,kb.aN (HA.out.trans (A3.out.trans HO.out.2.1)) (fun g hg e=>by have:=(HO.out.1.lt g e).1;have:=HA.out.size;have:=HO.out.2.2;omega),bS o4 (by have:=HA.out.size;have:=HO.out.2.2;omega)⟩);clear o4 kb;go_wp2;go_ret;exact HE.out
theorem MI (A:Option Addr) (cap:Nat) (x y:iw) (w:World) (h:aA w 5 fQ A cap [y]) (hxy:y.aD=x.aD) :
  Calls Tryz.prog 51 #[.slice A 1 cap,.func (.func 24) #[] #[],.agg #[.int .i64 x.aD,.int .i64 x.number,.int .i64 x.code,.int .i64 x.fence,.int .i64 x.version]] w (tK 48 5 [.int .i64 x.aD,.int .i64 x.number,.int .i64 x.code,.int .i64 x.fence,.int .i64 x.version] w):=by
 obtain ⟨W,hW⟩:∃ W,W=(w.alloc (.cells #[.func (.func 24) #[] #[]] 71)).alloc (.cells #[.int .i64 x.aD,.int .i64 x.number,.int .i64 x.code,.int .i64 x.fence,.int .i64 x.version] 48):=⟨_,rfl⟩
 have aW:ag w W:=by rw [hW];exact ((ag.refl w).alloc _).alloc _
 have r0:au W w.heap.size [.func (.func 24) #[] #[]]:=by rw [hW];exact au.up (bj (ag.refl _) (by simp))
 have r1:au W (w.heap.size+1) [.int .i64 x.aD,.int .i64 x.number,.int .i64 x.code,.int .i64 x.fence,.int .i64 x.version]:=by rw [hW];exact bj (ag.refl _) (by simp)
 have OW:∀ (fn:Fn) (first cap:Array Value) (w:World),(Instr.makeFunc fn first cap).run Tryz.prog w=.ok (.func fn first cap) w:=fun _ _ _ _=>rfl
 have HR:=gH (And.intro r0 r1);have HA:=gH aW;have C1:=gH (sH x);have C2:=gH (show ∀ V,ag W V→Calls Tryz.prog 78 #[.slice A 1 cap,.int .i64 x.aD,.func (.func 79) #[] #[.pointer (some ⟨w.heap.size,0,none⟩)]] V fun e w'=>e=.returned (.tuple #[.int .i64 0,.bool true])∧ag V w' from fun V a=>hxy▸Q6 A cap y w.heap.size V (h.aH (aW.trans a) fun _ _ h=>h) (r0.aH a).1 ((r0.aH a).cell (j:=0) rfl));have C3:=gH (show ∀ V,ag W V→Calls Tryz.prog 80 #[.slice A 1 cap] V _ from fun V a=>tI A cap [y] V V (ag.refl V) (h.aH (aW.trans a) fun _ _ h=>h) (by simp));have q0:=r0.cell (j:=0) rfl;obtain ⟨x0,x1,x2,x3,x4,xz⟩:=lX r1;clear r0 r1 aW h
 go_in
 go_upto_region 1 with fail
 rw [← hW];clear hW
 go_upto_region 2 with (first
  | (go_at_call 24;(with_reducible refine (C1.out _).mono ?_);rintro e w1 ⟨rfl,a1⟩)
  | (go_at_call 78;(with_reducible refine (C2.out _ a1).mono ?_);rintro e w2 ⟨rfl,a2⟩;have A2:=gH (a1.trans a2);clear a1 a2))
 go_wp2_with fail;refine (C3.out _ A2.out).mono ?_;rintro e w3 ⟨v,bH,rfl,a3,o3,ch⟩;rw [eT (f:=cv) (fun _ _ h=>h) ch] at o3;obtain ⟨g,cb,hv,QH,uW,hr⟩:=cB o3 (by simp);subst hv;have A3:=gH (A2.out.trans a3);have r3:=HR.out.2.aH A3.out;obtain ⟨x0,x1,x2,x3,x4,xz⟩:=lX r3;simp only [List.flatMap_cons,List.flatMap_nil,List.append_nil] at hr;have y0:=hr.cell (j:=0) rfl;have f0:=hr.2.2 0 (by simp [cv]);have y1:=hr.cell (j:=1) rfl;have f1:=hr.2.2 1 (by simp [cv]);have y2:=hr.cell (j:=2) rfl;have f2:=hr.2.2 2 (by simp [cv]);have y3:=hr.cell (j:=3) rfl;have f3:=hr.2.2 3 (by simp [cv]);have y4:=hr.cell (j:=4) rfl;have f4:=hr.2.2 4 (by simp [cv]);have yz:=hr.1;have hn1:1≤cb:=uW
 have k1:(1:Int)≤(cb:Int):=by omega
 have HO:=gH (And.intro o3 (And.intro QH A2.out.size))
 have HN:=gH (show tK 48 5 [.int .i64 x.aD,.int .i64 x.number,.int .i64 x.code,.int .i64 x.fence,.int .i64 x.version] w (.returned (.slice (some ⟨g,0,none⟩) 1 cb)) (((((w3.setCell ⟨g,0,none⟩ (.int .i64 x.aD)).setCell ⟨g,1,none⟩ (.int .i64 x.number)).setCell ⟨g,2,none⟩ (.int .i64 x.code)).setCell ⟨g,3,none⟩ (.int .i64 x.fence)).setCell ⟨g,4,none⟩ (.int .i64 x.version)) from by
  have o5:=dJ (g:=g) rfl (cv x) 0 o3;have kb:Kb (fun k=>k=g) w3 (w3.setCells g 0 (cv x)):=cX g (cv x) w3 0;have hA:=HA.out.size;have h2:=A2.out.size
  exact ⟨_,cb,rfl,kb.aN (HA.out.trans A3.out) (fun j hj e=>by have e:j=g:=e;omega),bS o5 (by omega)⟩)
 clear o3 a3 ch hr r3;go_wp2;go_ret;exact HN.out
end Go.Proofs.YtakddkhipelmjaaGreat
namespace Go.Proofs.YtakddkhipelmjaaGreat
open Go.Deep Go.RowKit
theorem Ga:(Tryz.prog.info? 177).map (fun i=>(i.zero,i.size,i.bytes))=some (some (.agg #[.string ByteArray.empty,.string ByteArray.empty,.int .i64 0,.string ByteArray.empty,.string ByteArray.empty,.bool false]),6,80):=by kernel_rfl
theorem De (A:Option Addr) (cap:Nat) (l:List cF) (w0 w:World) (ha:ag w0 w) (h:aA w0 6 gC A cap l) (hb:l.length≤1000000) :
  Calls Tryz.prog 123 #[.slice A l.length cap] w (ni 177 6 gC w0 w l):=by
 obtain ⟨i0,hi,hz0,hz1,hz2⟩:=info_parts Ga
 have QV:∀ (w:World) (a:Option Addr) (n c n' c':Nat),(binOp .eql 30 (.slice a n c) (.slice none n' c')).run Tryz.prog w=.ok (.bool a.isNone) w:=fun w a n c n' c'=>Lib.run_eql_slice_nil w _ _ a n c n' c' Tryz.underlying30
 cases A with
 | none =>
  have hl0:l=[]:=by
   cases l with
   | nil=>rfl
   | cons x l=>obtain ⟨b,off,cs,hA,_⟩:=h.2.2 0 (by simp);cases hA
  subst hl0
  go_in
  go_wp2;go_ret;exact ⟨_,[],rfl,ag.refl _,cO _ _ _ _,bV.nil⟩
 | some ad =>
  have HC:∃ bH,bV w0 6 gC bH l∧∀ p u,bH.flatten[p]? = some u→w.cell? (ad.add p)=some u:=by
   by_cases h0:0 < l.length
   ·obtain ⟨b,off,bH,hA,hb',hch,hc⟩:=h.bH h0 (by decide)
    simp only [Option.some.injEq] at hA;subst hA;refine ⟨bH,hch,fun p u hp=>?_⟩
    have hlt:p < l.length*6:=by rw [← hch.len];exact (List.getElem?_eq_some_iff.1 hp).1
    rw [lA];exact ha.cell_kept ((hc p hlt).trans hp)
   ·have hl0:l=[]:=List.eq_nil_of_length_eq_zero (by omega)
    subst hl0;exact ⟨[],bV.nil,fun p u hp=>by simp at hp⟩
  obtain ⟨bH,hch,hcell⟩:=HC;have H1:=gH hcell
  have H2:Hid (∀ u∈bH.flatten,u.oneCell'=true):=gH (by
   intro u hu;obtain ⟨c,hc,hu⟩:=List.mem_flatten.1 hu;obtain ⟨i,hi,rfl⟩:=List.getElem_of_mem hc;have h3:=(hch.2 i hi (by rw [← hch.1];exact hi)).2;obtain ⟨hcs,_⟩:=h3;unfold eM at hcs;rw [hcs] at hu;simp only [List.mem_cons,List.not_mem_nil,or_false] at hu
   rcases hu with rfl | rfl | rfl | rfl | rfl | rfl<;>simp [Value.oneCell'])
  have H3:=gH hch;have HI:=gH hi;have kU:=gH hz0;have ki:=gH hz1;have kP:=gH hz2;clear hcell hch hi hz0 hz1 hz2 h ha
  go_in
  go_wp2_with (at_builtin;refine wpList_append_own _ rfl _ _ 30 rfl w.heap.size 177 i0 (.agg #[.string ByteArray.empty,.string ByteArray.empty,.int .i64 0,.string ByteArray.empty,.string ByteArray.empty,.bool false]) 6 80 Tryz.underlying30 HI.out kU.out ki.out kP.out rfl (by decide) _ _ _ rfl (World.ownsRow_made w #[] 0 (Nat.le_refl _) (Nat.zero_le _) rfl) ad l.length cap bH.flatten rfl ?CF ?CJ ?CM ?CU ?CV ?CX ?_)
  case CF=>exact H3.out.len
  case CJ =>
   intro j u hj;exact Lib.cell?_alloc_some _ (H1.out j u hj)
  case CM=>exact H2.out
  case CU=>unfold maxLen;omega
  case CV=>omega
  case CX=>simp
  intro v' w1 hown hgrow hnil;have HO:=gH hown;have HA:=gH (show ag w w1 from ((Below.refl _ w).alloc (Nat.le_refl _) _).grown hgrow (by simp) (by intro k hk;simp [Value.ownBlock] at hk;omega));clear hown hgrow hnil;go_wp2;go_ret;refine ⟨v',bH,rfl,HA.out,?_,H3.out⟩
  simpa using HO.out
theorem Kb.or {P Q:Nat→Prop} {w w' w'':World} (h:Kb P w w') (h':Kb Q w' w''):Kb (fun g=>P g∨Q g) w w'':=(h.mono fun _ _=>.inl).trans (h'.mono fun _ _=>.inr)
def Gb (w:World) (r:bX × Int) (e:Ending) (w':World):Prop:=∃ hs ht hn hm hg L,e=.returned (.tuple #[Ql r.1 hs ht hn hm hg,.int .i64 r.2])∧ag w w'∧eN w' w.heap.size r.1 hs ht hn hm hg L
theorem JG (w:World) (B:Nat):eN w B sN ⟨none,0,0⟩ ⟨none,0,0⟩ ⟨none,0,0⟩ ⟨none,0,0⟩ ⟨none,0,0⟩ [] :=
 ⟨⟨cO _ _ _ _,cO _ _ _ _,fun x hx=>by simp at hx,by simp [iQ]⟩,rfl,⟨cO _ _ _ _,cO _ _ _ _,fun g hg=>by simp [iQ] at hg⟩,cO _ _ _ _,fun g hg=>by simp [iQ] at hg,fun g hg=>by simp [iQ] at hg⟩
theorem EK {w w':World} {k:Int} (a:ag w w'):Gb w (sN,k) (.returned (.tuple #[.agg #[.int .i64 0,.int .i64 0,.slice none 0 0,.slice none 0 0,.slice none 0 0,.slice none 0 0,.slice none 0 0],.int .i64 k])) w' :=
 ⟨⟨none,0,0⟩,⟨none,0,0⟩,⟨none,0,0⟩,⟨none,0,0⟩,⟨none,0,0⟩,[],rfl,a,JG _ _⟩
def tL (hs ht hn hm:Hd) (L:List bK) (g:Nat):Prop:=g∈hs.blk++(ht.blk++L.flatMap bK.ig)∨(g∈hn.blk∨g∈hm.blk)
theorem eN.lt {w:World} {B:Nat} {c:bX} {hs ht hn hm hg:Hd} {L:List bK} (h:eN w B c hs ht hn hm hg L) {g:Nat} (qh:tL hs ht hn hm L g∨g∈hg.blk):B≤g∧g < w.heap.size:=by
 rcases qh with (h1 | h1) | h1
 ·exact h.obj.lt g h1
 ·exact h.IU.lt g h1
 ·exact h.n7.lt g (Hd.bu.1 h1)
theorem eN.VY {P:Nat→Prop} {w w':World} {B:Nat} {c:bX} {hs ht hn hm hg qh:Hd} {L:List bK} {l:List cF} (h:eN w B c hs ht hn hm hg L) (kb:Kb P w w') (hP:∀ g,tL hs ht hn hm L g→¬ P g)
  (ho:w'.ownsRow B 177 6 qh.v l.length (l.flatMap eM)) (hb:∀ g∈qh.blk,g∈hg.blk∨w.heap.size≤g):eN w' B { c with af:=l } hs ht hn hm qh L :=
 ⟨h.obj.kb kb (fun g hg=>hP g (.inl hg)),h.O8,h.IU.kb kb (fun g hg=>hP g (.inr hg)),ho,
 fun g hg=>⟨(h.Ba g hg).1,fun h2=>by
  rcases hb g h2 with h3 | h3
  ·exact (h.Ba g hg).2 h3
  ·have:=(h.obj.lt g hg).2;omega⟩,
 fun g hg h2=>by
  rcases hb g h2 with h3 | h3
  ·exact h.BK g hg h3
  ·have:=(h.IU.lt g hg).2;omega⟩
theorem eN.kb {P:Nat→Prop} {w w':World} {B:Nat} {c:bX} {hs ht hn hm hg:Hd} {L:List bK} (h:eN w B c hs ht hn hm hg L) (kb:Kb P w w') (hP:∀ g,tL hs ht hn hm L g∨g∈hg.blk→¬ P g):eN w' B c hs ht hn hm hg L :=
 ⟨h.obj.kb kb (fun g hg=>hP g (.inl (.inl hg))),h.O8,h.IU.kb kb (fun g hg=>hP g (.inl (.inr hg))),bB h.n7 kb (fun g hg=>hP g (.inr (Hd.bu.2 hg))),h.Ba,h.BK⟩
theorem eN.down {w:World} {B B':Nat} {c:bX} {hs ht hn hm hg:Hd} {L:List bK} (h:eN w B c hs ht hn hm hg L) (hb:B'≤B):eN w B' c hs ht hn hm hg L:=⟨h.obj.down hb,h.O8,h.IU.down hb,bS h.n7 hb,h.Ba,h.BK⟩
def Be (k:Int):Ending:=.panicked [{ v:=.iface 103 (.agg #[.int .i64 k]),recovered:=false }]
theorem xx (w:World):Calls Tryz.prog 66 #[.int .i64 0] w fun e w'=>e=.returned (.tuple #[])∧w=w':=by
 go_in
 go_wp2
 go_end0
 exact ⟨rfl,rfl⟩
theorem xA (k:Int) (h:k≠0) (w:World):Calls Tryz.prog 66 #[.int .i64 k] w fun e w'=>e=Be k∧w=w':=by
 go_in
 go_wp2_with fail;exact ⟨rfl,rfl,rfl⟩
theorem vM (k:Int) (w:World):Calls Tryz.prog 67 #[.bool true,.int .i64 k] w fun e w'=>e=.returned (.tuple #[])∧w=w':=by
 go_in
 go_wp2
 go_end0
 exact ⟨rfl,rfl⟩
theorem vN (k:Int) (w:World):Calls Tryz.prog 67 #[.bool false,.int .i64 k] w fun e w'=>e=Be k∧w=w':=by
 go_in
 go_wp2_with fail;exact ⟨rfl,rfl,rfl⟩
def mf (c:bX) (hs ht hn hm hg:Hd):List Value:=[.int .i64 c.ax,.int .i64 c.version,.slice hs.a c.ah.aa.length hs.c,.slice ht.a c.ah.tables.length ht.c,.slice hn.a c.ai.names.length hn.c,.slice hm.a c.ai.members.length hm.c,.slice hg.a c.af.length hg.c]
def tM (w:World) (B b:Nat) (r:bX × Int) (e:Ending) (w':World):Prop :=
 Kb (fun g=>g=b∨B≤g) w w'∧(r.2≠0→e=Be r.2∧∃ vs,vs.length=7∧au w' b vs)∧(r.2=0→e=.returned (.tuple #[])∧∃ hs ht hn hm hg L,eN w' B r.1 hs ht hn hm hg L∧au w' b (mf r.1 hs ht hn hm hg))
theorem tM.no {w w':World} {B b:Nat} {r:bX × Int} {k:Int} {vs:List Value} (k0:Kb (fun g=>g=b∨B≤g) w w') (rw0:au w' b vs) (hl:vs.length=7) (h:r.2=k) (hk:k≠0):tM w B b r (Be k) w':=⟨k0,fun _=>⟨by rw [h],vs,hl,rw0⟩,fun h0=>absurd (h.symm.trans h0) hk⟩
theorem eN.ah {w w':World} {B D:Nat} {c:bX} {hs ht hn hm hg hs' lz:Hd} {L L':List bK} {o:bF} (h:eN w B c hs ht hn hm hg L) (a:ag w w') (hD:w.heap.size≤D) (hBD:B≤w.heap.size) (ob:dM w' D hs' lz o.aa L') (hL:L'.map bK.t=o.tables):eN w' B { c with ah:=o } hs' lz hn hm hg L':=by
 have h2:=h.aH a;refine ⟨ob.down (by omega),hL,h2.IU,h2.n7,fun g qh=>?_,h2.BK⟩;have h3:=(ob.lt g qh).1;refine ⟨fun h4=>?_,fun h4=>?_⟩
 ·have:g < w.heap.size:=by rcases h4 with h4 | h4<;>exact (h.lt (.inl (by unfold tL;simp [h4]))).2
  omega
 ·have:=(h.lt (.inr h4)).2
  omega
theorem VZ {w V:World} {B b D:Nat} {c:bX} {hs ht hn hm hg:Hd} {L L2:List bK} {F0:List fJ} {F1:List cp} {A1 A2:Option Addr} {n1 c1 n2 c2:Nat} (hb:b < B) (V0:B≤w.heap.size) (h:eN w B c hs ht hn hm hg L) (R0:au w b (mf c hs ht hn hm hg)) (aV:ag w V) (hD:w.heap.size≤D) (ob:dM V D ⟨A1,n1,c1⟩ ⟨A2,n2,c2⟩ F0 L2) (hL:L2.map bK.t=F1) :
  tM w B b ({ c with ah:=⟨F0,F1⟩ },0) (.returned (.tuple #[])) ((V.setCell ⟨b,2,none⟩ (.slice A1 F0.length c1)).setCell ⟨b,3,none⟩ (.slice A2 F1.length c2)):=by
 have h2:=h.ah (o:=⟨F0,F1⟩) aV hD V0 ob hL;have k:=(Kb.set V b 2 (.slice A1 F0.length c1)).trans (Kb.set _ b 3 (.slice A2 F1.length c2));refine ⟨(Kb.bl aV).trans (k.mono fun g _ e=>.inl e),fun h=>absurd rfl h,fun _=>⟨rfl,⟨A1,n1,c1⟩,⟨A2,n2,c2⟩,hn,hm,hg,L2,h2.kb k fun g qh e=>?_,?_⟩⟩
 ·have:=(h2.lt qh).1
  omega
 ·exact ((R0.aH aV).set 2 _ (by simp [mf])).set 3 _ (by simp [mf])
structure ou (w:World) (x:gV) (A6:Option Addr) (c6:Nat) (A9:Option Addr) (c9:Nat):Prop where
 av:aA w 3 fG A6 c6 x.av
 names:aA w 1 dg A9 c9 x.rule.av
 s1:Small x.aP.size
 s2:Small x.ac.size
 s3:Small x.table.size
 s4:Small x.name.size
 s5:Small x.role.size
 t1:Small x.rule.name.size
 t2:Small x.rule.ac.size
 t3:Small x.rule.table.size
 t4:Small x.rule.key.size
 r:(Lit.int .i64 x.right).wf=true
theorem ou.aH {w w':World} {x:gV} {A6:Option Addr} {c6:Nat} {A9:Option Addr} {c9:Nat} (h:ou w x A6 c6 A9 c9) (a:ag w w'):ou w' x A6 c6 A9 c9:=⟨bW a h.av,aO a h.names,h.s1,h.s2,h.s3,h.s4,h.s5,h.t1,h.t2,h.t3,h.t4,h.r⟩
theorem rL.ZJ {w w1 W:World} {r:bF × Int} {b:Nat} {hs ht:Hd} {L:List bK} (aW:ag w W) (a:ag W w1) (hb:w.heap.size≤b) (hbW:b < W.heap.size) (hL:L.map bK.t=r.1.tables) (ob:dM w1 W.heap.size hs ht r.1.aa L) :
  rL w r (.returned (.tuple #[.agg #[.slice hs.a r.1.aa.length hs.c,.slice ht.a r.1.tables.length ht.c],.int .i64 r.2])) ((w1.setCell ⟨b,0,none⟩ (.slice hs.a r.1.aa.length hs.c)).setCell ⟨b,1,none⟩ (.slice ht.a r.1.tables.length ht.c)) :=
 sZ (W:=W) (aW.trans a) hL ob hb hbW rfl
def Gc (o:bF) (x:gV):bF × Int:=if x.kind=1 then ju o (dG x.ac x.aP o) else ju o (cS x.ac o)
theorem Q7 (o:bF) (As:Option Addr) (ay:Nat) (At:Option Addr) (az:Nat) (x:gV) (A6:Option Addr) (c6:Nat) (A9:Option Addr) (c9:Nat) (w:World) (en:aA w 2 eL As ay o.aa) (dw:aA w 5 dE At az o.tables) (hk:x.kind=1∨x.kind=2) (s1:Small x.aP.size) (s2:Small x.ac.size) :
  Calls Tryz.prog 130 #[.agg #[.slice As o.aa.length ay,.slice At o.tables.length az],.agg #[.int .i64 x.kind,.string x.aP,.string x.ac,.string x.table,.string x.name,.string x.role,.slice A6 x.av.length c6,.string x.rule.name,.int .i64 x.rule.kind,.slice A9 x.rule.av.length c9,.int .i64 x.rule.low,.int .i64 x.rule.high,.string x.rule.ac,.string x.rule.table,.string x.rule.key,.int .i64 x.right,.bool x.opt]] w (rL w (Gc o x)):=by
 have l1:w.heap.size < w.heap.size+1:=by omega
 have l2:w.heap.size < w.heap.size+1+1:=by omega
 have l3:w.heap.size < w.heap.size+1+1+1:=by omega
 have l4:w.heap.size+1 < w.heap.size+1+1+1:=by omega
 obtain ⟨W,hW⟩:∃ W,W=((w.alloc (.cells #[.slice As o.aa.length ay,.slice At o.tables.length az] 25)).alloc (.cells #[.int .i64 x.kind,.string x.aP,.string x.ac,.string x.table,.string x.name,.string x.role,.slice A6 x.av.length c6,.string x.rule.name,.int .i64 x.rule.kind,.slice A9 x.rule.av.length c9,.int .i64 x.rule.low,.int .i64 x.rule.high,.string x.rule.ac,.string x.rule.table,.string x.rule.key,.int .i64 x.right,.bool x.opt] 45)).alloc (.cells #[.slice none 0 0,.slice none 0 0] 25):=⟨_,rfl⟩
 have aW:ag w W:=by rw [hW];exact (((ag.refl w).alloc _).alloc _).alloc _
 have r0:au W (w.heap.size) [.slice As o.aa.length ay,.slice At o.tables.length az]:=by rw [hW];exact au.up (au.up (bj (ag.refl _) (by simp)))
 have r1:au W (w.heap.size+1) [.int .i64 x.kind,.string x.aP,.string x.ac,.string x.table,.string x.name,.string x.role,.slice A6 x.av.length c6,.string x.rule.name,.int .i64 x.rule.kind,.slice A9 x.rule.av.length c9,.int .i64 x.rule.low,.int .i64 x.rule.high,.string x.rule.ac,.string x.rule.table,.string x.rule.key,.int .i64 x.right,.bool x.opt]:=by rw [hW];exact au.up (bj (ag.refl _) (by simp))
 have r2:au W (w.heap.size+1+1) [.slice none 0 0,.slice none 0 0]:=by rw [hW];exact bj (ag.refl _) (by simp)
 have zW:W.heap.size=w.heap.size+3:=by rw [hW];simp
 have HR:=gH r2;have bQ:=gH aW;have JH:=gH zW;obtain ⟨k,nV⟩:∃ k,x.kind=k:=⟨_,rfl⟩;obtain ⟨F,hF⟩:∃ F,Gc o x=F:=⟨_,rfl⟩
 have V3:=gH (show k=1→Calls Tryz.prog 202 #[.agg #[.slice As o.aa.length ay,.slice At o.tables.length az],.string x.ac,.string x.aP] W (rL W F) from fun h=>by
  have:=xq o As ay At az x.ac x.aP W (bI aW en) (br aW dw) s2 s1;rw [← hF];unfold Gc
  rwa [if_pos (nV.trans h)])
 have HC1:=gH (show k=2→Calls Tryz.prog 203 #[.agg #[.slice As o.aa.length ay,.slice At o.tables.length az],.string x.ac] W (rL W F) from fun h=>by
  have:=uF o As ay At az x.ac W (bI aW en) (br aW dw);rw [← hF];unfold Gc
  rwa [if_neg (by omega)])
 rw [hF];rw [nV] at hW r1 hk ⊢;have z0:=r0.1;have z1:=r1.1;have z2:=r2.1;have x0:=r0.cell (j:=0) rfl;have x1:=r0.cell (j:=1) rfl;obtain ⟨y0,y1,y2,y3,y4,y5,y6,y7,y8,y9,q9,ra,rb,rf,rh,ri,rj⟩:=kS r1;clear en dw aW r0 r1 r2 zW s1 s2 hF nV;obtain ⟨⟨F0,F1⟩,F2⟩:=F
 have HCC:=hk.imp (fun h=>And.intro h (V3.out h)) fun h=>And.intro h (HC1.out h)
 clear V3 HC1 hk
 rcases HCC with ⟨rfl,HC⟩ | ⟨rfl,HC⟩
 all_goals
  have HC:=gH HC
  go_in
  go_wp2_with fail;rw [← hW];clear hW;refine HC.out.mono ?_;rintro e w1 ⟨⟨A1,n1,c1⟩,⟨A2,n2,c2⟩,L,hL,rfl,a1,ob⟩;have row:=HR.out.aH a1;have u0:=row.cell (j:=0) rfl;have u1:=row.cell (j:=1) rfl;have uz:=row.1;have f0:=row.2.2 0 (by simp);have f1:=row.2.2 1 (by simp);have HP:=gH (rL.ZJ (b:=w.heap.size+1+1) bQ.out a1 (by omega) (by have:=JH.out;omega) hL ob);have ZK:=gH row;simp only [Hd.v];clear ob hL row a1;go_wp2;refine bodyPost_ret (results_cell_tmp (v:=.agg #[.slice A1 F0.length c1,.slice A2 F1.length c2]) rfl _ rfl (iI (JI ZK.out rfl _ _))) rfl ?_;exact HP.out
theorem JJ {c:bX} {x:gV} (h:x.kind≤9) (h4:x.kind≠4):dB c x=({ c with ah:=(dS c x).1 },(dS c x).2):=by unfold dB;rw [if_pos h,if_neg h4]
theorem JK {c:bX} {x:gV} (hk:x.kind=1∨x.kind=2):dS c x=Gc c.ah x:=by
 unfold dS Gc
 rcases hk with h | h<;>simp [h]
theorem V7 (c:bX) (hs ht hn hm hg:Hd) (L:List bK) (B b:Nat) (x:gV) (A6:Option Addr) (c6:Nat) (A9:Option Addr) (c9:Nat) (w:World) (hb:b < B) (V0:B≤w.heap.size) (C:eN w B c hs ht hn hm hg L) (sm:FK c) (R:au w b (mf c hs ht hn hm hg)) (XA:ou w x A6 c6 A9 c9) (hr:bG c.ai=true) (hk:x.kind=1∨x.kind=2) :
  Calls Tryz.prog 75 #[.pointer (some ⟨b,0,none⟩),.agg #[.int .i64 x.kind,.string x.aP,.string x.ac,.string x.table,.string x.name,.string x.role,.slice A6 x.av.length c6,.string x.rule.name,.int .i64 x.rule.kind,.slice A9 x.rule.av.length c9,.int .i64 x.rule.low,.int .i64 x.rule.high,.string x.rule.ac,.string x.rule.table,.string x.rule.key,.int .i64 x.right,.bool x.opt]] w (tM w B b (dB c x)):=by
 have l1:w.heap.size < w.heap.size+1:=by omega
 obtain ⟨k,nV⟩:∃ k,x.kind=k:=⟨_,rfl⟩;obtain ⟨F,hF⟩:∃ F,dB c x=F:=⟨_,rfl⟩;obtain ⟨W,hW⟩:∃ W,W=w.alloc (.cells #[.int .i64 k,.string x.aP,.string x.ac,.string x.table,.string x.name,.string x.role,.slice A6 x.av.length c6,.string x.rule.name,.int .i64 x.rule.kind,.slice A9 x.rule.av.length c9,.int .i64 x.rule.low,.int .i64 x.rule.high,.string x.rule.ac,.string x.rule.table,.string x.rule.key,.int .i64 x.right,.bool x.opt] 45):=⟨_,rfl⟩
 have aW:ag w W:=by rw [hW];exact (ag.refl w).alloc _
 have X3:B≤W.heap.size:=Nat.le_trans V0 aW.size
 have r1:au W w.heap.size [.int .i64 k,.string x.aP,.string x.ac,.string x.table,.string x.name,.string x.role,.slice A6 x.av.length c6,.string x.rule.name,.int .i64 x.rule.kind,.slice A9 x.rule.av.length c9,.int .i64 x.rule.low,.int .i64 x.rule.high,.string x.rule.ac,.string x.rule.table,.string x.rule.key,.int .i64 x.right,.bool x.opt]:=by rw [hW];exact bj (ag.refl _) (by simp)
 have r0:=R.aH aW;have ZL:=gH (C.at sm);obtain ⟨G,hG⟩:∃ G,dS c x=G:=⟨_,rfl⟩
 have HO:=gH (show ∀ V,ag W V→Calls Tryz.prog 130 #[.agg #[.slice hs.a c.ah.aa.length hs.c,.slice ht.a c.ah.tables.length ht.c],.agg #[.int .i64 k,.string x.aP,.string x.ac,.string x.table,.string x.name,.string x.role,.slice A6 x.av.length c6,.string x.rule.name,.int .i64 x.rule.kind,.slice A9 x.rule.av.length c9,.int .i64 x.rule.low,.int .i64 x.rule.high,.string x.rule.ac,.string x.rule.table,.string x.rule.key,.int .i64 x.right,.bool x.opt]] V (rL V G) from fun V a=>by
  rw [← nV,← hG,JK hk]
  exact Q7 c.ah hs.a hs.c ht.a ht.c x A6 c6 A9 c9 V (bI (aW.trans a) ZL.out.gT) (br (aW.trans a) ZL.out.tab) hk XA.s1 XA.s2)
 have HRO:=gH (show F=({ c with ah:=G.1 },G.2) from by rw [← hF,← hG];exact JJ (by omega) (by omega));rw [hF];rw [nV] at hk ⊢;have HC:=gH C;have HRW:=gH R;have bQ:=gH aW;have fO:=gH r0;have x2:=r0.cell (j:=2) rfl;have x3:=r0.cell (j:=3) rfl;have x4:=r0.cell (j:=4) rfl;have x5:=r0.cell (j:=5) rfl;obtain ⟨y0,y1,y2,y3,y4,y5,y6,y7,y8,y9,q9,ra,rb,rf,rh,ri,rj⟩:=kS r1;have z0:=r0.1;have z1:=r1.1;clear C sm R aW r0 r1 hF hG ZL XA hr nV X3;have HK:=HO;have jN:=HRO;obtain ⟨D0,D2⟩:=G
 rcases hk with rfl | rfl
 all_goals
  go_in
  go_wp2_with fail;rw [← hW];clear hW
  (try go_wp2_with fail)
  go_region_law (go_simp;go_at_call 130;refine (HK.out _ (ag.refl W).drew).mono ?_;rintro e w3 ⟨⟨A1,n1,c1⟩,⟨A2,n2,c2⟩,L2,hL,rfl,a3,ob⟩;have a4:ag W w3:=(ag.refl _).drew.trans a3;have q:=fO.out.aH a4;have u2:=q.cell (j:=2) rfl;have u3:=q.cell (j:=3) rfl;have g2:=q.2.2 2 (by simp [mf]);have g3:=q.2.2 3 (by simp [mf]);have qz:=q.1)
  all_goals
   have ul:=gH (bQ.out.trans a4);have VD:=gH ob;have ZF:=gH hL;clear a3 a4 ob q u2 u3 g2 g3 qz hL;by_cases h2:D2=0
   ·subst h2
    have HP:=gH (VZ hb V0 HC.out HRW.out ul.out (D:=W.heap.size) bQ.out.size VD.out ZF.out);go_wp2_with fail;refine (xx _).mono ?_;rintro e w5 ⟨rfl,rfl⟩;go_wp2
    go_end0
    rw [jN.out];exact HP.out
   ·have HP:=gH (show tM w B b F (Be D2) ((w3.setCell ⟨b,2,none⟩ (.slice A1 D0.aa.length c1)).setCell ⟨b,3,none⟩ (.slice A2 D0.tables.length c2)) from tM.no ((Kb.bl ul.out).trans (((Kb.set w3 b 2 (.slice A1 D0.aa.length c1)).trans (Kb.set _ b 3 (.slice A2 D0.tables.length c2))).mono fun g _ e=>.inl e)) (((HRW.out.aH ul.out).set 2 _ (by simp [mf])).set 3 _ (by simp [mf])) (by simp [mf]) (by rw [jN.out]) h2)
    go_wp2_with fail;refine (xA D2 h2 _).mono ?_;rintro e w5 ⟨he,rfl⟩;unfold Be at he;subst he
    dsimp only
    exact ⟨rfl,HP.out⟩
theorem zT (p q:Nat) (k:Int) (v0 v1 v2 v3 v4 v5 v6 x:Value) (w:World) (rp:au w p [v0,v1,v2,v3,v4,v5,v6]) (rq:au w q [x]) (OX:p≠q) :
  CallsD Tryz.prog 65 #[.pointer (some ⟨p,0,none⟩),.pointer (some ⟨q,0,none⟩)] (.panicking [{ v:=.iface 103 (.agg #[.int .i64 k]),recovered:=false }]) w fun e u' w' =>
   e=.returned (.tuple #[])∧u'=.panicking [{ v:=.iface 103 (.agg #[.int .i64 k]),recovered:=true }]∧Kb (fun g=>g=p∨g=q) w w'∧au w' p [.int .i64 0,.int .i64 0,.slice none 0 0,.slice none 0 0,.slice none 0 0,.slice none 0 0,.slice none 0 0]∧au w' q [.int .i64 k]:=by
 have hqp:q≠p:=fun e=>OX e.symm
 refine callsD_of_wpS Tryz.func65 rfl fun Iq cs hu=>?_
 apply wpS_seq;apply wpS_region;simp [wpOpsS,go_sem,recoverD,hu,Tryz.ntmps65,Exit.thenS];have e:(#[Value.pointer (some ⟨p,0,none⟩),Value.pointer (some ⟨q,0,none⟩)]++((Array.replicate 8 undef).setIfInBounds 1 (Value.iface 103 (Value.agg #[Value.int IntKind.i64 k]))).setIfInBounds 0 (Value.iface 103 (Value.agg #[Value.int IntKind.i64 k])))=#[Value.pointer (some ⟨p,0,none⟩),Value.pointer (some ⟨q,0,none⟩),Value.iface 103 (Value.agg #[Value.int IntKind.i64 k]),Value.iface 103 (Value.agg #[Value.int IntKind.i64 k]),undef,undef,undef,undef,undef,undef]:=rfl;rw [e];clear e;have HP:=gH rp;have HQ:=gH rq;have x0:=rp.cell (j:=0) rfl;have f0:=rp.2.2 0 (by simp);have x1:=rp.cell (j:=1) rfl;have f1:=rp.2.2 1 (by simp);have x2:=rp.cell (j:=2) rfl;have f2:=rp.2.2 2 (by simp);have x3:=rp.cell (j:=3) rfl;have f3:=rp.2.2 3 (by simp);have x4:=rp.cell (j:=4) rfl;have f4:=rp.2.2 4 (by simp);have x5:=rp.cell (j:=5) rfl;have f5:=rp.2.2 5 (by simp);have x6:=rp.cell (j:=6) rfl;have f6:=rp.2.2 6 (by simp);have xz:=rp.1;have y0:=rq.cell (j:=0) rfl;have g0:=rq.2.2 0 (by simp);have yz:=rq.1;clear rp rq
 have hta:∀ V:World,(Instr.typeAssert (Value.iface 103 (Value.agg #[Value.int IntKind.i64 k])) 20 103 false).run Tryz.prog V=.ok (.agg #[.int .i64 k]) V:=fun V=>by first | rfl | kernel_rfl
 have Tl:∀ V:World,(Instr.field 103 (Value.agg #[Value.int IntKind.i64 k]) 0).run Tryz.prog V=.ok (.int .i64 k) V:=fun V=>by first | rfl | kernel_rfl
 refine wpS_of_wp ?_;go_wp2_with fail
 go_region
 go_wp2_with fail;have k1:=pG w p (.int .i64 0) (.int .i64 0) (.slice none 0 0) (.slice none 0 0) (.slice none 0 0) (.slice none 0 0) (.slice none 0 0);have r1:=mW HP.out rfl (.int .i64 0) (.int .i64 0) (.slice none 0 0) (.slice none 0 0) (.slice none 0 0) (.slice none 0 0) (.slice none 0 0);have q1:=k1.row HQ.out hqp;obtain ⟨V,hV⟩:∃ V,V=((((((w.setCell ⟨p,0,none⟩ (.int .i64 0)).setCell ⟨p,1,none⟩ (.int .i64 0)).setCell ⟨p,2,none⟩ (.slice none 0 0)).setCell ⟨p,3,none⟩ (.slice none 0 0)).setCell ⟨p,4,none⟩ (.slice none 0 0)).setCell ⟨p,5,none⟩ (.slice none 0 0)).setCell ⟨p,6,none⟩ (.slice none 0 0):=⟨_,rfl⟩;rw [← hV] at k1 r1 q1 ⊢;refine ⟨rfl,_,rfl,.tuple #[],?_,rfl,rfl,?_,?_,?_⟩
 ·exact results_none rfl _ _ _
 ·exact ((k1.mono fun g _ e=>.inl e).trans ((Kb.set V q 0 _).mono fun g _ e=>.inr e)).trans (Kb.bl (ag.refl _).drew)
 ·exact (r1.Q8 hqp 0 _).aH (ag.refl _).drew
 ·exact (q1.set 0 _ (by simp)).aH (ag.refl _).drew
theorem xB (p q:Addr) (w:World) :
  CallsD Tryz.prog 65 #[.pointer (some p),.pointer (some q)] .returning w fun e u' w'=>e=.returned (.tuple #[])∧u'=.returning∧w'=w:=by
 refine callsD_of_wpS Tryz.func65 rfl fun Iq cs hu=>?_
 apply wpS_seq;apply wpS_region;simp [wpOpsS,go_sem,recoverD,hu,Tryz.ntmps65,Exit.thenS];have e:(#[Value.pointer (some p),Value.pointer (some q)]++((Array.replicate 8 undef).setIfInBounds 1 Value.nilIface).setIfInBounds 0 Value.nilIface)=#[Value.pointer (some p),Value.pointer (some q),Value.nilIface,Value.nilIface,undef,undef,undef,undef,undef,undef]:=rfl;rw [e];clear e;refine wpS_of_wp ?_;go_wp2_with fail
 cases Iq
 refine ⟨rfl,_,?_,.tuple #[],?_,rfl,rfl,rfl⟩
 ·simp only at hu
  subst hu;rfl
 ·exact results_none rfl _ _ _
theorem nj {fn:Func} {a u:Tmp} {t s:TypeId} (h:fn.results=#[.cell a t,.cell u s]) (tmps:Array Value) {P:Program} {w:World} {p q:Addr} {v x:Value} (ha:tmps.getD a undef=.pointer (some p)) (hu:tmps.getD u undef=.pointer (some q)) (hl:(loadVar t p).run P w=.ok v w) (hm:(loadVar s q).run P w=.ok x w) :
  (results fn tmps).run P w=.ok (.tuple #[v,x]) w:=by
 rw [Array.getD_eq_getD_getElem?] at ha hu;simp [results,h,ha,hu,asAddr,hl,hm]
theorem vO {tmps:Array Value} {R:Ending→World→Prop} {p q:Nat} {k:Int} {vs:List Value} {x:Value} {V:World} (h4:tmps.getD 4 undef=.pointer (some ⟨p,0,none⟩)) (h5:tmps.getD 5 undef=.pointer (some ⟨q,0,none⟩)) (rp:au V p vs) (hl:vs.length=7) (rq:au V q [x]) (OX:p≠q)
  (hR:∀ w',Kb (fun g=>g=p∨g=q) V w'→R (.returned (.tuple #[.agg #[.int .i64 0,.int .i64 0,.slice none 0 0,.slice none 0 0,.slice none 0 0,.slice none 0 0,.slice none 0 0],.int .i64 k])) w') :
  Leaves Tryz.prog Tryz.f49 tmps R [{ target:=Target.fn (Fn.func 65) #[.pointer (some ⟨p,0,none⟩),.pointer (some ⟨q,0,none⟩)],args:=#[] }] (.panicking [{ v:=.iface 103 (.agg #[.int .i64 k]),recovered:=false }]) V:=by
 obtain ⟨v0,v1,v2,v3,v4,v5,v6,rfl⟩:∃ v0 v1 v2 v3 v4 v5 v6,vs=[v0,v1,v2,v3,v4,v5,v6]:=by
  match vs,hl with
  | [a0,a1,a2,a3,a4,a5,a6],_=>exact ⟨a0,a1,a2,a3,a4,a5,a6,rfl⟩
 refine leaves_cons (f:=65) (args:=#[.pointer (some ⟨p,0,none⟩),.pointer (some ⟨q,0,none⟩)]) (by simp) (by simp [go_sem]) ?_;refine (zT p q k v0 v1 v2 v3 v4 v5 v6 x V rp rq OX).mono ?_;rintro e u' w'' ⟨rfl,rfl,kb,r1,r2⟩;exact ⟨_,nj rfl tmps h4 h5 (nI r1) (jz r2),hR _ kb⟩
theorem vP {tmps:Array Value} {R:Ending→World→Prop} {p q:Nat} {k:Int} {v0 v1 v2 v3 v4 v5 v6:Value} {V:World} (h4:tmps.getD 4 undef=.pointer (some ⟨p,0,none⟩)) (h5:tmps.getD 5 undef=.pointer (some ⟨q,0,none⟩)) (rp:au V p [v0,v1,v2,v3,v4,v5,v6]) (rq:au V q [.int .i64 k])
  (hR:R (.returned (.tuple #[.agg #[v0,v1,v2,v3,v4,v5,v6],.int .i64 k])) V) :
  Leaves Tryz.prog Tryz.f49 tmps R [{ target:=Target.fn (Fn.func 65) #[.pointer (some ⟨p,0,none⟩),.pointer (some ⟨q,0,none⟩)],args:=#[] }] .returning V:=by
 refine leaves_cons (f:=65) (args:=#[.pointer (some ⟨p,0,none⟩),.pointer (some ⟨q,0,none⟩)]) (by simp) (by simp [go_sem]) ?_;refine (xB ⟨p,0,none⟩ ⟨q,0,none⟩ V).mono ?_;rintro e u' w'' ⟨rfl,rfl,rfl⟩;exact ⟨_,nj rfl tmps h4 h5 (nI rp) (jz rq),hR⟩
theorem zU {o:bF} {nm ow:ByteArray} (h:qf o) (h1:Small nm.size) (h2:Small ow.size):qf (dG nm ow o).1:=by
 unfold dG
 split
 ·exact dA
 ·split
  ·exact dA
  ·split
   ·exact dA
   ·rename_i h3 h4 h5
    refine ⟨⟨?_,fun s hs=>?_⟩,h.2⟩
    ·show Small ((dv _ _ _).length*16)
     rw [fk _ _ _ (gM _ _ _)];unfold Small;omega
    ·rcases bU.1 hs with e | e
     ·rw [e];exact ⟨h1,h2⟩
     ·exact h.1.2 s e
theorem xC {o:bF} {nm:ByteArray} (h:qf o):qf (cS nm o).1:=by
 unfold cS
 split
 ·exact dA
 ·split
  ·exact dA
  ·exact ⟨⟨Nat.le_trans (Nat.mul_le_mul_right _ (List.length_eraseIdx_le _ _)) h.1.1,fun s hs=>h.1.2 s (List.mem_of_mem_eraseIdx hs)⟩,h.2⟩
theorem Gd {o:bF} {r:bF × Int} (h:bw o=true→qf r.1):qf (ju o r).1:=by
 unfold ju
 split
 ·rename_i h1;exact h h1
 ·exact dA
theorem zY {o:bF} {t:cp} (h:qf o) (ht:uB t):qf (ju o (iN t o)).1:=by
 refine Gd fun hc=>?_
 have hl:=(pK hc).2.2.2;unfold iN
 split
 ·exact dA
 ·split
  ·exact dA
  ·split
   ·exact dA
   ·split
    ·exact dA
    ·split
     ·exact dA
     ·refine ⟨h.1,?_,fun y hy=>?_⟩
      ·show Small ((dv _ _ _).length*16)
       rw [fk _ _ _ (gM _ _ _)];unfold Small;omega
      ·rcases bU.1 hy with e | e
       ·rw [e];exact ht
       ·exact h.2.2 y e
theorem xD {o:bF} {s n:ByteArray} (h:qf o):qf (gI s n o).1:=by
 unfold gI
 split
 ·exact dA
 ·split
  ·exact dA
  ·exact ⟨h.1,Nat.le_trans (Nat.mul_le_mul_right _ (List.length_eraseIdx_le _ _)) h.2.1,fun s hs=>h.2.2 s (List.mem_of_mem_eraseIdx hs)⟩
theorem Df {t:cp} {v:ByteArray} (h:uB t) (hv:Small v.size):uB { t with owner:=v }:=⟨h.1,h.2.1,h.2.2.1,h.2.2.2.1,hv⟩
theorem lq {o:bF} {s n:ByteArray} {f:cp→cp × Int} (h:qf o) (hf:∀ t∈o.tables,(f t).2=0→uB (f t).1):qf (gu o s n f).1:=by
 unfold gu
 split
 ·rename_i t ht
  split
  ·exact dA
  ·split
   ·rename_i hz;exact Ml h (hf t (List.mem_of_getElem? ht) hz)
   ·exact dA
 ·exact dA
theorem z8 {o:bF} {s n v:ByteArray} (h:qf o) (hv:Small v.size):qf (ko o s n v).1:=by
 unfold ko
 split
 ·split
  ·exact lq h fun t ht _=>Df (h.2.2 t ht) hv
  ·exact dA
 ·exact dA
theorem Ge {t:cp} {c:eB} (h:uB t) (hc:Small c.name.size) (hz:(jw c t).2=0):uB (jw c t).1:=by
 unfold jw at hz ⊢
 split
 ·exact h
 ·split
  ·exact h
  ·split
   ·exact h
   ·rename_i h8
    refine ⟨⟨?_,fun x hx=>?_⟩,h.2.1,h.2.2.1,h.2.2.2.1,h.2.2.2.2⟩
    ·show Small ((t.av++[c]).length*16)
     simp [Small];omega
    ·rcases List.mem_append.1 hx with e | e
     ·exact h.1.2 x e
     ·rw [List.mem_singleton] at e;rw [e];exact hc
theorem Dg {t:cp} {s:ByteArray} (h:uB t):uB (i7 s t).1:=by
 unfold i7
 split
 ·exact h
 ·split
  ·exact h
  ·exact ⟨⟨Nat.le_trans (Nat.mul_le_mul_right _ (List.length_eraseIdx_le _ _)) h.1.1,fun c hc=>h.1.2 c (List.mem_of_mem_eraseIdx hc)⟩,h.2.1,h.2.2.1,h.2.2.2.1,h.2.2.2.2⟩
theorem tN {t:cp} {l:List fF} (h:uB t) (h1:Small (l.length*16)) (h2:∀ r∈l,Q9 r):uB { t with rules:=l }:=⟨h.1,⟨h1,h2⟩,h.2.2.1,h.2.2.2.1,h.2.2.2.2⟩
theorem Aa {ts:List cp} {r:fF} {t:cp} (h:uB t) (hr:Q9 r) (hz:(jv ts r t).2=0):uB (jv ts r t).1:=by
 unfold jv at hz ⊢
 split
 ·exact h
 ·split
  ·exact h
  ·split
   ·exact h
   ·rename_i h8
    split
    ·exact h
    ·refine tN h ?_ fun y hy=>?_
     ·show Small ((dv _ _ _).length*16)
      rw [fk _ _ _ (gM _ _ _)];unfold Small;omega
     ·rcases bU.1 hy with e | e
      ·rw [e];exact hr
      ·exact h.2.1.2 y e
theorem xE {ts:List cp} {s n name:ByteArray} {t:cp} (h:uB t):uB (i5 ts s n name t).1:=by
 unfold i5
 split
 ·exact h
 ·split
  ·exact h
  ·exact tN h (Nat.le_trans (Nat.mul_le_mul_right _ (List.length_eraseIdx_le _ _)) h.2.1.1) fun y hy=>h.2.1.2 y (List.mem_of_mem_eraseIdx hy)
theorem Dh:mY QJ:=⟨⟨by unfold Small;decide,fun x hx=>by simp [QJ] at hx⟩,by unfold Small;decide,fun x hx=>by simp [QJ] at hx⟩
theorem sk {r:fV} {f:fV × Int} (h:bG r=true→f.2=0→mY f.1):mY (na r f).1:=by
 unfold na
 split
 ·split
  ·next h1 h2=>exact h h1 h2
  ·exact Dh
 ·exact Dh
theorem MJ {r:fV} {name:ByteArray} (h:mY r) (hs:Small name.size):mY (na r (Jq name r)).1:=sk fun hr hz=>by
 have hp:=dp.1 hr;unfold Jq at hz ⊢
 split at hz
 ·split at hz
  ·exact absurd hz (by simp)
  ·split at hz
   ·exact absurd hz (by simp)
   ·rename_i h1 h2 h3
    rw [if_pos h1,if_neg h2,if_neg h3];refine ⟨⟨?_,fun x hx=>?_⟩,h.2⟩
    ·show Small ((dv _ _ _).length*16)
     rw [fk _ _ _ (gM _ _ _)];unfold Small;omega
    ·rcases bU.1 hx with e | e
     ·rw [e];exact hs
     ·exact h.1.2 x e
 ·exact absurd hz (by simp)
theorem JL {r:fV} {name:ByteArray} (h:mY r):mY (na r (zn name r)).1:=sk fun hr hz=>by
 unfold zn at hz ⊢
 split at hz
 ·split at hz
  ·exact absurd hz (by simp)
  ·rename_i h1 h2
   rw [if_pos h1,if_neg h2];exact ⟨⟨Nat.le_trans (Nat.mul_le_mul_right _ (List.length_eraseIdx_le _ _)) h.1.1,fun x hx=>h.1.2 x (List.mem_of_mem_eraseIdx hx)⟩,h.2⟩
 ·exact absurd hz (by simp)
theorem JM {r:fV} {x:dP} (h:mY r) (h1:Small x.role.size) (h2:Small x.of.size):mY (na r (zo x r)).1:=sk fun hr hz=>by
 have hp:=dp.1 hr;unfold zo at hz ⊢
 split at hz
 ·split at hz
  ·exact absurd hz (by simp)
  ·split at hz
   ·exact absurd hz (by simp)
   ·rename_i yD h2' MK
    rw [if_pos yD,if_neg h2',if_neg MK];refine ⟨h.1,?_,fun y hy=>?_⟩
    ·show Small ((dv _ _ _).length*16)
     rw [fk _ _ _ (gM _ _ _)];unfold Small;omega
    ·rcases bU.1 hy with e | e
     ·rw [e];exact ⟨h1,h2⟩
     ·exact h.2.2 y e
 ·exact absurd hz (by simp)
theorem Gf {r:fV} {x:dP} (h:mY r):mY (na r (tC x r)).1:=sk fun hr hz=>by
 unfold tC at hz ⊢
 split at hz
 ·rename_i h1
  rw [if_pos h1];exact ⟨h.1,Nat.le_trans (Nat.mul_le_mul_right _ (List.length_eraseIdx_le _ _)) h.2.1,fun x hx=>h.2.2 x (List.mem_of_mem_eraseIdx hx)⟩
 ·exact absurd hz (by simp)
theorem MM:FK sN:=⟨⟨⟨by unfold Small;decide,fun x hx=>by simp [sN] at hx⟩,by unfold Small;decide,fun x hx=>by simp [sN] at hx⟩,⟨⟨by unfold Small;decide,fun x hx=>by simp [sN] at hx⟩,by unfold Small;decide,fun x hx=>by simp [sN] at hx⟩,by unfold Small;decide,fun x hx=>by simp [sN] at hx⟩
theorem xF (l:List cF) (g:cF):(laid l g).length≤l.length+1:=by
 cases h:je l g
 ·rw [lg h,fk _ _ _ (gM _ _ _)];omega
 ·rw [lh h];simp
theorem JN {l:List cF} {g:cF} (h:∀ x∈l,uw x) (hg:uw g):∀ x∈laid l g,uw x:=fun x hx=>by
 cases hi:je l g
 ·rw [lg hi] at hx
  rcases bU.1 hx with e | e
  ·subst e;exact hg
  ·exact h x e
 ·rw [lh hi] at hx
  obtain ⟨y,hy,rfl⟩:=List.mem_map.1 hx;unfold oF
  split
  ·exact h y hy
  ·exact h y hy
theorem Gg {c:bX} {g:cF} (h:(oh c g).2≠0):(oh c g).1=sN:=by
 unfold oh at h ⊢
 split
 ·rfl
 ·next h1 =>
  rw [if_neg h1] at h
  split
  ·rfl
  ·next h2 =>
   rw [if_neg h2] at h
   split
   ·rfl
   ·next h3 =>
    rw [if_neg h3] at h
    split
    ·rfl
    ·next h4 =>
     rw [if_neg h4] at h
     split
     ·rfl
     ·next h5=>rw [if_neg h5] at h;exact absurd rfl h
theorem Gh {c:bX} {g:cF} (h:FK c) (hg:uw g):FK (oh c g).1:=by
 by_cases he:(oh c g).2=0
 ·have k:=wU he
  rw [k.is];have h64:=(bL.1 (eP.1 k.whole).1).1;exact ⟨h.1,h.2.1,by have:=xF c.af g;unfold Small;show (laid c.af g).length*16≤_;omega,JN h.2.2.2 hg⟩
 ·rw [Gg he];exact MM
structure V8 (x:gV):Prop where
 av:Small (x.av.length*16)∧∀ c∈x.av,Small c.name.size
 names:Small (x.rule.av.length*16)∧∀ c∈x.rule.av,Small c.size
 s1:Small x.aP.size
 s2:Small x.ac.size
 s3:Small x.table.size
 s4:Small x.name.size
 s5:Small x.role.size
 t1:Small x.rule.name.size
 t2:Small x.rule.ac.size
 t3:Small x.rule.table.size
 t4:Small x.rule.key.size
 r:(Lit.int .i64 x.right).wf=true
theorem ou.sm {w:World} {x:gV} {A6:Option Addr} {c6:Nat} {A9:Option Addr} {c9:Nat} (h:ou w x A6 c6 A9 c9):V8 x:=⟨EL h.av,fS h.names,h.s1,h.s2,h.s3,h.s4,h.s5,h.t1,h.t2,h.t3,h.t4,h.r⟩
theorem MN {x:gV} (s:V8 x):Q9 x.rule:=⟨s.names.1,s.names.2,s.t1,s.t2,s.t3,s.t4⟩
theorem JO {c:bX} {x:gV} (h:qf c.ah) (s:V8 x) (h5:x.kind=5→0 < x.av.length):qf (dS c x).1:=by
 unfold dS
 split
 ·exact lM (zU h s.s2 s.s1)
 split
 ·exact lM (xC h)
 split
 ·exact zY h ⟨s.av,⟨by show Small (0*16);unfold Small;decide,fun r hr=>by simp at hr⟩,s.s2,s.s3,s.s1⟩
 split
 ·exact lM (xD h)
 split
 ·rename_i k5
  refine lM (lq h fun t ht hz=>Ge (h.2.2 t ht) ?_ hz);have h1:=h5 k5;unfold Cl
  cases hc:x.av with
  | nil=>rw [hc] at h1;simp at h1
  | cons a l=>exact s.av.2 a (by rw [hc];simp)
 split
 ·exact lM (lq h fun t ht hz=>Dg (h.2.2 t ht))
 split
 ·exact lM (lq h fun t ht hz=>Aa (h.2.2 t ht) (MN s) hz)
 split
 ·exact lM (lq h fun t ht hz=>xE (h.2.2 t ht))
 split
 ·exact z8 h s.s5
 ·exact dA
theorem JP {c:bX} {x:gV} (h:mY c.ai) (s:V8 x):mY (jn c x).1:=by
 unfold jn
 split
 ·exact MJ h s.s5
 split
 ·split
  ·exact Dh
  ·exact JL h
 split
 ·exact JM h s.s5 s.s4
 ·exact Gf h
theorem EM {l:List cF} (p:cF→Bool) (h:Small (l.length*16)∧∀ g∈l,uw g):Small ((l.filter p).length*16)∧∀ g∈l.filter p,uw g :=
 ⟨by have:=h.1;have:=List.length_filter_le p l;unfold Small at *;omega,fun g hg=>h.2 g ((List.mem_filter.1 hg).1)⟩
theorem MO {c:bX} {x:gV} (h:FK c) (s:V8 x) (h5:x.kind=5→0 < x.av.length):FK (dB c x).1:=by
 by_cases k9:x.kind≤9
 ·rw [nh k9]
  refine ⟨JO h.1 s h5,h.2.1,?_⟩
  show Small ((if x.kind=4 then zq c.af x.ac x.table else c.af).length*16)∧∀ g∈(if x.kind=4 then zq c.af x.ac x.table else c.af),uw g
  split
  ·exact EM _ h.2.2
  ·exact h.2.2
 by_cases Ty:x.kind≤13
 ·rw [tD (by omega) Ty];exact ⟨h.1,JP h.2.1 s,h.2.2⟩
 by_cases VN:x.kind=14
 ·rw [qs VN];exact Gh h ⟨s.s2,s.s3,s.s1,s.s5,s.r⟩
 ·rw [tE (by omega)];exact ⟨h.1,h.2.1,EM _ h.2.2⟩
end Go.Proofs.YtakddkhipelmjaaGreat
