import Derived.Test.YtmflccbnoeaafaaGreatPartC26
namespace Go.Proofs.YtmflccbnoeaafaaGreat
open Go.RowKit
set_option maxRecDepth 100000
set_option linter.unusedVariables false
set_option maxHeartbeats 64000000
theorem CE {c:bW} (h:dH c=true):cH c=c.af:=by
 obtain ⟨h1,h2⟩:=cZ.1 h;unfold cH;rw [if_pos h1]
 exact List.filter_eq_self.2 fun g hg=>iU.2 (h2 g hg)
end Go.Proofs.YtmflccbnoeaafaaGreat
namespace Go.Proofs.YtmflccbnoeaafaaGreat
open Go.RowKit Go.Deep
set_option maxRecDepth 100000
set_option linter.unusedVariables false
set_option maxHeartbeats 64000000
theorem Un (c:bW) (As:Option Addr) (ar:Nat) (At:Option Addr) (ax:Nat) (An:Option Addr) (aI:Nat) (Am:Option Addr) (aK:Nat) (Ag:Option Addr) (aS:Nat) (role s n:ByteArray) (rt:Int) (lp:Small role.size) (w:World) (H:eH w c As ar At ax An aI Am aK Ag aS) :
  Calls Tryz.prog 13 #[.agg #[.int .i64 c.aA,.int .i64 c.version,.slice As c.ai.ae.length ar,.slice At c.ai.tables.length ax,.slice An c.aj.names.length aI,.slice Am c.aj.members.length aK,.slice Ag c.af.length aS],.string role,.string s,.string n,.int .i64 rt] w fun e w'=>e=.returned (.bool (pM c role s n rt))∧ag w w':=by
 obtain ⟨W,hW⟩:∃ W,W=w.alloc (.cells #[.int .i64 c.aA,.int .i64 c.version,.slice As c.ai.ae.length ar,.slice At c.ai.tables.length ax,.slice An c.aj.names.length aI,.slice Am c.aj.members.length aK,.slice Ag c.af.length aS] 32):=⟨_,rfl⟩
 have aW:ag w W:=by rw [hW];exact (ag.refl w).alloc _
 have r0:ap W (w.heap.size) [.int .i64 c.aA,.int .i64 c.version,.slice As c.ai.ae.length ar,.slice At c.ai.tables.length ax,.slice An c.aj.names.length aI,.slice Am c.aj.members.length aK,.slice Ag c.af.length aS]:=by rw [hW];exact bv (ag.refl _) (by simp)
 obtain ⟨tb,uY⟩:∃ b,decide (0≤bj c.ai.tables s n)=b:=⟨_,rfl⟩;obtain ⟨wb,Lb⟩:∃ b,dH c=b:=⟨_,rfl⟩;obtain ⟨cb,hcb⟩:∃ b,dQ c.aj.names role=b:=⟨_,rfl⟩;obtain ⟨T,hT⟩:∃ T,iK c.ai s n=T:=⟨_,rfl⟩;obtain ⟨bb,ol⟩:∃ b,jA c.ai (cT c.aj role) T=b:=⟨_,rfl⟩;obtain ⟨kb,hkb⟩:∃ b,lh rt=b:=⟨_,rfl⟩;obtain ⟨gb,hgb⟩:∃ b,fC c.af (cT c.aj role) s n rt false=b:=⟨_,rfl⟩;have CK:=gH (show ∀ V,Calls Tryz.prog 33 #[.int .i64 rt] V fun e w''=>e=.returned (.bool kb)∧V=w'' from fun V=>hkb▸He rt V);have ej:=gH (show pM c role s n rt=(wb&&(tb&&cb)&&kb&&(bb || gb)) by unfold pM;rw [uY,Lb,hcb,hT,ol,hkb,hgb])
 have CT:=gH (show Calls Tryz.prog 31 #[.agg #[.int .i64 c.aA,.int .i64 c.version,.slice As c.ai.ae.length ar,.slice At c.ai.tables.length ax,.slice An c.aj.names.length aI,.slice Am c.aj.members.length aK,.slice Ag c.af.length aS],.string s,.string n] W fun e w''=>∃ (A2:Option Addr) (c2:Nat) (A3:Option Addr) (c3:Nat),e=.returned (.tuple #[.agg #[.string T.aa,.string T.name,.string T.owner,.slice A2 T.ak.length c2,.slice A3 T.rules.length c3],.bool tb])∧ag W w'' from by
  have:=sX c As ar At ax An aI Am aK Ag aS s n W (aQ aW H.tab);unfold Hf at this;rw [hT,uY] at this
  exact this)
 have CA:=gH (show ∀ V,ag W V→Calls Tryz.prog 32 #[.agg #[.slice An c.aj.names.length aI,.slice Am c.aj.members.length aK],.string role] V (yD c.aj role V) from fun V a=>Ho c.aj An aI Am aK role V (aM (aW.trans a) H.fK) (bJ (aW.trans a) H.mem) lp);have CW:=gH (show ∀ V,ag W V→Calls Tryz.prog 34 #[.agg #[.int .i64 c.aA,.int .i64 c.version,.slice As c.ai.ae.length ar,.slice At c.ai.tables.length ax,.slice An c.aj.names.length aI,.slice Am c.aj.members.length aK,.slice Ag c.af.length aS]] V fun e w''=>e=.returned (.bool wb)∧ag V w'' from fun V a=>(wJ c As ar At ax An aI Am aK Ag aS V (H.az (aW.trans a))).mono fun e w'' ⟨he,hw⟩=>⟨he.trans (by rw [Lb]),hw⟩);have CN:=gH (show ∀ V,ag W V→Calls Tryz.prog 18 #[.slice An c.aj.names.length aI,.string role] V fun e w''=>e=.returned (.bool cb)∧V=w'' from fun V a=>hcb▸fY An aI c.aj.names role V (aM (aW.trans a) H.fK))
 have SK:=gH (show wb=true→tb=true→T.aa=s∧T.name=n∧0≤cE c.ai.ae s from fun h1 h2=>by
  rw [← hT]
  exact mS (cZ.1 (Lb.trans h1)).1 (of_decide_eq_true (uY.trans h2)))
 have HH:=gH H;have br:=gH aW;have je:=gH r0;have yG:=gH ol;have Xg:=gH hgb;obtain ⟨x0,x1,x2,x3,x4,x5,x6,xz⟩:=dM r0;clear uY Lb hcb hT ol H aW r0 hkb hgb
 go_enter Tryz.func13,Tryz.ntmps13
 go_wp2_with fail;rw [← hW];clear hW;refine CT.out.mono ?_;rintro e w1 ⟨A2,c2,A3,c3,rfl,a1⟩;obtain ⟨Y,hY⟩:∃ V,V=w1.alloc (.cells #[.string T.aa,.string T.name,.string T.owner,.slice A2 T.ak.length c2,.slice A3 T.rules.length c3] 53):=⟨_,rfl⟩
 have aY:ag w1 Y:=by rw [hY];exact (ag.refl w1).alloc _
 have RY:=gH (show ap Y w1.heap.size [.string T.aa,.string T.name,.string T.owner,.slice A2 T.ak.length c2,.slice A3 T.rules.length c3] by rw [hY];exact aO (ag.refl _));have AY:=gH (a1.trans aY);have p1:=je.out.az a1;clear x0 x1 x2 x3 x4 x5 x6 xz CT;have x4:=p1.cell (j:=4) rfl;have x5:=p1.cell (j:=5) rfl;have xz:=p1.1;clear a1 aY p1;go_wp2_with fail;rw [← hY];clear hY;refine (CA.out Y AY.out).mono ?_;rintro e w2 ⟨h,rfl,a2,ho⟩;have Dy:=gH (AY.out.trans a2);have SL:=gH (RY.out.az a2);have HO:=gH ho;have eT:=bL ho;rw [eT];have p1:=je.out.az Dy.out;clear x4 x5 xz a2 ho eT CA;obtain ⟨x0,x1,x2,x3,x4,x5,x6,xz⟩:=dM p1;clear p1
 cases tb
 case false =>
  go_wp2_with fail;go_ret;exact ⟨by rw [ej.out];cases wb<;>rfl,br.out.trans Dy.out⟩
 go_wp2_with fail;refine (CK.out w2).mono ?_;rintro e w9 ⟨rfl,rfl⟩
 cases kb
 case false =>
  go_wp2_with fail;go_ret;exact ⟨by rw [ej.out];cases wb<;>cases cb<;>rfl,br.out.trans Dy.out⟩
 go_wp2_with fail;refine (CW.out w2 Dy.out).mono ?_;rintro e w3 ⟨rfl,a3⟩;have yH:=gH (Dy.out.trans a3);have Q7:=gH (SL.out.az a3);have Wx:=gH (bu HO.out a3);have p1:=je.out.az yH.out;clear x0 x1 x2 x3 x4 x5 x6 xz a3 HO SL;obtain ⟨x0,x1,x2,x3,x4,x5,x6,xz⟩:=dM p1;clear p1
 cases wb
 case false =>
  go_wp2_with fail;go_ret;exact ⟨by rw [ej.out];rfl,br.out.trans yH.out⟩
 go_wp2_with fail;refine (CN.out w3 yH.out).mono ?_;rintro e w9 ⟨rfl,rfl⟩
 cases cb
 case false =>
  go_wp2_with fail;go_ret;exact ⟨by rw [ej.out];rfl,br.out.trans yH.out⟩
 obtain ⟨ts,tn,hsc⟩:=SK.out (by first | trivial | rfl) (by first | trivial | rfl);have sn:=gT (aM (br.out.trans yH.out) HH.out.fK);have SM:=mR c.aj role;have sl:=en (R:=dK) bY Wx.out (fun x hx=>⟨rfl,rfl,sn.2 x (mQ hx)⟩) (by have:=sn.1;unfold Small at *;omega)
 have CB:=gH (show Calls Tryz.prog 35 #[.agg #[.int .i64 c.aA,.int .i64 c.version,.slice As c.ai.ae.length ar,.slice At c.ai.tables.length ax,.slice An c.aj.names.length aI,.slice Am c.aj.members.length aK,.slice Ag c.af.length aS],.slice h.a (cT c.aj role).length h.c,.agg #[.string T.aa,.string T.name,.string T.owner,.slice A2 T.ak.length c2,.slice A3 T.rules.length c3]] w3 fun e w''=>e=.returned (.bool bb)∧ag w3 w'' from
  yG.out▸Du c As ar At ax An aI Am aK Ag aS (cT c.aj role) h.a h.c T.aa T.name T.owner A2 _ c2 A3 _ c3 T ⟨rfl,rfl⟩ w3 (HH.out.az (br.out.trans yH.out)) sl (by rw [ts];exact hsc))
 obtain ⟨v0,v1,v2,v3,v4,vz⟩:=rv Q7.out;have Gn:=gH sl;have ZP:=gH (And.intro ts tn);clear ts tn hsc sn SM sl;go_wp2_with fail;refine CB.out.mono ?_;rintro e w4 ⟨rfl,a4⟩;have A4:=gH (yH.out.trans a4);have p1:=je.out.az A4.out;have TJ:=Q7.out.az a4;clear x0 x1 x2 x3 x4 x5 x6 xz v0 v1 v2 v3 v4 vz;have x6:=p1.cell (j:=6) rfl;have xz:=p1.1;obtain ⟨v0,v1,v2,v3,v4,vz⟩:=rv TJ;have ZQ:=aM a4 Gn.out
 have CG:=gH (show Calls Tryz.prog 36 #[.slice Ag c.af.length aS,.slice h.a (cT c.aj role).length h.c,.agg #[.string T.aa,.string T.name,.string T.owner,.slice A2 T.ak.length c2,.slice A3 T.rules.length c3],.int .i64 rt,.bool false] w4 fun e w''=>e=.returned (.bool gb)∧ag w4 w'' from
  Xg.out▸(Bc c.af Ag aS (cT c.aj role) h.a h.c T.aa T.name T.owner A2 _ c2 A3 _ c3 rt false w4 (eZ (br.out.trans A4.out) HH.out.kv) ZQ).mono fun e w'' ⟨he,hw⟩=>⟨he.trans (by rw [ZP.out.1,ZP.out.2]),hw⟩)
 clear p1 TJ ZQ a4
 cases bb
 case true =>
  go_wp2_with fail;go_ret;exact ⟨by rw [ej.out];rfl,br.out.trans A4.out⟩
 go_wp2_with fail;refine CG.out.mono ?_;rintro e w5 ⟨rfl,a5⟩;have A5:=gH (A4.out.trans a5);clear a5;go_wp2_with fail;go_ret;exact ⟨by rw [ej.out];rfl,br.out.trans A5.out⟩
end Go.Proofs.YtmflccbnoeaafaaGreat
namespace Go.Proofs.YtmflccbnoeaafaaGreat
open Go.RowKit
set_option maxRecDepth 100000
set_option linter.unusedVariables false
set_option maxHeartbeats 64000000
section
variable {c d : bW}
end
theorem Done.leaves {c:bW} {x:eW} (h:Done c x) (hf:cD x=false) {role s n:ByteArray} {r:Int} (hm:pM c role s n r=true):pM (ki (bZ c x).1 (cD x)) role s n r=true:=by
 obtain ⟨_,_,hw⟩:=ic.1 h.begun.right;have hs:=(cZ.1 hw).1;have hk:=tL h.begun.may;have hd:=rM hs h.begun.who hk.1 h.done;unfold cD pO at hf;simp only [Bool.or_eq_false_iff,beq_eq_false_iff_ne] at hf;obtain ⟨⟨⟨⟨⟨⟨⟨f2,f4⟩,f6⟩,f9⟩,f11⟩,f13⟩,f15⟩,_⟩:=hf;have hz:=h.done;by_cases k9:x.kind≤9
 ·refine pY.may ?_ hw hd _ hm
  rw [kj k9] at hz ⊢;have D:=IM (bO.1 hs).2.1.1 hk.1 k9 hz;refine ⟨fun _ h=>h,fun _ h=>h,fun t ht=>?_,D.Tw f2,fun g hg=>?_⟩
  ·obtain ⟨u,hu,e1,e2,e3⟩:=D.keep t ht (fun h=>f4 h.1)
   exact ⟨u,hu,e1,e2,e3 f9⟩
  ·show g∈if x.kind=4 then ml c.af x.aa x.table else c.af
   rw [if_neg f4];exact hg
 by_cases LI:x.kind≤13
 ·refine pY.may ?_ hw hd _ hm
  rw [pX (by omega) LI] at hz ⊢;have D:=IP (bO.1 hs).2.1.2.1 (by omega) LI hz;exact ⟨D.fK f11,D.mem f13,fun t ht=>⟨t,ht,rfl,rfl,rfl⟩,fun _ h=>h,fun _ h=>h⟩
 ·have O7:x.kind=14:=by omega
  rw [nK O7] at hz ⊢;have G:=sr hz;have h1:=G.more hm;have hh:=CE G.s9;unfold pM at h1 ⊢;rw [oZ (cZ.1 G.s9).1];rw [G.s9] at h1
  show (true&&(decide (0≤bj (dX c ⟨x.aa,x.table,x.right,x.aJ,x.role,x.opt⟩).1.ai.tables s n)&&dQ (dX c ⟨x.aa,x.table,x.right,x.aJ,x.role,x.opt⟩).1.aj.names role)&&lh r&&(jA (dX c ⟨x.aa,x.table,x.right,x.aJ,x.role,x.opt⟩).1.ai (cT (dX c ⟨x.aa,x.table,x.right,x.aJ,x.role,x.opt⟩).1.aj role) (iK (dX c ⟨x.aa,x.table,x.right,x.aJ,x.role,x.opt⟩).1.ai s n) || fC (cH (dX c ⟨x.aa,x.table,x.right,x.aJ,x.role,x.opt⟩).1) (cT (dX c ⟨x.aa,x.table,x.right,x.aJ,x.role,x.opt⟩).1.aj role) s n r false))=true
  rw [hh];exact h1
end Go.Proofs.YtmflccbnoeaafaaGreat
namespace Go.Proofs.YtmflccbnoeaafaaGreat
open Go.RowKit Go.Deep
set_option maxRecDepth 100000
set_option linter.unusedVariables false
set_option maxHeartbeats 64000000
theorem wl (c:bW) (As:Option Addr) (ar:Nat) (At:Option Addr) (ax:Nat) (An:Option Addr) (aI:Nat) (Am:Option Addr) (aK:Nat) (Ag:Option Addr) (aS:Nat) (x:eW) (A6:Option Addr) (c6:Nat) (A9:Option Addr) (c9:Nat) (role s n:ByteArray) (rt:Int) (w:World) (H:eH w c As ar At ax An aI Am aK Ag aS) (XA:kM w x A6 c6 A9 c9) (lp:Small role.size) :
  Calls Tryz.prog 4 #[.agg #[.int .i64 c.aA,.int .i64 c.version,.slice As c.ai.ae.length ar,.slice At c.ai.tables.length ax,.slice An c.aj.names.length aI,.slice Am c.aj.members.length aK,.slice Ag c.af.length aS],.agg #[.int .i64 x.kind,.string x.aJ,.string x.aa,.string x.table,.string x.name,.string x.role,.slice A6 x.ak.length c6,.string x.rule.name,.int .i64 x.rule.kind,.slice A9 x.rule.ak.length c9,.int .i64 x.rule.low,.int .i64 x.rule.high,.string x.rule.aa,.string x.rule.table,.string x.rule.key,.int .i64 x.right,.bool x.opt],.string role,.string s,.string n,.int .i64 rt] w fun e w'=>e=.returned (.bool true)∧ag w w':=by
 obtain ⟨mc,X4⟩:∃ b,pM c role s n rt=b:=⟨_,rfl⟩;have CM0:=gH (show ∀ V,ag w V→Calls Tryz.prog 13 #[.agg #[.int .i64 c.aA,.int .i64 c.version,.slice As c.ai.ae.length ar,.slice At c.ai.tables.length ax,.slice An c.aj.names.length aI,.slice Am c.aj.members.length aK,.slice Ag c.af.length aS],.string role,.string s,.string n,.int .i64 rt] V fun e w'=>e=.returned (.bool mc)∧ag V w' from fun V a=>X4▸Un c As ar At ax An aI Am aK Ag aS role s n rt lp V (H.az a));have HMC:=gH X4;clear X4
 have l1:w.heap.size < w.heap.size+1:=by omega
 have l2:w.heap.size < w.heap.size+1+1:=by omega
 obtain ⟨W,hW⟩:∃ W,W=(w.alloc (.cells #[.int .i64 c.aA,.int .i64 c.version,.slice As c.ai.ae.length ar,.slice At c.ai.tables.length ax,.slice An c.aj.names.length aI,.slice Am c.aj.members.length aK,.slice Ag c.af.length aS] 32)).alloc (.cells #[.int .i64 x.kind,.string x.aJ,.string x.aa,.string x.table,.string x.name,.string x.role,.slice A6 x.ak.length c6,.string x.rule.name,.int .i64 x.rule.kind,.slice A9 x.rule.ak.length c9,.int .i64 x.rule.low,.int .i64 x.rule.high,.string x.rule.aa,.string x.rule.table,.string x.rule.key,.int .i64 x.right,.bool x.opt] 40):=⟨_,rfl⟩
 have aW:ag w W:=by rw [hW];exact ((ag.refl w).alloc _).alloc _
 have r0:ap W (w.heap.size) [.int .i64 c.aA,.int .i64 c.version,.slice As c.ai.ae.length ar,.slice At c.ai.tables.length ax,.slice An c.aj.names.length aI,.slice Am c.aj.members.length aK,.slice Ag c.af.length aS]:=by rw [hW];exact ap.up (bv (ag.refl _) (by simp))
 have r1:ap W (w.heap.size+1) [.int .i64 x.kind,.string x.aJ,.string x.aa,.string x.table,.string x.name,.string x.role,.slice A6 x.ak.length c6,.string x.rule.name,.int .i64 x.rule.kind,.slice A9 x.rule.ak.length c9,.int .i64 x.rule.low,.int .i64 x.rule.high,.string x.rule.aa,.string x.rule.table,.string x.rule.key,.int .i64 x.right,.bool x.opt]:=by rw [hW];exact bv (ag.refl _) (by simp)
 have HR:=gH (And.intro r0 r1);have br:=gH aW;have HH:=gH H;have HX:=gH XA;have nU:=gH H.sm;obtain ⟨bb,ol⟩:∃ b,(decide (1000 < x.ak.length) || decide (1000 < x.rule.ak.length))=b:=⟨_,rfl⟩;have VD:=XA.ak.len;have X5:=XA.names.len;have CB:=gH (show ∀ V,Calls Tryz.prog 6 #[.agg #[.int .i64 x.kind,.string x.aJ,.string x.aa,.string x.table,.string x.name,.string x.role,.slice A6 x.ak.length c6,.string x.rule.name,.int .i64 x.rule.kind,.slice A9 x.rule.ak.length c9,.int .i64 x.rule.low,.int .i64 x.rule.high,.string x.rule.aa,.string x.rule.table,.string x.rule.key,.int .i64 x.right,.bool x.opt]] V fun e w'=>e=.returned (.bool bb)∧ag V w' from fun V=>ol▸D9 x.kind x.aJ x.aa x.table x.name x.role A6 x.ak.length c6 x.rule.name x.rule.kind A9 x.rule.ak.length c9 x.rule.low x.rule.high x.rule.aa x.rule.table x.rule.key x.right x.opt V (by omega) (by omega));obtain ⟨fe,Cy⟩:∃ b,cD x=b:=⟨_,rfl⟩
 have CF:=gH (show fF x=true→∀ V,Calls Tryz.prog 10 #[.agg #[.int .i64 x.kind,.string x.aJ,.string x.aa,.string x.table,.string x.name,.string x.role,.slice A6 x.ak.length c6,.string x.rule.name,.int .i64 x.rule.kind,.slice A9 x.rule.ak.length c9,.int .i64 x.rule.low,.int .i64 x.rule.high,.string x.rule.aa,.string x.rule.table,.string x.rule.key,.int .i64 x.right,.bool x.opt]] V fun e w'=>e=.returned (.bool fe)∧ag V w' from fun hm V=>by
  have h1:=kI x.kind x.aJ x.aa x.table x.name x.role A6 x.ak.length c6 x.rule.name x.rule.kind A9 x.rule.ak.length c9 x.rule.low x.rule.high x.rule.aa x.rule.table x.rule.key x.right x.opt V true (gH (fun V=>hm▸nG x.kind x.aJ x.aa x.table x.name x.role A6 x.ak.length c6 x.rule.name x.rule.kind A9 x.rule.ak.length c9 x.rule.low x.rule.high x.rule.aa x.rule.table x.rule.key x.right x.opt V XA.s1.max XA.s2.max XA.s3.max XA.s4.max XA.s5.max XA.t1 XA.t2 XA.t3 XA.t4));rw [Bool.true_and] at h1
  exact Cy▸h1)
 obtain ⟨⟨y,ke⟩,hap⟩:∃ F,cV c x=F:=⟨_,rfl⟩;have CA:=gH (show ∀ V,ag W V→Calls Tryz.prog 7 #[.agg #[.int .i64 c.aA,.int .i64 c.version,.slice As c.ai.ae.length ar,.slice At c.ai.tables.length ax,.slice An c.aj.names.length aI,.slice Am c.aj.members.length aK,.slice Ag c.af.length aS],.agg #[.int .i64 x.kind,.string x.aJ,.string x.aa,.string x.table,.string x.name,.string x.role,.slice A6 x.ak.length c6,.string x.rule.name,.int .i64 x.rule.kind,.slice A9 x.rule.ak.length c9,.int .i64 x.rule.low,.int .i64 x.rule.high,.string x.rule.aa,.string x.rule.table,.string x.rule.key,.int .i64 x.right,.bool x.opt]] V (pg V (y,ke)) from fun V a=>hap▸nM c As ar At ax An aI Am aK Ag aS x A6 c6 A9 c9 V (H.az (aW.trans a)) (XA.az (aW.trans a)));have VJ:=gH (show ke≠0→y=lH from fun h=>by have:=zS (c:=c) (x:=x) (by rw [hap];exact h);rw [hap] at this;exact this);have ET:=gH (show ke=0→P7 c y x from fun h=>by subst h;exact Ec hap H.sm XA.sm);have I8:=gH (And.intro hap Cy);have C1:=gH (Hu c As ar At ax An aI Am aK Ag aS W (H.az aW));have x0:=r0.cell (j:=0) rfl;have x1:=r0.cell (j:=1) rfl;have x2:=r0.cell (j:=2) rfl;have x3:=r0.cell (j:=3) rfl;have x4:=r0.cell (j:=4) rfl;have x5:=r0.cell (j:=5) rfl;have x6:=r0.cell (j:=6) rfl;have y0:=r1.cell (j:=0) rfl;have y1:=r1.cell (j:=1) rfl;have y2:=r1.cell (j:=2) rfl;have y3:=r1.cell (j:=3) rfl;have y4:=r1.cell (j:=4) rfl;have y5:=r1.cell (j:=5) rfl;have y6:=r1.cell (j:=6) rfl
 have y7:=r1.cell (j:=7) rfl;have y8:=r1.cell (j:=8) rfl;have y9:=r1.cell (j:=9) rfl;have jq:=r1.cell (j:=10) rfl;have jS:=r1.cell (j:=11) rfl;have jT:=r1.cell (j:=12) rfl;have jU:=r1.cell (j:=13) rfl;have jV:=r1.cell (j:=14) rfl;have jw:=r1.cell (j:=15) rfl;have jx:=r1.cell (j:=16) rfl;have z0:=r0.1;have z1:=r1.1;clear H XA aW r0 r1 ol Cy hap VD X5
 go_enter Tryz.func4,Tryz.ntmps4
 go_wp2_with fail;rw [← hW];clear hW;refine C1.out.mono ?_;rintro e w1 ⟨bl,rfl,-,a1⟩;have cG:=gH a1;clear a1 C1;clear x0 x1 x2 x3 x4 x5 x6 y0 y1 y2 y3 y4 y5 y6 y7 y8 y9 jq jS jT jU jV jw jx z0 z1;have p0:=HR.out.1.az cG.out;have p1:=HR.out.2.az cG.out;have x0:=p0.cell (j:=0) rfl;have x1:=p0.cell (j:=1) rfl;have x2:=p0.cell (j:=2) rfl;have x3:=p0.cell (j:=3) rfl;have x4:=p0.cell (j:=4) rfl;have x5:=p0.cell (j:=5) rfl;have x6:=p0.cell (j:=6) rfl;have y0:=p1.cell (j:=0) rfl;have y1:=p1.cell (j:=1) rfl;have y2:=p1.cell (j:=2) rfl;have y3:=p1.cell (j:=3) rfl;have y4:=p1.cell (j:=4) rfl;have y5:=p1.cell (j:=5) rfl;have y6:=p1.cell (j:=6) rfl;have y7:=p1.cell (j:=7) rfl;have y8:=p1.cell (j:=8) rfl;have y9:=p1.cell (j:=9) rfl;have jq:=p1.cell (j:=10) rfl;have jS:=p1.cell (j:=11) rfl;have jT:=p1.cell (j:=12) rfl;have jU:=p1.cell (j:=13) rfl;have jV:=p1.cell (j:=14) rfl;have jw:=p1.cell (j:=15) rfl;have jx:=p1.cell (j:=16) rfl;have z0:=p0.1;have z1:=p1.1;clear p0 p1
 cases bl
 rotate_left
 ·go_wp2_with fail
  go_ret;exact ⟨rfl,br.out.trans cG.out⟩
 go_wp2_with fail;refine (CB.out _).mono ?_;rintro e w2 ⟨rfl,a2⟩;have fx:=gH (cG.out.trans a2);clear a2 cG CB;clear x0 x1 x2 x3 x4 x5 x6 y0 y1 y2 y3 y4 y5 y6 y7 y8 y9 jq jS jT jU jV jw jx z0 z1;have p0:=HR.out.1.az fx.out;have p1:=HR.out.2.az fx.out;have x0:=p0.cell (j:=0) rfl;have x1:=p0.cell (j:=1) rfl;have x2:=p0.cell (j:=2) rfl;have x3:=p0.cell (j:=3) rfl;have x4:=p0.cell (j:=4) rfl;have x5:=p0.cell (j:=5) rfl;have x6:=p0.cell (j:=6) rfl;have y0:=p1.cell (j:=0) rfl;have y1:=p1.cell (j:=1) rfl;have y2:=p1.cell (j:=2) rfl;have y3:=p1.cell (j:=3) rfl;have y4:=p1.cell (j:=4) rfl;have y5:=p1.cell (j:=5) rfl;have y6:=p1.cell (j:=6) rfl;have y7:=p1.cell (j:=7) rfl;have y8:=p1.cell (j:=8) rfl;have y9:=p1.cell (j:=9) rfl;have jq:=p1.cell (j:=10) rfl;have jS:=p1.cell (j:=11) rfl;have jT:=p1.cell (j:=12) rfl;have jU:=p1.cell (j:=13) rfl;have jV:=p1.cell (j:=14) rfl;have jw:=p1.cell (j:=15) rfl;have jx:=p1.cell (j:=16) rfl;have z0:=p0.1;have z1:=p1.1;clear p0 p1
 cases bb
 rotate_left
 ·go_wp2_with fail
  go_ret;exact ⟨rfl,br.out.trans fx.out⟩
 go_wp2_with fail;refine (CA.out _ fx.out).mono ?_;rintro e w3 ⟨⟨A1,n1,k1⟩,⟨A2,n2,k2⟩,⟨A3,n3,k3⟩,⟨A4,n4,k4⟩,⟨A5,n5,k5⟩,L,rfl,a3,ci⟩;by_cases hk:ke≠0
 ·simp only [lq]
  have HD:=gH (show ag W (w3.alloc (.cells #[.int .i64 y.aA,.int .i64 y.version,.slice A1 y.ai.ae.length k1,.slice A2 y.ai.tables.length k2,.slice A3 y.aj.names.length k3,.slice A4 y.aj.members.length k4,.slice A5 y.af.length k5] 32)) from (fx.out.trans a3).alloc _);clear a3 ci;go_wp2_with fail;refine (l9 _).mono ?_;rintro e v1 ⟨rfl,a1⟩;have ui:=gH a1;clear a1;go_wp2_with fail;refine (jW _).mono ?_;rintro e v2 ⟨rfl,a2⟩;have n7:=gH (ui.out.trans a2);clear a2;go_wp2_with fail;go_ret;exact ⟨rfl,br.out.trans (HD.out.trans n7.out)⟩
 obtain rfl:ke=0:=by omega
 have HO:=gH (ET.out (by first | rfl | trivial));have VK:=gH (CF.out HO.out.may)
 have HLV:=gH (show fe=false→mc=true→pM y role s n rt=true from fun h1 h2=>by
  have d:=tN (c:=c) (x:=x) (by rw [I8.out.1])
  have hy:y=ki (bZ c x).1 (cD x):=by have:=d.is;rw [I8.out.1] at this;exact congrArg Prod.fst this
  rw [hy]
  exact d.leaves (by rw [I8.out.2];exact h1) (by rw [HMC.out];exact h2))
 simp only [lq];clear hk VJ ET CF CA;obtain ⟨D,hD⟩:∃ D,D=w3.alloc (.cells #[.int .i64 y.aA,.int .i64 y.version,.slice A1 y.ai.ae.length k1,.slice A2 y.ai.tables.length k2,.slice A3 y.aj.names.length k3,.slice A4 y.aj.members.length k4,.slice A5 y.af.length k5] 32):=⟨_,rfl⟩;obtain ⟨b5,nW⟩:∃ b,b=w3.heap.size:=⟨_,rfl⟩
 have rD:ap D b5 [.int .i64 y.aA,.int .i64 y.version,.slice A1 y.ai.ae.length k1,.slice A2 y.ai.tables.length k2,.slice A3 y.aj.names.length k3,.slice A4 y.aj.members.length k4,.slice A5 y.af.length k5]:=by rw [hD,nW];exact bv (ag.refl _) (by simp)
 have RD:=gH rD;have HD:=gH (show ag W D from by rw [hD];exact (fx.out.trans a3).alloc _)
 have Uo:=gH (show eH D y A1 k1 A2 k2 A3 k3 A4 k4 A5 k5 from by
  have:=ci.at HO.out.sm
  rw [hD];exact this.az ((ag.refl _).alloc _))
 have p1:=HR.out.2.az HD.out;clear x0 x1 x2 x3 x4 x5 x6 y0 y1 y2 y3 y4 y5 y6 y7 y8 y9 jq jS jT jU jV jw jx z0 z1;have y0:=p1.cell (j:=0) rfl;have y1:=p1.cell (j:=1) rfl;have y2:=p1.cell (j:=2) rfl;have y3:=p1.cell (j:=3) rfl;have y4:=p1.cell (j:=4) rfl;have y5:=p1.cell (j:=5) rfl;have y6:=p1.cell (j:=6) rfl;have y7:=p1.cell (j:=7) rfl;have y8:=p1.cell (j:=8) rfl;have y9:=p1.cell (j:=9) rfl;have jq:=p1.cell (j:=10) rfl;have jS:=p1.cell (j:=11) rfl;have jT:=p1.cell (j:=12) rfl;have jU:=p1.cell (j:=13) rfl;have jV:=p1.cell (j:=14) rfl;have jw:=p1.cell (j:=15) rfl;have jx:=p1.cell (j:=16) rfl;have z1:=p1.1;rw [hD] at y0 y1 y2 y3 y4 y5 y6 y7 y8 y9 jq jS jT jU jV jw jx z1;clear rD a3 ci p1;go_wp2_with fail;rw [← hD];clear hD y0 y1 y2 y3 y4 y5 y6 y7 y8 y9 jq jS jT jU jV jw jx z1;refine (VK.out _).mono ?_;rintro e v1 ⟨rfl,a1⟩;have ui:=gH a1;clear a1
 cases fe
 rotate_left
 ·skip
  go_wp2_with fail;refine (l9 _).mono ?_;rintro e v2 ⟨rfl,a2⟩;have n7:=gH (ui.out.trans a2);clear a2;go_wp2_with fail;refine (jW _).mono ?_;rintro e v3 ⟨rfl,a3⟩;have mq:=gH (n7.out.trans a3);clear a3;go_wp2_with fail;go_ret;exact ⟨rfl,br.out.trans (HD.out.trans mq.out)⟩
 have p0:=HR.out.1.az (HD.out.trans ui.out);have x0:=p0.cell (j:=0) rfl;have x1:=p0.cell (j:=1) rfl;have x2:=p0.cell (j:=2) rfl;have x3:=p0.cell (j:=3) rfl;have x4:=p0.cell (j:=4) rfl;have x5:=p0.cell (j:=5) rfl;have x6:=p0.cell (j:=6) rfl;have z0:=p0.1;clear p0;go_wp2_with fail;refine (CM0.out _ (br.out.trans (HD.out.trans ui.out))).mono ?_;rintro e v2 ⟨rfl,a2⟩;have n7:=gH (ui.out.trans a2);clear a2 x0 x1 x2 x3 x4 x5 x6 z0
 cases mc
 ·skip
  go_wp2_with fail;refine (l9 _).mono ?_;rintro e v3 ⟨rfl,a3⟩;have mq:=gH (n7.out.trans a3);clear a3;go_wp2_with fail;refine (jW _).mono ?_;rintro e v4 ⟨rfl,a4⟩;have sK:=gH (mq.out.trans a4);clear a4;go_wp2_with fail;go_ret;exact ⟨rfl,br.out.trans (HD.out.trans sK.out)⟩
 go_wp2_with fail;refine (l9 _).mono ?_;rintro e v3 ⟨rfl,a3⟩;have mq:=gH (n7.out.trans a3);clear a3;go_wp2_with fail;refine (jW _).mono ?_;rintro e v4 ⟨rfl,a4⟩;have sK:=gH (mq.out.trans a4);clear a4;have q:=RD.out.az sK.out;obtain ⟨d0,d1,d2,d3,d4,d5,d6,dz⟩:=dM q;clear q;rw [nW] at d0 d1 d2 d3 d4 d5 d6 dz
 have CY:=gH (show Calls Tryz.prog 13 #[.agg #[.int .i64 y.aA,.int .i64 y.version,.slice A1 y.ai.ae.length k1,.slice A2 y.ai.tables.length k2,.slice A3 y.aj.names.length k3,.slice A4 y.aj.members.length k4,.slice A5 y.af.length k5],.string role,.string s,.string n,.int .i64 rt] v4 fun e w'=>e=.returned (.bool true)∧ag v4 w' from by
  have h1:=Un y A1 k1 A2 k2 A3 k3 A4 k4 A5 k5 role s n rt lp v4 (Uo.out.az sK.out);rw [HLV.out (by first | rfl | trivial) (by first | rfl | trivial)] at h1
  exact h1)
 go_wp2_with fail;refine CY.out.mono ?_;rintro e v5 ⟨rfl,a5⟩;have Mm:=gH (sK.out.trans a5);clear a5;go_wp2_with fail;go_ret;exact ⟨rfl,br.out.trans (HD.out.trans Mm.out)⟩
end Go.Proofs.YtmflccbnoeaafaaGreat
