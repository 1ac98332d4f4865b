import Derived.Test.YtmflccbnoeaafaaGreatPartC20
namespace Go.Proofs.YtmflccbnoeaafaaGreat
open Go.RowKit Go.Deep
set_option maxRecDepth 100000
set_option linter.unusedVariables false
set_option maxHeartbeats 64000000
theorem TG (c:bW) (As:Option Addr) (ar:Nat) (At:Option Addr) (ax:Nat) (An:Option Addr) (aI:Nat) (Am:Option Addr) (aK:Nat) (Ag:Option Addr) (aS:Nat) (g:cB) (sg:oL g) (w:World) (H:eH w c As ar At ax An aI Am aK Ag aS) :
  Calls Tryz.prog 96 #[.agg #[.int .i64 c.aA,.int .i64 c.version,.slice As c.ai.ae.length ar,.slice At c.ai.tables.length ax,.slice An c.aj.names.length aI,.slice Am c.aj.members.length aK,.slice Ag c.af.length aS],.agg #[.string g.aa,.string g.table,.int .i64 g.right,.string g.aC,.string g.to,.bool g.opt]] w (pg w (dX c g)):=by
 have l1:w.heap.size < w.heap.size+1:=by omega
 have l2:w.heap.size < w.heap.size+1+1:=by omega
 have l3:w.heap.size < w.heap.size+1+1+1:=by omega
 have l4:w.heap.size+1 < w.heap.size+1+1+1:=by omega
 obtain ⟨W,hW⟩:∃ W,W=((w.alloc (.cells #[.int .i64 c.aA,.int .i64 c.version,.slice As c.ai.ae.length ar,.slice At c.ai.tables.length ax,.slice An c.aj.names.length aI,.slice Am c.aj.members.length aK,.slice Ag c.af.length aS] 32)).alloc (.cells #[.string g.aa,.string g.table,.int .i64 g.right,.string g.aC,.string g.to,.bool g.opt] 106)).alloc (.cells #[.int .i64 0,.int .i64 0,.slice none 0 0,.slice none 0 0,.slice none 0 0,.slice none 0 0,.slice none 0 0] 32):=⟨_,rfl⟩
 have aW:ag w W:=by rw [hW];exact (((ag.refl w).alloc _).alloc _).alloc _
 have r0:ap W (w.heap.size) [.int .i64 c.aA,.int .i64 c.version,.slice As c.ai.ae.length ar,.slice At c.ai.tables.length ax,.slice An c.aj.names.length aI,.slice Am c.aj.members.length aK,.slice Ag c.af.length aS]:=by rw [hW];exact ap.up (ap.up (bv (ag.refl _) (by simp)))
 have r1:ap W (w.heap.size+1) [.string g.aa,.string g.table,.int .i64 g.right,.string g.aC,.string g.to,.bool g.opt]:=by rw [hW];exact ap.up (bv (ag.refl _) (by simp))
 have r2:ap W (w.heap.size+1+1) [.int .i64 0,.int .i64 0,.slice none 0 0,.slice none 0 0,.slice none 0 0,.slice none 0 0,.slice none 0 0]:=by rw [hW];exact bv (ag.refl _) (by simp)
 have HR:=gH (And.intro r0 (And.intro r1 r2));have br:=gH aW;have HH:=gH (H.az aW);have nU:=gH H.sm;obtain ⟨p,hp⟩:∃ p,dH c=p:=⟨_,rfl⟩;obtain ⟨kd,DJ⟩:∃ p,lh g.right=p:=⟨_,rfl⟩;obtain ⟨e0,NH⟩:∃ p,bk g.aC g.to=p:=⟨_,rfl⟩;obtain ⟨tb,uY⟩:∃ b,decide (0≤bj c.ai.tables g.aa g.table)=b:=⟨_,rfl⟩;obtain ⟨n1,Rl⟩:∃ b,dQ c.aj.names g.aC=b:=⟨_,rfl⟩;obtain ⟨n2,uk⟩:∃ b,dQ c.aj.names g.to=b:=⟨_,rfl⟩;obtain ⟨T,hT⟩:∃ T,iK c.ai g.aa g.table=T:=⟨_,rfl⟩;obtain ⟨bb,ol⟩:∃ b,jA c.ai (cT c.aj g.aC) T=b:=⟨_,rfl⟩;obtain ⟨gb,hgb⟩:∃ b,fC c.af (cT c.aj g.aC) g.aa g.table g.right true=b:=⟨_,rfl⟩;obtain ⟨q,hq⟩:∃ q,mv c.af g=q:=⟨_,rfl⟩;obtain ⟨ps,Rg⟩:∃ p,cN cS c.af g=p:=⟨_,rfl⟩;have Vw:=gH Rg;have LX:(g.aC.toList==g.to.toList)=e0:=NH
 have hj:fM c c.af g=(bb || gb):=by unfold fM;rw [hT,ol,hgb]
 have NI:decide (bj c.ai.tables g.aa g.table < 0)=!tb:=by rw [← uY];by_cases h:0≤bj c.ai.tables g.aa g.table<;>simp [h]<;>omega
 have NJ:=gH (show (p=false∨kd=false∨e0=true)→dX c g=(lH,1) from fun h=>by
  unfold dX;rw [hp,DJ,NH]
  rcases h with rfl | rfl | rfl<;>simp)
 have Xe:=gH (show p=true→kd=true→e0=false→tb=false→dX c g=(lH,61) from fun h1 h2 h3 h4=>by
  subst h1 h2 h3 h4
  unfold dX;rw [hp,DJ,NH,if_neg (by simp),if_pos (of_decide_eq_true (NI.trans rfl))])
 have TH:=gH (show p=true→kd=true→e0=false→tb=true→(n1=false∨n2=false)→dX c g=(lH,71) from fun h1 h2 h3 h4 h5=>by
  subst h1 h2 h3 h4
  unfold dX;rw [hp,DJ,NH,Rl,uk,if_neg (by simp),if_neg (of_decide_eq_false (NI.trans rfl)),if_pos (by rcases h5 with rfl | rfl<;>simp)])
 have Xf:=gH (show p=true→kd=true→e0=false→tb=true→n1=true→n2=true→(bb || gb)=false→dX c g=(lH,91) from fun h1 h2 h3 h4 h5 h6 h7=>by
  subst h1 h2 h3 h4 h5 h6
  unfold dX;rw [hp,DJ,NH,Rl,uk,hj,h7,if_neg (by simp),if_neg (of_decide_eq_false (NI.trans rfl)),if_neg (by simp),if_pos (by simp)])
 have Ni:=gH (show p=true→kd=true→e0=false→tb=true→n1=true→n2=true→(bb || gb)=true→64≤c.af.length→q=false→dX c g=(lH,2) from fun h1 h2 h3 h4 h5 h6 h7 h8 h9=>by
  subst h1 h2 h3 h4 h5 h6 h9
  unfold dX;rw [hp,DJ,NH,Rl,uk,hj,h7,hq,if_neg (by simp),if_neg (of_decide_eq_false (NI.trans rfl)),if_neg (by simp),if_neg (by simp),if_pos (by simpa using h8)])
 have Zn:=gH (show p=true→kd=true→e0=false→tb=true→n1=true→n2=true→(bb || gb)=true→(c.af.length < 64∨q=true)→dX c g=({ c with af:=laid c.af g },0) from fun h1 h2 h3 h4 h5 h6 h7 h8=>by
  subst h1 h2 h3 h4 h5 h6
  unfold dX;rw [hp,DJ,NH,Rl,uk,hj,h7,hq,if_neg (by simp),if_neg (of_decide_eq_false (NI.trans rfl)),if_neg (by simp),if_neg (by simp),if_neg (by
   rcases h8 with h8 | rfl
   ·simp;omega
   ·simp)])
 have HPW:=gH (show p=true→dH c=true from fun h=>hp.trans h);have HQ:=gH hq;have C1:=gH (hp▸wJ c As ar At ax An aI Am aK Ag aS W (H.az aW));have CK:=gH (show ∀ V,Calls Tryz.prog 33 #[.int .i64 g.right] V fun e w''=>e=.returned (.bool kd)∧V=w'' from fun V=>DJ▸He g.right V)
 have CT:=gH (show ∀ V,ag W V→Calls Tryz.prog 31 #[.agg #[.int .i64 c.aA,.int .i64 c.version,.slice As c.ai.ae.length ar,.slice At c.ai.tables.length ax,.slice An c.aj.names.length aI,.slice Am c.aj.members.length aK,.slice Ag c.af.length aS],.string g.aa,.string g.table] V fun e w''=>∃ (A2:Option Addr) (c2:Nat) (A3:Option Addr) (c3:Nat),e=.returned (.tuple #[.agg #[.string T.aa,.string T.name,.string T.owner,.slice A2 T.ak.length c2,.slice A3 T.rules.length c3],.bool tb])∧ag V w'' from fun V a=>by
  have:=sX c As ar At ax An aI Am aK Ag aS g.aa g.table V (aQ (aW.trans a) H.tab);unfold Hf at this;rw [hT,uY] at this
  exact this)
 have CA:=gH (show ∀ V,ag W V→Calls Tryz.prog 32 #[.agg #[.slice An c.aj.names.length aI,.slice Am c.aj.members.length aK],.string g.aC] V (yD c.aj g.aC V) from fun V a=>Ho c.aj An aI Am aK g.aC V (aM (aW.trans a) H.fK) (bJ (aW.trans a) H.mem) sg.2.2.1);have CN1:=gH (show ∀ V,ag W V→Calls Tryz.prog 18 #[.slice An c.aj.names.length aI,.string g.aC] V fun e w''=>e=.returned (.bool n1)∧V=w'' from fun V a=>Rl▸fY An aI c.aj.names g.aC V (aM (aW.trans a) H.fK));have CN2:=gH (show ∀ V,ag W V→Calls Tryz.prog 18 #[.slice An c.aj.names.length aI,.string g.to] V fun e w''=>e=.returned (.bool n2)∧V=w'' from fun V a=>uk▸fY An aI c.aj.names g.to V (aM (aW.trans a) H.fK))
 have SK:=gH (show p=true→tb=true→T.aa=g.aa∧T.name=g.table∧0≤cE c.ai.ae g.aa from fun h1 h2=>by
  rw [← hT]
  exact mS (cZ.1 (hp.trans h1)).1 (of_decide_eq_true (uY.trans h2)))
 have yG:=gH ol;have Xg:=gH hgb;obtain ⟨x0,x1,x2,x3,x4,x5,x6,xz⟩:=dM r0;obtain ⟨y0,y1,y2,y3,y4,y5,yz⟩:=j0 r1;obtain ⟨u0,u1,u2,u3,u4,u5,u6,uz⟩:=dM r2;have v0:=r2.2.2 0 (by simp);have v1:=r2.2.2 1 (by simp);have v2:=r2.2.2 2 (by simp);have v3:=r2.2.2 3 (by simp);have v4:=r2.2.2 4 (by simp);have v5:=r2.2.2 5 (by simp);have v6:=r2.2.2 6 (by simp);clear H r0 r1 r2 aW hp DJ NH uY Rl uk hT ol hgb hq hj NI Rg
 go_enter Tryz.func96,Tryz.ntmps96
 go_wp2_with fail;rw [← hW];clear hW;go_wp2_with fail;refine C1.out.mono ?_;rintro e w1 ⟨rfl,a1⟩;have cG:=gH a1;clear a1 C1;clear x0 x1 x2 x3 x4 x5 x6 xz y0 y1 y2 y3 y4 y5 yz u0 u1 u2 u3 u4 u5 u6 uz v0 v1 v2 v3 v4 v5 v6;have p0:=HR.out.1.az (cG.out);have p1:=HR.out.2.1.az (cG.out);have p2:=HR.out.2.2.az (cG.out);obtain ⟨x0,x1,x2,x3,x4,x5,x6,xz⟩:=dM p0;obtain ⟨y0,y1,y2,y3,y4,y5,yz⟩:=j0 p1;obtain ⟨u0,u1,u2,u3,u4,u5,u6,uz⟩:=dM p2;have v0:=p2.2.2 0 (by simp);have v1:=p2.2.2 1 (by simp);have v2:=p2.2.2 2 (by simp);have v3:=p2.2.2 3 (by simp);have v4:=p2.2.2 4 (by simp);have v5:=p2.2.2 5 (by simp);have v6:=p2.2.2 6 (by simp);clear p0 p1 p2
 cases p
 ·go_wp2_with fail
  refine bodyPost_ret (results_cell_tmp (v:=.agg #[.int .i64 0,.int .i64 0,.slice none 0 0,.slice none 0 0,.slice none 0 0,.slice none 0 0,.slice none 0 0]) rfl _ rfl (dr (cO (HR.out.2.2.az cG.out) rfl _ _ _ _ _ _ _))) rfl ?_;rw [NJ.out (by simp)];exact iG ((dG _ _ _ _ _ _ _ _ _).aZ (br.out.trans cG.out) (fun g hg e=>by omega))
 go_wp2_with fail;refine (CK.out w1).mono ?_;rintro e w9 ⟨rfl,rfl⟩
 cases kd
 ·go_wp2_with fail
  refine bodyPost_ret (results_cell_tmp (v:=.agg #[.int .i64 0,.int .i64 0,.slice none 0 0,.slice none 0 0,.slice none 0 0,.slice none 0 0,.slice none 0 0]) rfl _ rfl (dr (cO (HR.out.2.2.az cG.out) rfl _ _ _ _ _ _ _))) rfl ?_;rw [NJ.out (by simp)];exact iG ((dG _ _ _ _ _ _ _ _ _).aZ (br.out.trans cG.out) (fun g hg e=>by omega))
 cases e0
 case true =>
  go_wp2_with fail;refine bodyPost_ret (results_cell_tmp (v:=.agg #[.int .i64 0,.int .i64 0,.slice none 0 0,.slice none 0 0,.slice none 0 0,.slice none 0 0,.slice none 0 0]) rfl _ rfl (dr (cO (HR.out.2.2.az cG.out) rfl _ _ _ _ _ _ _))) rfl ?_;rw [NJ.out (by simp)];exact iG ((dG _ _ _ _ _ _ _ _ _).aZ (br.out.trans cG.out) (fun g hg e=>by omega))
 obtain ⟨Pw,⟨gA,jz,_,_⟩,_,OZ⟩:=bO.1 (cZ.1 (HPW.out (by simp))).1;have Xh:=cQ.1 jz;have C2:=gH (fun V (a:ag W V)=>Vw.out▸bsG Ag aS c.af g V (HH.out.az a).kv OZ);have C3:=gH (fun V (a:ag W V)=>WS c As ar At ax An aI Am aK Ag aS V (HH.out.az a) gA (by omega) (by omega) (by omega));have TI:=gH (And.intro OZ Pw);have Vx:=gH (show ps≤c.af.length by rw [← Vw.out];exact fD _ _ _)
 have Q3:=gH (show q=true→∃ hl:ps < c.af.length,laid c.af g=c.af.set ps { c.af[ps] with opt:=c.af[ps].opt || g.opt } from fun h=>by
  have ht:b8 cS c.af g=true:=by rw [qN OZ,HQ.out];exact h
  have Rg:=Vw.out;subst Rg
  exact ⟨fQ ht,IG OZ ht⟩)
 have Vy:=gH (show q=false→laid c.af g=bQ c.af ps g from fun h=>by rw [j9 (HQ.out.trans h),Vw.out]);clear gA jz OZ Xh Pw;go_wp2_with fail;refine (CT.out w1 cG.out).mono ?_;rintro e w2 ⟨A2,c2,A3,c3,rfl,a2⟩;obtain ⟨Y,hY⟩:∃ V,V=w2.alloc (.cells #[.string T.aa,.string T.name,.string T.owner,.slice A2 T.ak.length c2,.slice A3 T.rules.length c3] 53):=⟨_,rfl⟩
 have aY:ag w2 Y:=by rw [hY];exact (ag.refl _).alloc _
 have RY:=gH (show ap Y w2.heap.size [.string T.aa,.string T.name,.string T.owner,.slice A2 T.ak.length c2,.slice A3 T.rules.length c3] by rw [hY];exact aO (ag.refl _));have jG:=gH (cG.out.trans (a2.trans aY));have S2:=gH (show w.heap.size+1+1 < w2.heap.size from (HR.out.2.2.az (cG.out.trans a2)).1);clear x0 x1 x2 x3 x4 x5 x6 xz y0 y1 y2 y3 y4 y5 yz u0 u1 u2 u3 u4 u5 u6 uz v0 v1 v2 v3 v4 v5 v6;have p0:=HR.out.1.az (jG.out);have p1:=HR.out.2.1.az (jG.out);have p2:=HR.out.2.2.az (jG.out);obtain ⟨x0,x1,x2,x3,x4,x5,x6,xz⟩:=dM p0;obtain ⟨y0,y1,y2,y3,y4,y5,yz⟩:=j0 p1;obtain ⟨u0,u1,u2,u3,u4,u5,u6,uz⟩:=dM p2;have v0:=p2.2.2 0 (by simp);have v1:=p2.2.2 1 (by simp);have v2:=p2.2.2 2 (by simp);have v3:=p2.2.2 3 (by simp);have v4:=p2.2.2 4 (by simp);have v5:=p2.2.2 5 (by simp);have v6:=p2.2.2 6 (by simp);clear p0 p1 p2;rw [hY] at x0 x1 x2 x3 x4 x5 x6 xz y0 y1 y2 y3 y4 y5 yz u0 u1 u2 u3 u4 u5 u6 uz v0 v1 v2 v3 v4 v5 v6;clear a2 aY CT;go_wp2_with fail;rw [← hY];clear hY;clear x0 x1 x2 x3 x4 x5 x6 xz y0 y1 y2 y3 y4 y5 yz u0 u1 u2 u3 u4 u5 u6 uz v0 v1 v2 v3 v4 v5 v6;have p0:=HR.out.1.az (jG.out);have p1:=HR.out.2.1.az (jG.out);have p2:=HR.out.2.2.az (jG.out);obtain ⟨x0,x1,x2,x3,x4,x5,x6,xz⟩:=dM p0;obtain ⟨y0,y1,y2,y3,y4,y5,yz⟩:=j0 p1;obtain ⟨u0,u1,u2,u3,u4,u5,u6,uz⟩:=dM p2;have v0:=p2.2.2 0 (by simp);have v1:=p2.2.2 1 (by simp);have v2:=p2.2.2 2 (by simp);have v3:=p2.2.2 3 (by simp);have v4:=p2.2.2 4 (by simp);have v5:=p2.2.2 5 (by simp);have v6:=p2.2.2 6 (by simp)
 clear p0 p1 p2;refine (C2.out Y jG.out).mono ?_;rintro e w3 ⟨rfl,a3⟩;have iw:=gH (jG.out.trans a3);have Q7:=gH (RY.out.az a3);rw [qN TI.out.1,HQ.out];clear x0 x1 x2 x3 x4 x5 x6 xz y0 y1 y2 y3 y4 y5 yz u0 u1 u2 u3 u4 u5 u6 uz v0 v1 v2 v3 v4 v5 v6;have p0:=HR.out.1.az (iw.out);have p1:=HR.out.2.1.az (iw.out);have p2:=HR.out.2.2.az (iw.out);obtain ⟨x0,x1,x2,x3,x4,x5,x6,xz⟩:=dM p0;obtain ⟨y0,y1,y2,y3,y4,y5,yz⟩:=j0 p1;obtain ⟨u0,u1,u2,u3,u4,u5,u6,uz⟩:=dM p2;have v0:=p2.2.2 0 (by simp);have v1:=p2.2.2 1 (by simp);have v2:=p2.2.2 2 (by simp);have v3:=p2.2.2 3 (by simp);have v4:=p2.2.2 4 (by simp);have v5:=p2.2.2 5 (by simp);have v6:=p2.2.2 6 (by simp);clear p0 p1 p2;clear a3 C2;go_wp2_with fail;refine (CA.out w3 iw.out).mono ?_;rintro e w4 ⟨h,rfl,a4,ho⟩;have jr:=gH (iw.out.trans a4);have TJ:=gH (Q7.out.az a4);have HO:=gH ho;rw [bL ho];clear x0 x1 x2 x3 x4 x5 x6 xz y0 y1 y2 y3 y4 y5 yz u0 u1 u2 u3 u4 u5 u6 uz v0 v1 v2 v3 v4 v5 v6;have p0:=HR.out.1.az (jr.out);have p1:=HR.out.2.1.az (jr.out);have p2:=HR.out.2.2.az (jr.out);obtain ⟨x0,x1,x2,x3,x4,x5,x6,xz⟩:=dM p0;obtain ⟨y0,y1,y2,y3,y4,y5,yz⟩:=j0 p1;obtain ⟨u0,u1,u2,u3,u4,u5,u6,uz⟩:=dM p2;have v0:=p2.2.2 0 (by simp);have v1:=p2.2.2 1 (by simp);have v2:=p2.2.2 2 (by simp);have v3:=p2.2.2 3 (by simp);have v4:=p2.2.2 4 (by simp);have v5:=p2.2.2 5 (by simp);have v6:=p2.2.2 6 (by simp);clear p0 p1 p2;clear a4 ho CA
 cases tb
 case false =>
  go_wp2_with fail;refine bodyPost_ret (results_cell_tmp (v:=.agg #[.int .i64 0,.int .i64 0,.slice none 0 0,.slice none 0 0,.slice none 0 0,.slice none 0 0,.slice none 0 0]) rfl _ rfl (dr (cO (HR.out.2.2.az jr.out) rfl _ _ _ _ _ _ _))) rfl ?_;rw [Xe.out (by simp) (by simp) (by simp) (by simp)];exact iG ((dG _ _ _ _ _ _ _ _ _).aZ (br.out.trans jr.out) (fun g hg e=>by omega))
 go_wp2_with fail;refine (CN1.out w4 jr.out).mono ?_;rintro e w9 ⟨rfl,rfl⟩
 cases n1
 case false =>
  go_wp2_with fail;refine bodyPost_ret (results_cell_tmp (v:=.agg #[.int .i64 0,.int .i64 0,.slice none 0 0,.slice none 0 0,.slice none 0 0,.slice none 0 0,.slice none 0 0]) rfl _ rfl (dr (cO (HR.out.2.2.az jr.out) rfl _ _ _ _ _ _ _))) rfl ?_;rw [TH.out (by simp) (by simp) (by simp) (by simp) (by simp)];exact iG ((dG _ _ _ _ _ _ _ _ _).aZ (br.out.trans jr.out) (fun g hg e=>by omega))
 go_wp2_with fail;refine (CN2.out w4 jr.out).mono ?_;rintro e w9 ⟨rfl,rfl⟩
 cases n2
 case false =>
  go_wp2_with fail;refine bodyPost_ret (results_cell_tmp (v:=.agg #[.int .i64 0,.int .i64 0,.slice none 0 0,.slice none 0 0,.slice none 0 0,.slice none 0 0,.slice none 0 0]) rfl _ rfl (dr (cO (HR.out.2.2.az jr.out) rfl _ _ _ _ _ _ _))) rfl ?_;rw [TH.out (by simp) (by simp) (by simp) (by simp) (by simp)];exact iG ((dG _ _ _ _ _ _ _ _ _).aZ (br.out.trans jr.out) (fun g hg e=>by omega))
 obtain ⟨ts,tn,hsc⟩:=SK.out (by simp) (by simp);have sn:=gT (aM (jr.out) HH.out.fK);have SM:=mR c.aj g.aC;have sl:=en (R:=dK) bY HO.out (fun x hx=>⟨rfl,rfl,sn.2 x (mQ hx)⟩) (by have:=sn.1;unfold Small at *;omega)
 have CB:=gH (show Calls Tryz.prog 35 #[.agg #[.int .i64 c.aA,.int .i64 c.version,.slice As c.ai.ae.length ar,.slice At c.ai.tables.length ax,.slice An c.aj.names.length aI,.slice Am c.aj.members.length aK,.slice Ag c.af.length aS],.slice h.a (cT c.aj g.aC).length h.c,.agg #[.string T.aa,.string T.name,.string T.owner,.slice A2 T.ak.length c2,.slice A3 T.rules.length c3]] w4 fun e w''=>e=.returned (.bool bb)∧ag w4 w'' from
  yG.out▸Du c As ar At ax An aI Am aK Ag aS (cT c.aj g.aC) h.a h.c T.aa T.name T.owner A2 _ c2 A3 _ c3 T ⟨rfl,rfl⟩ w4 (HH.out.az jr.out) sl (by rw [ts];exact hsc))
 have CG:=gH (show ∀ V,ag w4 V→Calls Tryz.prog 36 #[.slice Ag c.af.length aS,.slice h.a (cT c.aj g.aC).length h.c,.agg #[.string T.aa,.string T.name,.string T.owner,.slice A2 T.ak.length c2,.slice A3 T.rules.length c3],.int .i64 g.right,.bool true] V fun e w''=>e=.returned (.bool gb)∧ag V w'' from fun V a=>by
  have:=Bc c.af Ag aS (cT c.aj g.aC) h.a h.c T.aa T.name T.owner A2 T.ak.length c2 A3 T.rules.length c3 g.right true V (HH.out.az (jr.out.trans a)).kv (aM a sl);rw [ts,tn] at this ⊢;rw [Xg.out] at this
  exact this)
 obtain ⟨t0,t1,t2,t3,t4,tz⟩:=rv TJ.out;clear ts tn hsc sn SM sl;go_wp2_with fail;refine CB.out.mono ?_;rintro e w5 ⟨rfl,a5⟩;have qD:=gH (jr.out.trans a5);have Xi:=gH a5;have RY5:=gH (TJ.out.az a5);clear x0 x1 x2 x3 x4 x5 x6 xz y0 y1 y2 y3 y4 y5 yz u0 u1 u2 u3 u4 u5 u6 uz v0 v1 v2 v3 v4 v5 v6;have p0:=HR.out.1.az (qD.out);have p1:=HR.out.2.1.az (qD.out);have p2:=HR.out.2.2.az (qD.out);obtain ⟨x0,x1,x2,x3,x4,x5,x6,xz⟩:=dM p0;obtain ⟨y0,y1,y2,y3,y4,y5,yz⟩:=j0 p1;obtain ⟨u0,u1,u2,u3,u4,u5,u6,uz⟩:=dM p2;have v0:=p2.2.2 0 (by simp);have v1:=p2.2.2 1 (by simp);have v2:=p2.2.2 2 (by simp);have v3:=p2.2.2 3 (by simp);have v4:=p2.2.2 4 (by simp);have v5:=p2.2.2 5 (by simp);have v6:=p2.2.2 6 (by simp);clear p0 p1 p2;clear t0 t1 t2 t3 t4 tz;obtain ⟨t0,t1,t2,t3,t4,tz⟩:=rv RY5.out;clear a5 CB
 cases bb
 case true =>
  have xk:=gH (Zn.out (by simp) (by simp) (by simp) (by simp) (by simp) (by simp) (by simp));have CO:=gH (C3.out w5 qD.out);by_cases Vz:64≤c.af.length
  focus
   have Px:(64:Int)≤(c.af.length:Int):=by omega
   cases q
   ·go_wp2_with fail
    refine bodyPost_ret (results_cell_tmp (v:=.agg #[.int .i64 0,.int .i64 0,.slice none 0 0,.slice none 0 0,.slice none 0 0,.slice none 0 0,.slice none 0 0]) rfl _ rfl (dr (cO (HR.out.2.2.az qD.out) rfl _ _ _ _ _ _ _))) rfl ?_;rw [Ni.out (by simp) (by simp) (by simp) (by simp) (by simp) (by simp) (by simp) Vz (by simp)];exact iG ((dG _ _ _ _ _ _ _ _ _).aZ (br.out.trans qD.out) (fun g hg e=>by omega))
  rotate_left
  focus
   have Px:¬ (64:Int)≤(c.af.length:Int):=by omega
   cases q
   ·go_wp2_with fail
    refine CO.out.mono ?_;rintro e w7 ⟨hs,ht,hn,hm,hg,L,rfl,a7,ci⟩;obtain ⟨Bs,xP,ip⟩:=hs;obtain ⟨Bt,xQ,jo⟩:=ht;obtain ⟨Bn,xR,lZ⟩:=hn;obtain ⟨Bm,xS,l7⟩:=hm;obtain ⟨Bg,Kj,iL⟩:=hg;obtain rfl:Kj=c.af.length:=gm ci.kv;simp only [lq];obtain ⟨X,hX⟩:∃ V,V=w7.alloc (.cells #[.int .i64 c.aA,.int .i64 c.version,.slice Bs c.ai.ae.length ip,.slice Bt c.ai.tables.length jo,.slice Bn c.aj.names.length lZ,.slice Bm c.aj.members.length l7,.slice Bg c.af.length iL] 32):=⟨_,rfl⟩
    have aX:ag w7 X:=by rw [hX];exact (ag.refl _).alloc _
    have RB:=gH (show ap X w7.heap.size [.int .i64 c.aA,.int .i64 c.version,.slice Bs c.ai.ae.length ip,.slice Bt c.ai.tables.length jo,.slice Bn c.aj.names.length lZ,.slice Bm c.aj.members.length l7,.slice Bg c.af.length iL] by rw [hX];exact aO (ag.refl _));have CI:=gH (ci.az aX);have Jf:=gH (fun g' (h:iZ ⟨Bs,xP,ip⟩ ⟨Bt,xQ,jo⟩ ⟨Bn,xR,lZ⟩ ⟨Bm,xS,l7⟩ L g'∨g'∈(Hd.mk Bg c.af.length iL).blk)=>ci.lt h);have sA:=gH (qD.out.trans (a7.trans aX));have qg:=gH (show w.heap.size+1+1 < w5.heap.size∧w5.heap.size≤w7.heap.size∧w7.heap.size < X.heap.size from ⟨(HR.out.2.2.az qD.out).1,a7.size,RB.out.1⟩);have Ca:=Vx.out;have Jg:=TI.out.2;clear a7 ci aX CO t0 t1 t2 t3 t4 tz;have OX:=gH (show qf X w5.heap.size w7.heap.size c ⟨Bs,xP,ip⟩ ⟨Bt,xQ,jo⟩ ⟨Bn,xR,lZ⟩ ⟨Bm,xS,l7⟩ ⟨Bg,c.af.length,iL⟩ L from ⟨RB.out,CI.out,fun g' hg=>by have:=(Jf.out g' hg).2;omega⟩);have TK:=gH (Vy.out (by simp));have HT:=gH (xk.out (by first | (simp;done) | (simp;omega)));obtain ⟨V,hV⟩:∃ V,V=X.alloc (.cells #[.string g.aa,.string g.table,.int .i64 g.right,.string g.aC,.string g.to,.bool g.opt] 106):=⟨_,rfl⟩
    have aV:ag X V:=by rw [hV];exact (ag.refl X).alloc _
    have zX:X.heap.size=w7.heap.size+1:=by rw [hX];simp
    have zV:V.heap.size=X.heap.size+1:=by rw [hV];simp
    have oV:V.ownsRow w5.heap.size 106 6 (.slice Bg c.af.length iL) c.af.length (c.af.flatMap cC):=bu CI.out.kv aV
    have hlt:∀ g',(Value.slice Bg c.af.length iL).ownBlock=some g'→w5.heap.size≤g'∧g' < X.heap.size:=fun g' hg=>by have:=Jf.out g' (.inr (Hd.au.2 hg));have:=qg.out;omega
    have Py:=gH (Je Bg c.af.length iL ps w5.heap.size (w7.heap.size+1) (c.af.flatMap cC) g V oV Ca (eO td _) (by rw [hV,← zX];exact heap_alloc_new X _) (fun e=>by have:=(hlt _ e).2;omega) (by omega) (by have:=qg.out;omega))
    have n1:¬ fN (.slice Bg c.af.length iL) w7.heap.size:=fun h=>by have:=(Jf.out _ (.inr (Hd.au.2 h))).2;omega
    have n2:¬ fN (.slice Bg c.af.length iL) (w.heap.size+1):=fun h=>by have:=(hlt _ h).1;have:=qg.out;omega
    have e1:(bQ c.af ps g).length=c.af.length+1:=eI _ _ _ Ca
    have e2:(bQ c.af ps g).flatMap cC=(c.af.flatMap cC).take (ps*6)++[.string g.aa,.string g.table,.int .i64 g.right,.string g.aC,.string g.to,.bool g.opt]++(c.af.flatMap cC).drop (ps*6):=by
     unfold bQ;rw [List.flatMap_append,List.flatMap_append,fI (size:=6) (fun _=>rfl),iI (size:=6) (fun _=>rfl)];rfl
    have KE:=gH (show ∀ (A5:Option Addr) (n5 c5:Nat) (gM:World),gM.ownsRow w5.heap.size 106 6 (.slice A5 n5 c5) (c.af.length+1) ((c.af.flatMap cC).take (ps*6)++[.string g.aa,.string g.table,.int .i64 g.right,.string g.aC,.string g.to,.bool g.opt]++(c.af.flatMap cC).drop (ps*6))→Kb (fN (.slice Bg c.af.length iL)) V gM→(∀ g'∈(Hd.mk A5 n5 c5).blk,(Value.slice Bg c.af.length iL).ownBlock=some g'∨V.heap.size≤g') →
      ((gM.cell? ⟨w7.heap.size,6,none⟩=some (.slice Bg c.af.length iL)∧gM.frozen? ⟨w7.heap.size,6,none⟩=false∧w7.heap.size < gM.heap.size)∧((gM.setCell ⟨w7.heap.size,6,none⟩ (.slice A5 n5 c5)).cell? ⟨w7.heap.size,0,none⟩=some (.int .i64 c.aA)∧(gM.setCell ⟨w7.heap.size,6,none⟩ (.slice A5 n5 c5)).cell? ⟨w7.heap.size,1,none⟩=some (.int .i64 c.version)∧(gM.setCell ⟨w7.heap.size,6,none⟩ (.slice A5 n5 c5)).cell? ⟨w7.heap.size,2,none⟩=some (.slice Bs c.ai.ae.length ip)∧(gM.setCell ⟨w7.heap.size,6,none⟩ (.slice A5 n5 c5)).cell? ⟨w7.heap.size,3,none⟩=some (.slice Bt c.ai.tables.length jo)∧(gM.setCell ⟨w7.heap.size,6,none⟩ (.slice A5 n5 c5)).cell? ⟨w7.heap.size,4,none⟩=some (.slice Bn c.aj.names.length lZ)∧(gM.setCell ⟨w7.heap.size,6,none⟩ (.slice A5 n5 c5)).cell? ⟨w7.heap.size,5,none⟩=some (.slice Bm c.aj.members.length l7)∧(gM.setCell ⟨w7.heap.size,6,none⟩ (.slice A5 n5 c5)).cell? ⟨w7.heap.size,6,none⟩=some (.slice A5 n5 c5))∧((gM.setCell ⟨w7.heap.size,6,none⟩ (.slice A5 n5 c5)).cell? ⟨w.heap.size+1+1,0,none⟩=some (.int .i64 0)∧(gM.setCell ⟨w7.heap.size,6,none⟩ (.slice A5 n5 c5)).frozen? ⟨w.heap.size+1+1,0,none⟩=false∧(gM.setCell ⟨w7.heap.size,6,none⟩ (.slice A5 n5 c5)).cell? ⟨w.heap.size+1+1,1,none⟩=some (.int .i64 0)∧(gM.setCell ⟨w7.heap.size,6,none⟩ (.slice A5 n5 c5)).frozen? ⟨w.heap.size+1+1,1,none⟩=false∧(gM.setCell ⟨w7.heap.size,6,none⟩ (.slice A5 n5 c5)).cell? ⟨w.heap.size+1+1,2,none⟩=some (.slice none 0 0)∧(gM.setCell ⟨w7.heap.size,6,none⟩ (.slice A5 n5 c5)).frozen? ⟨w.heap.size+1+1,2,none⟩=false∧(gM.setCell ⟨w7.heap.size,6,none⟩ (.slice A5 n5 c5)).cell? ⟨w.heap.size+1+1,3,none⟩=some (.slice none 0 0)∧(gM.setCell ⟨w7.heap.size,6,none⟩ (.slice A5 n5 c5)).frozen? ⟨w.heap.size+1+1,3,none⟩=false∧(gM.setCell ⟨w7.heap.size,6,none⟩ (.slice A5 n5 c5)).cell? ⟨w.heap.size+1+1,4,none⟩=some (.slice none 0 0)∧(gM.setCell ⟨w7.heap.size,6,none⟩ (.slice A5 n5 c5)).frozen? ⟨w.heap.size+1+1,4,none⟩=false∧(gM.setCell ⟨w7.heap.size,6,none⟩ (.slice A5 n5 c5)).cell? ⟨w.heap.size+1+1,5,none⟩=some (.slice none 0 0)∧(gM.setCell ⟨w7.heap.size,6,none⟩ (.slice A5 n5 c5)).frozen? ⟨w.heap.size+1+1,5,none⟩=false∧(gM.setCell ⟨w7.heap.size,6,none⟩ (.slice A5 n5 c5)).cell? ⟨w.heap.size+1+1,6,none⟩=some (.slice none 0 0)∧(gM.setCell ⟨w7.heap.size,6,none⟩ (.slice A5 n5 c5)).frozen? ⟨w.heap.size+1+1,6,none⟩=false)∧w.heap.size+1+1 < (gM.setCell ⟨w7.heap.size,6,none⟩ (.slice A5 n5 c5)).heap.size∧w7.heap.size < (gM.setCell ⟨w7.heap.size,6,none⟩ (.slice A5 n5 c5)).heap.size ∧
       Hid (n5=c.af.length+1∧∃ Y,Y=gM.setCell ⟨w7.heap.size,6,none⟩ (.slice A5 n5 c5)∧ap Y (w.heap.size+1+1) [.int .i64 0,.int .i64 0,.slice none 0 0,.slice none 0 0,.slice none 0 0,.slice none 0 0,.slice none 0 0]∧qf Y w5.heap.size w7.heap.size { c with af:=bQ c.af ps g } ⟨Bs,xP,ip⟩ ⟨Bt,xQ,jo⟩ ⟨Bn,xR,lZ⟩ ⟨Bm,xS,l7⟩ ⟨A5,n5,c5⟩ L∧ag w Y)) from fun A5 n5 c5 gM o5 Cg nW=>by
     obtain rfl:n5=c.af.length+1:=gm (h:=⟨A5,n5,c5⟩) o5;have kX:=(Kb.aH (P:=fN (.slice Bg c.af.length iL)) aV).trans Cg
     have nP:∀ g',iZ ⟨Bs,xP,ip⟩ ⟨Bt,xQ,jo⟩ ⟨Bn,xR,lZ⟩ ⟨Bm,xS,l7⟩ L g'→¬ fN (.slice Bg c.af.length iL) g':=fun g' h1 h2=>by
      rcases h1 with h1 | h1
      ·exact (CI.out.mU g' h1).2 (Hd.au.2 h2)
      ·exact CI.out.th g' h1 (Hd.au.2 h2)
     have OY:=OX.out.store (h:=⟨A5,c.af.length+1,c5⟩) (l:=bQ c.af ps g) kX n1 nP (by rw [e1,e2];exact o5) (fun g' hg=>by
      rcases nW g' hg with h | h
      ·exact .inl (Hd.au.2 h)
      ·exact .inr (by omega))
     rw [e1] at OY;have k6:=Kb.set gM w7.heap.size 6 (.slice A5 (c.af.length+1) c5);have UX:=kX.row (HR.out.2.2.az sA.out) (fun h=>by have:=(hlt _ h).1;have:=qg.out;omega);have UY:=k6.row UX (by have:=qg.out;omega);have q6:=kX.row RB.out n1;have AY:=k6.aZ (kX.aZ (br.out.trans sA.out) (fun k hk e=>by have:=(hlt _ e).1;have:=qg.out;omega)) (fun k hk e=>by have e:k=_:=e;have:=qg.out;omega)
     have o7:ap (gM.setCell ⟨w7.heap.size,6,none⟩ (.slice A5 (c.af.length+1) c5)) w7.heap.size [.int .i64 c.aA,.int .i64 c.version,.slice Bs c.ai.ae.length ip,.slice Bt c.ai.tables.length jo,.slice Bn c.aj.names.length lZ,.slice Bm c.aj.members.length l7,.slice A5 (c.af.length+1) c5]:=by
      have:=OY.row;simp only [zF,e1] at this;exact this
     exact ⟨⟨q6.cell (j:=6) rfl,q6.2.2 6 (by simp),q6.1⟩,⟨o7.cell (j:=0) rfl,o7.cell (j:=1) rfl,o7.cell (j:=2) rfl,o7.cell (j:=3) rfl,o7.cell (j:=4) rfl,o7.cell (j:=5) rfl,o7.cell (j:=6) rfl⟩,⟨UY.cell (j:=0) rfl,UY.2.2 0 (by simp),UY.cell (j:=1) rfl,UY.2.2 1 (by simp),UY.cell (j:=2) rfl,UY.2.2 2 (by simp),UY.cell (j:=3) rfl,UY.2.2 3 (by simp),UY.cell (j:=4) rfl,UY.2.2 4 (by simp),UY.cell (j:=5) rfl,UY.2.2 5 (by simp),UY.cell (j:=6) rfl,UY.2.2 6 (by simp)⟩,UY.1,o7.1,gH ⟨rfl,_,rfl,UY,OY,AY⟩⟩)
    have Fz:=gH hV;have Xj:=gH (show (laid c.af g).length=c.af.length+1 from by rw [TK.out];exact e1);have p1:=HR.out.2.1.az sA.out;clear x0 x1 x2 x3 x4 x5 x6 xz y0 y1 y2 y3 y4 y5 yz u0 u1 u2 u3 u4 u5 u6 uz v0 v1 v2 v3 v4 v5 v6;obtain ⟨y0,y1,y2,y3,y4,y5,yz⟩:=j0 p1;have x6:=RB.out.cell (j:=6) rfl;have xz:=RB.out.1
    have ne9:¬ w.heap.size+1+1=w7.heap.size:=by have:=qg.out;omega
    have ne8:¬ w7.heap.size=w.heap.size+1+1:=by omega
    rw [hX] at x6 xz y0 y1 y2 y3 y4 y5 yz;clear p1 aV zX zV oV hlt hV e1 e2 xk;go_wp2_with fail;rw [← hX];rw [← Fz.out];refine Py.out.mono ?_;rintro e gM ⟨⟨A5,n5,c5⟩,rfl,o5,Cg,nW⟩;obtain ⟨⟨s6,sf,sz⟩,⟨q0,q1,q2,q3,q4,q5,q6⟩,⟨u0,v0,u1,v1,u2,v2,u3,v3,u4,v4,u5,v5,u6,v6⟩,uz,qz,HE⟩:=KE.out A5 n5 c5 gM o5 Cg nW;clear o5 Cg nW x6 xz y0 y1 y2 y3 y4 y5 yz;simp only [Hd.v];go_wp2_with fail
    (try simp only [Exit.inBlock,Exit.then])
    obtain ⟨rfl,Y,hY,UY,OY,AY⟩:=HE.out;rw [← hY];have xg:=OY.done UY rfl AY (by have:=qg.out;omega) (by have:=qg.out;omega);rw [← TK.out] at xg;refine bodyPost_ret (results_cell_tmp (v:=.agg #[.int .i64 c.aA,.int .i64 c.version,.slice Bs c.ai.ae.length ip,.slice Bt c.ai.tables.length jo,.slice Bn c.aj.names.length lZ,.slice Bm c.aj.members.length l7,.slice A5 (c.af.length+1) c5]) rfl _ rfl (dr (cO UY rfl _ _ _ _ _ _ _))) rfl ?_;rw [HT.out];simp only [zF,Xj.out] at xg;exact xg.2
  rotate_left
  all_goals
   ·go_wp2_with fail
    refine CO.out.mono ?_;rintro e w7 ⟨hs,ht,hn,hm,hg,L,rfl,a7,ci⟩;obtain ⟨Bs,xP,ip⟩:=hs;obtain ⟨Bt,xQ,jo⟩:=ht;obtain ⟨Bn,xR,lZ⟩:=hn;obtain ⟨Bm,xS,l7⟩:=hm;obtain ⟨Bg,Kj,iL⟩:=hg;obtain rfl:Kj=c.af.length:=gm ci.kv;simp only [lq];obtain ⟨X,hX⟩:∃ V,V=w7.alloc (.cells #[.int .i64 c.aA,.int .i64 c.version,.slice Bs c.ai.ae.length ip,.slice Bt c.ai.tables.length jo,.slice Bn c.aj.names.length lZ,.slice Bm c.aj.members.length l7,.slice Bg c.af.length iL] 32):=⟨_,rfl⟩
    have aX:ag w7 X:=by rw [hX];exact (ag.refl _).alloc _
    have RB:=gH (show ap X w7.heap.size [.int .i64 c.aA,.int .i64 c.version,.slice Bs c.ai.ae.length ip,.slice Bt c.ai.tables.length jo,.slice Bn c.aj.names.length lZ,.slice Bm c.aj.members.length l7,.slice Bg c.af.length iL] by rw [hX];exact aO (ag.refl _));have CI:=gH (ci.az aX);have Jf:=gH (fun g' (h:iZ ⟨Bs,xP,ip⟩ ⟨Bt,xQ,jo⟩ ⟨Bn,xR,lZ⟩ ⟨Bm,xS,l7⟩ L g'∨g'∈(Hd.mk Bg c.af.length iL).blk)=>ci.lt h);have sA:=gH (qD.out.trans (a7.trans aX));have qg:=gH (show w.heap.size+1+1 < w5.heap.size∧w5.heap.size≤w7.heap.size∧w7.heap.size < X.heap.size from ⟨(HR.out.2.2.az qD.out).1,a7.size,RB.out.1⟩);have Ca:=Vx.out;have Jg:=TI.out.2;clear a7 ci aX CO t0 t1 t2 t3 t4 tz;obtain ⟨hl,Ih⟩:=Q3.out (by simp);obtain ⟨gg,cap,hv,se,mo,hrow⟩:=aR CI.out.kv (by omega);simp only [Hd.v,Value.slice.injEq,true_and] at hv;obtain ⟨rfl,rfl⟩:=hv;obtain ⟨y,hy⟩:∃ y,c.af[ps]=y:=⟨_,rfl⟩;rw [hy] at Ih;obtain ⟨oy,Pz⟩:∃ b,y.opt=b:=⟨_,rfl⟩;obtain ⟨og,PA⟩:∃ b,g.opt=b:=⟨_,rfl⟩
    have ot:X.cell? ⟨gg,ps*6+5,none⟩=some (.bool oy):=by
     have:=mI (f:=cC) (h:=⟨some ⟨gg,0,none⟩,c.af.length,iL⟩) CI.out.kv (fun _=>rfl) rfl hl (j:=5) (by decide);rw [this,hy,← Pz];rfl
    have Xk:X.frozen? ⟨gg,ps*6+5,none⟩=false:=hrow.2.2 _ (by rw [ce (f:=cC) (size:=6) (fun _=>rfl)];omega);have nR:=(Jf.out gg (.inr (Hd.au.2 rfl)));have gz:=hrow.1;obtain ⟨Y,hY⟩:∃ V,V=((w7.setCell ⟨gg,ps*6+5,none⟩ (.bool (oy || og))).alloc (.cells #[.int .i64 c.aA,.int .i64 c.version,.slice Bs c.ai.ae.length ip,.slice Bt c.ai.tables.length jo,.slice Bn c.aj.names.length lZ,.slice Bm c.aj.members.length l7,.slice (some ⟨gg,0,none⟩) c.af.length iL] 32)).drew:=⟨_,rfl⟩
    have eY:Y=(X.setCell ⟨gg,ps*6+5,none⟩ (.bool (oy || og))).drew:=by rw [hY,hX,World.setCell_alloc_past _ _ _ _ nR.2]
    have kY:Kb (fun g=>g=gg) X Y:=by rw [eY];exact (Kb.set _ _ _ _).trans (Kb.aH (ag.refl _).drew)
    have Di:gg∈(Hd.mk (some ⟨gg,0,none⟩) c.af.length iL).blk:=Hd.au.2 rfl
    have oY:Y.ownsRow w5.heap.size 106 6 (Hd.mk (some ⟨gg,0,none⟩) c.af.length iL).v (laid c.af g).length ((laid c.af g).flatMap cC):=by
     rw [eY,Ih,List.length_set,← dm (f:=cC) (size:=6) (fun _=>rfl) c.af ps 5 hl (by decide) (.bool (oy || og)) _ (by rw [hy,← Pz,← PA];rfl)];exact bu (fB CI.out.kv rfl _ _) (ag.refl _).drew
    have TL:=gH (CI.out.Fp (gl:=⟨some ⟨gg,0,none⟩,c.af.length,iL⟩) (l:=laid c.af g) kY (fun g' h1 e=>by
     have e:g'=gg:=e
     rcases h1 with h1 | h1
     ·exact (CI.out.mU g' h1).2 (e▸Di)
     ·exact CI.out.th g' h1 (e▸Di)) oY (fun g' h1=>.inl h1))
    have LN:=gH (show (laid c.af g).length=c.af.length by rw [Ih,List.length_set]);have TM:=kY.row RB.out (by omega);have uH:=kY.row (HR.out.2.2.az sA.out) (by have:=qg.out;omega);have Xl:=gH uH;have PB:=gH (kY.aZ (br.out.trans sA.out) (fun k hk e=>by have e:k=_:=e;have:=qg.out;omega));have HT:=gH (xk.out (by simp));clear x0 x1 x2 x3 x4 x5 x6 xz y0 y1 y2 y3 y4 y5 yz u0 u1 u2 u3 u4 u5 u6 uz v0 v1 v2 v3 v4 v5 v6;have p1:=HR.out.2.1.az sA.out;have y5:=p1.cell (j:=5) rfl;have yz:=p1.1;rw [PA] at y5;have z6:=RB.out.cell (j:=6) rfl;have zz:=RB.out.1;obtain ⟨q0,q1,q2,q3,q4,q5,q6,qz⟩:=dM TM;obtain ⟨u0,u1,u2,u3,u4,u5,u6,uz⟩:=dM uH;have v0:=uH.2.2 0 (by simp);have v1:=uH.2.2 1 (by simp);have v2:=uH.2.2 2 (by simp);have v3:=uH.2.2 3 (by simp);have v4:=uH.2.2 4 (by simp);have v5:=uH.2.2 5 (by simp);have v6:=uH.2.2 6 (by simp);rw [hY] at q0 q1 q2 q3 q4 q5 q6 qz u0 u1 u2 u3 u4 u5 u6 uz v0 v1 v2 v3 v4 v5 v6;rw [hX] at z6 zz ot Xk gz y5 yz;clear p1 kY eY Di oY TM uH Pz PA Ih hy hrow mo Q3 Vy xk
    cases oy<;>cases og
    all_goals
     (try simp only [Bool.or_true,Bool.or_false,Bool.true_or,Bool.false_or,Bool.or_self] at q0 q1 q2 q3 q4 q5 q6 qz u0 u1 u2 u3 u4 u5 u6 uz v0 v1 v2 v3 v4 v5 v6 hY)
     go_wp2_with fail
     go_region
     all_goals
      go_wp2_with fail
      (try simp only [Exit.inBlock,Exit.then])
      (try simp only [Bool.or_true,Bool.or_false,Bool.true_or,Bool.false_or] at hY)
      (first | rw [← hY] | rw [vS,← hY])
      refine bodyPost_ret (results_cell_tmp (v:=.agg #[.int .i64 c.aA,.int .i64 c.version,.slice Bs c.ai.ae.length ip,.slice Bt c.ai.tables.length jo,.slice Bn c.aj.names.length lZ,.slice Bm c.aj.members.length l7,.slice (some ⟨gg,0,none⟩) c.af.length iL]) rfl _ rfl (dr (cO Xl.out rfl _ _ _ _ _ _ _))) rfl ?_;have kF:=dG Y (w.heap.size+1+1) (.int .i64 c.aA) (.int .i64 c.version) (.slice Bs c.ai.ae.length ip) (.slice Bt c.ai.tables.length jo) (.slice Bn c.aj.names.length lZ) (.slice Bm c.aj.members.length l7) (.slice (some ⟨gg,0,none⟩) c.af.length iL);rw [HT.out];obtain ⟨s1,s2,s3⟩:=qg.out
      refine ⟨⟨Bs,xP,ip⟩,⟨Bt,xQ,jo⟩,⟨Bn,xR,lZ⟩,⟨Bm,xS,l7⟩,⟨some ⟨gg,0,none⟩,c.af.length,iL⟩,L,by rw [zn,LN.out];rfl,kF.aZ PB.out (fun k hk e=>by have e:k=_:=e;omega),(TL.out.kb kF (fun g' h1 e=>by
       have e:g'=w.heap.size+1+1:=e;have:=(TL.out.lt h1).1
       omega)).down (by omega)⟩
 go_wp2_with fail;refine (CG.out w5 Xi.out).mono ?_;rintro e w6 ⟨rfl,a6⟩;have nX:=gH (qD.out.trans a6);clear x0 x1 x2 x3 x4 x5 x6 xz y0 y1 y2 y3 y4 y5 yz u0 u1 u2 u3 u4 u5 u6 uz v0 v1 v2 v3 v4 v5 v6;have p0:=HR.out.1.az (nX.out);have p1:=HR.out.2.1.az (nX.out);have p2:=HR.out.2.2.az (nX.out);obtain ⟨x0,x1,x2,x3,x4,x5,x6,xz⟩:=dM p0;obtain ⟨y0,y1,y2,y3,y4,y5,yz⟩:=j0 p1;obtain ⟨u0,u1,u2,u3,u4,u5,u6,uz⟩:=dM p2;have v0:=p2.2.2 0 (by simp);have v1:=p2.2.2 1 (by simp);have v2:=p2.2.2 2 (by simp);have v3:=p2.2.2 3 (by simp);have v4:=p2.2.2 4 (by simp);have v5:=p2.2.2 5 (by simp);have v6:=p2.2.2 6 (by simp);clear p0 p1 p2;clear a6
 cases gb
 case false =>
  go_wp2_with fail;refine bodyPost_ret (results_cell_tmp (v:=.agg #[.int .i64 0,.int .i64 0,.slice none 0 0,.slice none 0 0,.slice none 0 0,.slice none 0 0,.slice none 0 0]) rfl _ rfl (dr (cO (HR.out.2.2.az nX.out) rfl _ _ _ _ _ _ _))) rfl ?_;rw [Xf.out (by simp) (by simp) (by simp) (by simp) (by simp) (by simp) (by simp)];exact iG ((dG _ _ _ _ _ _ _ _ _).aZ (br.out.trans nX.out) (fun g hg e=>by omega))
 have xk:=gH (Zn.out (by simp) (by simp) (by simp) (by simp) (by simp) (by simp) (by simp));have CO:=gH (C3.out w6 nX.out);by_cases Vz:64≤c.af.length
 focus
  have Px:(64:Int)≤(c.af.length:Int):=by omega
  cases q
  ·go_wp2_with fail
   refine bodyPost_ret (results_cell_tmp (v:=.agg #[.int .i64 0,.int .i64 0,.slice none 0 0,.slice none 0 0,.slice none 0 0,.slice none 0 0,.slice none 0 0]) rfl _ rfl (dr (cO (HR.out.2.2.az nX.out) rfl _ _ _ _ _ _ _))) rfl ?_;rw [Ni.out (by simp) (by simp) (by simp) (by simp) (by simp) (by simp) (by simp) Vz (by simp)];exact iG ((dG _ _ _ _ _ _ _ _ _).aZ (br.out.trans nX.out) (fun g hg e=>by omega))
 rotate_left
 focus
  have Px:¬ (64:Int)≤(c.af.length:Int):=by omega
  cases q
  ·go_wp2_with fail
   refine CO.out.mono ?_;rintro e w7 ⟨hs,ht,hn,hm,hg,L,rfl,a7,ci⟩;obtain ⟨Bs,xP,ip⟩:=hs;obtain ⟨Bt,xQ,jo⟩:=ht;obtain ⟨Bn,xR,lZ⟩:=hn;obtain ⟨Bm,xS,l7⟩:=hm;obtain ⟨Bg,Kj,iL⟩:=hg;obtain rfl:Kj=c.af.length:=gm ci.kv;simp only [lq];obtain ⟨X,hX⟩:∃ V,V=w7.alloc (.cells #[.int .i64 c.aA,.int .i64 c.version,.slice Bs c.ai.ae.length ip,.slice Bt c.ai.tables.length jo,.slice Bn c.aj.names.length lZ,.slice Bm c.aj.members.length l7,.slice Bg c.af.length iL] 32):=⟨_,rfl⟩
   have aX:ag w7 X:=by rw [hX];exact (ag.refl _).alloc _
   have RB:=gH (show ap X w7.heap.size [.int .i64 c.aA,.int .i64 c.version,.slice Bs c.ai.ae.length ip,.slice Bt c.ai.tables.length jo,.slice Bn c.aj.names.length lZ,.slice Bm c.aj.members.length l7,.slice Bg c.af.length iL] by rw [hX];exact aO (ag.refl _));have CI:=gH (ci.az aX);have Jf:=gH (fun g' (h:iZ ⟨Bs,xP,ip⟩ ⟨Bt,xQ,jo⟩ ⟨Bn,xR,lZ⟩ ⟨Bm,xS,l7⟩ L g'∨g'∈(Hd.mk Bg c.af.length iL).blk)=>ci.lt h);have sA:=gH (nX.out.trans (a7.trans aX));have qg:=gH (show w.heap.size+1+1 < w6.heap.size∧w6.heap.size≤w7.heap.size∧w7.heap.size < X.heap.size from ⟨(HR.out.2.2.az nX.out).1,a7.size,RB.out.1⟩);have Ca:=Vx.out;have Jg:=TI.out.2;clear a7 ci aX CO t0 t1 t2 t3 t4 tz;have OX:=gH (show qf X w6.heap.size w7.heap.size c ⟨Bs,xP,ip⟩ ⟨Bt,xQ,jo⟩ ⟨Bn,xR,lZ⟩ ⟨Bm,xS,l7⟩ ⟨Bg,c.af.length,iL⟩ L from ⟨RB.out,CI.out,fun g' hg=>by have:=(Jf.out g' hg).2;omega⟩);have TK:=gH (Vy.out (by simp));have HT:=gH (xk.out (by first | (simp;done) | (simp;omega)));obtain ⟨V,hV⟩:∃ V,V=X.alloc (.cells #[.string g.aa,.string g.table,.int .i64 g.right,.string g.aC,.string g.to,.bool g.opt] 106):=⟨_,rfl⟩
   have aV:ag X V:=by rw [hV];exact (ag.refl X).alloc _
   have zX:X.heap.size=w7.heap.size+1:=by rw [hX];simp
   have zV:V.heap.size=X.heap.size+1:=by rw [hV];simp
   have oV:V.ownsRow w6.heap.size 106 6 (.slice Bg c.af.length iL) c.af.length (c.af.flatMap cC):=bu CI.out.kv aV
   have hlt:∀ g',(Value.slice Bg c.af.length iL).ownBlock=some g'→w6.heap.size≤g'∧g' < X.heap.size:=fun g' hg=>by have:=Jf.out g' (.inr (Hd.au.2 hg));have:=qg.out;omega
   have Py:=gH (Je Bg c.af.length iL ps w6.heap.size (w7.heap.size+1) (c.af.flatMap cC) g V oV Ca (eO td _) (by rw [hV,← zX];exact heap_alloc_new X _) (fun e=>by have:=(hlt _ e).2;omega) (by omega) (by have:=qg.out;omega))
   have n1:¬ fN (.slice Bg c.af.length iL) w7.heap.size:=fun h=>by have:=(Jf.out _ (.inr (Hd.au.2 h))).2;omega
   have n2:¬ fN (.slice Bg c.af.length iL) (w.heap.size+1):=fun h=>by have:=(hlt _ h).1;have:=qg.out;omega
   have e1:(bQ c.af ps g).length=c.af.length+1:=eI _ _ _ Ca
   have e2:(bQ c.af ps g).flatMap cC=(c.af.flatMap cC).take (ps*6)++[.string g.aa,.string g.table,.int .i64 g.right,.string g.aC,.string g.to,.bool g.opt]++(c.af.flatMap cC).drop (ps*6):=by
    unfold bQ;rw [List.flatMap_append,List.flatMap_append,fI (size:=6) (fun _=>rfl),iI (size:=6) (fun _=>rfl)];rfl
   have KE:=gH (show ∀ (A5:Option Addr) (n5 c5:Nat) (gM:World),gM.ownsRow w6.heap.size 106 6 (.slice A5 n5 c5) (c.af.length+1) ((c.af.flatMap cC).take (ps*6)++[.string g.aa,.string g.table,.int .i64 g.right,.string g.aC,.string g.to,.bool g.opt]++(c.af.flatMap cC).drop (ps*6))→Kb (fN (.slice Bg c.af.length iL)) V gM→(∀ g'∈(Hd.mk A5 n5 c5).blk,(Value.slice Bg c.af.length iL).ownBlock=some g'∨V.heap.size≤g') →
     ((gM.cell? ⟨w7.heap.size,6,none⟩=some (.slice Bg c.af.length iL)∧gM.frozen? ⟨w7.heap.size,6,none⟩=false∧w7.heap.size < gM.heap.size)∧((gM.setCell ⟨w7.heap.size,6,none⟩ (.slice A5 n5 c5)).cell? ⟨w7.heap.size,0,none⟩=some (.int .i64 c.aA)∧(gM.setCell ⟨w7.heap.size,6,none⟩ (.slice A5 n5 c5)).cell? ⟨w7.heap.size,1,none⟩=some (.int .i64 c.version)∧(gM.setCell ⟨w7.heap.size,6,none⟩ (.slice A5 n5 c5)).cell? ⟨w7.heap.size,2,none⟩=some (.slice Bs c.ai.ae.length ip)∧(gM.setCell ⟨w7.heap.size,6,none⟩ (.slice A5 n5 c5)).cell? ⟨w7.heap.size,3,none⟩=some (.slice Bt c.ai.tables.length jo)∧(gM.setCell ⟨w7.heap.size,6,none⟩ (.slice A5 n5 c5)).cell? ⟨w7.heap.size,4,none⟩=some (.slice Bn c.aj.names.length lZ)∧(gM.setCell ⟨w7.heap.size,6,none⟩ (.slice A5 n5 c5)).cell? ⟨w7.heap.size,5,none⟩=some (.slice Bm c.aj.members.length l7)∧(gM.setCell ⟨w7.heap.size,6,none⟩ (.slice A5 n5 c5)).cell? ⟨w7.heap.size,6,none⟩=some (.slice A5 n5 c5))∧((gM.setCell ⟨w7.heap.size,6,none⟩ (.slice A5 n5 c5)).cell? ⟨w.heap.size+1+1,0,none⟩=some (.int .i64 0)∧(gM.setCell ⟨w7.heap.size,6,none⟩ (.slice A5 n5 c5)).frozen? ⟨w.heap.size+1+1,0,none⟩=false∧(gM.setCell ⟨w7.heap.size,6,none⟩ (.slice A5 n5 c5)).cell? ⟨w.heap.size+1+1,1,none⟩=some (.int .i64 0)∧(gM.setCell ⟨w7.heap.size,6,none⟩ (.slice A5 n5 c5)).frozen? ⟨w.heap.size+1+1,1,none⟩=false∧(gM.setCell ⟨w7.heap.size,6,none⟩ (.slice A5 n5 c5)).cell? ⟨w.heap.size+1+1,2,none⟩=some (.slice none 0 0)∧(gM.setCell ⟨w7.heap.size,6,none⟩ (.slice A5 n5 c5)).frozen? ⟨w.heap.size+1+1,2,none⟩=false∧(gM.setCell ⟨w7.heap.size,6,none⟩ (.slice A5 n5 c5)).cell? ⟨w.heap.size+1+1,3,none⟩=some (.slice none 0 0)∧(gM.setCell ⟨w7.heap.size,6,none⟩ (.slice A5 n5 c5)).frozen? ⟨w.heap.size+1+1,3,none⟩=false∧(gM.setCell ⟨w7.heap.size,6,none⟩ (.slice A5 n5 c5)).cell? ⟨w.heap.size+1+1,4,none⟩=some (.slice none 0 0)∧(gM.setCell ⟨w7.heap.size,6,none⟩ (.slice A5 n5 c5)).frozen? ⟨w.heap.size+1+1,4,none⟩=false∧(gM.setCell ⟨w7.heap.size,6,none⟩ (.slice A5 n5 c5)).cell? ⟨w.heap.size+1+1,5,none⟩=some (.slice none 0 0)∧(gM.setCell ⟨w7.heap.size,6,none⟩ (.slice A5 n5 c5)).frozen? ⟨w.heap.size+1+1,5,none⟩=false∧(gM.setCell ⟨w7.heap.size,6,none⟩ (.slice A5 n5 c5)).cell? ⟨w.heap.size+1+1,6,none⟩=some (.slice none 0 0)∧(gM.setCell ⟨w7.heap.size,6,none⟩ (.slice A5 n5 c5)).frozen? ⟨w.heap.size+1+1,6,none⟩=false)∧w.heap.size+1+1 < (gM.setCell ⟨w7.heap.size,6,none⟩ (.slice A5 n5 c5)).heap.size∧w7.heap.size < (gM.setCell ⟨w7.heap.size,6,none⟩ (.slice A5 n5 c5)).heap.size ∧
      Hid (n5=c.af.length+1∧∃ Y,Y=gM.setCell ⟨w7.heap.size,6,none⟩ (.slice A5 n5 c5)∧ap Y (w.heap.size+1+1) [.int .i64 0,.int .i64 0,.slice none 0 0,.slice none 0 0,.slice none 0 0,.slice none 0 0,.slice none 0 0]∧qf Y w6.heap.size w7.heap.size { c with af:=bQ c.af ps g } ⟨Bs,xP,ip⟩ ⟨Bt,xQ,jo⟩ ⟨Bn,xR,lZ⟩ ⟨Bm,xS,l7⟩ ⟨A5,n5,c5⟩ L∧ag w Y)) from fun A5 n5 c5 gM o5 Cg nW=>by
    obtain rfl:n5=c.af.length+1:=gm (h:=⟨A5,n5,c5⟩) o5;have kX:=(Kb.aH (P:=fN (.slice Bg c.af.length iL)) aV).trans Cg
    have nP:∀ g',iZ ⟨Bs,xP,ip⟩ ⟨Bt,xQ,jo⟩ ⟨Bn,xR,lZ⟩ ⟨Bm,xS,l7⟩ L g'→¬ fN (.slice Bg c.af.length iL) g':=fun g' h1 h2=>by
     rcases h1 with h1 | h1
     ·exact (CI.out.mU g' h1).2 (Hd.au.2 h2)
     ·exact CI.out.th g' h1 (Hd.au.2 h2)
    have OY:=OX.out.store (h:=⟨A5,c.af.length+1,c5⟩) (l:=bQ c.af ps g) kX n1 nP (by rw [e1,e2];exact o5) (fun g' hg=>by
     rcases nW g' hg with h | h
     ·exact .inl (Hd.au.2 h)
     ·exact .inr (by omega))
    rw [e1] at OY;have k6:=Kb.set gM w7.heap.size 6 (.slice A5 (c.af.length+1) c5);have UX:=kX.row (HR.out.2.2.az sA.out) (fun h=>by have:=(hlt _ h).1;have:=qg.out;omega);have UY:=k6.row UX (by have:=qg.out;omega);have q6:=kX.row RB.out n1;have AY:=k6.aZ (kX.aZ (br.out.trans sA.out) (fun k hk e=>by have:=(hlt _ e).1;have:=qg.out;omega)) (fun k hk e=>by have e:k=_:=e;have:=qg.out;omega)
    have o7:ap (gM.setCell ⟨w7.heap.size,6,none⟩ (.slice A5 (c.af.length+1) c5)) w7.heap.size [.int .i64 c.aA,.int .i64 c.version,.slice Bs c.ai.ae.length ip,.slice Bt c.ai.tables.length jo,.slice Bn c.aj.names.length lZ,.slice Bm c.aj.members.length l7,.slice A5 (c.af.length+1) c5]:=by
     have:=OY.row;simp only [zF,e1] at this;exact this
    exact ⟨⟨q6.cell (j:=6) rfl,q6.2.2 6 (by simp),q6.1⟩,⟨o7.cell (j:=0) rfl,o7.cell (j:=1) rfl,o7.cell (j:=2) rfl,o7.cell (j:=3) rfl,o7.cell (j:=4) rfl,o7.cell (j:=5) rfl,o7.cell (j:=6) rfl⟩,⟨UY.cell (j:=0) rfl,UY.2.2 0 (by simp),UY.cell (j:=1) rfl,UY.2.2 1 (by simp),UY.cell (j:=2) rfl,UY.2.2 2 (by simp),UY.cell (j:=3) rfl,UY.2.2 3 (by simp),UY.cell (j:=4) rfl,UY.2.2 4 (by simp),UY.cell (j:=5) rfl,UY.2.2 5 (by simp),UY.cell (j:=6) rfl,UY.2.2 6 (by simp)⟩,UY.1,o7.1,gH ⟨rfl,_,rfl,UY,OY,AY⟩⟩)
   have Fz:=gH hV;have Xj:=gH (show (laid c.af g).length=c.af.length+1 from by rw [TK.out];exact e1);have p1:=HR.out.2.1.az sA.out;clear x0 x1 x2 x3 x4 x5 x6 xz y0 y1 y2 y3 y4 y5 yz u0 u1 u2 u3 u4 u5 u6 uz v0 v1 v2 v3 v4 v5 v6;obtain ⟨y0,y1,y2,y3,y4,y5,yz⟩:=j0 p1;have x6:=RB.out.cell (j:=6) rfl;have xz:=RB.out.1
   have ne9:¬ w.heap.size+1+1=w7.heap.size:=by have:=qg.out;omega
   have ne8:¬ w7.heap.size=w.heap.size+1+1:=by omega
   rw [hX] at x6 xz y0 y1 y2 y3 y4 y5 yz;clear p1 aV zX zV oV hlt hV e1 e2 xk;go_wp2_with fail;rw [← hX];rw [← Fz.out];refine Py.out.mono ?_;rintro e gM ⟨⟨A5,n5,c5⟩,rfl,o5,Cg,nW⟩;obtain ⟨⟨s6,sf,sz⟩,⟨q0,q1,q2,q3,q4,q5,q6⟩,⟨u0,v0,u1,v1,u2,v2,u3,v3,u4,v4,u5,v5,u6,v6⟩,uz,qz,HE⟩:=KE.out A5 n5 c5 gM o5 Cg nW;clear o5 Cg nW x6 xz y0 y1 y2 y3 y4 y5 yz;simp only [Hd.v];go_wp2_with fail
   (try simp only [Exit.inBlock,Exit.then])
   obtain ⟨rfl,Y,hY,UY,OY,AY⟩:=HE.out;rw [← hY];have xg:=OY.done UY rfl AY (by have:=qg.out;omega) (by have:=qg.out;omega);rw [← TK.out] at xg;refine bodyPost_ret (results_cell_tmp (v:=.agg #[.int .i64 c.aA,.int .i64 c.version,.slice Bs c.ai.ae.length ip,.slice Bt c.ai.tables.length jo,.slice Bn c.aj.names.length lZ,.slice Bm c.aj.members.length l7,.slice A5 (c.af.length+1) c5]) rfl _ rfl (dr (cO UY rfl _ _ _ _ _ _ _))) rfl ?_;rw [HT.out];simp only [zF,Xj.out] at xg;exact xg.2
 rotate_left
 all_goals
  ·go_wp2_with fail
   refine CO.out.mono ?_;rintro e w7 ⟨hs,ht,hn,hm,hg,L,rfl,a7,ci⟩;obtain ⟨Bs,xP,ip⟩:=hs;obtain ⟨Bt,xQ,jo⟩:=ht;obtain ⟨Bn,xR,lZ⟩:=hn;obtain ⟨Bm,xS,l7⟩:=hm;obtain ⟨Bg,Kj,iL⟩:=hg;obtain rfl:Kj=c.af.length:=gm ci.kv;simp only [lq];obtain ⟨X,hX⟩:∃ V,V=w7.alloc (.cells #[.int .i64 c.aA,.int .i64 c.version,.slice Bs c.ai.ae.length ip,.slice Bt c.ai.tables.length jo,.slice Bn c.aj.names.length lZ,.slice Bm c.aj.members.length l7,.slice Bg c.af.length iL] 32):=⟨_,rfl⟩
   have aX:ag w7 X:=by rw [hX];exact (ag.refl _).alloc _
   have RB:=gH (show ap X w7.heap.size [.int .i64 c.aA,.int .i64 c.version,.slice Bs c.ai.ae.length ip,.slice Bt c.ai.tables.length jo,.slice Bn c.aj.names.length lZ,.slice Bm c.aj.members.length l7,.slice Bg c.af.length iL] by rw [hX];exact aO (ag.refl _));have CI:=gH (ci.az aX);have Jf:=gH (fun g' (h:iZ ⟨Bs,xP,ip⟩ ⟨Bt,xQ,jo⟩ ⟨Bn,xR,lZ⟩ ⟨Bm,xS,l7⟩ L g'∨g'∈(Hd.mk Bg c.af.length iL).blk)=>ci.lt h);have sA:=gH (nX.out.trans (a7.trans aX));have qg:=gH (show w.heap.size+1+1 < w6.heap.size∧w6.heap.size≤w7.heap.size∧w7.heap.size < X.heap.size from ⟨(HR.out.2.2.az nX.out).1,a7.size,RB.out.1⟩);have Ca:=Vx.out;have Jg:=TI.out.2;clear a7 ci aX CO t0 t1 t2 t3 t4 tz;obtain ⟨hl,Ih⟩:=Q3.out (by simp);obtain ⟨gg,cap,hv,se,mo,hrow⟩:=aR CI.out.kv (by omega);simp only [Hd.v,Value.slice.injEq,true_and] at hv;obtain ⟨rfl,rfl⟩:=hv;obtain ⟨y,hy⟩:∃ y,c.af[ps]=y:=⟨_,rfl⟩;rw [hy] at Ih;obtain ⟨oy,Pz⟩:∃ b,y.opt=b:=⟨_,rfl⟩;obtain ⟨og,PA⟩:∃ b,g.opt=b:=⟨_,rfl⟩
   have ot:X.cell? ⟨gg,ps*6+5,none⟩=some (.bool oy):=by
    have:=mI (f:=cC) (h:=⟨some ⟨gg,0,none⟩,c.af.length,iL⟩) CI.out.kv (fun _=>rfl) rfl hl (j:=5) (by decide);rw [this,hy,← Pz];rfl
   have Xk:X.frozen? ⟨gg,ps*6+5,none⟩=false:=hrow.2.2 _ (by rw [ce (f:=cC) (size:=6) (fun _=>rfl)];omega);have nR:=(Jf.out gg (.inr (Hd.au.2 rfl)));have gz:=hrow.1;obtain ⟨Y,hY⟩:∃ V,V=((w7.setCell ⟨gg,ps*6+5,none⟩ (.bool (oy || og))).alloc (.cells #[.int .i64 c.aA,.int .i64 c.version,.slice Bs c.ai.ae.length ip,.slice Bt c.ai.tables.length jo,.slice Bn c.aj.names.length lZ,.slice Bm c.aj.members.length l7,.slice (some ⟨gg,0,none⟩) c.af.length iL] 32)).drew:=⟨_,rfl⟩
   have eY:Y=(X.setCell ⟨gg,ps*6+5,none⟩ (.bool (oy || og))).drew:=by rw [hY,hX,World.setCell_alloc_past _ _ _ _ nR.2]
   have kY:Kb (fun g=>g=gg) X Y:=by rw [eY];exact (Kb.set _ _ _ _).trans (Kb.aH (ag.refl _).drew)
   have Di:gg∈(Hd.mk (some ⟨gg,0,none⟩) c.af.length iL).blk:=Hd.au.2 rfl
   have oY:Y.ownsRow w6.heap.size 106 6 (Hd.mk (some ⟨gg,0,none⟩) c.af.length iL).v (laid c.af g).length ((laid c.af g).flatMap cC):=by
    rw [eY,Ih,List.length_set,← dm (f:=cC) (size:=6) (fun _=>rfl) c.af ps 5 hl (by decide) (.bool (oy || og)) _ (by rw [hy,← Pz,← PA];rfl)];exact bu (fB CI.out.kv rfl _ _) (ag.refl _).drew
   have TL:=gH (CI.out.Fp (gl:=⟨some ⟨gg,0,none⟩,c.af.length,iL⟩) (l:=laid c.af g) kY (fun g' h1 e=>by
    have e:g'=gg:=e
    rcases h1 with h1 | h1
    ·exact (CI.out.mU g' h1).2 (e▸Di)
    ·exact CI.out.th g' h1 (e▸Di)) oY (fun g' h1=>.inl h1))
   have LN:=gH (show (laid c.af g).length=c.af.length by rw [Ih,List.length_set]);have TM:=kY.row RB.out (by omega);have uH:=kY.row (HR.out.2.2.az sA.out) (by have:=qg.out;omega);have Xl:=gH uH;have PB:=gH (kY.aZ (br.out.trans sA.out) (fun k hk e=>by have e:k=_:=e;have:=qg.out;omega));have HT:=gH (xk.out (by simp));clear x0 x1 x2 x3 x4 x5 x6 xz y0 y1 y2 y3 y4 y5 yz u0 u1 u2 u3 u4 u5 u6 uz v0 v1 v2 v3 v4 v5 v6;have p1:=HR.out.2.1.az sA.out;have y5:=p1.cell (j:=5) rfl;have yz:=p1.1;rw [PA] at y5;have z6:=RB.out.cell (j:=6) rfl;have zz:=RB.out.1;obtain ⟨q0,q1,q2,q3,q4,q5,q6,qz⟩:=dM TM;obtain ⟨u0,u1,u2,u3,u4,u5,u6,uz⟩:=dM uH;have v0:=uH.2.2 0 (by simp);have v1:=uH.2.2 1 (by simp);have v2:=uH.2.2 2 (by simp);have v3:=uH.2.2 3 (by simp);have v4:=uH.2.2 4 (by simp);have v5:=uH.2.2 5 (by simp);have v6:=uH.2.2 6 (by simp);rw [hY] at q0 q1 q2 q3 q4 q5 q6 qz u0 u1 u2 u3 u4 u5 u6 uz v0 v1 v2 v3 v4 v5 v6;rw [hX] at z6 zz ot Xk gz y5 yz;clear p1 kY eY Di oY TM uH Pz PA Ih hy hrow mo Q3 Vy xk
   cases oy<;>cases og
   all_goals
    (try simp only [Bool.or_true,Bool.or_false,Bool.true_or,Bool.false_or,Bool.or_self] at q0 q1 q2 q3 q4 q5 q6 qz u0 u1 u2 u3 u4 u5 u6 uz v0 v1 v2 v3 v4 v5 v6 hY)
    go_wp2_with fail
    go_region
    all_goals
     go_wp2_with fail
     (try simp only [Exit.inBlock,Exit.then])
     (try simp only [Bool.or_true,Bool.or_false,Bool.true_or,Bool.false_or] at hY)
     (first | rw [← hY] | rw [vS,← hY])
     refine bodyPost_ret (results_cell_tmp (v:=.agg #[.int .i64 c.aA,.int .i64 c.version,.slice Bs c.ai.ae.length ip,.slice Bt c.ai.tables.length jo,.slice Bn c.aj.names.length lZ,.slice Bm c.aj.members.length l7,.slice (some ⟨gg,0,none⟩) c.af.length iL]) rfl _ rfl (dr (cO Xl.out rfl _ _ _ _ _ _ _))) rfl ?_;have kF:=dG Y (w.heap.size+1+1) (.int .i64 c.aA) (.int .i64 c.version) (.slice Bs c.ai.ae.length ip) (.slice Bt c.ai.tables.length jo) (.slice Bn c.aj.names.length lZ) (.slice Bm c.aj.members.length l7) (.slice (some ⟨gg,0,none⟩) c.af.length iL);rw [HT.out];obtain ⟨s1,s2,s3⟩:=qg.out
     refine ⟨⟨Bs,xP,ip⟩,⟨Bt,xQ,jo⟩,⟨Bn,xR,lZ⟩,⟨Bm,xS,l7⟩,⟨some ⟨gg,0,none⟩,c.af.length,iL⟩,L,by rw [zn,LN.out];rfl,kF.aZ PB.out (fun k hk e=>by have e:k=_:=e;omega),(TL.out.kb kF (fun g' h1 e=>by
      have e:g'=w.heap.size+1+1:=e;have:=(TL.out.lt h1).1
      omega)).down (by omega)⟩
end Go.Proofs.YtmflccbnoeaafaaGreat
