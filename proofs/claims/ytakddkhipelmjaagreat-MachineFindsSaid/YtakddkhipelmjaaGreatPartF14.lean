import Derived.Test.YtakddkhipelmjaaGreatPartF13
set_option maxRecDepth 100000
set_option linter.unusedVariables false
set_option maxHeartbeats 64000000
namespace Go.Proofs.YtakddkhipelmjaaGreat
open Go.Deep Go.RowKit
theorem vh {c:bX} (h:bv c=false):dO c=false:=by unfold dO;rw [h];rfl
theorem IM (c:bX) (As:Option Addr) (ay:Nat) (At:Option Addr) (az:Nat) (An:Option Addr) (aC:Nat) (Am:Option Addr) (aJ:Nat) (Ag:Option Addr) (aQ:Nat) (w:World) (H:fp w c As ay At az An aC Am aJ Ag aQ) :
  Calls Tryz.prog 59 #[.agg #[.int .i64 c.ax,.int .i64 c.version,.slice As c.ah.aa.length ay,.slice At c.ah.tables.length az,.slice An c.ai.names.length aC,.slice Am c.ai.members.length aJ,.slice Ag c.af.length aQ]] w fun e w'=>e=.returned (.bool (dO c))∧ag w w':=by
 obtain ⟨W,hW⟩:∃ W,W=w.alloc (.cells #[.int .i64 c.ax,.int .i64 c.version,.slice As c.ah.aa.length ay,.slice At c.ah.tables.length az,.slice An c.ai.names.length aC,.slice Am c.ai.members.length aJ,.slice Ag c.af.length aQ] 32):=⟨_,rfl⟩
 have aW:ag w W:=by rw [hW];exact (ag.refl w).alloc _
 have r0:au W (w.heap.size) [.int .i64 c.ax,.int .i64 c.version,.slice As c.ah.aa.length ay,.slice At c.ah.tables.length az,.slice An c.ai.names.length aC,.slice Am c.ai.members.length aJ,.slice Ag c.af.length aQ]:=by rw [hW];exact bj (ag.refl _) (by simp)
 obtain ⟨st,hst⟩:∃ b,bv c=b:=⟨_,rfl⟩;have CS:=gH (show ∀ V,ag W V→Calls Tryz.prog 87 #[.agg #[.int .i64 c.ax,.int .i64 c.version,.slice As c.ah.aa.length ay,.slice At c.ah.tables.length az,.slice An c.ai.names.length aC,.slice Am c.ai.members.length aJ,.slice Ag c.af.length aQ]] V fun e w''=>e=.returned (.bool st)∧ag V w'' from fun V a=>(Eo c As ay At az An aC Am aJ Ag aQ V (H.aH (aW.trans a))).mono fun e w'' ⟨he,hw⟩=>⟨he.trans (by rw [hst]),hw⟩);have CH:=gH (show ∀ V,ag W V→Calls Tryz.prog 77 #[.agg #[.int .i64 c.ax,.int .i64 c.version,.slice As c.ah.aa.length ay,.slice At c.ah.tables.length az,.slice An c.ai.names.length aC,.slice Am c.ai.members.length aJ,.slice Ag c.af.length aQ]] V (Er V c) from fun V a=>O5 c As ay At az An aC Am aJ Ag aQ V (H.aH (aW.trans a)))
 have KS:=gH (show ∀ V,ag W V→ag W V∧V.cell? ⟨w.heap.size,0,none⟩=some (.int .i64 c.ax)∧V.cell? ⟨w.heap.size,1,none⟩=some (.int .i64 c.version)∧V.cell? ⟨w.heap.size,2,none⟩=some (.slice As c.ah.aa.length ay)∧V.cell? ⟨w.heap.size,3,none⟩=some (.slice At c.ah.tables.length az)∧V.cell? ⟨w.heap.size,4,none⟩=some (.slice An c.ai.names.length aC)∧V.cell? ⟨w.heap.size,5,none⟩=some (.slice Am c.ai.members.length aJ)∧V.cell? ⟨w.heap.size,6,none⟩=some (.slice Ag c.af.length aQ) from fun V a=>by
  have p:=r0.aH a
  exact ⟨a,p.cell (j:=0) rfl,p.cell (j:=1) rfl,p.cell (j:=2) rfl,p.cell (j:=3) rfl,p.cell (j:=4) rfl,p.cell (j:=5) rfl,p.cell (j:=6) rfl⟩)
 have HST:=gH hst;have bQ:=gH aW;clear hst H aW r0
 go_in
 go_wp2_with fail;rw [← hW];clear hW
 cases st
 case false =>
  have HF:=gH (vh HST.out);obtain ⟨_,x0,x1,x2,x3,x4,x5,x6⟩:=KS.out W (ag.refl W);have xz:w.heap.size < W.heap.size:=World.block_lt_of_cell? W ⟨w.heap.size,0,none⟩ x0;refine aj (by kernel_rfl) (by kernel_rfl) ?_
  repeat (go_big_quiet_step ((go_at_call 87;exact Calls.aL (CS.out _ ((ag.refl W).bt _)))))
  refine wpQuiet_nil ?_;intro _ hw';obtain ⟨y,hw''⟩:=hw';subst hw'';go_wp2;go_ret;exact ⟨by rw [HF.out];rfl,bQ.out.bt y⟩
 case true =>
  have HW:=gH (show dO c=((cH c).length==c.af.length) by unfold dO;rw [HST.out];rfl)
  go_region_held3 (fun V=>ag W V∧V.cell? ⟨w.heap.size,0,none⟩=some (.int .i64 c.ax)∧V.cell? ⟨w.heap.size,1,none⟩=some (.int .i64 c.version)∧V.cell? ⟨w.heap.size,2,none⟩=some (.slice As c.ah.aa.length ay)∧V.cell? ⟨w.heap.size,3,none⟩=some (.slice At c.ah.tables.length az)∧V.cell? ⟨w.heap.size,4,none⟩=some (.slice An c.ai.names.length aC)∧V.cell? ⟨w.heap.size,5,none⟩=some (.slice Am c.ai.members.length aJ)∧V.cell? ⟨w.heap.size,6,none⟩=some (.slice Ag c.af.length aQ))
   (first | exact KS.out _ (ag.refl _).drew | exact KS.out _ A5.out | exact KS.out _ A6.out)
   ((first | (go_at_call 87;refine (CS.out _ (ag.refl W).drew).mono ?_;rintro e w5 ⟨rfl,a5⟩;have A5:=gH ((ag.refl W).drew.trans a5);clear a5) | (go_at_call 77;refine (CH.out w5 A5.out).mono ?_;rintro e w6 ⟨h,rfl,a6,Za⟩;have A6:=gH (A5.out.trans a6);clear a6;rw [bY Za])))
  go_wp2;go_ret;refine ⟨Eq.trans (b:=.returned (.bool _)) rfl (cP (bZ ?_)),bQ.out.trans A6.out⟩;rw [HW.out,Bool.eq_iff_iff,beq_iff_eq,beq_iff_eq];omega
theorem Qg (c:bX) (As:Option Addr) (ay:Nat) (At:Option Addr) (az:Nat) (An:Option Addr) (aC:Nat) (Am:Option Addr) (aJ:Nat) (Ag:Option Addr) (aQ:Nat) (w:World) (H:fp w c As ay At az An aC Am aJ Ag aQ) :
  Calls Tryz.prog 45 #[.agg #[.int .i64 c.ax,.int .i64 c.version,.slice As c.ah.aa.length ay,.slice At c.ah.tables.length az,.slice An c.ai.names.length aC,.slice Am c.ai.members.length aJ,.slice Ag c.af.length aQ]] w fun e w'=>e=.returned (.int .i64 (if dO c=true then 0 else 1))∧ag w w':=by
 obtain ⟨W,hW⟩:∃ W,W=w.alloc (.cells #[.int .i64 c.ax,.int .i64 c.version,.slice As c.ah.aa.length ay,.slice At c.ah.tables.length az,.slice An c.ai.names.length aC,.slice Am c.ai.members.length aJ,.slice Ag c.af.length aQ] 32):=⟨_,rfl⟩
 have aW:ag w W:=by rw [hW];exact (ag.refl w).alloc _
 have r0:au W (w.heap.size) [.int .i64 c.ax,.int .i64 c.version,.slice As c.ah.aa.length ay,.slice At c.ah.tables.length az,.slice An c.ai.names.length aC,.slice Am c.ai.members.length aJ,.slice Ag c.af.length aQ]:=by rw [hW];exact bj (ag.refl _) (by simp)
 obtain ⟨b,hb⟩:∃ b,dO c=b:=⟨_,rfl⟩;have C:=gH (show Calls Tryz.prog 59 #[.agg #[.int .i64 c.ax,.int .i64 c.version,.slice As c.ah.aa.length ay,.slice At c.ah.tables.length az,.slice An c.ai.names.length aC,.slice Am c.ai.members.length aJ,.slice Ag c.af.length aQ]] W fun e w''=>e=.returned (.bool b)∧ag W w'' from (IM c As ay At az An aC Am aJ Ag aQ W (H.aH aW)).mono fun e w'' ⟨he,hw⟩=>⟨he.trans (by rw [hb]),hw⟩);rw [hb];have bQ:=gH aW;obtain ⟨x0,x1,x2,x3,x4,x5,x6,xz⟩:=im r0;clear hb H aW r0
 go_in
 go_wp2_with fail;rw [← hW];clear hW;refine C.out.mono ?_;rintro e w1 ⟨rfl,a1⟩;have HA:=gH (bQ.out.trans a1);clear a1
 cases b<;>(go_wp2;go_ret;exact ⟨rfl,HA.out⟩)
theorem qW {c:bX} (h:bv c=true) {s n:ByteArray} (h4:0≤bp c.ah.tables s n):(jI c.ah s n).ac=s∧(jI c.ah s n).name=n∧0≤cy c.ah.aa s:=by
 obtain ⟨_,⟨h1,_,_,_⟩,h3,_⟩:=bL.1 h;obtain ⟨q,hq⟩:=Int.eq_ofNat_of_zero_le h4;have hr:bp c.ah.tables s n < c.ah.tables.length:=(bk _ _).2
 have hl:q < c.ah.tables.length:=by omega
 have e:=nE hq hl;have hp:=gN _ c.ah.tables q hl hq;simp only [Bool.and_eq_true,lK] at hp;rw [e];refine ⟨hp.1,hp.2,?_⟩
 have hc:bP c.ah c.ah.tables[q]=true:=by
  unfold bw at h1;simp only [Bool.and_eq_true,List.all_eq_true] at h1;exact h1.2.2 _ (List.getElem_mem hl)
 unfold bP at hc;simp only [Bool.and_eq_true,decide_eq_true_eq] at hc;rw [← hp.1];exact hc.1.2
theorem Vl (c:bX) (As:Option Addr) (ay:Nat) (At:Option Addr) (az:Nat) (An:Option Addr) (aC:Nat) (Am:Option Addr) (aJ:Nat) (Ag:Option Addr) (aQ:Nat) (role s n:ByteArray) (my:Small role.size) (w:World) (H:fp w c As ay At az An aC Am aJ Ag aQ) :
  Calls Tryz.prog 117 #[.agg #[.int .i64 c.ax,.int .i64 c.version,.slice As c.ah.aa.length ay,.slice At c.ah.tables.length az,.slice An c.ai.names.length aC,.slice Am c.ai.members.length aJ,.slice Ag c.af.length aQ],.string role,.string s,.string n] w fun e w'=>e=.returned (.bool (ol c role s n))∧ag w w':=by
 obtain ⟨W,hW⟩:∃ W,W=w.alloc (.cells #[.int .i64 c.ax,.int .i64 c.version,.slice As c.ah.aa.length ay,.slice At c.ah.tables.length az,.slice An c.ai.names.length aC,.slice Am c.ai.members.length aJ,.slice Ag c.af.length aQ] 32):=⟨_,rfl⟩
 have aW:ag w W:=by rw [hW];exact (ag.refl w).alloc _
 have r0:au W (w.heap.size) [.int .i64 c.ax,.int .i64 c.version,.slice As c.ah.aa.length ay,.slice At c.ah.tables.length az,.slice An c.ai.names.length aC,.slice Am c.ai.members.length aJ,.slice Ag c.af.length aQ]:=by rw [hW];exact bj (ag.refl _) (by simp)
 obtain ⟨tb,Lu⟩:∃ b,decide (0≤bp c.ah.tables s n)=b:=⟨_,rfl⟩;obtain ⟨wb,XV⟩:∃ b,dO c=b:=⟨_,rfl⟩;obtain ⟨cb,hcb⟩:∃ b,cL c.ai.names role=b:=⟨_,rfl⟩;obtain ⟨T,hT⟩:∃ T,jI c.ah s n=T:=⟨_,rfl⟩;obtain ⟨bb,AW⟩:∃ b,jL c.ah (eG c.ai role) T=b:=⟨_,rfl⟩;have jN:=gH (show ol c role s n=(wb&&(tb&&cb)&&bb) by unfold ol;rw [Lu,XV,hcb,hT,AW])
 have CT:=gH (show Calls Tryz.prog 132 #[.agg #[.int .i64 c.ax,.int .i64 c.version,.slice As c.ah.aa.length ay,.slice At c.ah.tables.length az,.slice An c.ai.names.length aC,.slice Am c.ai.members.length aJ,.slice Ag c.af.length aQ],.string s,.string n] W fun e w''=>∃ (A2:Option Addr) (c2:Nat) (A3:Option Addr) (c3:Nat),e=.returned (.tuple #[.agg #[.string T.ac,.string T.name,.string T.owner,.slice A2 T.av.length c2,.slice A3 T.rules.length c3],.bool tb])∧ag W w'' from by
  have:=Bx c As ay At az An aC Am aJ Ag aQ s n W (br aW H.tab);unfold P1 at this;rw [hT,Lu] at this
  exact this)
 have CA:=gH (show ∀ V,ag W V→Calls Tryz.prog 131 #[.agg #[.slice An c.ai.names.length aC,.slice Am c.ai.members.length aJ],.string role] V (FE c.ai role V) from fun V a=>Qc c.ai An aC Am aJ role V (aO (aW.trans a) H.j0) (cu (aW.trans a) H.mem) my);have CW:=gH (show ∀ V,ag W V→Calls Tryz.prog 59 #[.agg #[.int .i64 c.ax,.int .i64 c.version,.slice As c.ah.aa.length ay,.slice At c.ah.tables.length az,.slice An c.ai.names.length aC,.slice Am c.ai.members.length aJ,.slice Ag c.af.length aQ]] V fun e w''=>e=.returned (.bool wb)∧ag V w'' from fun V a=>(IM c As ay At az An aC Am aJ Ag aQ V (H.aH (aW.trans a))).mono fun e w'' ⟨he,hw⟩=>⟨he.trans (by rw [XV]),hw⟩);have CN:=gH (show ∀ V,ag W V→Calls Tryz.prog 69 #[.slice An c.ai.names.length aC,.string role] V fun e w''=>e=.returned (.bool cb)∧V=w'' from fun V a=>hcb▸jK An aC c.ai.names role V (aO (aW.trans a) H.j0))
 have HTS:=gH (show wb=true→tb=true→T.ac=s∧T.name=n∧0≤cy c.ah.aa s from fun h1 h2=>by
  rw [← hT]
  exact qW (eP.1 (XV.trans h1)).1 (of_decide_eq_true (Lu.trans h2)))
 have HH:=gH H;have bQ:=gH aW;have fO:=gH r0;have HBB:=gH AW;obtain ⟨x0,x1,x2,x3,x4,x5,x6,xz⟩:=im r0;clear Lu XV hcb hT AW H aW r0
 go_in
 go_wp2_with fail;rw [← hW];clear hW;refine CT.out.mono ?_;rintro e w1 ⟨A2,c2,A3,c3,rfl,a1⟩;obtain ⟨Y,hY⟩:∃ V,V=w1.alloc (.cells #[.string T.ac,.string T.name,.string T.owner,.slice A2 T.av.length c2,.slice A3 T.rules.length c3] 80):=⟨_,rfl⟩
 have aY:ag w1 Y:=by rw [hY];exact (ag.refl w1).alloc _
 have RY:=gH (show au Y w1.heap.size [.string T.ac,.string T.name,.string T.owner,.slice A2 T.av.length c2,.slice A3 T.rules.length c3] by rw [hY];exact aU (ag.refl _));have AY:=gH (a1.trans aY);have p1:=fO.out.aH a1;clear x0 x1 x2 x3 x4 x5 x6 xz CT;have x4:=p1.cell (j:=4) rfl;have x5:=p1.cell (j:=5) rfl;have xz:=p1.1;clear a1 aY p1;go_wp2_with fail;rw [← hY];clear hY;refine (CA.out Y AY.out).mono ?_;rintro e w2 ⟨h,rfl,a2,ho⟩;have O7:=gH (AY.out.trans a2);have RY2:=gH (RY.out.aH a2);have HO:=gH ho;have cM:=bY ho;rw [cM];have p1:=fO.out.aH O7.out;clear x4 x5 xz a2 ho cM CA;obtain ⟨x0,x1,x2,x3,x4,x5,x6,xz⟩:=im p1;clear p1
 cases tb
 case false =>
  go_wp2;go_ret;exact ⟨by rw [jN.out];cases wb<;>rfl,bQ.out.trans O7.out⟩
 go_wp2_with fail;refine (CW.out w2 O7.out).mono ?_;rintro e w3 ⟨rfl,a3⟩;have Md:=gH (O7.out.trans a3);have RY3:=gH (RY2.out.aH a3);have HO3:=gH (cj HO.out a3);have p1:=fO.out.aH Md.out;clear x0 x1 x2 x3 x4 x5 x6 xz a3 HO RY2;obtain ⟨x0,x1,x2,x3,x4,x5,x6,xz⟩:=im p1;clear p1
 cases wb
 case false =>
  go_wp2;go_ret;exact ⟨by rw [jN.out];rfl,bQ.out.trans Md.out⟩
 go_wp2_with fail;refine (CN.out w3 Md.out).mono ?_;rintro e w9 ⟨rfl,rfl⟩
 cases cb
 case false =>
  go_wp2;go_ret;exact ⟨by rw [jN.out];rfl,bQ.out.trans Md.out⟩
 obtain ⟨ts,tn,hsc⟩:=HTS.out (by first | trivial | rfl) (by first | trivial | rfl);have sn:=fS (aO (bQ.out.trans Md.out) HH.out.j0);have hal:=sR c.ai role;have sl:=dC (R:=dg) bT HO3.out (fun x hx=>⟨rfl,rfl,sn.2 x (sQ hx)⟩) (by have:=sn.1;unfold Small at *;omega)
 have CB:=gH (show Calls Tryz.prog 134 #[.agg #[.int .i64 c.ax,.int .i64 c.version,.slice As c.ah.aa.length ay,.slice At c.ah.tables.length az,.slice An c.ai.names.length aC,.slice Am c.ai.members.length aJ,.slice Ag c.af.length aQ],.slice h.a (eG c.ai role).length h.c,.agg #[.string T.ac,.string T.name,.string T.owner,.slice A2 T.av.length c2,.slice A3 T.rules.length c3]] w3 fun e w''=>e=.returned (.bool bb)∧ag w3 w'' from
  HBB.out▸O3 c As ay At az An aC Am aJ Ag aQ (eG c.ai role) h.a h.c T.ac T.name T.owner A2 _ c2 A3 _ c3 T ⟨rfl,rfl⟩ w3 (HH.out.aH (bQ.out.trans Md.out)) sl (by rw [ts];exact hsc))
 obtain ⟨v0,v1,v2,v3,v4,vz⟩:=lX RY3.out;clear ts tn hsc sn hal sl;go_wp2_with fail;refine CB.out.mono ?_;rintro e w4 ⟨rfl,a4⟩;have A4:=gH (Md.out.trans a4);clear a4;go_wp2;go_ret;exact ⟨by rw [jN.out];rfl,bQ.out.trans A4.out⟩
theorem nI {W:World} {p:Nat} {a b c d e f g:Value} (h:au W p [a,b,c,d,e,f,g]):(loadVar 32 ⟨p,0,none⟩).run Tryz.prog W=.ok (.agg #[a,b,c,d,e,f,g]) W:=by
 obtain ⟨e0,e1,e2,e3,e4,e5,e6⟩:=wO h;have h1:=Fe W p 0 (by rw [e0];rfl) (by rw [e1];rfl) (by rw [e2];rfl) (by rw [e3];rfl) (by rw [e4];rfl) (by rw [e5];rfl) (by rw [e6];rfl);rw [e0,e1,e2,e3,e4,e5,e6] at h1;exact h1
theorem mW {w:World} {p:Nat} {xs:List Value} (h:au w p xs) (hl:xs.length=7) (v0 v1 v2 v3 v4 v5 v6:Value):au (((((((w.setCell ⟨p,0,none⟩ v0).setCell ⟨p,1,none⟩ v1).setCell ⟨p,2,none⟩ v2).setCell ⟨p,3,none⟩ v3).setCell ⟨p,4,none⟩ v4).setCell ⟨p,5,none⟩ v5).setCell ⟨p,6,none⟩ v6) p [v0,v1,v2,v3,v4,v5,v6]:=by
 match xs,hl with
 | [a,b,c,d,e,f,g],_=>exact ((((((h.set 0 _ (by simp)).set 1 _ (by simp)).set 2 _ (by simp)).set 3 _ (by simp)).set 4 _ (by simp)).set 5 _ (by simp)).set 6 _ (by simp)
theorem pG (w:World) (p:Nat) (v0 v1 v2 v3 v4 v5 v6:Value):Kb (fun g=>g=p) w (((((((w.setCell ⟨p,0,none⟩ v0).setCell ⟨p,1,none⟩ v1).setCell ⟨p,2,none⟩ v2).setCell ⟨p,3,none⟩ v3).setCell ⟨p,4,none⟩ v4).setCell ⟨p,5,none⟩ v5).setCell ⟨p,6,none⟩ v6) :=
 ((((((Kb.set _ _ _ _).trans (Kb.set _ _ _ _)).trans (Kb.set _ _ _ _)).trans (Kb.set _ _ _ _)).trans (Kb.set _ _ _ _)).trans (Kb.set _ _ _ _)).trans (Kb.set _ _ _ _)
theorem xa (x y:Int) (h:x≠0):eO x y=x:=by
 unfold eO;rw [if_neg (by simpa using h)]
theorem kD (x y:Int) (h:x=0):eO x y=y:=by
 unfold eO;rw [if_pos (by simpa using h)]
theorem xb {a b:ByteArray} (h:aS a b=false):aT a b≠0:=fun e=>by rw [(dl _ _).1 e] at h;cases h
theorem Me (a b:Int) (h:a≠b):decide (lJ a b < 0)=decide (a < b):=by
 unfold lJ;by_cases h1:a < b
 ·rw [if_pos h1,decide_eq_true h1];rfl
 ·rw [if_neg h1,decide_eq_false h1,if_pos (by omega)];rfl
theorem IP (a b:cF) (w:World) :
  Calls Tryz.prog 145 #[.agg #[.string a.ac,.string a.table,.int .i64 a.right,.string a.aI,.string a.to,.bool a.opt],.agg #[.string b.ac,.string b.table,.int .i64 b.right,.string b.aI,.string b.to,.bool b.opt]] w fun e w'=>e=.returned (.bool (decide (dR a b < 0)))∧ag w w':=by
 obtain ⟨s,t,r,g,o,p⟩:=a;obtain ⟨s2,t2,r2,g2,o2,p2⟩:=b
 dsimp only
 have HE:dR ⟨s,t,r,g,o,p⟩ ⟨s2,t2,r2,g2,o2,p2⟩=eO (aT s s2) (eO (aT t t2) (eO (lJ r r2) (eO (aT g g2) (aT o o2)))):=rfl;rw [HE];clear HE
 cases e0:aS s s2
 ·have HE:=gH (show decide (eO (aT s s2) (eO (aT t t2) (eO (lJ r r2) (eO (aT g g2) (aT o o2)))) < 0)=nJ s s2 by rw [xa _ _ (xb e0),io])
  have e0':(s.toList==s2.toList)=false:=e0
  go_in
  go_wp2;go_ret;exact ⟨by rw [HE.out];rfl,((ag.refl _).alloc _).alloc _⟩
 ·have e0':(s.toList==s2.toList)=true:=e0
  cases e1:aS t t2
  ·have HE:=gH (show decide (eO (aT s s2) (eO (aT t t2) (eO (lJ r r2) (eO (aT g g2) (aT o o2)))) < 0)=nJ t t2 by rw [kD _ _ ((dl _ _).2 e0),xa _ _ (xb e1),io])
   have Iy:(t.toList==t2.toList)=false:=e1
   go_in
   go_wp2;go_ret;exact ⟨by rw [HE.out];rfl,((ag.refl _).alloc _).alloc _⟩
  ·have Iy:(t.toList==t2.toList)=true:=e1
   cases e2:(r==r2)
   ·have n2:r≠r2:=by simpa using e2
    have HE:=gH (show decide (eO (aT s s2) (eO (aT t t2) (eO (lJ r r2) (eO (aT g g2) (aT o o2)))) < 0)=decide (r < r2) by rw [kD _ _ ((dl _ _).2 e0),kD _ _ ((dl _ _).2 e1),xa _ _ (fun h=>n2 (by simpa using (nK _ _).1 h)),Me _ _ n2])
    go_in
    go_wp2;go_ret;exact ⟨by rw [HE.out];rfl,((ag.refl _).alloc _).alloc _⟩
   ·cases e3:aS g g2
    ·have HE:=gH (show decide (eO (aT s s2) (eO (aT t t2) (eO (lJ r r2) (eO (aT g g2) (aT o o2)))) < 0)=nJ g g2 by rw [kD _ _ ((dl _ _).2 e0),kD _ _ ((dl _ _).2 e1),kD _ _ ((nK _ _).2 e2),xa _ _ (xb e3),io])
     have Zb:(g.toList==g2.toList)=false:=e3
     go_in
     go_wp2;go_ret;exact ⟨by rw [HE.out];rfl,((ag.refl _).alloc _).alloc _⟩
    ·have Zb:(g.toList==g2.toList)=true:=e3
     have HE:=gH (show decide (eO (aT s s2) (eO (aT t t2) (eO (lJ r r2) (eO (aT g g2) (aT o o2)))) < 0)=nJ o o2 by rw [kD _ _ ((dl _ _).2 e0),kD _ _ ((dl _ _).2 e1),kD _ _ ((nK _ _).2 e2),kD _ _ ((dl _ _).2 e3),io])
     go_in
     go_wp2;go_ret;exact ⟨by rw [HE.out];rfl,((ag.refl _).alloc _).alloc _⟩
theorem FH (a b:cF):g9 a b=(!decide (dR a b < 0)&&!decide (dR b a < 0)):=by
 have h:=lf a b;have h2:=pC.dY a b
 cases h3:g9 a b
 ·rw [h3] at h
  have:dR a b≠0:=fun e=>by have:=h.1 e;cases this
  by_cases h4:dR a b < 0
  ·rw [decide_eq_true h4];rfl
  ·rw [decide_eq_true (show dR b a < 0 by omega)];simp
 ·have:=h.2 h3
  rw [decide_eq_false (by omega),decide_eq_false (by omega)];rfl
theorem Vm (a b:cF) (w:World) :
  Calls Tryz.prog 228 #[.agg #[.string a.ac,.string a.table,.int .i64 a.right,.string a.aI,.string a.to,.bool a.opt],.agg #[.string b.ac,.string b.table,.int .i64 b.right,.string b.aI,.string b.to,.bool b.opt]] w fun e w'=>e=.returned (.bool (g9 a b))∧ag w w':=by
 obtain ⟨W,hW⟩:∃ W,W=(w.alloc (.cells #[.string a.ac,.string a.table,.int .i64 a.right,.string a.aI,.string a.to,.bool a.opt] 177)).alloc (.cells #[.string b.ac,.string b.table,.int .i64 b.right,.string b.aI,.string b.to,.bool b.opt] 177):=⟨_,rfl⟩
 have aW:ag w W:=by rw [hW];exact ((ag.refl w).alloc _).alloc _
 have r0:au W (w.heap.size) [.string a.ac,.string a.table,.int .i64 a.right,.string a.aI,.string a.to,.bool a.opt]:=by rw [hW];exact au.up (bj (ag.refl _) (by simp))
 have r1:au W (w.heap.size+1) [.string b.ac,.string b.table,.int .i64 b.right,.string b.aI,.string b.to,.bool b.opt]:=by rw [hW];exact bj (ag.refl _) (by simp)
 obtain ⟨l1,h1⟩:∃ b1,decide (dR a b < 0)=b1:=⟨_,rfl⟩;obtain ⟨l2,h2⟩:∃ b1,decide (dR b a < 0)=b1:=⟨_,rfl⟩;have HF:=gH (show g9 a b=(!l1&&!l2) by rw [FH,h1,h2]);have C1:=gH (show ∀ V,Calls Tryz.prog 145 #[.agg #[.string a.ac,.string a.table,.int .i64 a.right,.string a.aI,.string a.to,.bool a.opt],.agg #[.string b.ac,.string b.table,.int .i64 b.right,.string b.aI,.string b.to,.bool b.opt]] V fun e w''=>e=.returned (.bool l1)∧ag V w'' from fun V=>h1▸IP a b V);have C2:=gH (show ∀ V,Calls Tryz.prog 145 #[.agg #[.string b.ac,.string b.table,.int .i64 b.right,.string b.aI,.string b.to,.bool b.opt],.agg #[.string a.ac,.string a.table,.int .i64 a.right,.string a.aI,.string a.to,.bool a.opt]] V fun e w''=>e=.returned (.bool l2)∧ag V w'' from fun V=>h2▸IP b a V);have KS:=gH (And.intro r0 (And.intro r1 aW));clear h1 h2 r0 r1 aW
 go_in
 go_wp2_with fail;rw [← hW];clear hW;refine (C1.out W).mono ?_;rintro e w1 ⟨rfl,a1⟩;have A1:=gH (KS.out.2.2.trans a1);have p0:=KS.out.1.aH a1;have p1:=KS.out.2.1.aH a1
 cases l1
 case true =>
  clear p0 p1;go_wp2;go_ret;exact ⟨by rw [HF.out];rfl,A1.out⟩
 obtain ⟨x0,x1,x2,x3,x4,x5,xz⟩:=mN p0;obtain ⟨y0,y1,y2,y3,y4,y5,yz⟩:=mN p1;clear p0 p1 a1;go_wp2_with fail;refine (C2.out w1).mono ?_;rintro e w2 ⟨rfl,a2⟩;have A2:=gH (A1.out.trans a2);clear a2
 cases l2<;>(go_wp2;go_ret;exact ⟨by rw [HF.out];rfl,A2.out⟩)
theorem Qh (x:Int) (w:World):Calls Tryz.prog 146 #[.int .i64 x] w fun e w'=>e=.returned (.bool (mM x))∧w=w':=by
 have HK:=gH (show mM x=(x==1 || x==2) from rfl)
 go_in
 cases h1:(x==1)<;>cases h2:(x==2)
 all_goals
  rw [h1,h2] at HK;go_wp2;go_ret;exact ⟨by rw [HK.out];rfl,rfl⟩
theorem any_true {α:Type} (p:α→Bool) (l:List α) (k:Nat) (hk:k < l.length) (h:p l[k]=true):l.any p=true:=List.any_eq_true.2 ⟨_,List.getElem_mem hk,h⟩
theorem any_false {α:Type} (p:α→Bool) (l:List α) (h:∀ k (hk:k < l.length),p l[k]=false):l.any p=false:=by
 rw [List.any_eq_false];intro x hx;obtain ⟨k,hk,rfl⟩:=List.getElem_of_mem hx;rw [h k hk];decide
theorem Vn (l:List cF) (A:Option Addr) (cap:Nat) (g:cF) (w:World) (h:aA w 6 gC A cap l) :
  Calls Tryz.prog 148 #[.slice A l.length cap,.agg #[.string g.ac,.string g.table,.int .i64 g.right,.string g.aI,.string g.to,.bool g.opt]] w fun e w'=>e=.returned (.bool (je l g))∧ag w w':=by
 have hlen:=h.len;obtain ⟨W,hW⟩:∃ W,W=w.alloc (.cells #[.string g.ac,.string g.table,.int .i64 g.right,.string g.aI,.string g.to,.bool g.opt] 177):=⟨_,rfl⟩
 have aW:ag w W:=by rw [hW];exact (ag.refl w).alloc _
 have r0:au W (w.heap.size) [.string g.ac,.string g.table,.int .i64 g.right,.string g.aI,.string g.to,.bool g.opt]:=by rw [hW];exact bj (ag.refl _) (by simp)
 have KS:=gH (And.intro r0 aW);have HL:=gH (dQ aW h);clear r0 aW h
 go_in
 go_wp2_with fail;rw [← hW]
 go_loopw [5] (fun i wr=>∃ k:Nat,k≤l.length∧i=.int .i64 k∧ag W wr∧∀ j,j < k→∀ (hj:j < l.length),g9 l[j] g=false) (fun i _=>l.length - (intOf i).toNat)
 case atStart=>exact ⟨0,Nat.zero_le _,rfl,ag.refl _,fun j hj=>absurd hj (Nat.not_lt_zero j)⟩
 case round =>
  clear hW;obtain ⟨k,hk,rfl,ha,hp⟩:=hrel;have HA:=gH ha;have HP:=gH hp;by_cases hlt:k < l.length
  ·obtain ⟨b,off,rfl,hb,t0,t1,t2,t3,t4,t5,_⟩:=jc (dQ ha HL.out) hlt
   obtain ⟨x,hx⟩:∃ x,l[k]=x:=⟨_,rfl⟩;rw [hx] at t0 t1 t2 t3 t4 t5;have p0:=KS.out.1.aH ha;obtain ⟨x0,x1,x2,x3,x4,x5,xz⟩:=mN p0;obtain ⟨q,hq⟩:∃ q,g9 x g=q:=⟨_,rfl⟩;have HQ:=gH (show g9 l[k] g=q by rw [hx];exact hq);have C:=gH (show ∀ y:gX wr,Calls Tryz.prog 228 #[.agg #[.string x.ac,.string x.table,.int .i64 x.right,.string x.aI,.string x.to,.bool x.opt],.agg #[.string g.ac,.string g.table,.int .i64 g.right,.string g.aI,.string g.to,.bool g.opt]] (bt wr y) fun e w''=>e=.returned (.bool q)∧ag (bt wr y) w'' from fun y=>hq▸Vm x g _);clear ha hp p0 hx hq
   cases q
   all_goals
    go_wp2_with fail;refine aj (by kernel_rfl) (by kernel_rfl) ?_
    repeat (go_big_quiet_step ((go_at_call 228;exact Calls.aL (C.out _))))
    refine wpQuiet_nil ?_;intro _ hw';obtain ⟨y,hw''⟩:=hw';subst hw''
   ·go_wp2
    go_roundw
    case rel=>exact ⟨k+1,by omega,by go_num,HA.out.bt y,bC (p:=fun j=>∀ (hj:j < l.length),g9 l[j] g=false) HP.out (fun _=>HQ.out)⟩
    case measure=>simp [intOf];omega
   ·go_wp2
    go_ret;exact ⟨by rw [show je l g=true from any_true _ l k hlt HQ.out];rfl,KS.out.2.trans (HA.out.bt y)⟩
  ·clear ha hp
   go_wp2;go_ret;exact ⟨by rw [show je l g=false from any_false _ l fun j hj=>HP.out j (by omega) hj];rfl,KS.out.2.trans HA.out⟩
@[go_sem ↓] theorem He (w:World) (s:ByteArray) (k:Int) (b:Bool) :
  (binOp .neq 169 (.agg #[.string s,.int .i64 k,.bool b]) (.agg #[.string s,.int .i64 k,.bool b])).run Tryz.prog w=.ok (.bool false) w:=by
 rw [run_neq_struct];go_simp;try rfl
@[go_sem ↓] theorem Hf (w:World) (s t:ByteArray) :
  (binOp .neq 109 (.agg #[.string s,.string t]) (.agg #[.string s,.string t])).run Tryz.prog w=.ok (.bool false) w:=by
 rw [run_neq_struct];go_simp;try rfl
theorem BH (r:fV) (h:¬ r.names.length≤16):bG r=false:=by rw [mX];simp [h]
theorem yP (r:fV) (h:¬ r.members.length≤256):bG r=false:=by rw [mX];simp [h]
theorem FI {r:fV} (h:iA r=true) {m:dP} (hm:m∈r.members):BI r m=true:=by
 unfold iA at h;simp only [Bool.and_eq_true,List.all_eq_true] at h;exact h.2.1 m hm
theorem sS {r:fV} (h:iA r=true) {m:dP} (hm:m∈r.members) (s:ByteArray):cL (r.names.filter (bM r.members s)) m.role=bM r.members s m.role:=by
 have:=FI h hm;unfold BI at this;simp only [Bool.and_eq_true] at this;rw [sU,this.1,Bool.and_true]
theorem Mf (r:fV) (An:Option Addr) (aC:Nat) (Am:Option Addr) (aJ:Nat) (w:World) (hn:aA w 1 dg An aC r.names) (hm:aA w 2 fw Am aJ r.members) :
  Calls Tryz.prog 143 #[.agg #[.slice An r.names.length aC,.slice Am r.members.length aJ]] w fun e w'=>e=.returned (.bool (bG r))∧ag w w':=by
 have hlen:=hn.len;have fq:=hm.len
 have l1:w.heap.size < w.heap.size+1:=by omega
 by_cases h1:r.names.length≤16
 case neg =>
  have HF:=gH (BH r h1)
  have hi:(16:Int) < (r.names.length:Int):=by omega
  go_in
  go_wp2;go_ret;exact ⟨by rw [HF.out];rfl,(ag.refl _).alloc _⟩
 by_cases h2:r.members.length≤256
 case neg =>
  have HF:=gH (yP r h2)
  have hi:¬ (16:Int) < (r.names.length:Int):=by omega
  have kQ:(256:Int) < (r.members.length:Int):=by omega
  go_in
  go_wp2;go_ret;exact ⟨by rw [HF.out];rfl,(ag.refl _).alloc _⟩
 have hi:¬ (16:Int) < (r.names.length:Int):=by omega
 have kQ:¬ (256:Int) < (r.members.length:Int):=by omega
 obtain ⟨W,hW⟩:∃ W,W=w.alloc (.cells #[.slice An r.names.length aC,.slice Am r.members.length aJ] 29):=⟨_,rfl⟩
 have aW:ag w W:=by rw [hW];exact (ag.refl w).alloc _
 have r0:∀ w',ag W w'→(w'.cell? ⟨w.heap.size,0,none⟩=some (.slice An r.names.length aC)∧w'.cell? ⟨w.heap.size,1,none⟩=some (.slice Am r.members.length aJ)∧w.heap.size < w'.heap.size):=fun w' a=>by
  rw [hW] at a;obtain ⟨hb,_,hz,_,_⟩:=cz a;exact ⟨by rw [hb];rfl,by rw [hb];rfl,hz.1⟩
 obtain ⟨q,hq⟩:∃ q,iA r=q:=⟨_,rfl⟩;have C:=gH (fun w' (a:ag w w')=>hq▸Qi r An aC Am aJ w' (aO a hn) (cu a hm));have IQ:=gH (show bG r=(q&&r.members.all fun m=>!bM r.members m.of m.role) by rw [mX,hq];simp [h1,h2]);have fO:=gH r0;have bQ:=gH aW;have FJ:=gH (And.intro hn hm);have HQ:=gH hq;clear hq r0 aW hn hm
 go_in
 go_wp2_with fail;rw [← hW];clear hW;refine (C.out W bQ.out).mono ?_;rintro e w1 ⟨rfl,a1⟩;have cT:=gH a1;obtain ⟨e0,e1,e2⟩:=fO.out w1 a1;clear a1
 cases q
 ·have HF:=gH (show bG r=false by rw [IQ.out];rfl)
  go_wp2;go_ret;exact ⟨by rw [HF.out];rfl,bQ.out.trans cT.out⟩
 go_wp2_with fail
 go_loopw [3] (fun i wr=>∃ k:Nat,k≤r.members.length∧i=.int .i64 k∧ag W wr∧∀ j,j < k→∀ (hj:j < r.members.length),(!bM r.members r.members[j].of r.members[j].role)=true) (fun i _=>r.members.length - (intOf i).toNat)
 case atStart=>exact ⟨0,Nat.zero_le _,rfl,cT.out,fun j hj=>absurd hj (Nat.not_lt_zero j)⟩
 case round =>
  clear e0 e1 e2;obtain ⟨k,hk,rfl,ha,hp⟩:=hrel;have HA:=gH ha;have HP:=gH hp;obtain ⟨e0,e1,e2⟩:=fO.out wr ha;clear ha hp;by_cases hlt:k < r.members.length
  ·obtain ⟨b,off,rfl,hb,t0,t1,hs1,hs2⟩:=jf (cu (bQ.out.trans HA.out) FJ.out.2) hlt
   have Eu:=gH (sS HQ.out (List.getElem_mem hlt) r.members[k].of);obtain ⟨m,sP⟩:∃ m,r.members[k]=m:=⟨_,rfl⟩;rw [sP] at t0 t1 hs1 hs2 Eu;have Vo:=gH sP;have K3:=gH (show ∀ w',ag wr w'→Calls Tryz.prog 227 #[.agg #[.slice An r.names.length aC,.slice (some ⟨b,off,none⟩) r.members.length aJ],.string m.of] w' (oH w' r m.of) from fun w' a=>BJ r An aC _ aJ m.of w' (aO ((bQ.out.trans HA.out).trans a) FJ.out.1) (cu ((bQ.out.trans HA.out).trans a) FJ.out.2) hs2 (by omega));obtain ⟨q,hq⟩:∃ q,bM r.members m.of m.role=q:=⟨_,rfl⟩;obtain ⟨F,hF⟩:∃ F,r.names.filter (bM r.members m.of)=F:=⟨_,rfl⟩
   have K4:=gH (show ∀ (g:Hd) (B:Nat) (w':World),w'.ownsRow B 9 1 g.v F.length (F.flatMap bT)→Calls Tryz.prog 144 #[g.v,.string m.role] w' fun e w''=>e=.returned (.bool q)∧w'=w'' from fun g B w' o=>by
    rw [bY o]
    refine (gi g.a g.c F m.role w' (dC bT o (fun x hx=>⟨rfl,rfl,?_⟩) ?_)).mono fun e w'' ⟨he,hw⟩=>⟨?_,hw⟩
    ·rw [← hF] at hx
     exact (fS FJ.out.1).2 x (List.mem_filter.1 hx).1
    ·rw [← hF]
     have:=List.length_filter_le (bM r.members m.of) r.names;unfold Small;omega
    ·rw [he,← hq,← Eu.out,hF];rfl)
   have KP:=gH (show ∀ w' e w'',oH w' r m.of e w''→∃ g:Hd,e=.returned g.v∧ag w' w''∧w''.ownsRow w'.heap.size 9 1 g.v F.length (F.flatMap bT) from fun w' e w'' h=>by unfold oH at h;rw [hF] at h;exact h);have gl:=gH (show bM r.members r.members[k].of r.members[k].role=q by rw [sP];exact hq);have KS:=gH (show ∀ w',ag wr w'→(ag wr w'∧w'.cell? ⟨w.heap.size,0,none⟩=some (.slice An r.names.length aC)∧w'.cell? ⟨w.heap.size,1,none⟩=some (.slice (some ⟨b,off,none⟩) r.members.length aJ)∧w'.cell? ⟨b,off+k*2,none⟩=some (.string m.role)∧w'.cell? ⟨b,off+k*2+1,none⟩=some (.string m.of)) from fun w' a=>⟨a,a.cell_kept e0,a.cell_kept e1,a.cell_kept t0,a.cell_kept t1⟩);clear sP hq hF Eu;go_wp2_with fail
   go_region_held3 (fun w'=>ag wr w'∧w'.cell? ⟨w.heap.size,0,none⟩=some (.slice An r.names.length aC)∧w'.cell? ⟨w.heap.size,1,none⟩=some (.slice (some ⟨b,off,none⟩) r.members.length aJ)∧w'.cell? ⟨b,off+k*2,none⟩=some (.string m.role)∧w'.cell? ⟨b,off+k*2+1,none⟩=some (.string m.of))
    (first | exact KS.out _ (ag.refl _).drew | exact KS.out _ (And.left (by assumption)) | exact KS.out _ (ag.trans (And.left (by assumption:ag wr _∧_)) (by assumption)))
    ((first | (go_at_call 227;refine (K3.out _ (And.left (by assumption:ag wr _∧_))).mono ?_;intro e w5 hP5;obtain ⟨g5,he5,a5,o5⟩:=KP.out _ _ _ hP5;clear hP5;subst he5) | (go_at_call 144;refine (K4.out _ _ _ (by assumption)).mono ?_;rintro e w4 ⟨rfl,rfl⟩)))
   have lx:=gH (And.left (by assumption:ag wr w5∧_));clear o5 a5
   cases q
   ·have IR:=gH (bC (p:=fun j=>∀ (hj:j < r.members.length),(!bM r.members r.members[j].of r.members[j].role)=true) HP.out (fun _=>by rw [gl.out];rfl))
    go_wp2
    go_roundw
    case rel=>exact ⟨k+1,by omega,by go_num,HA.out.trans lx.out,IR.out⟩
    case measure=>simp [intOf];omega
   ·have HF:=gH (show bG r=false by rw [IQ.out,all_false (fun m=>!bM r.members m.of m.role) r.members k hlt (by show (!bM r.members r.members[k].of r.members[k].role)=false;rw [gl.out];rfl)];rfl)
    go_wp2;go_ret;exact ⟨by rw [HF.out];rfl,(bQ.out.trans HA.out).trans lx.out⟩
  ·have HF:=gH (show bG r=true by rw [IQ.out,all_true _ _ fun j hj=>HP.out j (by omega) hj];rfl)
   go_wp2;go_ret;exact ⟨by rw [HF.out];rfl,bQ.out.trans HA.out⟩
@[go_sem ↓] theorem Hg (w:World) (s t:ByteArray) :
  (binOp .neq 174 (.agg #[.string s,.string t]) (.agg #[.string s,.string t])).run Tryz.prog w=.ok (.bool false) w:=by
 rw [run_neq_struct];go_simp;try rfl
theorem jk.kb {P:Nat→Prop} {w w':World} {B:Nat} {hn hm:Hd} {r:fV} (h:jk w B hn hm r) (k:Kb P w w') (hp:∀ g,g∈hn.blk∨g∈hm.blk→¬ P g):jk w' B hn hm r :=
 ⟨bB h.j0 k fun g hg=>hp g (.inl (Hd.bu.2 hg)),bB h.mem k fun g hg=>hp g (.inr (Hd.bu.2 hg)),h.Ba⟩
theorem jk.lt {w:World} {B:Nat} {hn hm:Hd} {r:fV} (h:jk w B hn hm r):∀ g,g∈hn.blk∨g∈hm.blk→B≤g∧g < w.heap.size:=fun g hg=>by
 rcases hg with h1 | h1
 ·exact h.j0.lt g (Hd.bu.1 h1)
 ·exact h.mem.lt g (Hd.bu.1 h1)
structure eN (w:World) (B:Nat) (c:bX) (hs ht hn hm hg:Hd) (L:List bK):Prop where
 obj:dM w B hs ht c.ah.aa L
 O8:L.map bK.t=c.ah.tables
 IU:jk w B hn hm c.ai
 n7:w.ownsRow B 177 6 hg.v c.af.length (c.af.flatMap eM)
 Ba:∀ g∈hs.blk++(ht.blk++L.flatMap bK.ig),¬ (g∈hn.blk∨g∈hm.blk)∧g∉hg.blk
 BK:∀ g,g∈hn.blk∨g∈hm.blk→g∉hg.blk
def FK (c:bX):Prop:=qf c.ah∧mY c.ai∧Small (c.af.length*16)∧∀ g∈c.af,uw g
theorem fp.sm {w:World} {c:bX} {As:Option Addr} {ay:Nat} {At:Option Addr} {az:Nat} {An:Option Addr} {aC:Nat} {Am:Option Addr} {aJ:Nat} {Ag:Option Addr} {aQ:Nat} (h:fp w c As ay At az An aC Am aJ Ag aQ):FK c :=
 ⟨⟨xd h.gT,xe h.tab⟩,Qj h.j0 h.mem,kE h.n7 fun _ _ h=>h.2⟩
theorem eN.aH {w w':World} {B:Nat} {c:bX} {hs ht hn hm hg:Hd} {L:List bK} (h:eN w B c hs ht hn hm hg L) (a:ag w w'):eN w' B c hs ht hn hm hg L:=⟨h.obj.aH a,h.O8,h.IU.aH a,cj h.n7 a,h.Ba,h.BK⟩
theorem eN.at {w:World} {B:Nat} {c:bX} {hs ht hn hm hg:Hd} {L:List bK} (h:eN w B c hs ht hn hm hg L) (sm:FK c):fp w c hs.a hs.c ht.a ht.c hn.a hn.c hm.a hm.c hg.a hg.c:=by
 have e1:pH c.ah.aa L=c.ah:=by unfold pH;rw [h.O8]
 have h1:=h.obj.Qk (by rw [e1];exact sm.1);have h2:=h.obj.tabs (by rw [e1];exact sm.1);rw [h.O8] at h2;exact ⟨h1,h2,h.IU.names sm.2.1,h.IU.Zc sm.2.1,dC eM h.n7 (fun g hm=>⟨rfl,rfl,sm.2.2.2 g hm⟩) sm.2.2.1⟩
def Ql (c:bX) (hs ht hn hm hg:Hd):Value:=.agg #[.int .i64 c.ax,.int .i64 c.version,.slice hs.a c.ah.aa.length hs.c,.slice ht.a c.ah.tables.length ht.c,.slice hn.a c.ai.names.length hn.c,.slice hm.a c.ai.members.length hm.c,.slice hg.a c.af.length hg.c]
def Vp (c:bX) (w:World) (e:Ending) (w':World):Prop:=∃ hs ht hn hm hg L,e=.returned (Ql c hs ht hn hm hg)∧ag w w'∧eN w' w.heap.size c hs ht hn hm hg L
def Ew (l:List cp):Prop:=∀ t∈l,t.av.length≤3000∧t.rules.length≤3000∧∀ r∈t.rules,r.av.length≤3000
theorem Ew.snoc {l:List cp} {k:Nat} (hk:k < l.length) (h:Ew (l.take k)) (h1:l[k].av.length≤3000) (h2:l[k].rules.length≤3000) (h3:∀ r∈l[k].rules,r.av.length≤3000):Ew (l.take (k+1)):=by
 intro t ht;rw [List.take_succ_eq_append_getElem hk,List.mem_append,List.mem_singleton] at ht
 rcases ht with ht | rfl
 ·exact h t ht
 ·exact ⟨h1,h2,h3⟩
theorem xh {α:Type} {l:List α} {k:Nat} (hk:k < l.length) {P:α→Prop} (h:∀ r∈l.take k,P r) (h1:P l[k]):∀ r∈l.take (k+1),P r:=by
 intro r hr;rw [List.take_succ_eq_append_getElem hk,List.mem_append,List.mem_singleton] at hr
 rcases hr with hr | rfl
 ·exact h r hr
 ·exact h1
structure Zd (c:bX):Prop where
 obj:Qm c.ah
 j0:c.ai.names.length≤3000
 mem:c.ai.members.length≤3000
 n7:c.af.length≤3000
def Qn (w:World) (c:bX) (e:Ending) (w':World):Prop:=∃ b:Bool,e=.returned (.bool b)∧(b=false→Zd c)∧ag w w'
theorem Qo (c:bX) (As:Option Addr) (ay:Nat) (At:Option Addr) (az:Nat) (An:Option Addr) (aC:Nat) (Am:Option Addr) (aJ:Nat) (Ag:Option Addr) (aQ:Nat) (w:World) (H:fp w c As ay At az An aC Am aJ Ag aQ) :
  Calls Tryz.prog 12 #[.agg #[.int .i64 c.ax,.int .i64 c.version,.slice As c.ah.aa.length ay,.slice At c.ah.tables.length az,.slice An c.ai.names.length aC,.slice Am c.ai.members.length aJ,.slice Ag c.af.length aQ]] w (Qn w c):=by
 have hlen:=H.gT.len;have fq:=H.tab.len;have IV:=H.j0.len;have O9:c.ai.members.length*16≤140737488351232:=H.mem.2.1;have aaG:c.af.length*16≤140737488351232:=H.n7.2.1;obtain ⟨W,hW⟩:∃ W,W=(w.alloc (.cells #[.int .i64 c.ax,.int .i64 c.version,.slice As c.ah.aa.length ay,.slice At c.ah.tables.length az,.slice An c.ai.names.length aC,.slice Am c.ai.members.length aJ,.slice Ag c.af.length aQ] 32)).alloc (.cells #[.slice As c.ah.aa.length ay,.slice At c.ah.tables.length az] 25):=⟨_,rfl⟩
 have aW:ag w W:=by rw [hW];exact ((ag.refl w).alloc _).alloc _
 have r0:au W (w.heap.size) [.int .i64 c.ax,.int .i64 c.version,.slice As c.ah.aa.length ay,.slice At c.ah.tables.length az,.slice An c.ai.names.length aC,.slice Am c.ai.members.length aJ,.slice Ag c.af.length aQ]:=by rw [hW];exact au.up (bj (ag.refl _) (by simp))
 have r1:au W (w.heap.size+1) [.slice As c.ah.aa.length ay,.slice At c.ah.tables.length az]:=by rw [hW];exact bj (ag.refl _) (by simp)
 have HR:=gH r1;have bQ:=gH aW;have HT:=gH H.tab;clear H r0 r1 aW
 go_in
 go_wp2_with fail;rw [← hW]
 go_loopw [4,5] (fun n i wr=>∃ (k:Nat) (z:Int),k≤c.ah.tables.length∧n=.int .i64 z∧i=.int .i64 k∧0≤z∧z≤140737488351232∧(z≤3000→(c.ah.aa.length≤3000∧c.ah.tables.length≤3000∧c.ai.names.length≤3000∧c.ai.members.length≤3000∧c.af.length≤3000)∧Ew (c.ah.tables.take k))∧ag W wr) (fun _ i _=>c.ah.tables.length - (intOf i).toNat)
 case atStart=>exact ⟨0,_,Nat.zero_le _,rfl,rfl,by omega,by omega,fun h=>⟨⟨by omega,by omega,by omega,by omega,by omega⟩,fun t ht=>by simp at ht⟩,ag.refl _⟩
 case round =>
  clear hW;obtain ⟨k,z,hk,rfl,rfl,hz1,hz2,sV,ha⟩:=hrel;have HA:=gH ha;have p0:=HR.out.aH ha;have x1:=p0.cell (j:=1) rfl;have xz:=p0.1;have HM:=gH sV;clear sV p0;by_cases hlt:k < c.ah.tables.length
  ·by_cases hz0:z≤3000
   ·obtain ⟨b,off,B2,iV,B3,jm,rfl,hb,c0,c1,c2,c3,c4,dt,ew,lZ⟩:=fh (br (bQ.out.trans ha) HT.out) hlt
    obtain ⟨t,IW⟩:∃ t,c.ah.tables[k]=t:=⟨_,rfl⟩;rw [IW] at c0 c1 c2 c3 c4 dt ew;have Ma:=gH IW;clear IW lZ ha;have hl2:=dt.len;have XW:=ew.len;go_wp2_with fail
    go_loop [4,7] (fun n i=>∃ (m:Nat) (z:Int),m≤t.rules.length∧n=.int .i64 z∧i=.int .i64 m∧0≤z∧z≤140737488351232∧(z≤3000→(t.av.length≤3000∧t.rules.length≤3000)∧∀ r∈t.rules.take m,r.av.length≤3000)) (fun _ i=>t.rules.length - (intOf i).toNat)
    case atStart=>exact ⟨0,_,Nat.zero_le _,rfl,rfl,by omega,by omega,fun h=>⟨⟨by omega,by omega⟩,fun r hr=>by simp at hr⟩⟩
    case round =>
     obtain ⟨m,z2,hm,rfl,rfl,hy1,hy2,sV⟩:=hrel;have HN:=gH sV;clear sV;by_cases fd:m < t.rules.length
     ·by_cases hz2:z2≤3000
      ·obtain ⟨b3,Qp,D2,jO,rfl,hb3,e0,e1,e2,e3,e4,e5,e6,e7,hcs,IX⟩:=jC ew fd
       have hl4:=hcs.len;go_wp2
       go_round
       case rel=>exact ⟨m+1,_,by omega,rfl,by go_num,by omega,by omega,fun h=>⟨(HN.out hz2).1,xh (P:=fun r:fF=>r.av.length≤3000) fd (HN.out hz2).2 (by omega)⟩⟩
       case measure=>simp [intOf];omega
      ·go_wp2
       go_roundw
       case rel=>exact ⟨k+1,_,by omega,rfl,by go_num,hy1,hy2,fun h=>absurd h hz2,HA.out.alloc _⟩
       case measure=>simp [intOf];omega
     ·go_wp2
      go_roundw
      case rel =>
       refine ⟨k+1,_,by omega,rfl,by go_num,hy1,hy2,fun h=>⟨(HM.out hz0).1,?_⟩,HA.out.alloc _⟩;have hn:=HN.out h;rw [List.take_of_length_le (by omega)] at hn;exact (HM.out hz0).2.snoc hlt (by rw [Ma.out];exact hn.1.1) (by rw [Ma.out];exact hn.1.2) (by rw [Ma.out];exact hn.2)
      case measure=>simp [intOf];omega
   ·clear ha
    go_wp2;go_ret;exact ⟨_,rfl,fun h=>absurd h (by first | (simp;done) | (simp;omega)),bQ.out.trans HA.out⟩
  ·clear ha
   go_wp2;go_ret;refine ⟨_,rfl,fun h=>?_,bQ.out.trans HA.out⟩
   have h3:z≤3000:=by simpa using h
   obtain ⟨h1,h2⟩:=HM.out h3;rw [List.take_of_length_le (by omega)] at h2;exact ⟨⟨by omega,by omega,fun t ht=>⟨by have:=(h2 t ht).1;omega,by have:=(h2 t ht).2.1;omega,fun r hr=>by have:=(h2 t ht).2.2 r hr;omega⟩⟩,h1.2.2.1,h1.2.2.2.1,h1.2.2.2.2⟩
noncomputable def fT (c:bX) (role:ByteArray):List ByteArray:=c.ai.names.filter (bM c.ai.members role)
theorem oI (l:List cF) (R:List ByteArray) (s n:ByteArray) (rt:Int) (op:Bool) (k:Nat) (hk:k < l.length) (h:(aS l[k].ac s&&aS l[k].table n&&(l[k].right==rt)&&(l[k].opt || !op)&&cL R l[k].to)=true):gU l R s n rt op=true:=any_true _ l k hk h
theorem Qq (c:bX) (As:Option Addr) (ay:Nat) (At:Option Addr) (az:Nat) (An:Option Addr) (aC:Nat) (Am:Option Addr) (aJ:Nat) (Ag:Option Addr) (aQ:Nat) (l:List cF) (Al:Option Addr) (fD:Nat) (role s n:ByteArray) (rt:Int) (op:Bool) (w:World) (H:fp w c As ay At az An aC Am aJ Ag aQ) (hl:aA w 6 gC Al fD l) (my:Small role.size) (sP:c.ai.members.length*16≤140737488351000) :
  Calls Tryz.prog 150 #[.agg #[.int .i64 c.ax,.int .i64 c.version,.slice As c.ah.aa.length ay,.slice At c.ah.tables.length az,.slice An c.ai.names.length aC,.slice Am c.ai.members.length aJ,.slice Ag c.af.length aQ],.slice Al l.length fD,.string role,.string s,.string n,.int .i64 rt,.bool op] w fun e w'=>e=.returned (.bool (gU l (fT c role) s n rt op))∧ag w w':=by
 have hlen:=hl.len;obtain ⟨W,hW⟩:∃ W,W=w.alloc (.cells #[.int .i64 c.ax,.int .i64 c.version,.slice As c.ah.aa.length ay,.slice At c.ah.tables.length az,.slice An c.ai.names.length aC,.slice Am c.ai.members.length aJ,.slice Ag c.af.length aQ] 32):=⟨_,rfl⟩
 have aW:ag w W:=by rw [hW];exact (ag.refl w).alloc _
 have r0:au W (w.heap.size) [.int .i64 c.ax,.int .i64 c.version,.slice As c.ah.aa.length ay,.slice At c.ah.tables.length az,.slice An c.ai.names.length aC,.slice Am c.ai.members.length aJ,.slice Ag c.af.length aQ]:=by rw [hW];exact bj (ag.refl _) (by simp)
 have CR:=gH (show Calls Tryz.prog 227 #[.agg #[.slice An c.ai.names.length aC,.slice Am c.ai.members.length aJ],.string role] W (oH W c.ai role) from BJ c.ai An aC Am aJ role W (aO aW H.j0) (cu aW H.mem) my sP);have Vq:=gH (fS H.j0);have HL:=gH (dQ aW hl);have bQ:=gH aW;have x4:=r0.cell (j:=4) rfl;have x5:=r0.cell (j:=5) rfl;have xz:=r0.1;clear H hl r0 aW my sP
 go_in
 go_wp2_with fail;rw [← hW];clear hW;refine CR.out.mono ?_;rintro e w1 ⟨h,rfl,a1,ho⟩;have cT:=gH a1;have cM:=bY ho;have SL:=gH (show aA w1 1 dg h.a h.c (fT c role) from dC (R:=dg) bT ho (fun x hx=>⟨rfl,rfl,Vq.out.2 x (List.mem_filter.1 hx).1⟩) (by show Small ((c.ai.names.filter (bM c.ai.members role)).length*16);have h1:=Vq.out.1;have h2:=List.length_filter_le (bM c.ai.members role) c.ai.names;unfold Small at *;omega));rw [cM,show (c.ai.names.filter (bM c.ai.members role))=fT c role from rfl];obtain ⟨R,hR⟩:∃ R,fT c role=R:=⟨_,rfl⟩;have XX:=gH hR;rw [hR] at SL ⊢;clear a1 ho cM CR hR x4 x5 xz;go_wp2_with fail
 go_loopw [16] (fun i wr=>∃ k:Nat,k≤l.length∧i=.int .i64 k∧ag w1 wr∧∀ j,j < k→∀ (hj:j < l.length),(aS l[j].ac s&&aS l[j].table n&&(l[j].right==rt)&&(l[j].opt || !op)&&cL R l[j].to)=false) (fun i _=>l.length - (intOf i).toNat)
 case atStart=>exact ⟨0,Nat.zero_le _,rfl,ag.refl _,fun j hj=>absurd hj (Nat.not_lt_zero j)⟩
 case round =>
  obtain ⟨k,hk,rfl,ha,hp⟩:=hrel;have HA:=gH ha;have HP:=gH hp;by_cases hlt:k < l.length
  case neg =>
   clear ha hp;go_wp2;go_ret;exact ⟨by rw [XX.out,show gU l R s n rt op=false from any_false _ l fun j hj=>HP.out j (by omega) hj];rfl,bQ.out.trans (cT.out.trans HA.out)⟩
  obtain ⟨b,off,rfl,hb,t0,t1,t2,t3,t4,t5,_⟩:=jc (dQ (cT.out.trans ha) HL.out) hlt;obtain ⟨x,hx⟩:∃ x,l[k]=x:=⟨_,rfl⟩;rw [hx] at t0 t1 t2 t3 t4 t5;have HX:=gH hx;have aX:ag wr (wr.alloc (.cells #[.string x.ac,.string x.table,.int .i64 x.right,.string x.aI,.string x.to,.bool x.opt] 177)):=(ag.refl _).alloc _;have lx:=gH (HA.out.trans aX);have CI:=gH (show Calls Tryz.prog 144 #[.slice h.a R.length h.c,.string x.to] (wr.alloc (.cells #[.string x.ac,.string x.table,.int .i64 x.right,.string x.aI,.string x.to,.bool x.opt] 177)) fun e w''=>e=.returned (.bool (cL R x.to))∧(wr.alloc (.cells #[.string x.ac,.string x.table,.int .i64 x.right,.string x.aI,.string x.to,.bool x.opt] 177))=w'' from gi h.a h.c R x.to _ (aO lx.out SL.out));obtain ⟨xs,xt,xr,xg,xo,xp⟩:=x;dsimp only at t0 t1 t2 t3 t4 t5 CI lx;obtain ⟨i,hi⟩:∃ i,cL R xo=i:=⟨_,rfl⟩;rw [hi] at CI;have HQ:=gH (show (aS l[k].ac s&&aS l[k].table n&&(l[k].right==rt)&&(l[k].opt || !op)&&cL R l[k].to)=(aS xs s&&aS xt n&&(xr==rt)&&(xp || !op)&&i) by rw [HX.out,← hi]);clear ha hp hx hi aX HX
  cases e1:aS xs s
  case false =>
   have Iy:(xs.toList==s.toList)=false:=e1;have HF:=gH (show (aS l[k].ac s&&aS l[k].table n&&(l[k].right==rt)&&(l[k].opt || !op)&&cL R l[k].to)=false by rw [HQ.out,e1];rfl);clear e1
   go_wp2_with (go_at_call 144;refine CI.out.mono ?_;rintro e w9 ⟨rfl,rfl⟩)
   go_roundw
   case rel=>exact ⟨k+1,by omega,by go_num,lx.out,bC (p:=fun j=>∀ (hj:j < l.length),(aS l[j].ac s&&aS l[j].table n&&(l[j].right==rt)&&(l[j].opt || !op)&&cL R l[j].to)=false) HP.out (fun _=>HF.out)⟩
   case measure=>simp [intOf];omega
  have Iy:(xs.toList==s.toList)=true:=e1
  cases e2:aS xt n
  case false =>
   have G9:(xt.toList==n.toList)=false:=e2;have HF:=gH (show (aS l[k].ac s&&aS l[k].table n&&(l[k].right==rt)&&(l[k].opt || !op)&&cL R l[k].to)=false by rw [HQ.out,e1,e2];rfl);clear e1 e2
   go_wp2_with (go_at_call 144;refine CI.out.mono ?_;rintro e w9 ⟨rfl,rfl⟩)
   go_roundw
   case rel=>exact ⟨k+1,by omega,by go_num,lx.out,bC (p:=fun j=>∀ (hj:j < l.length),(aS l[j].ac s&&aS l[j].table n&&(l[j].right==rt)&&(l[j].opt || !op)&&cL R l[j].to)=false) HP.out (fun _=>HF.out)⟩
   case measure=>simp [intOf];omega
  have G9:(xt.toList==n.toList)=true:=e2
  cases e3:(xr==rt)
  case false =>
   have HF:=gH (show (aS l[k].ac s&&aS l[k].table n&&(l[k].right==rt)&&(l[k].opt || !op)&&cL R l[k].to)=false by rw [HQ.out,e1,e2,e3];rfl);clear e1 e2
   go_wp2_with (go_at_call 144;refine CI.out.mono ?_;rintro e w9 ⟨rfl,rfl⟩)
   go_roundw
   case rel=>exact ⟨k+1,by omega,by go_num,lx.out,bC (p:=fun j=>∀ (hj:j < l.length),(aS l[j].ac s&&aS l[j].table n&&(l[j].right==rt)&&(l[j].opt || !op)&&cL R l[j].to)=false) HP.out (fun _=>HF.out)⟩
   case measure=>simp [intOf];omega
  have Qr:=gH (show (aS l[k].ac s&&aS l[k].table n&&(l[k].right==rt)&&(l[k].opt || !op)&&cL R l[k].to)=((xp || !op)&&i) by rw [HQ.out,e1,e2,e3];cases xp<;>cases op<;>cases i<;>rfl);clear e1 e2 HQ
  cases xp<;>cases op<;>cases i
  ·have HF:=gH (show _=false from Qr.out)
   go_wp2_with (go_at_call 144;refine CI.out.mono ?_;rintro e w9 ⟨rfl,rfl⟩)
   go_roundw
   case rel=>exact ⟨k+1,by omega,by go_num,lx.out,bC (p:=fun j=>∀ (hj:j < l.length),(aS l[j].ac s&&aS l[j].table n&&(l[j].right==rt)&&(l[j].opt || !false)&&cL R l[j].to)=false) HP.out (fun _=>HF.out)⟩
   case measure=>simp [intOf];omega
  ·have HT:=gH (show _=true from Qr.out)
   go_wp2_with (go_at_call 144;refine CI.out.mono ?_;rintro e w9 ⟨rfl,rfl⟩)
   go_ret;exact ⟨by rw [XX.out,oI l R s n rt _ k hlt HT.out];rfl,bQ.out.trans (cT.out.trans lx.out)⟩
  rotate_left
  rotate_left
  ·have HF:=gH (show _=false from Qr.out)
   go_wp2_with (go_at_call 144;refine CI.out.mono ?_;rintro e w9 ⟨rfl,rfl⟩)
   go_roundw
   case rel=>exact ⟨k+1,by omega,by go_num,lx.out,bC (p:=fun j=>∀ (hj:j < l.length),(aS l[j].ac s&&aS l[j].table n&&(l[j].right==rt)&&(l[j].opt || !false)&&cL R l[j].to)=false) HP.out (fun _=>HF.out)⟩
   case measure=>simp [intOf];omega
  ·have HT:=gH (show _=true from Qr.out)
   go_wp2_with (go_at_call 144;refine CI.out.mono ?_;rintro e w9 ⟨rfl,rfl⟩)
   go_ret;exact ⟨by rw [XX.out,oI l R s n rt _ k hlt HT.out];rfl,bQ.out.trans (cT.out.trans lx.out)⟩
  ·have HF:=gH (show _=false from Qr.out)
   go_wp2_with (go_at_call 144;refine CI.out.mono ?_;rintro e w9 ⟨rfl,rfl⟩)
   go_roundw
   case rel=>exact ⟨k+1,by omega,by go_num,lx.out,bC (p:=fun j=>∀ (hj:j < l.length),(aS l[j].ac s&&aS l[j].table n&&(l[j].right==rt)&&(l[j].opt || !true)&&cL R l[j].to)=false) HP.out (fun _=>HF.out)⟩
   case measure=>simp [intOf];omega
  ·have HT:=gH (show _=true from Qr.out)
   go_wp2_with (go_at_call 144;refine CI.out.mono ?_;rintro e w9 ⟨rfl,rfl⟩)
   go_ret;exact ⟨by rw [XX.out,oI l R s n rt _ k hlt HT.out];rfl,bQ.out.trans (cT.out.trans lx.out)⟩
  all_goals
   have HF:=gH (show _=false from Qr.out)
   go_wp2_with (go_at_call 144;refine CI.out.mono ?_;rintro e w9 ⟨rfl,rfl⟩)
   go_roundw
   case rel=>exact ⟨k+1,by omega,by go_num,lx.out,bC (p:=fun j=>∀ (hj:j < l.length),(aS l[j].ac s&&aS l[j].table n&&(l[j].right==rt)&&(l[j].opt || !true)&&cL R l[j].to)=false) HP.out (fun _=>HF.out)⟩
   case measure=>simp [intOf];omega
theorem FL {l:List fJ} (hr:aM (fun a b=>aT a.name b.name) l=true) {q j:Nat} (hq:q < l.length) (hj:j < l.length) (hne:j≠q):aS l[j].name l[q].name=false:=by
 rw [Bool.eq_false_iff];intro e;have e0:=(dl _ _).2 e
 rcases Nat.lt_or_ge j q with h | h
 ·have:=dZ (c:=fun a b:fJ=>aT a.name b.name) (fun a b d h1 h2=>iF h1 h2) hr j q hj hq h
  omega
 ·have:=dZ (c:=fun a b:fJ=>aT a.name b.name) (fun a b d h1 h2=>iF h1 h2) hr q j hq hj (by omega)
  have:=jA l[j].name l[q].name;omega
theorem IY (o:bF) (R:List ByteArray) (t:cp):jL o R t=(cL R cE || cL R t.owner || cL R (qP o t.ac)):=by
 unfold jL cL
 induction R with
 | nil=>rfl
 | cons x R ih =>
  simp only [List.any_cons];rw [ih]
  cases aS x cE<;>cases aS x t.owner<;>cases aS x (qP o t.ac)<;>simp
theorem Vr (c:bX) (As:Option Addr) (ay:Nat) (At:Option Addr) (az:Nat) (An:Option Addr) (aC:Nat) (Am:Option Addr) (aJ:Nat) (Ag:Option Addr) (aQ:Nat) (role s n:ByteArray) (w:World) (H:fp w c As ay At az An aC Am aJ Ag aQ) (my:Small role.size) (hst:bv c=true) (h4:0≤bp c.ah.tables s n) :
  Calls Tryz.prog 149 #[.agg #[.int .i64 c.ax,.int .i64 c.version,.slice As c.ah.aa.length ay,.slice At c.ah.tables.length az,.slice An c.ai.names.length aC,.slice Am c.ai.members.length aJ,.slice Ag c.af.length aQ],.string role,.string s,.string n] w fun e w'=>e=.returned (.bool (jL c.ah (fT c role) (jI c.ah s n)))∧ag w w':=by
 have hlen:=H.gT.len;have fq:=H.tab.len
 have sP:c.ai.members.length*16≤140737488351000:=by
  have:=(oJ (bL.1 hst).2.1.2.1).2;omega
 obtain ⟨W,hW⟩:∃ W,W=w.alloc (.cells #[.int .i64 c.ax,.int .i64 c.version,.slice As c.ah.aa.length ay,.slice At c.ah.tables.length az,.slice An c.ai.names.length aC,.slice Am c.ai.members.length aJ,.slice Ag c.af.length aQ] 32):=⟨_,rfl⟩
 have aW:ag w W:=by rw [hW];exact (ag.refl w).alloc _
 have r0:au W (w.heap.size) [.int .i64 c.ax,.int .i64 c.version,.slice As c.ah.aa.length ay,.slice At c.ah.tables.length az,.slice An c.ai.names.length aC,.slice Am c.ai.members.length aJ,.slice Ag c.af.length aQ]:=by rw [hW];exact bj (ag.refl _) (by simp)
 obtain ⟨ts,tn,hsc⟩:=qW hst h4;obtain ⟨q,hq⟩:=Int.eq_ofNat_of_zero_le h4
 have mO:q < c.ah.tables.length:=by have:=(bk (fun t:cp=>aS t.ac s&&aS t.name n) c.ah.tables).2;unfold bp at hq;omega
 have hT:=nE hq mO;obtain ⟨q2,XY⟩:=Int.eq_ofNat_of_zero_le hsc
 have Qs:q2 < c.ah.aa.length:=by have:=(bk (fun x:fJ=>aS x.name s) c.ah.aa).2;unfold cy at XY;omega
 have hO:=oC XY Qs;have IZ:aS c.ah.aa[q2].name s=true:=gN _ c.ah.aa q2 Qs XY
 have I0:aM (fun a b=>aT a.name b.name) c.ah.aa=true:=by
  have:=(bL.1 hst).2.1.1;unfold bw lL at this;simp only [Bool.and_eq_true] at this;exact this.1.2
 obtain ⟨b,off,A2,bJ,A3,fN,hAt,hb,t0,t1,t2,t3,t4,_,_,_⟩:=fh (br aW H.tab) mO;subst hAt;obtain ⟨T,hTT⟩:∃ T,c.ah.tables[q]=T:=⟨_,rfl⟩;rw [hTT] at t0 t1 t2 t3 t4 hT;have Vs:=gH (show jL c.ah (fT c role) (jI c.ah s n)=(cL (fT c role) cE || cL (fT c role) T.owner || cL (fT c role) c.ah.aa[q2].owner) by rw [IY,ts,hO,hT])
 have Qt:=gH (show ∀ j (hj:j < c.ah.aa.length),aS c.ah.aa[j].name s=decide (j=q2) from fun j hj=>by
  by_cases e:j=q2
  ·subst e;rw [IZ];simp
  ·rw [← (lK _ _).1 IZ,FL I0 Qs hj e];simp [e])
 have CT:=gH (show ∀ V,ag W V→Calls Tryz.prog 147 #[.agg #[.slice As c.ah.aa.length ay,.slice (some ⟨b,off,none⟩) c.ah.tables.length az],.string s,.string n] V fun e w''=>e=.returned (.int .i64 q)∧ag V w'' from fun V a=>(sW (.slice As c.ah.aa.length ay) (some ⟨b,off,none⟩) az c.ah.tables s n V (br (aW.trans a) H.tab)).mono fun e w'' ⟨he,hw⟩=>⟨he.trans (by rw [hq]),hw⟩);have CR:=gH (show ∀ V,ag W V→Calls Tryz.prog 227 #[.agg #[.slice An c.ai.names.length aC,.slice Am c.ai.members.length aJ],.string role] V (oH V c.ai role) from fun V a=>BJ c.ai An aC Am aJ role V (aO (aW.trans a) H.j0) (cu (aW.trans a) H.mem) my sP);have Vq:=gH (fS H.j0);have HSC:=gH (bI aW H.gT);have bQ:=gH aW;have fO:=gH r0;have x2:=r0.cell (j:=2) rfl;have x3:=r0.cell (j:=3) rfl;have xz:=r0.1
 have v2:(0:Int)≤(q:Int):=by omega
 have v3:((q:Nat):Int).toNat=q:=by omega
 have v4:(q:Int) < (c.ah.tables.length:Int):=by omega
 clear H r0 aW hst h4 ts tn hsc hq hT XY hO IZ I0 hTT my sP
 go_in
 go_wp2_with fail;rw [← hW];clear hW;refine aj (by kernel_rfl) (by kernel_rfl) ?_
 repeat (go_big_quiet_step ((go_at_call 147;exact Calls.aL (CT.out _ ((ag.refl W).bt _)))))
 refine wpQuiet_nil ?_;intro _ hw';obtain ⟨y,hw''⟩:=hw';subst hw'';obtain ⟨V,hV⟩:∃ V,V=bt W y:=⟨_,rfl⟩
 have aV:ag W V:=by rw [hV];exact (ag.refl W).bt y
 have oq:=gH aV;have p1:=fO.out.aH aV;clear x2 x3 xz t0 t1 t2 t3 t4 CT v2 v3 v4;have x2:=p1.cell (j:=2) rfl;have xz:=p1.1;rw [← hV];clear aV p1 hV;go_wp2_with fail
 go_loopw [10,11] (fun u10 i wr=>∃ k:Nat,k≤c.ah.aa.length∧i=.int .i64 k∧u10=.string (if q2 < k then c.ah.aa[q2].owner else ⟨#[]⟩)∧ag V wr) (fun _ i _=>c.ah.aa.length - (intOf i).toNat)
 case atStart=>exact ⟨0,Nat.zero_le _,rfl,by rw [if_neg (by omega)],ag.refl _⟩
 case round =>
  clear x2 xz;obtain ⟨k,hk,rfl,rfl,ha⟩:=hrel;have HA:=gH ha;have p1:=fO.out.aH (oq.out.trans ha);have x2:=p1.cell (j:=2) rfl;have xz:=p1.1;by_cases hlt:k < c.ah.aa.length
  ·obtain ⟨b3,Qp,rfl,hb3,s0,s1,_,_⟩:=iC (bI (oq.out.trans ha) HSC.out) hlt
   have HQ:=Qt.out k hlt;obtain ⟨x,hx⟩:∃ x,c.ah.aa[k]=x:=⟨_,rfl⟩;rw [hx] at s0 s1 HQ;by_cases hkq:k=q2
   ·subst hkq
    have HX:=gH (show c.ah.aa[k].owner=x.owner by rw [hx])
    have e0:(x.name.toList==s.toList)=true:=by
                             have:aS x.name s=true:=by rw [HQ];simp
                             exact this
    clear ha p1 hx HQ;go_wp2
    go_roundw
    case rel=>exact ⟨k+1,by omega,by go_num,by rw [if_pos (by omega),HX.out],HA.out⟩
    case measure=>simp [intOf];omega
   ·have e0:(x.name.toList==s.toList)=false:=by
                              have:aS x.name s=false:=by rw [HQ];simp [hkq]
                              exact this
    have HI:=gH (show (q2 < k+1)=(q2 < k) by apply propext;omega);clear ha p1 hx HQ;go_wp2
    go_roundw
    case rel=>exact ⟨k+1,by omega,by go_num,by simp only [HI.out],HA.out⟩
    case measure=>simp [intOf];omega
  ·have CR2:=gH (CR.out wr (oq.out.trans ha))
   have HOV:=gH (show (if q2 < k then c.ah.aa[q2].owner else (⟨#[]⟩:ByteArray))=c.ah.aa[q2].owner by rw [if_pos (by omega)]);rw [HOV.out];have x4:=p1.cell (j:=4) rfl;have x5:=p1.cell (j:=5) rfl;clear ha p1 CR;go_wp2_with fail;refine CR2.out.mono ?_;rintro e w1 ⟨h,rfl,a1,ho⟩;have cT:=gH (oq.out.trans (HA.out.trans a1));have cM:=bY ho;have SL:=gH (show aA w1 1 dg h.a h.c (fT c role) from dC (R:=dg) bT ho (fun x hx=>⟨rfl,rfl,Vq.out.2 x (List.mem_filter.1 hx).1⟩) (by show Small ((c.ai.names.filter (bM c.ai.members role)).length*16);have h1:=Vq.out.1;have h2:=List.length_filter_le (bM c.ai.members role) c.ai.names;unfold Small at *;omega));rw [cM,show (c.ai.names.filter (bM c.ai.members role))=fT c role from rfl];obtain ⟨R,hR⟩:∃ R,fT c role=R:=⟨_,rfl⟩;rw [hR] at SL;rw [hR];obtain ⟨ow,how⟩:∃ x,T.owner=x:=⟨_,rfl⟩;obtain ⟨ov,Tq⟩:∃ x,c.ah.aa[q2].owner=x:=⟨_,rfl⟩;rw [how,Tq];obtain ⟨i1,kj⟩:∃ i,cL R cE=i:=⟨_,rfl⟩;obtain ⟨i2,kQ⟩:∃ i,cL R ow=i:=⟨_,rfl⟩;obtain ⟨i3,Ex⟩:∃ i,cL R ov=i:=⟨_,rfl⟩;have Qu:=gH (show jL c.ah (fT c role) (jI c.ah s n)=(i1 || i2 || i3) by rw [Vs.out,hR,how,Tq,kj,kQ,Ex]);have C1:=gH (show Calls Tryz.prog 144 #[.slice h.a R.length h.c,.string ⟨#[114,111,111,116]⟩] w1 fun e w''=>e=.returned (.bool i1)∧w1=w'' from kj▸gi h.a h.c R cE w1 SL.out);have C2:=gH (show Calls Tryz.prog 144 #[.slice h.a R.length h.c,.string ow] w1 fun e w''=>e=.returned (.bool i2)∧w1=w'' from kQ▸gi h.a h.c R ow w1 SL.out)
   have C3:=gH (show Calls Tryz.prog 144 #[.slice h.a R.length h.c,.string ov] w1 fun e w''=>e=.returned (.bool i3)∧w1=w'' from Ex▸gi h.a h.c R ov w1 SL.out);clear a1 ho cM CR2 hR kj kQ Ex x2 x4 x5 xz how Tq;go_wp2_with fail;refine C1.out.mono ?_;rintro e w9 ⟨rfl,rfl⟩
   cases i1
   case true =>
    go_wp2;go_ret;exact ⟨by rw [Qu.out];rfl,bQ.out.trans cT.out⟩
   go_wp2_with fail;refine C2.out.mono ?_;rintro e w9 ⟨rfl,rfl⟩
   cases i2
   case true =>
    go_wp2;go_ret;exact ⟨by rw [Qu.out];rfl,bQ.out.trans cT.out⟩
   go_wp2_with fail;refine C3.out.mono ?_;rintro e w9 ⟨rfl,rfl⟩;go_wp2;go_ret;exact ⟨by rw [Qu.out];cases i3<;>rfl,bQ.out.trans cT.out⟩
theorem yQ (c:bX) (k:Nat) (hk:k < c.ah.aa.length) (h:cL c.ai.names c.ah.aa[k].owner=false):eJ c=false:=by unfold eJ;rw [all_false _ _ k hk h];rfl
theorem yR (c:bX) (k:Nat) (hk:k < c.ah.tables.length) (h:cL c.ai.names c.ah.tables[k].owner=false):eJ c=false:=by unfold eJ;rw [all_false (fun t:cp=>cL c.ai.names t.owner) _ k hk h];simp
theorem qX (c:bX) (h:eJ c=false):bv c=false:=by unfold bv;rw [h];simp
theorem Ey (c:bX) (As:Option Addr) (ay:Nat) (At:Option Addr) (az:Nat) (An:Option Addr) (aC:Nat) (Am:Option Addr) (aJ:Nat) (Ag:Option Addr) (aQ:Nat) (w:World) (H:fp w c As ay At az An aC Am aJ Ag aQ) :
  Calls Tryz.prog 85 #[.agg #[.int .i64 c.ax,.int .i64 c.version,.slice As c.ah.aa.length ay,.slice At c.ah.tables.length az,.slice An c.ai.names.length aC,.slice Am c.ai.members.length aJ,.slice Ag c.af.length aQ]] w fun e w'=>e=.returned (.bool (bv c))∧ag w w':=by
 have hlen:=H.n7.len;have fq:=H.gT.len;have IV:=H.tab.len;obtain ⟨W,hW⟩:∃ W,W=w.alloc (.cells #[.int .i64 c.ax,.int .i64 c.version,.slice As c.ah.aa.length ay,.slice At c.ah.tables.length az,.slice An c.ai.names.length aC,.slice Am c.ai.members.length aJ,.slice Ag c.af.length aQ] 32):=⟨_,rfl⟩
 have aW:ag w W:=by rw [hW];exact (ag.refl w).alloc _
 have r0:au W (w.heap.size) [.int .i64 c.ax,.int .i64 c.version,.slice As c.ah.aa.length ay,.slice At c.ah.tables.length az,.slice An c.ai.names.length aC,.slice Am c.ai.members.length aJ,.slice Ag c.af.length aQ]:=by rw [hW];exact bj (ag.refl _) (by simp)
 obtain ⟨ck,j7⟩:∃ b,bw c.ah=b:=⟨_,rfl⟩;obtain ⟨rk,qT⟩:∃ b,bG c.ai=b:=⟨_,rfl⟩;obtain ⟨ro,hro⟩:∃ b,cL c.ai.names cE=b:=⟨_,rfl⟩;have HS:=gH (show bv c=(decide (c.af.length≤64)&&ck&&rk&&ro&&eJ c&&(c.af.all (fA c)&&aM dR c.af)) by unfold bv;rw [j7,qT,hro]);have C1:=gH (show ∀ V,ag W V→Calls Tryz.prog 142 #[.agg #[.slice As c.ah.aa.length ay,.slice At c.ah.tables.length az]] V fun e w''=>e=.returned (.bool ck)∧ag V w'' from fun V a=>j7▸BL c.ah As ay At az V (bI (aW.trans a) H.gT) (br (aW.trans a) H.tab));have C2:=gH (show ∀ V,ag W V→Calls Tryz.prog 143 #[.agg #[.slice An c.ai.names.length aC,.slice Am c.ai.members.length aJ]] V fun e w''=>e=.returned (.bool rk)∧ag V w'' from fun V a=>qT▸Mf c.ai An aC Am aJ V (aO (aW.trans a) H.j0) (cu (aW.trans a) H.mem));have C3:=gH (show ∀ V,ag W V→Calls Tryz.prog 144 #[.slice An c.ai.names.length aC,.string ⟨#[114,111,111,116]⟩] V fun e w''=>e=.returned (.bool ro)∧V=w'' from fun V a=>hro▸gi An aC c.ai.names cE V (aO (aW.trans a) H.j0));have CI:=gH (show ∀ V,ag W V→∀ s,Calls Tryz.prog 144 #[.slice An c.ai.names.length aC,.string s] V fun e w''=>e=.returned (.bool (cL c.ai.names s))∧V=w'' from fun V a s=>gi An aC c.ai.names s V (aO (aW.trans a) H.j0));have CT:=gH (show ∀ V,ag W V→∀ s n,Calls Tryz.prog 147 #[.agg #[.slice As c.ah.aa.length ay,.slice At c.ah.tables.length az],.string s,.string n] V fun e w''=>e=.returned (.int .i64 (bp c.ah.tables s n))∧ag V w'' from fun V a s n=>sW (.slice As c.ah.aa.length ay) At az c.ah.tables s n V (br (aW.trans a) H.tab))
 have HH:=gH (H.aH aW);have bQ:=gH aW;have fO:=gH r0;obtain ⟨x0,x1,x2,x3,x4,x5,x6,xz⟩:=im r0;clear j7 qT hro H aW r0
 go_in
 by_cases m64:c.af.length≤64
 case neg =>
  have P6:(64:Int) < (c.af.length:Int):=by omega
  have HF:=gH (qR c m64);go_wp2;go_ret;exact ⟨by rw [HF.out];rfl,by rw [← hW];exact bQ.out⟩
 have P6:¬ (64:Int) < (c.af.length:Int):=by omega
 go_wp2_with fail;rw [← hW];clear hW;refine (C1.out W (ag.refl W)).mono ?_;rintro e w1 ⟨rfl,a1⟩;clear x0 x1 x2 x3 x4 x5 x6 xz;have H1:=gH a1;have p0:=fO.out.aH a1;have x4:=p0.cell (j:=4) rfl;have x5:=p0.cell (j:=5) rfl;have xz:=p0.1;clear a1 p0
 cases ck
 case false =>
  have HF:=gH (show bv c=false by rw [HS.out];simp);go_wp2;go_ret;exact ⟨by rw [HF.out];rfl,bQ.out.trans H1.out⟩
 go_wp2_with fail;refine (C2.out w1 H1.out).mono ?_;rintro e w2 ⟨rfl,a2⟩;clear x4 x5 xz;have H2:=gH (H1.out.trans a2);have p0:=fO.out.aH H2.out;have x2:=p0.cell (j:=2) rfl;have x4:=p0.cell (j:=4) rfl;have xz:=p0.1;clear a2 p0 H1
 cases rk
 case false =>
  have HF:=gH (show bv c=false by rw [HS.out];simp);go_wp2;go_ret;exact ⟨by rw [HF.out];rfl,bQ.out.trans H2.out⟩
 go_wp2_with fail;refine (C3.out w2 H2.out).mono ?_;rintro e w3 ⟨rfl,rfl⟩
 cases ro
 case false =>
  have HF:=gH (show bv c=false by rw [HS.out];simp);go_wp2;go_ret;exact ⟨by rw [HF.out];rfl,bQ.out.trans H2.out⟩
 go_wp2_with fail
 go_loopw [3] (fun i wr=>∃ k:Nat,k≤c.ah.aa.length∧i=.int .i64 k∧ag W wr∧∀ j,j < k→∀ (hj:j < c.ah.aa.length),cL c.ai.names c.ah.aa[j].owner=true) (fun i _=>c.ah.aa.length - (intOf i).toNat)
 case atStart=>exact ⟨0,Nat.zero_le _,rfl,H2.out,fun j hj=>absurd hj (Nat.not_lt_zero j)⟩
 case round =>
  clear x2 x4 xz;obtain ⟨k,hk,rfl,ha,hp⟩:=hrel;have HA:=gH ha;have HP:=gH hp;have p0:=fO.out.aH ha;have x2:=p0.cell (j:=2) rfl;have x4:=p0.cell (j:=4) rfl;have xz:=p0.1;have x3:=p0.cell (j:=3) rfl;by_cases hlt:k < c.ah.aa.length
  ·obtain ⟨b,off,rfl,hb,t0,t1,_,_⟩:=iC (bI ha HH.out.gT) hlt
   obtain ⟨x,hx⟩:∃ x,c.ah.aa[k]=x:=⟨_,rfl⟩;rw [hx] at t0 t1;obtain ⟨i,hi⟩:∃ i,cL c.ai.names x.owner=i:=⟨_,rfl⟩;have HI:=gH (show cL c.ai.names c.ah.aa[k].owner=i by rw [hx];exact hi);have C:=gH (show ∀ y:gX wr,Calls Tryz.prog 144 #[.slice An c.ai.names.length aC,.string x.owner] (bt wr y) fun e w''=>e=.returned (.bool i)∧ag (bt wr y) w'' from fun y=>(CI.out _ (HA.out.bt y) x.owner).mono fun e w'' ⟨he,hw⟩=>⟨he.trans (by rw [hi]),hw▸ag.refl _⟩);clear ha hp p0 hx hi
   cases i
   ·have HF:=gH (qX c (yQ c k hlt HI.out))
    go_wp2_with fail;refine aj (by kernel_rfl) (by kernel_rfl) ?_
    repeat (go_big_quiet_step ((go_at_call 144;exact Calls.aL (C.out _))))
    refine wpQuiet_nil ?_;intro _ hw';obtain ⟨y,hw''⟩:=hw';subst hw'';go_wp2;go_ret;exact ⟨by rw [HF.out];rfl,bQ.out.trans (HA.out.bt y)⟩
   ·go_wp2_with fail
    refine aj (by kernel_rfl) (by kernel_rfl) ?_
    repeat (go_big_quiet_step ((go_at_call 144;exact Calls.aL (C.out _))))
    refine wpQuiet_nil ?_;intro _ hw';obtain ⟨y,hw''⟩:=hw';subst hw'';go_wp2
    go_roundw
    case rel=>exact ⟨k+1,by omega,by go_num,HA.out.bt y,bC (p:=fun j=>∀ (hj:j < c.ah.aa.length),cL c.ai.names c.ah.aa[j].owner=true) HP.out (fun _=>HI.out)⟩
    case measure=>simp [intOf];omega
  have OS:=gH (show ∀ j (hj:j < c.ah.aa.length),cL c.ai.names c.ah.aa[j].owner=true from fun j hj=>hp j (by omega) hj);obtain ⟨wA,Ze⟩:∃ V,V=wr:=⟨_,rfl⟩;subst Ze;have cT:=gH ha;clear ha hp p0 HA HP;go_wp2_with fail
  go_loopw [4] (fun i wr=>∃ k:Nat,k≤c.ah.tables.length∧i=.int .i64 k∧ag W wr∧∀ j,j < k→∀ (hj:j < c.ah.tables.length),cL c.ai.names c.ah.tables[j].owner=true) (fun i _=>c.ah.tables.length - (intOf i).toNat)
  case atStart=>exact ⟨0,Nat.zero_le _,rfl,cT.out,fun j hj=>absurd hj (Nat.not_lt_zero j)⟩
  case round =>
   clear x2 x3 x4 xz;obtain ⟨k,hk,rfl,ha,hp⟩:=hrel;have HA:=gH ha;have HP:=gH hp;have p0:=fO.out.aH ha;have x2:=p0.cell (j:=2) rfl;have x3:=p0.cell (j:=3) rfl;have x4:=p0.cell (j:=4) rfl;have xz:=p0.1;have x6:=p0.cell (j:=6) rfl;by_cases hlt:k < c.ah.tables.length
   ·obtain ⟨b,off,A2,bJ,A3,fN,rfl,hb,t0,t1,t2,t3,t4,_,_,_⟩:=fh (br ha HH.out.tab) hlt
    obtain ⟨x,hx⟩:∃ x,c.ah.tables[k]=x:=⟨_,rfl⟩;rw [hx] at t0 t1 t2 t3 t4;obtain ⟨i,hi⟩:∃ i,cL c.ai.names x.owner=i:=⟨_,rfl⟩;have HI:=gH (show cL c.ai.names c.ah.tables[k].owner=i by rw [hx];exact hi);have C:=gH (show ∀ y:gX wr,Calls Tryz.prog 144 #[.slice An c.ai.names.length aC,.string x.owner] (bt wr y) fun e w''=>e=.returned (.bool i)∧ag (bt wr y) w'' from fun y=>(CI.out _ (HA.out.bt y) x.owner).mono fun e w'' ⟨he,hw⟩=>⟨he.trans (by rw [hi]),hw▸ag.refl _⟩);clear ha hp p0 hx hi
    cases i
    ·have HF:=gH (qX c (yR c k hlt HI.out))
     go_wp2_with fail;refine aj (by kernel_rfl) (by kernel_rfl) ?_
     repeat (go_big_quiet_step ((go_at_call 144;exact Calls.aL (C.out _))))
     refine wpQuiet_nil ?_;intro _ hw';obtain ⟨y,hw''⟩:=hw';subst hw'';go_wp2;go_ret;exact ⟨by rw [HF.out];rfl,bQ.out.trans (HA.out.bt y)⟩
    ·go_wp2_with fail
     refine aj (by kernel_rfl) (by kernel_rfl) ?_
     repeat (go_big_quiet_step ((go_at_call 144;exact Calls.aL (C.out _))))
     refine wpQuiet_nil ?_;intro _ hw';obtain ⟨y,hw''⟩:=hw';subst hw'';go_wp2
     go_roundw
     case rel=>exact ⟨k+1,by omega,by go_num,HA.out.bt y,bC (p:=fun j=>∀ (hj:j < c.ah.tables.length),cL c.ai.names c.ah.tables[j].owner=true) HP.out (fun _=>HI.out)⟩
     case measure=>simp [intOf];omega
   have OT:=gH (show ∀ j (hj:j < c.ah.tables.length),cL c.ai.names c.ah.tables[j].owner=true from fun j hj=>hp j (by omega) hj);obtain ⟨wB,Ze⟩:∃ V,V=wr:=⟨_,rfl⟩;subst Ze;have iy:=gH ha;clear ha hp p0 HA HP;go_wp2_with fail
   go_loopw [5] (fun i wr=>∃ k:Nat,k≤c.af.length∧i=.int .i64 k∧ag W wr∧∀ j,j < k→∀ (hj:j < c.af.length),fA c c.af[j]=true∧(0 < j→dR (c.af[j - 1]'(by omega)) c.af[j] < 0)) (fun i _=>c.af.length - (intOf i).toNat)
   case atStart=>exact ⟨0,Nat.zero_le _,rfl,iy.out,fun j hj=>absurd hj (Nat.not_lt_zero j)⟩
   case round =>
    clear x2 x3 x4 x6 xz;obtain ⟨k,hk,rfl,ha,hp⟩:=hrel;have HA:=gH ha;have HP:=gH hp;have p0:=fO.out.aH ha;have x2:=p0.cell (j:=2) rfl;have x3:=p0.cell (j:=3) rfl;have x4:=p0.cell (j:=4) rfl;have x6:=p0.cell (j:=6) rfl;have xz:=p0.1;by_cases hlt:k < c.af.length
    case neg =>
     have HF:=gH (show bv c=true by
      rw [HS.out,decide_eq_true m64,all_true _ _ fun j hj=>(HP.out j (by omega) hj).1,jM dR c.af fun j h1 hj=>(HP.out j (by omega) hj).2 (by omega)];unfold eJ
      rw [all_true _ _ OS.out,all_true (fun t:cp=>cL c.ai.names t.owner) _ OT.out];rfl)
     clear ha hp p0;go_wp2;go_ret;exact ⟨by rw [HF.out];rfl,bQ.out.trans HA.out⟩
    obtain ⟨b,off,rfl,hb,t0,t1,t2,t3,t4,t5,_⟩:=jc (dQ ha HH.out.n7) hlt;obtain ⟨g,hg⟩:∃ g,c.af[k]=g:=⟨_,rfl⟩;rw [hg] at t0 t1 t2 t3 t4 t5;obtain ⟨X,hX⟩:∃ V,V=wr.alloc (.cells #[.string g.ac,.string g.table,.int .i64 g.right,.string g.aI,.string g.to,.bool g.opt] 177):=⟨_,rfl⟩
    have aX:ag wr X:=by rw [hX];exact (ag.refl wr).alloc _
    have AX:=gH (HA.out.trans aX);have RX:=gH (show au X wr.heap.size [.string g.ac,.string g.table,.int .i64 g.right,.string g.aI,.string g.to,.bool g.opt] by rw [hX];exact aU (ag.refl _));have HG:=gH hg;obtain ⟨kb,hkb⟩:∃ kb,mM g.right=kb:=⟨_,rfl⟩;obtain ⟨eb,P7⟩:∃ eb,aS g.aI g.to=eb:=⟨_,rfl⟩;obtain ⟨i1,kj⟩:∃ i,cL c.ai.names g.aI=i:=⟨_,rfl⟩;obtain ⟨i2,kQ⟩:∃ i,cL c.ai.names g.to=i:=⟨_,rfl⟩;have HI1:=gH kj;have Tr:=gH kQ;have j8:=gH (show fA c c.af[k]=(decide (0≤bp c.ah.tables g.ac g.table)&&kb&&!eb&&i1&&i2) by rw [hg,← hkb,← P7,← kj,← kQ];rfl);have YV:(g.aI.toList==g.to.toList)=eb:=P7;have CK:=gH (show ∀ y:gX X,Calls Tryz.prog 146 #[.int .i64 g.right] (bt X y) fun e w''=>e=.returned (.bool kb)∧ag (bt X y) w'' from fun y=>(Qh g.right _).mono fun e w'' ⟨he,hw⟩=>⟨he.trans (by rw [hkb]),hw▸ag.refl _⟩);have p1:=p0.aH aX;clear ha hp p0 hg aX hkb P7 kj kQ;go_wp2_with fail;rw [← hX];clear hX t0 t1 t2 t3 t4 t5 x2 x3 x4 x6 xz hb;have x2:=p1.cell (j:=2) rfl;have x3:=p1.cell (j:=3) rfl;have x4:=p1.cell (j:=4) rfl;have x6:=p1.cell (j:=6) rfl;have xz:=p1.1;have p2:=RX.out;obtain ⟨e0,e1,e2,e3,e4,e5,ez⟩:=mN p2;clear p1 p2;by_cases h0:0 < k
    case neg =>
     have w5:decide ((0:Int) < (k:Int))=false:=decide_eq_false (by omega)
     have w6:¬ (0:Int) < (k:Int):=by omega
     have CL:=gH True.intro
     cases kb
     case false =>
      have HF:=gH (cQ c k hlt (by rw [j8.out];simp));refine aj (by kernel_rfl) (by kernel_rfl) ?_
      repeat (go_big_quiet_step ((first | (go_at_call 145;exact Calls.aL (CL.out _)) | (go_at_call 146;exact Calls.aL (CK.out _)))))
      refine wpQuiet_nil ?_;intro _ hw';obtain ⟨y,hw''⟩:=hw';subst hw'';go_wp2;go_ret;exact ⟨by rw [HF.out];rfl,bQ.out.trans (AX.out.bt y)⟩
     cases eb
     case true =>
      have HF:=gH (cQ c k hlt (by rw [j8.out];simp));refine aj (by kernel_rfl) (by kernel_rfl) ?_
      repeat (go_big_quiet_step ((first | (go_at_call 145;exact Calls.aL (CL.out _)) | (go_at_call 146;exact Calls.aL (CK.out _)))))
      refine wpQuiet_nil ?_;intro _ hw';obtain ⟨y,hw''⟩:=hw';subst hw'';go_wp2;go_ret;exact ⟨by rw [HF.out];rfl,bQ.out.trans (AX.out.bt y)⟩
     refine aj (by kernel_rfl) (by kernel_rfl) ?_
     repeat (go_big_quiet_step ((first | (go_at_call 145;exact Calls.aL (CL.out _)) | (go_at_call 146;exact Calls.aL (CK.out _)))))
     refine wpQuiet_nil ?_;intro _ hw';obtain ⟨y,hw''⟩:=hw';subst hw'';go_wp2_with fail;refine (CT.out _ (AX.out.bt y) g.ac g.table).mono ?_;rintro e w7 ⟨rfl,a7⟩;have A7:=gH ((AX.out.bt y).trans a7);have HD:=gH (show decide (0≤bp c.ah.tables g.ac g.table)=!decide (bp c.ah.tables g.ac g.table < 0) by by_cases h:bp c.ah.tables g.ac g.table < 0<;>simp [h]<;>omega);obtain ⟨ti,Qv⟩:∃ t,bp c.ah.tables g.ac g.table=t:=⟨_,rfl⟩;rw [Qv] at HD ⊢;rw [Qv] at j8;have p2:=fO.out.aH A7.out;have p3:=RX.out.aH ((ag.refl X).bt y |>.trans a7);clear a7 Qv e0 e1 e2 e3 e4 e5 ez x2 x3 x4 x6 xz;have x4:=p2.cell (j:=4) rfl;have xz:=p2.1;have e3:=p3.cell (j:=3) rfl;have e4:=p3.cell (j:=4) rfl;have ez:=p3.1;clear p2 p3;have N1:=gH (show Calls Tryz.prog 144 #[.slice An c.ai.names.length aC,.string g.aI] w7 fun e w''=>e=.returned (.bool i1)∧w7=w'' from HI1.out▸CI.out w7 A7.out g.aI);have N2:=gH (show Calls Tryz.prog 144 #[.slice An c.ai.names.length aC,.string g.to] w7 fun e w''=>e=.returned (.bool i2)∧w7=w'' from Tr.out▸CI.out w7 A7.out g.to);by_cases Qw:ti < 0
     case pos =>
      have HF:=gH (cQ c k hlt (by rw [j8.out,HD.out,decide_eq_true Qw];rfl));go_wp2;go_ret;exact ⟨by rw [HF.out];rfl,bQ.out.trans A7.out⟩
     go_wp2_with fail;refine N1.out.mono ?_;rintro e w9 ⟨rfl,rfl⟩
     cases i1
     case false =>
      have HF:=gH (cQ c k hlt (by rw [j8.out];simp));go_wp2;go_ret;exact ⟨by rw [HF.out];rfl,bQ.out.trans A7.out⟩
     go_wp2_with fail;refine N2.out.mono ?_;rintro e w9 ⟨rfl,rfl⟩
     cases i2
     case false =>
      have HF:=gH (cQ c k hlt (by rw [j8.out];simp));go_wp2;go_ret;exact ⟨by rw [HF.out];rfl,bQ.out.trans A7.out⟩
     have gl:=gH (show fA c c.af[k]=true by rw [j8.out,HD.out,decide_eq_false (show ¬ ti < 0 by omega)];rfl);go_wp2
     go_roundw
     case rel=>exact ⟨k+1,by omega,by go_num,A7.out,bC (p:=fun j=>∀ (hj:j < c.af.length),fA c c.af[j]=true∧(0 < j→dR (c.af[j - 1]'(by omega)) c.af[j] < 0)) HP.out (fun _=>⟨gl.out,fun h=>absurd h h0⟩)⟩
     case measure=>simp [intOf];omega
    have w5:decide ((0:Int) < (k:Int))=true:=decide_eq_true (by omega)
    have w6:(0:Int) < (k:Int):=by omega
    have jd:k - 1 < c.af.length:=by omega
    obtain ⟨b',off',hA',hb',s0,s1,s2,s3,s4,s5,_⟩:=jc (dQ AX.out HH.out.n7) jd;simp only [Option.some.injEq,Addr.mk.injEq,and_true] at hA';obtain ⟨rfl,rfl⟩:=hA';obtain ⟨p',js⟩:∃ p',(c.af[k - 1]'(by omega))=p':=⟨_,rfl⟩;rw [js] at s0 s1 s2 s3 s4 s5;have sM:=gH js;have v1:IntKind.i64.wrap ((k:Int) - 1)=(k:Int) - 1:=IntWalk.i64_in _ (by omega)
    have v2:(0:Int)≤(k:Int) - 1:=by omega
    have v3:((k:Int) - 1).toNat=k - 1:=by omega
    have v4:(k:Int) - 1 < (c.af.length:Int):=by omega
    obtain ⟨lt,Qx⟩:∃ b,decide (dR p' g < 0)=b:=⟨_,rfl⟩;have CL:=gH (show ∀ y:gX X,Calls Tryz.prog 145 #[.agg #[.string p'.ac,.string p'.table,.int .i64 p'.right,.string p'.aI,.string p'.to,.bool p'.opt],.agg #[.string g.ac,.string g.table,.int .i64 g.right,.string g.aI,.string g.to,.bool g.opt]] (bt X y) fun e w''=>e=.returned (.bool lt)∧ag (bt X y) w'' from fun y=>Qx▸IP p' g _);have Ha:=gH Qx;clear js Qx
    cases lt
    case false =>
     have HF:=gH (mP c k hlt h0 (by rw [sM.out,HG.out];have:=of_decide_eq_false Ha.out;omega));refine aj (by kernel_rfl) (by kernel_rfl) ?_
     repeat (go_big_quiet_step ((first | (go_at_call 145;exact Calls.aL (CL.out _)) | (go_at_call 146;exact Calls.aL (CK.out _)))))
     refine wpQuiet_nil ?_;intro _ hw';obtain ⟨y,hw''⟩:=hw';subst hw'';go_wp2;go_ret;exact ⟨by rw [HF.out];rfl,bQ.out.trans (AX.out.bt y)⟩
    have Zf:=gH (show dR (c.af[k - 1]'(by omega)) c.af[k] < 0 by rw [sM.out,HG.out];exact of_decide_eq_true Ha.out)
    cases kb
    case false =>
     have HF:=gH (cQ c k hlt (by rw [j8.out];simp));refine aj (by kernel_rfl) (by kernel_rfl) ?_
     repeat (go_big_quiet_step ((first | (go_at_call 145;exact Calls.aL (CL.out _)) | (go_at_call 146;exact Calls.aL (CK.out _)))))
     refine wpQuiet_nil ?_;intro _ hw';obtain ⟨y,hw''⟩:=hw';subst hw'';go_wp2;go_ret;exact ⟨by rw [HF.out];rfl,bQ.out.trans (AX.out.bt y)⟩
    cases eb
    case true =>
     have HF:=gH (cQ c k hlt (by rw [j8.out];simp));refine aj (by kernel_rfl) (by kernel_rfl) ?_
     repeat (go_big_quiet_step ((first | (go_at_call 145;exact Calls.aL (CL.out _)) | (go_at_call 146;exact Calls.aL (CK.out _)))))
     refine wpQuiet_nil ?_;intro _ hw';obtain ⟨y,hw''⟩:=hw';subst hw'';go_wp2;go_ret;exact ⟨by rw [HF.out];rfl,bQ.out.trans (AX.out.bt y)⟩
    refine aj (by kernel_rfl) (by kernel_rfl) ?_
    repeat (go_big_quiet_step ((first | (go_at_call 145;exact Calls.aL (CL.out _)) | (go_at_call 146;exact Calls.aL (CK.out _)))))
    refine wpQuiet_nil ?_;intro _ hw';obtain ⟨y,hw''⟩:=hw';subst hw'';go_wp2_with fail;refine (CT.out _ (AX.out.bt y) g.ac g.table).mono ?_;rintro e w7 ⟨rfl,a7⟩;have A7:=gH ((AX.out.bt y).trans a7);have HD:=gH (show decide (0≤bp c.ah.tables g.ac g.table)=!decide (bp c.ah.tables g.ac g.table < 0) by by_cases h:bp c.ah.tables g.ac g.table < 0<;>simp [h]<;>omega);obtain ⟨ti,Qv⟩:∃ t,bp c.ah.tables g.ac g.table=t:=⟨_,rfl⟩;rw [Qv] at HD ⊢;rw [Qv] at j8;have p2:=fO.out.aH A7.out;have p3:=RX.out.aH ((ag.refl X).bt y |>.trans a7);clear a7 Qv e0 e1 e2 e3 e4 e5 ez x2 x3 x4 x6 xz;have x4:=p2.cell (j:=4) rfl;have xz:=p2.1;have e3:=p3.cell (j:=3) rfl;have e4:=p3.cell (j:=4) rfl;have ez:=p3.1;clear p2 p3;have N1:=gH (show Calls Tryz.prog 144 #[.slice An c.ai.names.length aC,.string g.aI] w7 fun e w''=>e=.returned (.bool i1)∧w7=w'' from HI1.out▸CI.out w7 A7.out g.aI);have N2:=gH (show Calls Tryz.prog 144 #[.slice An c.ai.names.length aC,.string g.to] w7 fun e w''=>e=.returned (.bool i2)∧w7=w'' from Tr.out▸CI.out w7 A7.out g.to);by_cases Qw:ti < 0
    case pos =>
     have HF:=gH (cQ c k hlt (by rw [j8.out,HD.out,decide_eq_true Qw];rfl));go_wp2;go_ret;exact ⟨by rw [HF.out];rfl,bQ.out.trans A7.out⟩
    go_wp2_with fail;refine N1.out.mono ?_;rintro e w9 ⟨rfl,rfl⟩
    cases i1
    case false =>
     have HF:=gH (cQ c k hlt (by rw [j8.out];simp));go_wp2;go_ret;exact ⟨by rw [HF.out];rfl,bQ.out.trans A7.out⟩
    go_wp2_with fail;refine N2.out.mono ?_;rintro e w9 ⟨rfl,rfl⟩
    cases i2
    case false =>
     have HF:=gH (cQ c k hlt (by rw [j8.out];simp));go_wp2;go_ret;exact ⟨by rw [HF.out];rfl,bQ.out.trans A7.out⟩
    have gl:=gH (show fA c c.af[k]=true by rw [j8.out,HD.out,decide_eq_false (show ¬ ti < 0 by omega)];rfl);go_wp2
    go_roundw
    case rel=>exact ⟨k+1,by omega,by go_num,A7.out,bC (p:=fun j=>∀ (hj:j < c.af.length),fA c c.af[j]=true∧(0 < j→dR (c.af[j - 1]'(by omega)) c.af[j] < 0)) HP.out (fun _=>⟨gl.out,fun _=>Zf.out⟩)⟩
    case measure=>simp [intOf];omega
end Go.Proofs.YtakddkhipelmjaaGreat
