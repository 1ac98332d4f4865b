import Derived.Sort.QuietTacIn
import Derived.NoCompiler
import Derived.Test.YtmflccbnoeaafaaGreatPartC22
namespace Go.Proofs.YtmflccbnoeaafaaGreat
open Go.RowKit Go.Deep Go.Sort
set_option maxRecDepth 100000
set_option linter.unusedVariables false
set_option maxHeartbeats 64000000
theorem Ci (r:gi) (Ac:Option Addr) (cc:Nat) (o:bE) (w:World) (hs ht:Hd) (L:List ay) (B n3 q gt bt:Nat) (gA:bF o=true) (hq:q < L.length) (uV:B≤n3) (hL:L.map ay.t=o.tables) (ob:bC w B hs ht o.ae L) (hne:∀ g∈hs.blk++(ht.blk++L.flatMap ay.bI),g≠n3)
  (r3:ap w n3 [.slice hs.a o.ae.length hs.c,.slice ht.a o.tables.length ht.c]) (gX:ht.a=some ⟨gt,0,none⟩) (rt:ap w bt [.string r.name,.int .i64 r.kind,.slice Ac r.ak.length cc,.int .i64 r.low,.int .i64 r.high,.string r.aa,.string r.table,.string r.key]) (Gm:bt < B) (Rm:aL w 1 dK Ac cc r.ak) (sm:kA o) (h1:Small r.name.size) (h2:Small r.aa.size) (h3:Small r.table.size) (h4:Small r.key.size) :
  Calls Tryz.prog 166 #[.agg #[.slice hs.a o.ae.length hs.c,.slice ht.a o.tables.length ht.c],.pointer (some ⟨gt,q*5,none⟩),.pointer (some ⟨bt,0,none⟩)] w (vT (fun g=>g=bt) w B n3 hs ht o.ae L q (eo o.tables r L[q].t)):=by
 have wP:L.length=o.tables.length:=by rw [← hL];simp
 have pD:fL o.ae L=o:=by unfold fL;rw [hL]
 have VA:L[q].t∈o.tables:=by rw [← hL];exact List.mem_map_of_mem (List.getElem_mem hq)
 have Fa:rI L[q].t:=sm.2.2 _ VA;have mV:=(jM gA).2.2 _ VA
 have bB:aL w 5 dA ht.a ht.c o.tables:=by have:=ob.tabs (by rw [pD];exact sm);rw [hL] at this;exact this
 have tq:=ob.nth hq;obtain ⟨z1,z2,zf⟩:=ob.row gX hq;have hcv:L[q].hc.v=.slice L[q].hc.a L[q].ak.length L[q].hc.c:=bL tq.qp;have Iu:L[q].hr.v=.slice L[q].hr.a L[q].rules.length L[q].hr.c:=bL tq.nw;have ak:=tq.ak Fa;have oU:=tq.oU Fa;have hlen:=ak.len;have fl:=oU.len;have Nb:=bB.len
 have Kk:L[q].t.rules.length=L[q].rules.length:=by unfold ay.t;simp
 have Jk:aN gS L[q].t.rules=true:=by
  have h9:=gA;unfold bF at h9;simp only [Bool.and_eq_true,List.all_eq_true] at h9;have h8:=h9.2.2 _ VA;unfold dB at h8;simp only [Bool.and_eq_true] at h8;exact h8.2.2
 have Do:gt∈ht.blk:=by rw [Hd.au];unfold Hd.v;rw [gX];rfl
 have nd:=ob.nd
 have ot:∀ g,L[q].hr.v.ownBlock=some g→g≠gt∧g≠n3∧B≤g:=fun g h=>by
  have mb:g∈L.flatMap ay.bI:=List.mem_flatMap.2 ⟨L[q],List.getElem_mem hq,by unfold ay.bI;simp [Hd.au.2 h]⟩;exact ⟨fun e=>bp (List.nodup_append.1 nd).2.1 Do (by rw [← e];exact mb),hne g (by simp only [List.mem_append];exact .inr (.inr mb)),(tq.nw.lt g h).1⟩
 have Az:gt≠n3:=hne gt (by simp [Do]);obtain ⟨u,hu⟩:∃ u,dS L[q].t.ak r=u:=⟨_,rfl⟩;obtain ⟨i,hi⟩:∃ i,gp L[q].t.rules r.name=i:=⟨_,rfl⟩;obtain ⟨k,hk⟩:∃ k,mH o.tables L[q].t.ak r=k:=⟨_,rfl⟩
 have ye : -1≤i∧i < L[q].rules.length:=by rw [← hi,← Kk];exact bg _ _
 have HE:=gH (show eo o.tables r L[q].t=if !u then (L[q].t,63) else if 0≤i then (L[q].t,60) else if 8≤L[q].rules.length then (L[q].t,2) else if (r.kind==4&&k != 0) then (L[q].t,k) else ({ L[q].t with rules:=bQ L[q].t.rules (cN gS L[q].t.rules r) r },0) by
  unfold eo;rw [hu,hi,hk,Kk])
 have HI:=gH (show i < 0→∀ y∈L[q].t.rules,gS y r≠0 from fun h=>yN (hi▸h))
 have aB:∀ v0 v1,ag w (w.alloc (.cells #[v0,v1] 25)):=fun v0 v1=>(ag.refl w).alloc _
 obtain ⟨W,hW⟩:∃ W,W=w.alloc (.cells #[.slice hs.a o.ae.length hs.c,.slice ht.a o.tables.length ht.c] 25):=⟨_,rfl⟩
 have aW:ag w W:=by rw [hW];exact (ag.refl w).alloc _
 have rW:ap W w.heap.size [.slice hs.a o.ae.length hs.c,.slice ht.a o.tables.length ht.c]:=by rw [hW];exact aO (ag.refl _)
 have CF:=gH (show ∀ V,ag w V→∀ x:ii V,Calls Tryz.prog 125 #[.slice L[q].hc.a L[q].ak.length L[q].hc.c,.agg #[.string r.name,.int .i64 r.kind,.slice Ac r.ak.length cc,.int .i64 r.low,.int .i64 r.high,.string r.aa,.string r.table,.string r.key]] (bH V x) fun e w''=>e=.returned (.bool u)∧ag (bH V x) w'' from
  fun V a x=>(yc L[q].hc.a L[q].hc.c L[q].ak r Ac cc (bH V x) (cy (a.bH x) ak) (aM (a.bH x) Rm) h1 h2 h3 h4).mono fun e w'' ⟨he,hw⟩=>⟨he.trans (by rw [← hu];rfl),hw⟩)
 have CB:=gH (show ∀ V,ag w V→∀ x:ii V,Calls Tryz.prog 167 #[.slice L[q].hr.a L[q].rules.length L[q].hr.c,.string r.name,.func (.func 168) #[] #[]] (bH V x) fun e w''=>e=.returned (.int .i64 i)∧ag (bH V x) w'' from
  fun V a x=>by
   have h9:=(GQ L[q].hr.a L[q].hr.c (L[q].rules.map (·.r)) r.name (bH V x) (ee (a.bH x) oU)).mono fun e w'' ⟨he,hw⟩=>(⟨he.trans (by rw [← hi];rfl),hw⟩:e=Ending.returned (Value.int .i64 i)∧ag (bH V x) w'')
   rw [List.length_map] at h9
   exact h9)
 have CK:=gH (show ∀ V,ag w V→∀ x:ii V,Calls Tryz.prog 126 #[.agg #[.slice hs.a o.ae.length hs.c,.slice ht.a o.tables.length ht.c],.slice L[q].hc.a L[q].ak.length L[q].hc.c,.agg #[.string r.name,.int .i64 r.kind,.slice Ac r.ak.length cc,.int .i64 r.low,.int .i64 r.high,.string r.aa,.string r.table,.string r.key]] (bH V x) fun e w''=>e=.returned (.int .i64 k)∧ag (bH V x) w'' from
  fun V a x=>(Dl _ ht.a ht.c o.tables L[q].hc.a L[q].hc.c L[q].ak r Ac cc (bH V x) (aQ (a.bH x) bB) (cy (a.bH x) ak) (aM (a.bH x) Rm)).mono fun e w'' ⟨he,hw⟩=>⟨he.trans (by rw [← hk];rfl),hw⟩)
 have CC:=gH (show u=true→∀ V,ag w V→_ from fun h V a=>iq Ac cc r.ak V V (ag.refl V) (aM a Rm) (by
  have h9:rS L[q].t.ak r.ak=true:=by have hf:=hu.trans h;unfold dS at hf;simp only [Bool.and_eq_true] at hf;exact hf.1.1.1
  have:=AK _ _ h9;have:=mV.1
  omega))
 have KF:=gH (show ∀ V,ag w V→(V.cell? ⟨gt,q*5+3,none⟩=some (.slice L[q].hc.a L[q].ak.length L[q].hc.c)∧V.cell? ⟨gt,q*5+4,none⟩=some (.slice L[q].hr.a L[q].rules.length L[q].hr.c)∧gt < V.heap.size)∧(V.cell? ⟨bt,0,none⟩=some (.string r.name)∧V.cell? ⟨bt,1,none⟩=some (.int .i64 r.kind)∧V.cell? ⟨bt,2,none⟩=some (.slice Ac r.ak.length cc)∧V.cell? ⟨bt,3,none⟩=some (.int .i64 r.low)∧V.cell? ⟨bt,4,none⟩=some (.int .i64 r.high)∧V.cell? ⟨bt,5,none⟩=some (.string r.aa)∧V.cell? ⟨bt,6,none⟩=some (.string r.table)∧V.cell? ⟨bt,7,none⟩=some (.string r.key)∧bt < V.heap.size)∧V.frozen? ⟨bt,2,none⟩=false from fun V a=>by
  have p:=rt.az a;have AA:=ob.az a
  have d3:V.cell? ⟨gt,q*5+3,none⟩=some (.slice L[q].hc.a L[q].ak.length L[q].hc.c):=by rw [← hcv];exact AA.cell gX hq (by decide)
  have d4:V.cell? ⟨gt,q*5+4,none⟩=some (.slice L[q].hr.a L[q].rules.length L[q].hr.c):=by rw [← Iu];exact AA.cell gX hq (by decide)
  exact ⟨⟨d3,d4,(AA.row gX hq).1⟩,⟨p.cell (j:=0) rfl,p.cell (j:=1) rfl,p.cell (j:=2) rfl,p.cell (j:=3) rfl,p.cell (j:=4) rfl,p.cell (j:=5) rfl,p.cell (j:=6) rfl,p.cell (j:=7) rfl,p.1⟩,p.2.2 2 (by simp)⟩)
 have KO:=gH (show ∀ V,ag W V→(V.cell? ⟨w.heap.size,0,none⟩=some (.slice hs.a o.ae.length hs.c)∧V.cell? ⟨w.heap.size,1,none⟩=some (.slice ht.a o.tables.length ht.c)∧w.heap.size < V.heap.size) from fun V a=>⟨(rW.az a).cell (j:=0) rfl,(rW.az a).cell (j:=1) rfl,(rW.az a).1⟩);have HM:=gH (show L[q].rules.length≤1000000 from by have:=mV.2.1;omega);have lB:=gH ob;have ut:=gH gX;have ny:=gH r3;have Im:=gH rt;have tH:=gH ot;have nT:=gH wP;have ul:=gH Iu;have Ib:=gH Jk;have D5:=gH Kk;have Gu:=gH hne;have vk:=gH (show ∀ V,ag w V→∀ c:Int,c≠0→vT (fun g=>g=bt) w B n3 hs ht o.ae L q (L[q].t,c) (.returned (.int .i64 c)) V from fun V a c hc=>⟨rfl,Kb.aH a,fun h=>absurd h hc⟩);have br:=gH aW;clear ob gX r3 rt ot wP hcv Iu Jk Kk hu hi hk ak oU nd pD Fa hL sm tq aW hne zf bB Rm mV VA gA rW aB;obtain ⟨⟨d3,d4,dz⟩,⟨t0,t1,t2,t3,t4,t5,t6,t7,tz⟩,TS⟩:=KF.out W br.out;obtain ⟨q0,q1,qz⟩:=KO.out W (ag.refl W);have Zo:=gH (CF.out W br.out);clear CF
 go_enter Tryz.func166,Tryz.ntmps166
 go_wp2_with fail;rw [← hW];clear hW;refine av (by kernel_rfl) (by kernel_rfl) ?_
 repeat (go_big_quiet_step ((go_at_call 125;exact Calls.bD (Zo.out _))))
 refine wpQuiet_nil ?_;intro _ hw';obtain ⟨x,hw''⟩:=hw';subst hw'';obtain ⟨V,hV⟩:∃ V,V=bH W x:=⟨_,rfl⟩
 have aV:ag W V:=by rw [hV];exact (ag.refl W).bH x
 rw [← hV];obtain ⟨⟨d3,d4,dz⟩,⟨t0,t1,t2,t3,t4,t5,t6,t7,tz⟩,TS⟩:=KF.out V (br.out.trans aV);obtain ⟨q0,q1,qz⟩:=KO.out V aV;have lC:=gH aV;clear hV aV Zo
 cases u
 ·go_wp2_with fail
  go_ret;rw [HE.out];exact vk.out _ (br.out.trans lC.out) 63 (by decide)
 have DF:=gH (CB.out V (br.out.trans lC.out));clear CB;by_cases h0:0≤i
 ·have hd:decide (0≤i)=true:=decide_eq_true h0
  have HH:=gH h0;go_wp2_with fail;refine av (by kernel_rfl) (by kernel_rfl) ?_
  repeat (go_big_quiet_step ((go_at_call 167;exact Calls.bD (DF.out _))))
  refine wpQuiet_nil ?_;intro _ hw';obtain ⟨x,hw''⟩:=hw';subst hw'';go_wp2_with fail;go_ret;rw [HE.out];simp only [Bool.not_true,Bool.not_false,Bool.or_self,Bool.false_eq_true,if_false,if_true,if_pos HH.out];exact vk.out _ ((br.out.trans lC.out).bH x) 60 (by decide)
 have hd:decide (0≤i)=false:=decide_eq_false h0;have HH:=gH h0;clear h0;go_wp2_with fail;refine av (by kernel_rfl) (by kernel_rfl) ?_
 repeat (go_big_quiet_step ((go_at_call 167;exact Calls.bD (DF.out _))))
 refine wpQuiet_nil ?_;intro _ hw';obtain ⟨x,hw''⟩:=hw';subst hw'';obtain ⟨U,hU⟩:∃ U,U=bH V x:=⟨_,rfl⟩
 have aU:ag V U:=by rw [hU];exact (ag.refl V).bH x
 rw [← hU];obtain ⟨⟨d3,d4,dz⟩,⟨t0,t1,t2,t3,t4,t5,t6,t7,tz⟩,TS⟩:=KF.out U ((br.out.trans lC.out).trans aU);obtain ⟨q0,q1,qz⟩:=KO.out U (lC.out.trans aU);have DG:=gH (lC.out.trans aU);clear hU aU DF lC;by_cases h8:8≤L[q].rules.length
 ·have OA:(8:Int)≤(L[q].rules.length:Int):=by omega
  have H8:=gH h8;clear h8;go_wp2_with fail;go_ret;rw [HE.out];simp only [Bool.not_true,Bool.not_false,Bool.or_self,Bool.false_eq_true,if_false,if_true,if_neg (show ¬ 0≤i by have:=HH.out;omega),if_pos H8.out];exact vk.out _ (br.out.trans DG.out) 2 (by decide)
 have OA:¬ (8:Int)≤(L[q].rules.length:Int):=by omega
 have H8:=gH h8;clear h8;by_cases hk4:r.kind=4
 ·have Rn:=gH (CK.out U (br.out.trans DG.out))
  rw [hk4] at t1;have Rn:=gH (show ∀ x:ii U,Calls Tryz.prog 126 #[.agg #[.slice hs.a o.ae.length hs.c,.slice ht.a o.tables.length ht.c],.slice L[q].hc.a L[q].ak.length L[q].hc.c,.agg #[.string r.name,.int .i64 4,.slice Ac r.ak.length cc,.int .i64 r.low,.int .i64 r.high,.string r.aa,.string r.table,.string r.key]] (bH U x) fun e w''=>e=.returned (.int .i64 k)∧ag (bH U x) w'' from fun x=>by have:=Rn.out x;rw [hk4] at this;exact this);have KC:=gH hk4;clear hk4;by_cases xH:k=0
  ·have VB:=gH xH
   rw [xH] at Rn;clear xH;go_wp2_with fail;refine av (by kernel_rfl) (by kernel_rfl) ?_
   repeat (go_big_quiet_step ((go_at_call 126;exact Calls.bD (Rn.out _))))
   refine wpQuiet_nil ?_;intro _ hw';obtain ⟨x,hw''⟩:=hw';subst hw'';obtain ⟨T,hT⟩:∃ T,T=bH U x:=⟨_,rfl⟩
   have aT:ag U T:=by rw [hT];exact (ag.refl U).bH x
   rw [← hT];obtain ⟨⟨d3,d4,dz⟩,⟨t0,t1,t2,t3,t4,t5,t6,t7,tz⟩,TS⟩:=KF.out T ((br.out.trans DG.out).trans aT);have rN:=gH ((br.out.trans DG.out).trans aT);clear hT aT Rn q0 q1;have TT:=gH (CC.out (by first | trivial | rfl) T (rN.out));clear CC CK;go_wp2_with fail;refine TT.out.mono ?_;rintro e Y ⟨v,cI,rfl,aY,fo,hch⟩;obtain ⟨xh,PE,OV⟩:=m9 fo;rw [PE,fG hch] at fo;have Bu:=bL fo;rw [Bu] at PE;subst PE;have jG:=gH ((rN.out).trans aY);have Xn:=gH fo;have Xo:=gH Bu;have YZ:=aY.size;have PF:=gH aY;obtain ⟨⟨d3,d4,dz⟩,⟨t0,t1,t2,t3,t4,t5,t6,t7,tz⟩,TS⟩:=KF.out Y jG.out;have TU:∀ g∈xh.blk,T.heap.size≤g∧g < Y.heap.size:=fV fo;have LY:=gH TU;clear fo hch Bu aY TT TU;obtain ⟨Z,hZ⟩:∃ Z,Z=Y.setCell ⟨bt,2,none⟩ (.slice xh.a r.ak.length xh.c):=⟨_,rfl⟩
   have kZ:Kb (fun g=>g=bt) Y Z:=by rw [hZ];exact Kb.set _ _ _ _
   have rZ:ap Z bt [.string r.name,.int .i64 r.kind,.slice xh.a r.ak.length xh.c,.int .i64 r.low,.int .i64 r.high,.string r.aa,.string r.table,.string r.key]:=by rw [hZ];exact (Im.out.az jG.out).set 2 _ (by simp)
   have Xp:Y.heap.size≤Z.heap.size:=kZ.size;have wR:=lB.out.az (rN.out);have gtB:=(wR.row ut.out hq).2.1;have e0:=rZ.cell (j:=0) rfl;have e1:=rZ.cell (j:=1) rfl;have e2:=rZ.cell (j:=2) rfl;have e3:=rZ.cell (j:=3) rfl;have e4:=rZ.cell (j:=4) rfl;have e5:=rZ.cell (j:=5) rfl;have e6:=rZ.cell (j:=6) rfl;have e7:=rZ.cell (j:=7) rfl;have ez:=rZ.1
   have hgb:¬ gt=bt:=by omega
   have hbg:¬ bt=gt:=by omega
   have d4:=kZ.cell d4 hgb;have dz:gt < Z.heap.size:=Nat.lt_of_lt_of_le dz Xp
   have PG:bC Z B hs ht o.ae L:=(lB.out.az jG.out).kb kZ fun g hg e=>by have:=(lB.out.lt g hg).1;have e:g=bt:=e;omega
   have dZ:Z.cell? ⟨gt,q*5+4,none⟩=some (.slice L[q].hr.a L[q].rules.length L[q].hr.c):=d4;have fZ:Z.frozen? ⟨gt,q*5+4,none⟩=false:=(PG.row ut.out hq).2.2 4 (by decide);have HOW:=gH (show Z.ownsRow B 37 8 (.slice L[q].hr.a L[q].rules.length L[q].hr.c) L[q].rules.length (L[q].rules.flatMap b7.cells) by rw [← ul.out];exact (PG.nth hq).nw)
   have n1:¬ fN (.slice L[q].hr.a L[q].rules.length L[q].hr.c) gt:=fun h=>(tH.out gt (by rw [ul.out];exact h)).1 rfl
   have n2:¬ fN (.slice L[q].hr.a L[q].rules.length L[q].hr.c) bt:=fun h=>by have:=(tH.out bt (by rw [ul.out];exact h)).2.2;omega
   obtain ⟨i0,eU,hz0,hz1,hz2⟩:=info_parts vP;have OC:=gH eU;have qw:=gH hz0;have nS:=gH hz1;have mG:=gH hz2;have TV:=gH (show B≤Z.heap.size by omega);have PH:=gH kZ;have KE:=gH (show r.kind=4→k=0 from fun _=>VB.out);clear eU hz0 hz1 hz2 kZ rZ PG t0 t1 t3 t4 t5 t6 t7 d3 dZ;go_wp2_with fail;rw [← hZ];clear hZ;refine dx 6 8 (fun w'=>∃ x:kQ (.slice L[q].hr.a L[q].rules.length L[q].hr.c) Z,w'=kw (.slice L[q].hr.a L[q].rules.length L[q].hr.c) Z x) (by kernel_rfl) (by kernel_rfl) (KL.az (ag.refl Z).drew) ?_;simp only [List.take_succ_cons,List.take_zero,List.drop_succ_cons,List.drop_zero]
   repeat (go_big_quiet_step (fail))
   refine wpQuiet_nil ?_;refine bX (fun K hK=>?_);go_simp;refine hK _ _ (fun _=>KL.az (((ag.refl Z).alloc _).drew)) ?_;clear hK K;refine bX (fun K hK=>?_);refine wp_append_lies _ (.tmp 52) (.tmp 54) 51 rfl B 37 i0 _ 8 112 Tryz.underlying51 OC.out qw.out nS.out mG.out rfl (by decide) (.slice L[q].hr.a L[q].rules.length L[q].hr.c) L[q].rules.length (L[q].rules.flatMap b7.cells) (by rfl) ((HOW.out.alloc _).drew) ⟨Z.heap.size,0,none⟩ 1 1 [.string r.name,.int .i64 r.kind,.slice xh.a r.ak.length xh.c,.int .i64 r.low,.int .i64 r.high,.string r.aa,.string r.table,.string r.key] (by rfl) (by rfl) (World.news_of_block (cs:=#[.string r.name,.int .i64 r.kind,.slice xh.a r.ak.length xh.c,.int .i64 r.low,.int .i64 r.high,.string r.aa,.string r.table,.string r.key]) (t:=37) (fr:=(0,0)) (heap_alloc_new Z _)) (by simp [Value.oneCell']) (by omega) (by have:=HM.out;unfold maxLen;omega) (by have:=HM.out;omega) (by have:=TV.out;simp;omega) (Z.heap.size+1) (by simp) ?_;intro gg cap' w5 eX hgrow hat nR;refine hK _ _ (fun _=>KL.of ((Kb.aH (((ag.refl Z).alloc _).drew)).trans (jD hgrow))) ?_;clear hK K;refine d9 _ (by simp) (by decide) ?_;have mj:Kb (fN (.slice L[q].hr.a L[q].rules.length L[q].hr.c)) Z w5:=(Kb.aH (((ag.refl Z).alloc _).drew)).trans (jD hgrow);have d5:=mj.cell d4 n1
   have f5:w5.frozen? ⟨gt,q*5+4,none⟩=false:=by
    have:=mj.block gt dz n1;rw [← fZ];simp [World.frozen?,this]
   have z5:=Nat.lt_of_lt_of_le dz mj.size
   have FE:fN (.slice L[q].hr.a L[q].rules.length L[q].hr.c) gg∨Z.heap.size≤gg:=by
    rcases hat with h9 | h9
    ·exact .inl h9
    ·exact .inr (by omega)
   have PI:gg≠gt:=fun e=>by
    rcases FE with h9 | h9
    ·exact n1 (by rw [← e];exact h9)
    ·omega
   have jk:(w5.setCell ⟨gt,q*5+4,none⟩ (.slice (some ⟨gg,0,none⟩) (L[q].rules.length+1) cap')).ownsRow B 37 8 (.slice (some ⟨gg,0,none⟩) (L[q].rules++[(⟨r,xh⟩:b7)]).length cap') (L[q].rules++[(⟨r,xh⟩:b7)]).length ((L[q].rules++[(⟨r,xh⟩:b7)]).flatMap b7.cells):=by
    rw [List.length_append,List.flatMap_append,List.flatMap_cons,List.flatMap_nil,List.append_nil,show b7.cells (⟨r,xh⟩:b7)=[.string r.name,.int .i64 r.kind,.slice xh.a r.ak.length xh.c,.int .i64 r.low,.int .i64 r.high,.string r.aa,.string r.table,.string r.key] from by unfold b7.cells xd;rw [Xo.out]]
    exact aP eX (Kb.set w5 gt (q*5+4) _) (fun g hg e=>by
     have e:g=gt:=e
     have:g=gg:=by simpa [Value.ownBlock,eq_comm] using hg
     exact PI (by rw [← this];exact e))
   have CS:=gH (yM gg cap' B (L[q].rules++[(⟨r,xh⟩:b7)]) (by simp) (by have:=HM.out;simp;omega) _ jk)
   have HP:=gH (show ∀ w7 e,gK 37 8 b7.cells (fun x y=>gS x.r y.r) (w5.setCell ⟨gt,q*5+4,none⟩ (.slice (some ⟨gg,0,none⟩) (L[q].rules.length+1) cap')) B gg cap' (L[q].rules++[(⟨r,xh⟩:b7)]) e w7→e=.returned (.tuple #[])∧vT (fun g=>g=bt) w B n3 hs ht o.ae L q (eo o.tables r L[q].t) (.returned (.int .i64 0)) w7 from fun w7 e wL=>by
    obtain ⟨he,l',hp,Bo,OD,k7⟩:=wL
    have N5:(l'.map (·.r)).Perm (L[q].t.rules++[r]):=by
     have:=hp.map b7.r
     rwa [List.map_append,List.map_cons,List.map_nil] at this
    have hl':l'.map (·.r)=bQ L[q].t.rules (cN gS L[q].t.rules r) r:=pI pL.tr pL.dU Ib.out (HI.out (by have:=HH.out;omega)) N5 (fun a b ha hb hab=>by
     have:=Bo a b (by simpa using ha) (by simpa using hb) hab
     simpa using this)
    have rQ:l'.length=L[q].rules.length+1:=by rw [hp.length_eq,List.length_append];rfl
    refine ⟨he,?_⟩;rw [HE.out];simp only [Bool.not_true,Bool.not_false,Bool.or_self,Bool.false_eq_true,if_false,if_true,if_neg (show ¬ 0≤i by have:=HH.out;omega),if_neg H8.out]
    rw [if_neg (by
     intro h;simp only [Bool.and_eq_true,beq_iff_eq,bne_iff_ne] at h
     exact h.2 (KE.out h.1))]
    rw [← hl'];have kX:Kb (fun g=>L[q].hr.v.ownBlock=some g∨g=bt) T w5:=((Kb.aH (show ag T Y from PF.out)).trans (PH.out.mono fun g _ e=>.inr e)).trans (mj.mono fun g _ h=>.inl (by rw [ul.out];exact h))
    have wM:Kb (fun g=>B≤g∨g=bt) w w7:=((((Kb.aH (rN.out)).trans (kX.mono fun g _ h=>by
      rcases h with h | h
      ·exact .inl (tH.out g h).2.2
      ·exact .inr h)).trans ((Kb.set w5 gt (q*5+4) _).mono fun g _ e=>.inl (by have e:g=gt:=e;omega))).trans (k7.mono fun g _ e=>.inl (by
      have e:g=gg:=e
      rcases FE with h9 | h9
      ·rw [e];exact (tH.out gg (by rw [ul.out];exact h9)).2.2
      ·have:=TV.out;omega)))
    have Xq:B≤T.heap.size:=by have:=(wR.row ut.out hq);omega
    have Xr:L[q].hr.v.ownBlock=some gg∨T.heap.size≤gg:=by
     rcases FE with h9 | h9
     ·exact .inl (by rw [ul.out];exact h9)
     ·exact .inr (by omega)
    have hold:∀ g,L[q].hr.v.ownBlock=some g→g < T.heap.size:=fun g h=>((wR.nth hq).nw.lt g h).2
    have TW:∀ g∈xh.blk,g≠gg:=fun g hg e=>by
     have:=LY.out g hg
     rcases FE with h9 | h9
     ·have:=hold gg (by rw [ul.out];exact h9);omega
     ·omega
    have PJ:kJ w7 B (⟨r,xh⟩:b7):=⟨by
     have ox:Y.ownsRow B 9 1 xh.v r.ak.length (r.ak.flatMap bY):=bV Xn.out Xq
     have xm:∀ g,xh.v.ownBlock=some g→(T.heap.size≤g∧g < Y.heap.size)∧g≠gg:=fun g hg=>⟨LY.out g (Hd.au.2 hg),TW g (Hd.au.2 hg)⟩
     have Xs:=aP ox PH.out fun g hg e=>by have:=(xm g hg).1;have e:g=bt:=e;omega
     have Xt:=aP Xs mj fun g hg e=>by have:=(xm g hg).1;have:=hold g (by rw [ul.out];exact e);omega
     have Xu:=aP Xt (Kb.set w5 gt (q*5+4) (.slice (some ⟨gg,0,none⟩) (L[q].rules.length+1) cap')) fun g hg e=>by have:=(xm g hg).1;have e:g=gt:=e;have:=(wR.row ut.out hq).1;omega
     exact aP Xu k7 fun g hg e=>(xm g hg).2 e⟩
    have fq:(l'.flatMap (·.h.blk)).Perm (L[q].rules.flatMap (·.h.blk)++xh.blk):=by
     have:=hp.flatMap_right (fun x:b7=>x.h.blk)
     rwa [List.flatMap_append,List.flatMap_cons,List.flatMap_nil,List.append_nil] at this
    have Ig:=jO (jf.1 lB.out.nd) hq;have TX:(L[q].rules.flatMap (·.h.blk)).Nodup:=(List.nodup_append.1 (List.nodup_append.1 Ig).2.1).2.1
    have Xv:=wR.Bp (Y:=fun g=>g=bt) (Bq:=⟨some ⟨gg,0,none⟩,L[q].rules.length+1,cap'⟩) (l':=l') hq ut.out (fun g e=>by have e:g=bt:=e;omega) kX k7 Xr
     (by rw [rQ];have:=OD;rw [List.length_append] at this;exact this) (fun g hg=>by rw [cM,List.mem_singleton] at hg;exact hg)
     (fun y hy=>by
      rcases List.mem_append.1 (hp.subset hy) with h9 | h9
      ·exact .inl h9
      ·rw [List.mem_singleton] at h9
       subst h9
       exact .inr ⟨PJ,fun g hg=>⟨(LY.out g hg).1,TW g hg⟩⟩)
     (fq.nodup_iff.2 (List.nodup_append.2 ⟨TX,cX _,fun a ha b hb e=>by
      subst e;have h9:=LY.out a hb;have h8:=((wR.nth hq).lt a (by unfold ay.bI;exact List.mem_append.2 (.inr (List.mem_append.2 (.inr ha))))).2
      omega⟩))
    refine ⟨rfl,wM,fun _=>⟨{ L[q] with rules:=l',hr:=⟨some ⟨gg,0,none⟩,L[q].rules.length+1,cap'⟩ },rfl,Xv,?_⟩⟩;have e9:=nT.out;rw [e9];refine k7.row ((Kb.set w5 gt (q*5+4) _).row (mj.row (PH.out.row (ny.out.az jG.out) (fun e=>by have e:n3=bt:=e;omega)) (fun h=>(tH.out n3 (by rw [ul.out];exact h)).2.1 rfl)) (fun e=>Az e.symm)) (fun e=>?_);have e:n3=gg:=e;have uL:=ny.out.1
    rcases FE with h9 | h9
    ·exact (tH.out gg (by rw [ul.out];exact h9)).2.1 e.symm
    ·have:=(rN.out).size
     omega)
   have Ic:=gH (show Calls Tryz.prog 169 #[.slice (some ⟨gg,0,none⟩) (L[q].rules.length+1) cap',.func (.func 170) #[] #[]] (w5.setCell ⟨gt,q*5+4,none⟩ (.slice (some ⟨gg,0,none⟩) (L[q].rules.length+1) cap')) (gK 37 8 b7.cells (fun x y=>gS x.r y.r) (w5.setCell ⟨gt,q*5+4,none⟩ (.slice (some ⟨gg,0,none⟩) (L[q].rules.length+1) cap')) B gg cap' (L[q].rules++[(⟨r,xh⟩:b7)])) from by
    have h:=CS.out;rw [List.length_append,List.length_singleton] at h
    exact h)
   clear eX hgrow hat nR mj jk CS wR FE;go_wp2_with fail;refine NoPanic.normal ?_;go_wp2_with fail;refine Ic.out.mono ?_;intro e w7 wL;obtain ⟨rfl,Ie⟩:=HP.out w7 e wL;have OE:=gH Ie;clear wL Ie Ic HP;go_wp2_with fail;go_ret;exact OE.out
  ·have hkb:(k==0)=false:=by simpa using xH
   have VB:=gH xH;clear xH;go_wp2_with fail;refine av (by kernel_rfl) (by kernel_rfl) ?_
   repeat (go_big_quiet_step ((go_at_call 126;exact Calls.bD (Rn.out _))))
   refine wpQuiet_nil ?_;intro _ hw';obtain ⟨x,hw''⟩:=hw';subst hw'';go_wp2_with fail;go_ret;rw [HE.out];simp only [Bool.not_true,Bool.not_false,Bool.or_self,Bool.false_eq_true,if_false,if_true,if_neg (show ¬ 0≤i by have:=HH.out;omega),if_neg H8.out];rw [if_pos (by rw [KC.out];simpa using VB.out)];exact vk.out _ ((br.out.trans DG.out).bH x) k VB.out
 ·have hkb:(r.kind==4)=false:=by simpa using hk4
  have KC:=gH hk4;have rN:=gH (br.out.trans DG.out);clear hk4 q0 q1;have TT:=gH (CC.out (by first | trivial | rfl) U (rN.out));clear CC CK;go_wp2_with fail;refine TT.out.mono ?_;rintro e Y ⟨v,cI,rfl,aY,fo,hch⟩;obtain ⟨xh,PE,OV⟩:=m9 fo;rw [PE,fG hch] at fo;have Bu:=bL fo;rw [Bu] at PE;subst PE;have jG:=gH ((rN.out).trans aY);have Xn:=gH fo;have Xo:=gH Bu;have YZ:=aY.size;have PF:=gH aY;obtain ⟨⟨d3,d4,dz⟩,⟨t0,t1,t2,t3,t4,t5,t6,t7,tz⟩,TS⟩:=KF.out Y jG.out;have TU:∀ g∈xh.blk,U.heap.size≤g∧g < Y.heap.size:=fV fo;have LY:=gH TU;clear fo hch Bu aY TT TU;obtain ⟨Z,hZ⟩:∃ Z,Z=Y.setCell ⟨bt,2,none⟩ (.slice xh.a r.ak.length xh.c):=⟨_,rfl⟩
  have kZ:Kb (fun g=>g=bt) Y Z:=by rw [hZ];exact Kb.set _ _ _ _
  have rZ:ap Z bt [.string r.name,.int .i64 r.kind,.slice xh.a r.ak.length xh.c,.int .i64 r.low,.int .i64 r.high,.string r.aa,.string r.table,.string r.key]:=by rw [hZ];exact (Im.out.az jG.out).set 2 _ (by simp)
  have Xp:Y.heap.size≤Z.heap.size:=kZ.size;have wR:=lB.out.az (rN.out);have gtB:=(wR.row ut.out hq).2.1;have e0:=rZ.cell (j:=0) rfl;have e1:=rZ.cell (j:=1) rfl;have e2:=rZ.cell (j:=2) rfl;have e3:=rZ.cell (j:=3) rfl;have e4:=rZ.cell (j:=4) rfl;have e5:=rZ.cell (j:=5) rfl;have e6:=rZ.cell (j:=6) rfl;have e7:=rZ.cell (j:=7) rfl;have ez:=rZ.1
  have hgb:¬ gt=bt:=by omega
  have hbg:¬ bt=gt:=by omega
  have d4:=kZ.cell d4 hgb;have dz:gt < Z.heap.size:=Nat.lt_of_lt_of_le dz Xp
  have PG:bC Z B hs ht o.ae L:=(lB.out.az jG.out).kb kZ fun g hg e=>by have:=(lB.out.lt g hg).1;have e:g=bt:=e;omega
  have dZ:Z.cell? ⟨gt,q*5+4,none⟩=some (.slice L[q].hr.a L[q].rules.length L[q].hr.c):=d4;have fZ:Z.frozen? ⟨gt,q*5+4,none⟩=false:=(PG.row ut.out hq).2.2 4 (by decide);have HOW:=gH (show Z.ownsRow B 37 8 (.slice L[q].hr.a L[q].rules.length L[q].hr.c) L[q].rules.length (L[q].rules.flatMap b7.cells) by rw [← ul.out];exact (PG.nth hq).nw)
  have n1:¬ fN (.slice L[q].hr.a L[q].rules.length L[q].hr.c) gt:=fun h=>(tH.out gt (by rw [ul.out];exact h)).1 rfl
  have n2:¬ fN (.slice L[q].hr.a L[q].rules.length L[q].hr.c) bt:=fun h=>by have:=(tH.out bt (by rw [ul.out];exact h)).2.2;omega
  obtain ⟨i0,eU,hz0,hz1,hz2⟩:=info_parts vP;have OC:=gH eU;have qw:=gH hz0;have nS:=gH hz1;have mG:=gH hz2;have TV:=gH (show B≤Z.heap.size by omega);have PH:=gH kZ;have KE:=gH (show r.kind=4→k=0 from fun h=>absurd h KC.out);clear eU hz0 hz1 hz2 kZ rZ PG t0 t1 t3 t4 t5 t6 t7 d3 dZ;go_wp2_with fail;rw [← hZ];clear hZ;refine dx 6 8 (fun w'=>∃ x:kQ (.slice L[q].hr.a L[q].rules.length L[q].hr.c) Z,w'=kw (.slice L[q].hr.a L[q].rules.length L[q].hr.c) Z x) (by kernel_rfl) (by kernel_rfl) (KL.az (ag.refl Z).drew) ?_;simp only [List.take_succ_cons,List.take_zero,List.drop_succ_cons,List.drop_zero]
  repeat (go_big_quiet_step (fail))
  refine wpQuiet_nil ?_;refine bX (fun K hK=>?_);go_simp;refine hK _ _ (fun _=>KL.az (((ag.refl Z).alloc _).drew)) ?_;clear hK K;refine bX (fun K hK=>?_);refine wp_append_lies _ (.tmp 52) (.tmp 54) 51 rfl B 37 i0 _ 8 112 Tryz.underlying51 OC.out qw.out nS.out mG.out rfl (by decide) (.slice L[q].hr.a L[q].rules.length L[q].hr.c) L[q].rules.length (L[q].rules.flatMap b7.cells) (by rfl) ((HOW.out.alloc _).drew) ⟨Z.heap.size,0,none⟩ 1 1 [.string r.name,.int .i64 r.kind,.slice xh.a r.ak.length xh.c,.int .i64 r.low,.int .i64 r.high,.string r.aa,.string r.table,.string r.key] (by rfl) (by rfl) (World.news_of_block (cs:=#[.string r.name,.int .i64 r.kind,.slice xh.a r.ak.length xh.c,.int .i64 r.low,.int .i64 r.high,.string r.aa,.string r.table,.string r.key]) (t:=37) (fr:=(0,0)) (heap_alloc_new Z _)) (by simp [Value.oneCell']) (by omega) (by have:=HM.out;unfold maxLen;omega) (by have:=HM.out;omega) (by have:=TV.out;simp;omega) (Z.heap.size+1) (by simp) ?_;intro gg cap' w5 eX hgrow hat nR;refine hK _ _ (fun _=>KL.of ((Kb.aH (((ag.refl Z).alloc _).drew)).trans (jD hgrow))) ?_;clear hK K;refine d9 _ (by simp) (by decide) ?_;have mj:Kb (fN (.slice L[q].hr.a L[q].rules.length L[q].hr.c)) Z w5:=(Kb.aH (((ag.refl Z).alloc _).drew)).trans (jD hgrow);have d5:=mj.cell d4 n1
  have f5:w5.frozen? ⟨gt,q*5+4,none⟩=false:=by
   have:=mj.block gt dz n1;rw [← fZ];simp [World.frozen?,this]
  have z5:=Nat.lt_of_lt_of_le dz mj.size
  have FE:fN (.slice L[q].hr.a L[q].rules.length L[q].hr.c) gg∨Z.heap.size≤gg:=by
   rcases hat with h9 | h9
   ·exact .inl h9
   ·exact .inr (by omega)
  have PI:gg≠gt:=fun e=>by
   rcases FE with h9 | h9
   ·exact n1 (by rw [← e];exact h9)
   ·omega
  have jk:(w5.setCell ⟨gt,q*5+4,none⟩ (.slice (some ⟨gg,0,none⟩) (L[q].rules.length+1) cap')).ownsRow B 37 8 (.slice (some ⟨gg,0,none⟩) (L[q].rules++[(⟨r,xh⟩:b7)]).length cap') (L[q].rules++[(⟨r,xh⟩:b7)]).length ((L[q].rules++[(⟨r,xh⟩:b7)]).flatMap b7.cells):=by
   rw [List.length_append,List.flatMap_append,List.flatMap_cons,List.flatMap_nil,List.append_nil,show b7.cells (⟨r,xh⟩:b7)=[.string r.name,.int .i64 r.kind,.slice xh.a r.ak.length xh.c,.int .i64 r.low,.int .i64 r.high,.string r.aa,.string r.table,.string r.key] from by unfold b7.cells xd;rw [Xo.out]]
   exact aP eX (Kb.set w5 gt (q*5+4) _) (fun g hg e=>by
    have e:g=gt:=e
    have:g=gg:=by simpa [Value.ownBlock,eq_comm] using hg
    exact PI (by rw [← this];exact e))
  have CS:=gH (yM gg cap' B (L[q].rules++[(⟨r,xh⟩:b7)]) (by simp) (by have:=HM.out;simp;omega) _ jk)
  have HP:=gH (show ∀ w7 e,gK 37 8 b7.cells (fun x y=>gS x.r y.r) (w5.setCell ⟨gt,q*5+4,none⟩ (.slice (some ⟨gg,0,none⟩) (L[q].rules.length+1) cap')) B gg cap' (L[q].rules++[(⟨r,xh⟩:b7)]) e w7→e=.returned (.tuple #[])∧vT (fun g=>g=bt) w B n3 hs ht o.ae L q (eo o.tables r L[q].t) (.returned (.int .i64 0)) w7 from fun w7 e wL=>by
   obtain ⟨he,l',hp,Bo,OD,k7⟩:=wL
   have N5:(l'.map (·.r)).Perm (L[q].t.rules++[r]):=by
    have:=hp.map b7.r
    rwa [List.map_append,List.map_cons,List.map_nil] at this
   have hl':l'.map (·.r)=bQ L[q].t.rules (cN gS L[q].t.rules r) r:=pI pL.tr pL.dU Ib.out (HI.out (by have:=HH.out;omega)) N5 (fun a b ha hb hab=>by
    have:=Bo a b (by simpa using ha) (by simpa using hb) hab
    simpa using this)
   have rQ:l'.length=L[q].rules.length+1:=by rw [hp.length_eq,List.length_append];rfl
   refine ⟨he,?_⟩;rw [HE.out];simp only [Bool.not_true,Bool.not_false,Bool.or_self,Bool.false_eq_true,if_false,if_true,if_neg (show ¬ 0≤i by have:=HH.out;omega),if_neg H8.out]
   rw [if_neg (by
    intro h;simp only [Bool.and_eq_true,beq_iff_eq,bne_iff_ne] at h
    exact h.2 (KE.out h.1))]
   rw [← hl'];have kX:Kb (fun g=>L[q].hr.v.ownBlock=some g∨g=bt) U w5:=((Kb.aH (show ag U Y from PF.out)).trans (PH.out.mono fun g _ e=>.inr e)).trans (mj.mono fun g _ h=>.inl (by rw [ul.out];exact h))
   have wM:Kb (fun g=>B≤g∨g=bt) w w7:=((((Kb.aH (rN.out)).trans (kX.mono fun g _ h=>by
     rcases h with h | h
     ·exact .inl (tH.out g h).2.2
     ·exact .inr h)).trans ((Kb.set w5 gt (q*5+4) _).mono fun g _ e=>.inl (by have e:g=gt:=e;omega))).trans (k7.mono fun g _ e=>.inl (by
     have e:g=gg:=e
     rcases FE with h9 | h9
     ·rw [e];exact (tH.out gg (by rw [ul.out];exact h9)).2.2
     ·have:=TV.out;omega)))
   have Xq:B≤U.heap.size:=by have:=(wR.row ut.out hq);omega
   have Xr:L[q].hr.v.ownBlock=some gg∨U.heap.size≤gg:=by
    rcases FE with h9 | h9
    ·exact .inl (by rw [ul.out];exact h9)
    ·exact .inr (by omega)
   have hold:∀ g,L[q].hr.v.ownBlock=some g→g < U.heap.size:=fun g h=>((wR.nth hq).nw.lt g h).2
   have TW:∀ g∈xh.blk,g≠gg:=fun g hg e=>by
    have:=LY.out g hg
    rcases FE with h9 | h9
    ·have:=hold gg (by rw [ul.out];exact h9);omega
    ·omega
   have PJ:kJ w7 B (⟨r,xh⟩:b7):=⟨by
    have ox:Y.ownsRow B 9 1 xh.v r.ak.length (r.ak.flatMap bY):=bV Xn.out Xq
    have xm:∀ g,xh.v.ownBlock=some g→(U.heap.size≤g∧g < Y.heap.size)∧g≠gg:=fun g hg=>⟨LY.out g (Hd.au.2 hg),TW g (Hd.au.2 hg)⟩
    have Xs:=aP ox PH.out fun g hg e=>by have:=(xm g hg).1;have e:g=bt:=e;omega
    have Xt:=aP Xs mj fun g hg e=>by have:=(xm g hg).1;have:=hold g (by rw [ul.out];exact e);omega
    have Xu:=aP Xt (Kb.set w5 gt (q*5+4) (.slice (some ⟨gg,0,none⟩) (L[q].rules.length+1) cap')) fun g hg e=>by have:=(xm g hg).1;have e:g=gt:=e;have:=(wR.row ut.out hq).1;omega
    exact aP Xu k7 fun g hg e=>(xm g hg).2 e⟩
   have fq:(l'.flatMap (·.h.blk)).Perm (L[q].rules.flatMap (·.h.blk)++xh.blk):=by
    have:=hp.flatMap_right (fun x:b7=>x.h.blk)
    rwa [List.flatMap_append,List.flatMap_cons,List.flatMap_nil,List.append_nil] at this
   have Ig:=jO (jf.1 lB.out.nd) hq;have TX:(L[q].rules.flatMap (·.h.blk)).Nodup:=(List.nodup_append.1 (List.nodup_append.1 Ig).2.1).2.1
   have Xv:=wR.Bp (Y:=fun g=>g=bt) (Bq:=⟨some ⟨gg,0,none⟩,L[q].rules.length+1,cap'⟩) (l':=l') hq ut.out (fun g e=>by have e:g=bt:=e;omega) kX k7 Xr
    (by rw [rQ];have:=OD;rw [List.length_append] at this;exact this) (fun g hg=>by rw [cM,List.mem_singleton] at hg;exact hg)
    (fun y hy=>by
     rcases List.mem_append.1 (hp.subset hy) with h9 | h9
     ·exact .inl h9
     ·rw [List.mem_singleton] at h9
      subst h9
      exact .inr ⟨PJ,fun g hg=>⟨(LY.out g hg).1,TW g hg⟩⟩)
    (fq.nodup_iff.2 (List.nodup_append.2 ⟨TX,cX _,fun a ha b hb e=>by
     subst e;have h9:=LY.out a hb;have h8:=((wR.nth hq).lt a (by unfold ay.bI;exact List.mem_append.2 (.inr (List.mem_append.2 (.inr ha))))).2
     omega⟩))
   refine ⟨rfl,wM,fun _=>⟨{ L[q] with rules:=l',hr:=⟨some ⟨gg,0,none⟩,L[q].rules.length+1,cap'⟩ },rfl,Xv,?_⟩⟩;have e9:=nT.out;rw [e9];refine k7.row ((Kb.set w5 gt (q*5+4) _).row (mj.row (PH.out.row (ny.out.az jG.out) (fun e=>by have e:n3=bt:=e;omega)) (fun h=>(tH.out n3 (by rw [ul.out];exact h)).2.1 rfl)) (fun e=>Az e.symm)) (fun e=>?_);have e:n3=gg:=e;have uL:=ny.out.1
   rcases FE with h9 | h9
   ·exact (tH.out gg (by rw [ul.out];exact h9)).2.1 e.symm
   ·have:=(rN.out).size
    omega)
  have Ic:=gH (show Calls Tryz.prog 169 #[.slice (some ⟨gg,0,none⟩) (L[q].rules.length+1) cap',.func (.func 170) #[] #[]] (w5.setCell ⟨gt,q*5+4,none⟩ (.slice (some ⟨gg,0,none⟩) (L[q].rules.length+1) cap')) (gK 37 8 b7.cells (fun x y=>gS x.r y.r) (w5.setCell ⟨gt,q*5+4,none⟩ (.slice (some ⟨gg,0,none⟩) (L[q].rules.length+1) cap')) B gg cap' (L[q].rules++[(⟨r,xh⟩:b7)])) from by
   have h:=CS.out;rw [List.length_append,List.length_singleton] at h
   exact h)
  clear eX hgrow hat nR mj jk CS wR FE;go_wp2_with fail;refine NoPanic.normal ?_;go_wp2_with fail;refine Ic.out.mono ?_;intro e w7 wL;obtain ⟨rfl,Ie⟩:=HP.out w7 e wL;have OE:=gH Ie;clear wL Ie Ic HP;go_wp2_with fail;go_ret;exact OE.out
end Go.Proofs.YtmflccbnoeaafaaGreat
namespace Go.Proofs.YtmflccbnoeaafaaGreat
set_option maxRecDepth 100000
set_option linter.unusedVariables false
set_option maxHeartbeats 64000000
section
variable {F : Fence} {n : Nat} {P : Program} {ops : Array Oper} {C : World → Prop} {md : Region.Mode}
def po (o:Oper):Bool:=match o.op with | .defer _=>false | _=>true
theorem po.sem {o:Oper} (h:po o=true) (r:Option Nat) (ρ:Operand→Value):Oper.semAt r ρ o=execOp ρ o:=by
 cases r with
 | none=>exact Oper.semAt_none ρ o
 | some l=>exact Oper.semAt_some l ρ o (fun c e=>by unfold po at h;rw [e] at h;cases h)
theorem FH {o:Oper} {a:Act} {K:Act→Prop} {K':Act→World→Prop} {Q':Exit→Act→World→Prop} {w:World} (hp:po o=true) (hw:C w) (h:∀ a w',C w'→K a→K' a w')
  (ha:o.askedIn F P a C) (hh:o.quietIn F n P a C K):o.wpIn F n P a w K' Q':=by
 obtain ⟨v,h1,h2⟩:=hh;refine ⟨ha w hw,?_⟩;rw [po.sem hp];have h3:=h1 w hw;unfold Oper.quietAtIn at h3
 revert h3
 generalize (execOp a.eval o).run P w=r;intro h3
 cases r with
 | halt x w'=>simp only [Oper.quietUponIn] at h3
 | ok x w' =>
  cases x<;>simp only [Oper.quietUponIn] at h3<;>simp only [Oper.uponIn]
  case value u=>rw [h3.1,h3.2];exact h _ _ hw h2
  case skip=>rw [h3.1,← h3.2];exact h _ _ hw h2
  case enter f args =>
   rw [h3.1];exact ⟨h3.2.1,h3.2.2.mono fun e w'' he=>by rw [he.1];exact h _ _ he.2 h2⟩
theorem l8 {Q:Act→Prop} {Q':Exit→Act→World→Prop} (hp:∀ (i:Nat) (o:Oper),ops[i]? = some o→po o=true) (hQ:∀ a w,C w→Q a→Q' .normal a w) :
  ∀ (fuel:Nat) (listed:Array Bool) (a:Act) (w:World),C w→wpAnyQIn F n P md ops C Q fuel listed a→wpAnyIn F n P md ops Q' fuel listed a w
 | 0,_,_,_,hw,h=>⟨h.1,hQ _ _ hw h.2⟩
 | fuel+1,_,a,w,hw,h=>⟨fun h0=>hQ _ _ hw (h.1 h0),fun i hi=>by
  have h1:=h.2 i hi;unfold qOpIn at h1;unfold wpOpIn
  cases ho:ops[i]? with
  | none=>rw [ho] at h1;exact l8 hp hQ fuel _ a w hw h1
  | some o =>
   rw [ho] at h1;simp only at h1 ⊢;by_cases Zp:Region.wanted o (yielded ops a.tmps)=true
   ·rw [if_pos Zp] at h1 ⊢
    exact FH (hp i o ho) hw (fun a' w' hw'=>l8 hp hQ fuel _ a' w' hw') h1.1 h1.2
   ·rw [if_neg Zp] at h1 ⊢
    exact ⟨h1.1 w hw,l8 hp hQ fuel _ _ w hw h1.2⟩⟩
theorem ig {id:Nat} {Q:Exit→Act→World→Prop} {a:Act} {w:World} {l:List Oper} (hm:P.follows .mixedOrders=true) (hB:Region.lexB .any l.toArray=true) (hp:l.all po=true)
  (h:wpQuietIn F n P l.toArray (fun w'=>∃ m,w'=w.drewN m) (fun a'=>∀ w',(∃ m,w'=w.drewN m)→Q .normal a' w') l a):(Code.region id l.toArray true).wpIn F n P Q a w:=by
 simp only [Region.lexB,Bool.and_eq_true] at hB;refine wpIn_region_any hm (l8 (C:=fun w'=>∃ m,w'=w.drewN m) (Q:=fun a'=>∀ w',(∃ m,w'=w.drewN m)→Q .normal a' w') (fun i o ho=>?_) (fun _ w' hw' h=>h w' hw') _ _ _ _ ⟨1,rfl⟩ ?_)
 ·have:o∈l:=by
   have:=Array.mem_of_getElem? ho
   simpa using this
  exact List.all_eq_true.1 hp o this
 ·have:=wpAnyQIn_lex (F:=F) (n:=n) (C:=fun w'=>∃ m,w'=w.drewN m) (md:=.any) hB.1 l 0 (Array.replicate l.toArray.size false) a (by simp) (by simpa using hB.2) h
  simpa using this
end
end Go.Proofs.YtmflccbnoeaafaaGreat
