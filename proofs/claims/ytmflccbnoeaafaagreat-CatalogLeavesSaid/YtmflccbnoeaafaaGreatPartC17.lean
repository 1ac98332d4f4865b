import Derived.Test.YtmflccbnoeaafaaGreatPartC16
namespace Go.Proofs.YtmflccbnoeaafaaGreat
open Go.RowKit Go.Deep Go.Sort
set_option maxRecDepth 100000
set_option linter.unusedVariables false
set_option maxHeartbeats 64000000
theorem bC.OU {P:Nat→Prop} {w w':World} {B:Nat} {hs ht h':Hd} {ss:List gj} {L l':List ay} {x:ay} (ob:bC w B hs ht ss L) (k:Kb P w w') (hP:∀ g,g∈hs.blk++L.flatMap ay.bI→¬ P g) (hp:l'.Perm (L++[x])) (ho:w'.ownsRow B 53 5 h'.v l'.length (l'.flatMap ay.cells)) (tx:dW w' B x) (hx:x.bI.Nodup) (OV:∀ g∈x.bI,w.heap.size≤g) (hb:∀ g∈h'.blk,(g∈ht.blk∨w.heap.size≤g)∧g∉x.bI):bC w' B hs h' ss l':=by
 have nd:=ob.nd;have hlt:=ob.lt
 have n0:(hs.blk++L.flatMap ay.bI).Nodup:=by
  refine List.nodup_append.2 ⟨(List.nodup_append.1 nd).1,(List.nodup_append.1 (List.nodup_append.1 nd).2.1).2.1,fun a ha b hb e=>?_⟩;subst e;exact bp nd ha (List.mem_append.2 (.inr hb))
 refine ⟨aP ob.gQ k fun g hg=>hP g (List.mem_append.2 (.inl (Hd.au.2 hg))),ho,fun y hy=>?_,?_⟩
 ·rcases List.mem_append.1 (hp.subset hy) with h1 | h1
  ·exact (ob.each y h1).kb k fun g hg=>hP g (List.mem_append.2 (.inr (List.mem_flatMap.2 ⟨y,h1,hg⟩)))
  ·rw [List.mem_singleton] at h1;rw [h1];exact tx
 ·have hpf:(l'.flatMap ay.bI).Perm (L.flatMap ay.bI++x.bI):=by
   have:=hp.flatMap_right ay.bI
   rwa [List.flatMap_append,List.flatMap_cons,List.flatMap_nil,List.append_nil] at this
  have h1:(hs.blk++(h'.blk++l'.flatMap ay.bI)).Perm (hs.blk++(h'.blk++(L.flatMap ay.bI++x.bI))):=(hpf.append_left _).append_left _;refine h1.nodup_iff.2 ?_;refine List.nodup_append.2 ⟨(List.nodup_append.1 nd).1,List.nodup_append.2 ⟨cX _,List.nodup_append.2 ⟨(List.nodup_append.1 (List.nodup_append.1 nd).2.1).2.1,hx,fun a ha b hb e=>?_⟩,fun a ha b hb2 e=>?_⟩,fun a ha b hb2 e=>?_⟩
  ·subst e
   have:=OV a hb;have:=(hlt a (List.mem_append.2 (.inr (List.mem_append.2 (.inr ha))))).2;omega
  ·subst e
   rcases List.mem_append.1 hb2 with h3 | h3
   ·rcases (hb a ha).1 with h4 | h4
    ·exact bp (List.nodup_append.1 nd).2.1 h4 h3
    ·have:=(hlt a (List.mem_append.2 (.inr (List.mem_append.2 (.inr h3))))).2
     omega
   ·exact (hb a ha).2 h3
  ·subst e
   have Ih:=hlt a (List.mem_append.2 (.inl ha))
   rcases List.mem_append.1 hb2 with h3 | h3
   ·rcases (hb a h3).1 with h4 | h4
    ·exact bp nd ha (List.mem_append.2 (.inl h4))
    ·omega
   ·rcases List.mem_append.1 h3 with h4 | h4
    ·exact bp nd ha (List.mem_append.2 (.inr h4))
    ·have:=OV a h4
     omega
def dy (t:cu) (o:bE):bE × Int :=
 if (!bP t.name || !bP t.owner) then (cx,1) else if cE o.ae t.aa < 0 then (cx,61) else if 0≤bj o.tables t.aa t.name then (cx,60) else if 8≤within o.tables t.aa then (cx,2)
 else if (!fp t.ak || decide (0 < t.rules.length)) then (cx,63) else (⟨o.ae,bQ o.tables (cN eG o.tables t) t⟩,0)
theorem wQ {t:cu} {o:bE}:(dy t o).2≠0→(dy t o).1=cx:=by
 unfold dy
 repeat (split;exact fun _=>rfl)
 exact fun h=>absurd rfl h
theorem yS {o:bE} {t:cu} (h:bj o.tables t.aa t.name < 0):∀ y∈o.tables,eG y t≠0:=fun y hy e=>by
 have h1:=bg (fun c:cu=>bk c.aa t.aa&&bk c.name t.name) o.tables
 have h2:bj o.tables t.aa t.name = -1:=by unfold bj at *;omega
 have h4:bw y.aa t.aa=0∧bw y.name t.name=0:=by
  unfold eG iQ at e;by_cases e1:bw y.aa t.aa=0
  ·rw [if_pos (by simpa using e1)] at e;exact ⟨e1,e⟩
  ·rw [if_neg (by simpa using e1)] at e;exact absurd e e1
 have h3:o.tables.any (fun c=>bk c.aa t.aa&&bk c.name t.name)=true:=List.any_eq_true.2 ⟨y,hy,by rw [(gu _ _).1 h4.1,(gu _ _).1 h4.2];rfl⟩;rw [← qJ] at h3;have:=of_decide_eq_true h3;unfold bj at h2;omega
theorem Bz (t:cu) (Ac:Option Addr) (cc:Nat) (Ar:Option Addr) (cr:Nat) (o:bE) (w:World) (hs ht:Hd) (L:List ay) (B n3 bt:Nat) (gA:bF o=true) (uV:B≤n3) (hL:L.map ay.t=o.tables) (ob:bC w B hs ht o.ae L) (hne:∀ g∈hs.blk++(ht.blk++L.flatMap ay.bI),g≠n3)
  (r3:ap w n3 [.slice hs.a o.ae.length hs.c,.slice ht.a o.tables.length ht.c]) (rt:ap w bt [.string t.aa,.string t.name,.string t.owner,.slice Ac t.ak.length cc,.slice Ar t.rules.length cr]) (Gm:bt < B) (hcs:aL w 3 iv Ac cc t.ak) (lp:aL w 8 gI Ar cr t.rules) (sm:kA o) (h1:Small t.aa.size) (h2:Small t.name.size) (h3:Small t.owner.size) :
  Calls Tryz.prog 156 (#[.pointer (some ⟨n3,0,none⟩)]++#[.pointer (some ⟨bt,0,none⟩)]) w (xI w B n3 (dy t o)):=by
 show Calls Tryz.prog 156 #[.pointer (some ⟨n3,0,none⟩),.pointer (some ⟨bt,0,none⟩)] w (xI w B n3 (dy t o))
 have pD:fL o.ae L=o:=by unfold fL;rw [hL]
 have bS:aL w 2 fk hs.a hs.c o.ae:=ob.Ld (by rw [pD];exact sm)
 have bB:aL w 5 dA ht.a ht.c o.tables:=by have:=ob.tabs (by rw [pD];exact sm);rw [hL] at this;exact this
 have wP:L.length=o.tables.length:=by rw [← hL];simp
 have hlen:=bS.len;have fl:=bB.len;have OW:=jI gA;have x0:=r3.cell (j:=0) rfl;have x1:=r3.cell (j:=1) rfl;have xz:=r3.1;have t0:=rt.cell (j:=0) rfl;have t1:=rt.cell (j:=1) rfl;have t2:=rt.cell (j:=2) rfl;have t3:=rt.cell (j:=3) rfl;have t4:=rt.cell (j:=4) rfl;have tz:=rt.1;obtain ⟨u1,Ia⟩:∃ u,bP t.name=u:=⟨_,rfl⟩;obtain ⟨u2,wG⟩:∃ u,bP t.owner=u:=⟨_,rfl⟩;obtain ⟨i,hi⟩:∃ i,cE o.ae t.aa=i:=⟨_,rfl⟩;obtain ⟨j,hj⟩:∃ j,bj o.tables t.aa t.name=j:=⟨_,rfl⟩;obtain ⟨m,hm⟩:∃ m,within o.tables t.aa=m:=⟨_,rfl⟩;obtain ⟨c,hc⟩:∃ c,fp t.ak=c:=⟨_,rfl⟩
 have C0:=gH (show ∀ x:ii w,Calls Tryz.prog 43 #[.agg #[.slice hs.a o.ae.length hs.c,.slice ht.a o.tables.length ht.c],.string t.aa,.string t.name] (bH w x) fun e w''=>e=.returned (.tuple #[.int .i64 j,.bool (decide (0≤j))])∧ag (bH w x) w'' from
  fun x=>(jL _ ht.a ht.c o.tables t.aa t.name _ (aQ ((ag.refl w).bH x) bB)).mono fun e w'' ⟨he,hw⟩=>⟨he.trans (by rw [← hj]),hw⟩)
 have C1:=gH (show ∀ w',Calls Tryz.prog 38 #[.string t.name] w' fun e w''=>e=.returned (.bool u1)∧w'=w'' from fun w'=>Ia▸cz t.name w' h2.max);have C2:=gH (show ∀ w',Calls Tryz.prog 38 #[.string t.owner] w' fun e w''=>e=.returned (.bool u2)∧w'=w'' from fun w'=>wG▸cz t.owner w' h3.max)
 have CB:=gH (show ∀ W,ag w W→∀ x:ii W,Calls Tryz.prog 123 #[.slice hs.a o.ae.length hs.c,.string t.aa,.func (.func 124) #[] #[]] (bH W x) fun e w''=>e=.returned (.int .i64 i)∧ag (bH W x) w'' from
  fun W a x=>(Dp hs.a hs.c o.ae t.aa _ (bm (a.bH x) bS)).mono fun e w'' ⟨he,hw⟩=>⟨he.trans (by rw [← hi];rfl),hw⟩)
 have CW:=gH (show ∀ W,ag w W→∀ x:ii W,Calls Tryz.prog 84 #[.agg #[.slice hs.a o.ae.length hs.c,.slice ht.a o.tables.length ht.c],.string t.aa] (bH W x) fun e w''=>e=.returned (.int .i64 m)∧ag (bH W x) w'' from
  fun W a x=>(oH _ ht.a ht.c o.tables t.aa _ (aQ (a.bH x) bB)).mono fun e w'' ⟨he,hw⟩=>⟨he.trans (by rw [← hm]),hw⟩)
 have CM:=gH (show ∀ W,ag w W→Calls Tryz.prog 122 #[.slice Ac t.ak.length cc] W fun e w''=>e=.returned (.bool c)∧ag W w'' from fun W a=>hc▸rf Ac cc t.ak W (cy a hcs));have HE:=gH (show dy t o=if (!u1 || !u2) then (cx,1) else if i < 0 then (cx,61) else if 0≤j then (cx,60) else if 8≤m then (cx,2) else if (!c || decide (0 < t.rules.length)) then (cx,63) else (⟨o.ae,bQ o.tables (cN eG o.tables t) t⟩,0) by unfold dy;rw [Ia,wG,hi,hj,hm,hc])
 have CP:=gH (show c=true→t.rules.length=0→∀ W,ag w W→Calls Tryz.prog 44 #[.agg #[.string t.aa,.string t.name,.string t.owner,.slice Ac t.ak.length cc,.slice Ar t.rules.length cr]] W (Nx W t) from fun h1 h2 W a=>qA t Ac cc Ar cr W (cy a hcs) (ee a lp) (by
  rw [h1] at hc
  have:t.ak.length≤8:=by unfold fp at hc;simp only [Bool.and_eq_true,decide_eq_true_eq] at hc;exact hc.1.2
  refine ⟨by omega,by omega,fun r hr=>?_⟩;rw [List.length_eq_zero_iff.1 h2] at hr
  cases hr))
 have HI:=gH (show j < 0→∀ y∈o.tables,eG y t≠0 from fun h=>yS (hj▸h));have lB:=gH ob;have ny:=gH r3;have Im:=gH rt;have Gu:=gH hne;have HL:=gH hL;have Rc:=gH (show ht.v=.slice ht.a o.tables.length ht.c from by rw [bL ob.tab,wP]);have Ib:=gH OW;have nT:=gH wP;have aag:=OW.2.2.2;have vk:=gH (show ∀ w',ag w w'→∀ c:Int,c≠0→xI w B n3 (cx,c) (.returned (.int .i64 c)) w' from fun w' a c hc=>⟨rfl,Kb.aH a,fun h=>absurd h hc⟩)
 have KF:=gH (show ∀ W,ag w W→(W.cell? ⟨n3,0,none⟩=some (.slice hs.a o.ae.length hs.c)∧W.cell? ⟨n3,1,none⟩=some (.slice ht.a o.tables.length ht.c)∧n3 < W.heap.size∧W.cell? ⟨bt,0,none⟩=some (.string t.aa)∧W.cell? ⟨bt,1,none⟩=some (.string t.name)∧W.cell? ⟨bt,2,none⟩=some (.string t.owner)∧W.cell? ⟨bt,3,none⟩=some (.slice Ac t.ak.length cc)∧W.cell? ⟨bt,4,none⟩=some (.slice Ar t.rules.length cr)∧bt < W.heap.size) from fun W a=>by
  have q:=r3.az a;have p:=rt.az a
  exact ⟨q.cell (j:=0) rfl,q.cell (j:=1) rfl,q.1,p.cell (j:=0) rfl,p.cell (j:=1) rfl,p.cell (j:=2) rfl,p.cell (j:=3) rfl,p.cell (j:=4) rfl,p.1⟩)
 clear ob r3 rt hne hL pD gA Ia wG hi hj hm hc bS bB hcs lp OW wP sm
 go_enter Tryz.func156,Tryz.ntmps156
 go_wp2_with fail;refine av (by kernel_rfl) (by kernel_rfl) ?_
 repeat (go_big_quiet_step ((go_at_call 43;exact Calls.bD (C0.out _))))
 refine wpQuiet_nil ?_;intro _ hw';obtain ⟨x,hw''⟩:=hw';subst hw'';obtain ⟨W,hW⟩:∃ W,W=bH w x:=⟨_,rfl⟩
 have aW:ag w W:=by rw [hW];exact (ag.refl w).bH x
 rw [← hW];obtain ⟨x0,x1,xz,t0,t1,t2,t3,t4,tz⟩:=KF.out W aW;have br:=gH aW;clear hW aW C0;go_wp2_with fail;refine (C1.out _).mono ?_;rintro e w1 ⟨rfl,rfl⟩
 cases u1
 ·go_wp2_with fail
  go_ret;rw [HE.out];exact vk.out _ br.out 1 (by decide)
 go_wp2_with fail;refine (C2.out _).mono ?_;rintro e w1 ⟨rfl,rfl⟩
 cases u2
 ·go_wp2_with fail
  go_ret;rw [HE.out];exact vk.out _ br.out 1 (by decide)
 have DF:=gH (CB.out W br.out);clear CB C1 C2;by_cases h0:i < 0
 ·have HH:=gH h0
  go_wp2_with fail;refine av (by kernel_rfl) (by kernel_rfl) ?_
  repeat (go_big_quiet_step ((go_at_call 123;exact Calls.bD (DF.out _))))
  refine wpQuiet_nil ?_;intro _ hw';obtain ⟨x,hw''⟩:=hw';subst hw'';go_wp2_with fail;go_ret;rw [HE.out];simp only [Bool.not_true,Bool.or_self,Bool.false_eq_true,if_false,if_pos HH.out];exact vk.out _ (br.out.bH x) 61 (by decide)
 have HH:=gH h0;go_wp2_with fail;refine av (by kernel_rfl) (by kernel_rfl) ?_
 repeat (go_big_quiet_step ((go_at_call 123;exact Calls.bD (DF.out _))))
 refine wpQuiet_nil ?_;intro _ hw';obtain ⟨x,hw''⟩:=hw';subst hw'';obtain ⟨V,hV⟩:∃ V,V=bH W x:=⟨_,rfl⟩
 have aV:ag W V:=by rw [hV];exact (ag.refl W).bH x
 rw [← hV];obtain ⟨x0,x1,xz,t0,t1,t2,t3,t4,tz⟩:=KF.out V (br.out.trans aV);have lC:=gH (br.out.trans aV);clear hV aV DF;by_cases Lq:0≤j
 ·have HJ:=gH Lq
  have hd:decide (0≤j)=true:=decide_eq_true Lq;rw [hd];go_wp2_with fail;go_ret;rw [HE.out];simp only [Bool.not_true,Bool.or_self,Bool.false_eq_true,if_false,if_neg (show ¬ i < 0 by have:=HH.out;omega),if_pos HJ.out];exact vk.out _ lC.out 60 (by decide)
 have HJ:=gH Lq;have hd:decide (0≤j)=false:=decide_eq_false Lq;rw [hd];have OL:=gH (CW.out V lC.out);clear CW;by_cases h8:8≤m
 ·have OA:(8:Int)≤(m:Int):=by omega
  have H8:=gH h8;clear h8;go_wp2_with fail;refine av (by kernel_rfl) (by kernel_rfl) ?_
  repeat (go_big_quiet_step ((go_at_call 84;exact Calls.bD (OL.out _))))
  refine wpQuiet_nil ?_;intro _ hw';obtain ⟨x,hw''⟩:=hw';subst hw'';go_wp2_with fail;go_ret;rw [HE.out];simp only [Bool.not_true,Bool.or_self,Bool.false_eq_true,if_false,if_neg (show ¬ i < 0 by have:=HH.out;omega),if_neg (show ¬ 0≤j by have:=HJ.out;omega),if_pos H8.out];exact vk.out _ (lC.out.bH x) 2 (by decide)
 have OA:¬ (8:Int)≤(m:Int):=by omega
 have H8:=gH h8;clear h8;go_wp2_with fail;refine av (by kernel_rfl) (by kernel_rfl) ?_
 repeat (go_big_quiet_step ((go_at_call 84;exact Calls.bD (OL.out _))))
 refine wpQuiet_nil ?_;intro _ hw';obtain ⟨x,hw''⟩:=hw';subst hw'';obtain ⟨U,hU⟩:∃ U,U=bH V x:=⟨_,rfl⟩
 have aU:ag V U:=by rw [hU];exact (ag.refl V).bH x
 rw [← hU];obtain ⟨x0,x1,xz,t0,t1,t2,t3,t4,tz⟩:=KF.out U (lC.out.trans aU);have DG:=gH (lC.out.trans aU);clear hU aU OL;go_wp2_with fail;refine (CM.out U DG.out).mono ?_;rintro e X ⟨rfl,aX⟩;obtain ⟨x0,x1,xz,t0,t1,t2,t3,t4,tz⟩:=KF.out X (DG.out.trans aX);have gN:=gH (DG.out.trans aX);clear aX CM
 cases c
 ·go_wp2_with fail
  go_ret;rw [HE.out];simp only [Bool.not_true,Bool.or_self,Bool.false_eq_true,if_false,Bool.not_false,Bool.true_or,if_true,if_neg (show ¬ i < 0 by have:=HH.out;omega),if_neg (show ¬ 0≤j by have:=HJ.out;omega),if_neg H8.out];exact vk.out _ gN.out 63 (by decide)
 by_cases rT:0 < t.rules.length
 ·have hdr:(0:Int) < (t.rules.length:Int):=by omega
  have je:=gH rT;clear rT;go_wp2_with fail;go_ret;rw [HE.out];simp only [Bool.not_true,Bool.or_self,Bool.false_eq_true,if_false,Bool.false_or,decide_eq_true_eq,if_neg (show ¬ i < 0 by have:=HH.out;omega),if_neg (show ¬ 0≤j by have:=HJ.out;omega),if_neg H8.out,if_pos je.out];exact vk.out _ gN.out 63 (by decide)
 have hdr:¬ (0:Int) < (t.rules.length:Int):=by omega
 have je:=gH rT;have CPX:=gH (CP.out rfl (by omega));have wR:=lB.out.az gN.out;have HOW:=gH (show X.ownsRow B 53 5 (.slice ht.a o.tables.length ht.c) o.tables.length (L.flatMap ay.cells) by rw [← Rc.out,← nT.out];exact wR.tab)
 have n1:¬ fN (.slice ht.a o.tables.length ht.c) n3:=fun h=>Gu.out n3 (List.mem_append.2 (.inr (List.mem_append.2 (.inl (Hd.au.2 (by rw [Rc.out];exact h)))))) rfl
 have n2:¬ fN (.slice ht.a o.tables.length ht.c) bt:=fun h=>by have:=(HOW.out.lt bt h).1;omega
 have xf:X.frozen? ⟨n3,1,none⟩=false:=(ny.out.az gN.out).2.2 1 (by simp);obtain ⟨i0,eU,hz0,hz1,hz2⟩:=info_parts sI;have OC:=gH eU;have qw:=gH hz0;have nS:=gH hz1;have mG:=gH hz2;have Ls:=gH wR;clear eU hz0 hz1 hz2 wR rT CP;go_wp2_with fail;refine dx 6 9 (fun w'=>∃ x:kQ (.slice ht.a o.tables.length ht.c) X,w'=kw (.slice ht.a o.tables.length ht.c) X x) (by kernel_rfl) (by kernel_rfl) (KL.az (ag.refl X).drew) ?_;simp only [List.take_succ_cons,List.take_zero,List.drop_succ_cons,List.drop_zero]
 repeat (go_big_quiet_step (fail))
 refine wpQuiet_nil ?_;refine bX (fun K hK=>?_);go_simp;obtain ⟨D,hD⟩:∃ D,D=X.drew:=⟨_,rfl⟩
 have aD:ag X D:=by rw [hD];exact (ag.refl X).drew
 rw [← hD]
 go_at_call 44
 refine (CPX.out D (gN.out.trans aD)).mono ?_;rintro e Y ⟨x,hx,rfl,aY,tx,OV⟩
 dsimp only
 refine hK _ _ (fun _=>KL.az (aD.trans aY)) ?_;clear hK K hD;have AD:x.t=t:=hx
 have Tb:x.cells=[.string t.aa,.string t.name,.string t.owner,.slice x.hc.a t.ak.length x.hc.c,.slice x.hr.a t.rules.length x.hr.c]:=by
  rw [← AD];unfold ay.cells;rw [bL tx.qp,bL tx.nw];simp [ay.t]
 refine bX (fun K hK=>?_);go_simp;refine hK _ _ (fun _=>KL.az ((aD.trans aY).alloc _)) ?_;clear hK K;have jG:=gH (aD.trans aY);have YZ:X.heap.size≤D.heap.size∧D.heap.size≤Y.heap.size:=⟨aD.size,aY.size⟩;refine bX (fun K hK=>?_);refine wp_append_lies _ (.tmp 62) (.tmp 65) 23 rfl B 53 i0 _ 5 96 Tryz.underlying23 OC.out qw.out nS.out mG.out rfl (by decide) (.slice ht.a o.tables.length ht.c) o.tables.length (L.flatMap ay.cells) (by rfl) ((bu HOW.out jG.out).alloc _) ⟨Y.heap.size,0,none⟩ 1 1 [.string t.aa,.string t.name,.string t.owner,.slice x.hc.a t.ak.length x.hc.c,.slice x.hr.a t.rules.length x.hr.c] (by rfl) rfl (World.news_of_block (cs:=#[.string t.aa,.string t.name,.string t.owner,.slice x.hc.a t.ak.length x.hc.c,.slice x.hr.a t.rules.length x.hr.c]) (t:=53) (fr:=(0,0)) (heap_alloc_new Y _)) (by simp [Value.oneCell']) (by omega) (by unfold maxLen;omega) (by omega) (by simp;omega) (Y.heap.size+1) (by simp) ?_;intro gg cap' w5 eX hgrow hat nR;refine hK _ _ (fun _=>KL.of ((Kb.aH (jG.out.alloc _)).trans (jD hgrow))) ?_;clear hK K;refine d9 _ (by simp) (by decide) ?_;have mj:Kb (fN (.slice ht.a o.tables.length ht.c)) X w5:=(Kb.aH (jG.out.alloc _)).trans (jD hgrow);have Y0:Kb (fN (.slice ht.a o.tables.length ht.c)) Y w5:=(Kb.aH ((ag.refl Y).alloc _)).trans (jD hgrow);have d5:=mj.cell x1 n1;have lL:=mj.row (ny.out.az gN.out) n1;have f5:w5.frozen? ⟨n3,1,none⟩=false:=lL.2.2 1 (by simp);have z5:=lL.1
 have Az:gg≠n3:=fun e=>by
  rcases hat with h1 | h1
  ·exact n1 (by rw [← e];exact h1)
  ·omega
 have Nt:∀ g,fN (.slice ht.a o.tables.length ht.c) g→B≤g∧g < X.heap.size:=fun g hg=>HOW.out.lt g hg
 have jk:(w5.setCell ⟨n3,1,none⟩ (.slice (some ⟨gg,0,none⟩) (o.tables.length+1) cap')).ownsRow B 53 5 (.slice (some ⟨gg,0,none⟩) (L++[x]).length cap') (L++[x]).length ((L++[x]).flatMap ay.cells):=by
  rw [List.length_append,nT.out,List.flatMap_append,List.flatMap_cons,List.flatMap_nil,List.append_nil,Tb]
  exact aP eX (Kb.set w5 n3 1 _) (fun g hg e=>by
   have e:g=n3:=e
   have:g=gg:=by simpa [Value.ownBlock,eq_comm] using hg
   exact Az (by rw [← this];exact e))
 have CS:=gH (Ha gg cap' B (L++[x]) (by simp) (by have:=nT.out;simp;omega) _ jk);have uw:=lL.set 1 (.slice (some ⟨gg,0,none⟩) (o.tables.length+1) cap') (by simp)
 have HP:=gH (show ∀ w7 e,gK 53 5 ay.cells (fun x y=>eG x.t y.t) (w5.setCell ⟨n3,1,none⟩ (.slice (some ⟨gg,0,none⟩) (o.tables.length+1) cap')) B gg cap' (L++[x]) e w7→e=.returned (.tuple #[])∧xI w B n3 (dy t o) (.returned (.int .i64 0)) w7 from fun w7 e wL=>by
  obtain ⟨he,l',hp,Bo,OD,k7⟩:=wL
  have hlt:j < 0:=by have:=HJ.out;omega
  have N5:(l'.map ay.t).Perm (o.tables++[t]):=by
   have:=hp.map ay.t
   rwa [List.map_append,HL.out,List.map_cons,List.map_nil,AD] at this
  have hl':l'.map ay.t=bQ o.tables (cN eG o.tables t) t:=pI mM.tr mM.dU Ib.out.1 (HI.out hlt) N5 (fun a b ha hb hab=>by
   have:=Bo a b (by simpa using ha) (by simpa using hb) hab
   simpa using this)
  have rQ:l'.length=o.tables.length+1:=by rw [hp.length_eq,List.length_append,nT.out];rfl
  refine ⟨he,?_⟩;rw [HE.out];simp only [Bool.not_true,Bool.or_self,Bool.false_eq_true,if_false,Bool.false_or,decide_eq_true_eq,if_neg (show ¬ i < 0 by have:=HH.out;omega),if_neg (show ¬ 0≤j by have:=HJ.out;omega),if_neg H8.out,if_neg je.out];rw [← hl'];have wM:Kb (fun g=>fN (.slice ht.a o.tables.length ht.c) g∨g=n3∨g=gg) X w7:=((mj.mono fun g _ h=>.inl h).trans ((Kb.set w5 n3 1 _).mono fun g _ e=>.inr (.inl e))).trans (k7.mono fun g _ e=>.inr (.inr e));have Tc:Kb (fun g=>fN (.slice ht.a o.tables.length ht.c) g∨g=n3∨g=gg) Y w7:=((Y0.mono fun g _ h=>.inl h).trans ((Kb.set w5 n3 1 _).mono fun g _ e=>.inr (.inl e))).trans (k7.mono fun g _ e=>.inr (.inr e))
  have ot:fN (.slice ht.a o.tables.length ht.c) gg∨Y.heap.size+1≤gg:=by
   rcases hat with h1 | h1
   ·exact .inl h1
   ·exact .inr (by omega)
  have WK:=tx.lt
  have WL:∀ g∈x.bI,X.heap.size≤g∧g < Y.heap.size:=fun g hg=>by have:=WK g hg;omega
  refine ⟨rfl,(Kb.aH gN.out).trans (wM.mono fun g _ h=>?_),fun _=>⟨hs,⟨some ⟨gg,0,none⟩,o.tables.length+1,cap'⟩,l',rfl,?_,?_⟩⟩
  ·rcases h with h | h | h
   ·exact (Nt g h).1
   ·omega
   ·rcases ot with h1 | h1
    ·rw [h];exact (Nt gg h1).1
    ·omega
  ·refine Ls.out.OU wM (fun g hg h=>?_) hp ?_ ?_ OV (fun g hg=>(WL g hg).1) (fun g hg=>?_)
   ·have aah:=Ls.out.lt g (by
     rcases List.mem_append.1 hg with h1 | h1
     ·exact List.mem_append.2 (.inl h1)
     ·exact List.mem_append.2 (.inr (List.mem_append.2 (.inr h1))))
    have hno:∀ k,fN (.slice ht.a o.tables.length ht.c) k→k≠g:=fun k hk e=>by
     subst e;have hkb:=Hd.au.2 (show ht.v.ownBlock=some k by rw [Rc.out];exact hk)
     rcases List.mem_append.1 hg with h1 | h1
     ·exact bp Ls.out.nd h1 (List.mem_append.2 (.inl hkb))
     ·exact bp (List.nodup_append.1 Ls.out.nd).2.1 hkb h1
    rcases h with h | h | h
    ·exact hno g h rfl
    ·refine Gu.out g ?_ h
     rcases List.mem_append.1 hg with h1 | h1
     ·exact List.mem_append.2 (.inl h1)
     ·exact List.mem_append.2 (.inr (List.mem_append.2 (.inr h1)))
    ·rcases ot with h1 | h1
     ·exact hno gg h1 h.symm
     ·omega
   ·have:=OD
    rw [List.length_append,nT.out] at this;rw [rQ];exact this
   ·refine (tx.down (B':=B) (by omega)).kb Tc (fun g hg h=>?_)
    have:=WL g hg
    rcases h with h | h | h
    ·have:=(Nt g h).2;omega
    ·omega
    ·rcases ot with h1 | h1
     ·have:=(Nt gg h1).2;omega
     ·omega
   ·rw [cM,List.mem_singleton] at hg
    have hg:g=gg:=hg;rw [hg];refine ⟨?_,fun hc=>?_⟩
    ·rcases ot with h1 | h1
     ·exact .inl (Hd.au.2 (by rw [Rc.out];exact h1))
     ·exact .inr (by omega)
    ·have:=WL gg hc
     rcases ot with h1 | h1
     ·have:=(Nt gg h1).2;omega
     ·omega
  ·rw [List.length_map,rQ]
   exact k7.row uw (fun e=>Az e.symm))
 have c6:=uw.cell (j:=1) rfl;have z6:=uw.1
 have Ic:=gH (show Calls Tryz.prog 157 #[.slice (some ⟨gg,0,none⟩) (o.tables.length+1) cap',.func (.func 80) #[] #[]] (w5.setCell ⟨n3,1,none⟩ (.slice (some ⟨gg,0,none⟩) (o.tables.length+1) cap')) (gK 53 5 ay.cells (fun x y=>eG x.t y.t) (w5.setCell ⟨n3,1,none⟩ (.slice (some ⟨gg,0,none⟩) (o.tables.length+1) cap')) B gg cap' (L++[x])) from by
  have h:=CS.out;rw [List.length_append,nT.out,List.length_singleton] at h
  exact h)
 clear eX hgrow hat nR mj Y0 lL jk uw CS Tb hx AD tx OV aY aD jG;go_wp2_with fail;refine NoPanic.normal ?_;go_wp2_with fail;refine Ic.out.mono ?_;intro e w7 wL;obtain ⟨rfl,Ie⟩:=HP.out w7 e wL;have OE:=gH Ie;clear wL Ie Ic HP;go_wp2_with fail;go_ret;exact OE.out
end Go.Proofs.YtmflccbnoeaafaaGreat
namespace Go.Proofs.YtmflccbnoeaafaaGreat
open Go.RowKit Go.Deep
set_option maxRecDepth 100000
set_option linter.unusedVariables false
set_option maxHeartbeats 64000000
theorem Lu {ops:Array Oper} {rest:List Oper} {o:Oper} {a:Act} {w:World} {Q:Exit→Act→World→Prop} (hgd:o.guard=none) (s x:Operand)
  (ho:o.op=.call { callee:=.builtin .append,args:=#[s,x],argTypes:=#[23,23] }) (base:Nat) (v:Value) (n:Nat) (xs:List Value) (hs:a.eval s=v) (hown:w.ownsRow base 53 5 v n xs)
  (b:Nat) (y:ay) (c0 c1 c2:ByteArray) (A2:Option Addr) (n2 k2:Nat) (A3:Option Addr) (n3 k3:Nat) (hy:y.cells=[.string c0,.string c1,.string c2,.slice A2 n2 k2,.slice A3 n3 k3]) (hx:a.eval x=.slice (some ⟨b,0,none⟩) 1 1) (hb:w.heap[b]? = some (.cells #[.string c0,.string c1,.string c2,.slice A2 n2 k2,.slice A3 n3 k3] 53)) (hn:n≤1000000) (hbase:base≤w.heap.size)
  (h:∀ g cap w',w'.ownsRow base 53 5 (.slice (some ⟨g,0,none⟩) (n+1) cap) (n+1) (xs++y.cells)→w.grownBy w' v.ownBlock→(v.ownBlock=some g∨g=w.heap.size)→wpList Tryz.prog ops Q rest (a.put o.dst (.slice (some ⟨g,0,none⟩) (n+1) cap)) w'):wpList Tryz.prog ops Q (o::rest) a w:=by
 obtain ⟨i0,eU,hz0,hz1,hz2⟩:=info_parts sI;rw [hy] at h
 exact wpList_append_lies w hgd s x 23 ho base 53 i0 _ 5 96 Tryz.underlying23 eU hz0 hz1 hz2 rfl (by decide) v n xs hs hown ⟨b,0,none⟩ 1 1 [.string c0,.string c1,.string c2,.slice A2 n2 k2,.slice A3 n3 k3] hx rfl (World.news_of_block (cs:=#[.string c0,.string c1,.string c2,.slice A2 n2 k2,.slice A3 n3 k3]) (t:=53) (fr:=(0,0)) hb) (by simp [Value.oneCell']) (by omega) (by unfold maxLen;omega) (by omega) hbase _ rfl fun g cap w' h1 h2 h3 _=>h g cap w' h1 h2 h3
theorem BA {α:Type} (l:List α) (p:Nat) (x:α):(bQ l p x).Perm (l++[x]):=by
 unfold bQ;have h1:(l.take p++([x]++l.drop p)).Perm (l.take p++(l.drop p++[x])):=List.perm_append_comm.append_left _;rw [← List.append_assoc,← List.append_assoc,List.take_append_drop] at h1;exact h1
end Go.Proofs.YtmflccbnoeaafaaGreat
namespace Go.Proofs.YtmflccbnoeaafaaGreat
set_option maxRecDepth 100000
set_option linter.unusedVariables false
set_option maxHeartbeats 64000000
theorem BC (ts:List cu) (p:Nat) (t:cu) (s:ByteArray):within (bQ ts p t) s=within ts s+if bk t.aa s then 1 else 0:=by
 unfold within;rw [((BA ts p t).filter _).length_eq,List.filter_append,List.length_append]
 cases h:bk t.aa s<;>simp [h]
theorem vw {α:Type} (p:α→Bool):∀ l:List α,l.length=(l.filter p).length+(l.filter fun x=>!p x).length
 | []=>rfl
 | x::l=>by
  have:=vw p l
  cases h:p x<;>simp [h]<;>omega
theorem vx:∀ (ns:List ByteArray) (ts:List cu),(∀ t∈ts,t.aa∈ns)→(∀ n∈ns,within ts n≤8)→ts.length≤ns.length*8
 | [],ts,h,_=>by
  cases ts with
  | nil=>simp
  | cons t l=>have:=h t (by simp);simp at this
 | n::ns,ts,h,h8=>by
  have e:=vw (fun t:cu=>bk t.aa n) ts
  have ih:=vx ns (ts.filter fun t=>!bk t.aa n) (fun t ht=>by
   have h1:=List.mem_filter.1 ht
   rcases List.mem_cons.1 (h t h1.1) with e | e
   ·have:=h1.2
    rw [e,df] at this
    cases this
   ·exact e) (fun m hm=>Nat.le_trans (by
    unfold within
    exact ((List.filter_sublist (p:=fun t:cu=>!bk t.aa n) (l:=ts)).filter _).length_le) (h8 m (List.mem_cons_of_mem _ hm)))
  have h9:=h8 n (by simp);unfold within at h9;simp only [List.length_cons];omega
theorem tE {α β:Type} (f:α→β) (d:β→β→Int):∀ l:List α,aN (fun x y=>d (f x) (f y)) l=aN d (l.map f)
 | []=>rfl
 | [_]=>rfl
 | x::y::l=>by
  show (decide (d (f x) (f y) < 0)&&aN (fun x y=>d (f x) (f y)) (y::l))=(decide (d (f x) (f y) < 0)&&aN d ((y::l).map f))
  rw [tE f d (y::l)]
theorem pS {α β:Type} (f:α→β) (l:List α) (q:Nat) (x:α) (hq:q < l.length) (h:f x=f l[q]):(l.set q x).map f=l.map f:=by
 rw [List.map_set,h]
 have:f l[q]=(l.map f)[q]'(by simpa using hq):=by simp
 rw [this,List.set_getElem_self]
theorem vy {ts:List cu} {q:Nat} {t:cu} (hq:q < ts.length) (hs:t.aa=ts[q].aa) (hn:t.name=ts[q].name):aN eG (ts.set q t)=aN eG ts:=by
 have m:=tE (fun t:cu=>(t.aa,t.name)) (fun a b:ByteArray × ByteArray=>iQ (bw a.1 b.1) (bw a.2 b.2));have m1:∀ l:List cu,aN eG l=aN (fun a b:ByteArray × ByteArray=>iQ (bw a.1 b.1) (bw a.2 b.2)) (l.map fun t=>(t.aa,t.name)):=m;rw [m1,m1,pS _ _ _ _ hq (by simp [hs,hn])]
theorem tF {ts:List cu} {q:Nat} {t:cu} (hq:q < ts.length) (hs:t.aa=ts[q].aa) (s:ByteArray):within (ts.set q t) s=within ts s:=by
 have e:∀ l:List cu,within l s=((l.map cu.aa).filter fun a=>bk a s).length:=fun l=>by
  unfold within;rw [List.filter_map,List.length_map];rfl
 rw [e,e,pS _ _ _ _ hq hs]
theorem mW {α:Type} {c:α→α→Int} (P:my c) {l:List α} (h:aN c l=true) (p:Nat):aN c (l.eraseIdx p)=true:=by
 have hw:l.Pairwise fun a b=>c a b < 0:=List.pairwise_iff_getElem.2 fun i j hi hj px=>eh P.tr h i j hi hj px
 have hw2:=hw.sublist (List.eraseIdx_sublist l p)
 exact (dh _ _).2 fun k hk=>List.pairwise_iff_getElem.1 hw2 k (k+1) (by omega) hk (by omega)
theorem fE {α:Type} {l:List α} {p:Nat} {x:α} (hx:x∈l) (hp:∀ h:p < l.length,x≠l[p]):x∈l.eraseIdx p:=by
 obtain ⟨i,hi,rfl⟩:=List.getElem_of_mem hx;refine List.mem_eraseIdx_iff_getElem.2 ⟨i,hi,fun e=>?_,rfl⟩;subst e;exact hp hi rfl
theorem nH {ts:List cu} {q:Nat} {t:cu} {l l':List fc} {r:gi} (hq:q < ts.length) (hs:t.aa=ts[q].aa) (hn:t.name=ts[q].name) (hl:∀ a∈r.ak,∀ k,dO l a=some k→dO l' a=some k)
  (hr:ts[q].aa=r.aa→ts[q].name=r.table→∀ k∈ts[q].rules,k.name=r.key→k.kind=2→k∈t.rules∧∀ a∈k.ak,∀ i,dO ts[q].ak a=some i→dO t.ak a=some i) (h:iC ts l r):iC (ts.set q t) l' r:=by
 obtain ⟨x,hx,e1,e2,k,hk,e3,e4,e5⟩:=h;obtain ⟨i,hi,rfl⟩:=List.getElem_of_mem hx;by_cases Y1:i=q
 ·subst Y1
  have h9:=hr e1 e2 k hk e3 e4;exact ⟨t,List.mem_set hq t,hs.trans e1,hn.trans e2,k,h9.1,e3,e4,oQ _ _ hl h9.2 e5⟩
 ·refine ⟨ts[i],?_,e1,e2,k,hk,e3,e4,oQ _ _ hl (fun _ _ _ h=>h) e5⟩
  exact List.mem_iff_getElem.2 ⟨i,by simpa using hi,by rw [List.getElem_set_ne (fun e=>Y1 e.symm)]⟩
theorem oT {α:Type} {l:List α} {q:Nat} {x y:α} (h:x∈l.set q y):x=y∨x∈l:=by
 rcases List.mem_or_eq_of_mem_set h with h | h
 ·exact .inr h
 ·exact .inl h
theorem pT {o:bE} {q:Nat} {t:cu} (g:Good o) (hq:q < o.tables.length) (hs:t.aa=o.tables[q].aa) (hn:t.name=o.tables[q].name) (ho:t.owner=o.tables[q].owner) (hc:fp t.ak=true) (hl:t.rules.length≤8) (OZ:aN gS t.rules=true) (hf:∀ r∈t.rules,dS t.ak r=true)
  (hk:∀ r∈t.rules,r.kind=4→iC (o.tables.set q t) t.ak r) (hk2:∀ x∈o.tables,∀ r∈x.rules,r.kind=4→iC (o.tables.set q t) x.ak r):Good ⟨o.ae,o.tables.set q t⟩:=by
 have gq:=g.tab _ (List.getElem_mem hq);refine ⟨g.ns,by simpa using g.nt,?_,g.rs,fun s hs2=>?_,fun x hx=>?_⟩
 ·show aN eG (o.tables.set q t)=true
  rw [vy hq hs hn];exact g.rt
 ·have:=g.gQ s hs2
  refine ⟨this.1,this.2.1,?_⟩
  show within (o.tables.set q t) s.name≤8
  rw [tF hq hs];exact this.2.2
 ·rcases oT hx with rfl | hx
  ·exact ⟨hn▸gq.nm,ho▸gq.ow,hc,hl,by rw [hs];exact gq.gQ,OZ,hf,hk⟩
  ·have gx:=g.tab x hx
   exact ⟨gx.nm,gx.ow,gx.ak,gx.nr,gx.gQ,gx.lr,gx.fit,hk2 x hx⟩
theorem iY {l:List fc} {cs:List ByteArray}:∀ a∈cs,∀ k,dO l a=some k→dO l a=some k:=fun _ _ _ h=>h
theorem pU {ts:List cu} {s n:ByteArray} {q:Nat} (h:bj ts s n=q) (hq:q < ts.length):ts[q].aa=s∧ts[q].name=n:=by
 have h1:(bk ts[q].aa s&&bk ts[q].name n)=true:=gY (fun t:cu=>bk t.aa s&&bk t.name n) ts q hq h;simp only [Bool.and_eq_true,dE] at h1;exact h1
theorem Io {l:List gi} {s:ByteArray} {p:Nat} (h:gp l s=p) (hp:p < l.length):l[p].name=s:=(dE _ _).1 (gY (fun c:gi=>bk c.name s) l p hp h)
theorem sw {o:bE} {s n:ByteArray} {f:cu→cu × Int} (h:bF o=true) (hz:(cY o s n f).2=0)
  (hf:∀ (q:Nat) (hq:q < o.tables.length),bj o.tables s n=q→(f o.tables[q]).2=0→Good ⟨o.ae,o.tables.set q (f o.tables[q]).1⟩):bF (cY o s n f).1=true:=by
 have hr:=bg (fun t:cu=>bk t.aa s&&bk t.name n) o.tables;by_cases h0:bj o.tables s n < 0
 ·rw [nz h0] at hz;cases hz
 ·obtain ⟨q,hq⟩:∃ q:Nat,bj o.tables s n=q:=⟨(bj o.tables s n).toNat,by omega⟩
  have q9:q < o.tables.length:=by unfold bj at hq;omega
  rw [nA hq q9] at hz ⊢;by_cases h1:(f o.tables[q]).2=0
  ·rw [if_pos h1]
   exact (ek _).2 (hf q q9 hq h1)
  ·rw [if_neg h1] at hz;exact absurd hz h1
theorem BD {o:bE} {s n:ByteArray} {r:gi} (h:bF o=true) (hz:(cY o s n (eo o.tables r)).2=0):bF (cY o s n (eo o.tables r)).1=true:=by
 have g:=(ek o).1 h
 refine sw h hz fun q hq hat pV=>?_
 have gq:=g.tab _ (List.getElem_mem hq);unfold eo at pV ⊢;by_cases c1:dS o.tables[q].ak r=true
 ·by_cases c2:0≤gp o.tables[q].rules r.name
  ·rw [c1] at pV;simp [c2] at pV
  ·by_cases c3:8≤o.tables[q].rules.length
   ·rw [c1] at pV;simp [c2,c3] at pV
   ·by_cases c4:(r.kind==4&&mH o.tables o.tables[q].ak r != 0)=true
    ·rw [if_neg (by rw [c1];simp),if_neg c2,if_neg c3,if_pos c4] at pV
     simp only [Bool.and_eq_true,bne_iff_ne] at c4;exact absurd pV c4.2
    ·rw [if_neg (by rw [c1];simp),if_neg c2,if_neg c3,if_neg c4]
     have WM:∀ k,k∈o.tables[q].rules→k∈bQ o.tables[q].rules (cN gS o.tables[q].rules r) r:=fun k hk=>cj.2 (.inr hk)
     have uC:∀ x r',iC o.tables x r'→iC (o.tables.set q { o.tables[q] with rules:=bQ o.tables[q].rules (cN gS o.tables[q].rules r) r }) x r':=fun x r' hh =>
      nH hq rfl rfl iY (fun _ _ k hk _ _=>⟨WM k hk,iY⟩) hh
     refine pT g hq rfl rfl rfl gq.ak ?_ (iT pL.tr pL.dU gq.lr (yN (by omega))) (fun y hy=>?_) (fun y hy Rf=>?_) (fun x hx y hy Rf=>uC _ _ ((g.tab x hx).key y hy Rf))
     ·show (bQ _ _ _).length≤8
      rw [eI _ _ _ (fD _ _ _)];omega
     ·rcases cj.1 hy with e | e
      ·rw [e];exact c1
      ·exact gq.fit y e
     ·rcases cj.1 hy with e | e
      ·rw [e] at Rf ⊢
       refine uC _ _ (tD ?_)
       show mH o.tables o.tables[q].ak r=0
       simp only [Bool.and_eq_true,beq_iff_eq,bne_iff_ne,not_and] at c4;exact Classical.not_not.1 (c4 Rf)
      ·exact uC _ _ (gq.key y e Rf)
 ·rw [if_pos (by simpa using c1)] at pV;cases pV
theorem yT {s n:ByteArray} {ts:List cu} {x:cu} {r:gi} (hx:x∈ts) (hr:r∈x.rules) (h:eN s n r=true):(x,r)∈gW s n ts:=by
 unfold gW Ii;exact List.mem_flatMap.2 ⟨x,hx,List.mem_map.2 ⟨r,List.mem_filter.2 ⟨hr,h⟩,rfl⟩⟩
theorem vA {s n:ByteArray} {r:gi} (h4:r.kind=4) (hs:r.aa=s) (hn:r.table=n):eN s n r=true:=by
 unfold eN;rw [hs,hn,df,df];simp [h4]
theorem yU {o:bE} {s n name:ByteArray} (h:bF o=true) (hz:(cY o s n (dN o.tables s n name)).2=0):bF (cY o s n (dN o.tables s n name)).1=true:=by
 have g:=(ek o).1 h
 refine sw h hz fun q hq hat pV=>?_
 have gq:=g.tab _ (List.getElem_mem hq);obtain ⟨hqs,hqn⟩:=pU hat hq;have hr:=bg (fun c:gi=>bk c.name name) o.tables[q].rules;unfold dN at pV ⊢;by_cases c1:gp o.tables[q].rules name < 0
 ·rw [if_pos c1] at pV;cases pV
 ·by_cases c2:((gW s n o.tables).any fun p=>nV (pP o.tables[q] name) name p.2)=true
  ·rw [if_neg c1,if_pos c2] at pV;cases pV
  ·rw [if_neg c1,if_neg c2]
   obtain ⟨p,hp⟩:∃ p:Nat,gp o.tables[q].rules name=p:=⟨(gp o.tables[q].rules name).toNat,by omega⟩
   have hpl:p < o.tables[q].rules.length:=by unfold gp at hp;omega
   have Td:=Io hp hpl;have DJ:=tC hp hpl;rw [hp];simp only [Int.toNat_natCast]
   have uC:∀ x∈o.tables,∀ r'∈x.rules,r'.kind=4→iC o.tables x.ak r'→iC (o.tables.set q { o.tables[q] with rules:=o.tables[q].rules.eraseIdx p }) x.ak r':=fun x hx r' Bq h4 hh =>
    nH hq rfl rfl iY (fun e1 e2 k hk e3 e4=>⟨fE hk fun h9 e=>c2 (List.any_eq_true.2 ⟨(x,r'),yT hx Bq (vA h4 (e1.symm.trans hqs) (e2.symm.trans hqn)),by
     unfold nV;rw [DJ,← e,e4,← e3,e,Td,df]
     rfl⟩),iY⟩) hh
   exact pT g hq rfl rfl rfl gq.ak (Nat.le_trans (List.length_eraseIdx_le _ _) gq.nr) (mW pL gq.lr p) (fun y hy=>gq.fit y (List.mem_of_mem_eraseIdx hy))
    (fun y hy h4=>uC _ (List.getElem_mem hq) y (List.mem_of_mem_eraseIdx hy) h4 (gq.key y (List.mem_of_mem_eraseIdx hy) h4)) (fun x hx y hy h4=>uC x hx y hy h4 ((g.tab x hx).key y hy h4))
end Go.Proofs.YtmflccbnoeaafaaGreat
namespace Go.Proofs.YtmflccbnoeaafaaGreat
open Go.RowKit Go.Deep
set_option maxRecDepth 100000
set_option linter.unusedVariables false
set_option maxHeartbeats 64000000
theorem uD {s n:ByteArray} {o:bE}:(cv s n o).2≠0→(cv s n o).1=cx:=by
 unfold cv
 repeat (split;exact fun _=>rfl)
 exact fun h=>absurd rfl h
theorem wS (o:bE) (As:Option Addr) (ar:Nat) (At:Option Addr) (ax:Nat) (s n:ByteArray) (w:World) (bS:aL w 2 fk As ar o.ae) (bB:aL w 5 dA At ax o.tables) :
  Calls Tryz.prog 87 #[.agg #[.slice As o.ae.length ar,.slice At o.tables.length ax],.string s,.string n] w (ix w (cR o (cv s n o))):=by
 have hlen:=bS.len;have fl:=bB.len;have sm:kA o:=⟨iy bS,iz bB⟩;have bR:=enters (P:=Tryz.prog) Tryz.func130 (by kernel_rfl) rfl
 have l1:w.heap.size < w.heap.size+1:=by omega
 have l2:w.heap.size < w.heap.size+1+1:=by omega
 have l3:w.heap.size < w.heap.size+1+1+1:=by omega
 obtain ⟨W,hW⟩:∃ W,W=(((w.alloc (.cells #[.slice As o.ae.length ar,.slice At o.tables.length ax] 25)).alloc (.cells #[.string s] 9)).alloc (.cells #[.string n] 9)).alloc (.cells #[.slice none 0 0,.slice none 0 0] 25):=⟨_,rfl⟩
 have aW:ag w W:=by rw [hW];exact ((((ag.refl w).alloc _).alloc _).alloc _).alloc _
 have yQ:ap W (w.heap.size+1) [.string s]:=by
  rw [hW];have:=(aO (w:=(w.alloc (.cells #[.slice As o.ae.length ar,.slice At o.tables.length ax] 25))) (c:=[.string s]) (t:=9) (ag.refl _)).az (((ag.refl _).alloc (.cells #[.string n] 9)).alloc (.cells #[.slice none 0 0,.slice none 0 0] 25))
  simpa using this
 have Nw:ap W (w.heap.size+1+1) [.string n]:=by
  rw [hW];have:=(aO (w:=((w.alloc (.cells #[.slice As o.ae.length ar,.slice At o.tables.length ax] 25)).alloc (.cells #[.string s] 9))) (c:=[.string n]) (t:=9) (ag.refl _)).az ((ag.refl _).alloc (.cells #[.slice none 0 0,.slice none 0 0] 25))
  simpa using this
 have r2:ap W (w.heap.size+1+1+1) [.slice none 0 0,.slice none 0 0]:=by
  rw [hW];have:=(aO (w:=(((w.alloc (.cells #[.slice As o.ae.length ar,.slice At o.tables.length ax] 25)).alloc (.cells #[.string s] 9)).alloc (.cells #[.string n] 9))) (c:=[.slice none 0 0,.slice none 0 0]) (t:=25) (ag.refl _))
  simpa using this
 have zW:W.heap.size=w.heap.size+4:=by rw [hW];simp
 have CT:=gH (jY o As ar At ax 130 #[.pointer (some ⟨w.heap.size+1,0,none⟩),.pointer (some ⟨w.heap.size+1+1,0,none⟩)] (cv s n o) W (bm aW bS) (aQ aW bB) bR
  uD (fun gA w1 hs ht L B n3 a hB hn hL ob hne r3=>yR s n o w1 hs ht L B n3 (w.heap.size+1) (w.heap.size+1+1) hn hL ob hne r3 ((yQ.az a).cell (j:=0) rfl) ((Nw.az a).cell (j:=0) rfl) sm))
 obtain ⟨rr,jz⟩:∃ rr,cR o (cv s n o)=rr:=⟨_,rfl⟩;rw [jz] at CT ⊢;have br:=gH aW;have mB:=gH r2;have HZ:=gH zW;clear jz bS bB r2 aW zW yQ Nw sm
 go_enter Tryz.func87,Tryz.ntmps87
 go_wp2_with fail;rw [← hW];clear hW;refine CT.out.mono ?_;rintro e w3 ⟨hs,ht,L,hL,rfl,a3,ob⟩;have b2:=mB.out.az a3;have d0:=b2.cell (j:=0) rfl;have d1:=b2.cell (j:=1) rfl;have f0:=b2.2.2 0 (by simp);have f1:=b2.2.2 1 (by simp);have z2:=b2.1;have mq:=gH b2;have iw:=gH (br.out.trans a3);have HO:=gH ob;have HL:=gH hL;clear b2 a3 ob hL;go_wp2_with fail;refine bodyPost_ret (results_cell_tmp (v:=.agg #[.slice hs.a rr.1.ae.length hs.c,.slice ht.a rr.1.tables.length ht.c]) rfl _ rfl (b9 (gU mq.out rfl _ _))) rfl ?_;exact gV iw.out HL.out HO.out (by omega) (by have:=HZ.out;omega) rfl
theorem yV {s n:ByteArray} {x y:cu} (h1:iN s n x=true) (h2:iN s n y=true):eG x y=0:=by
 unfold iN at h1 h2;rw [Bool.and_eq_true] at h1 h2;have e1:bw x.aa y.aa=0:=(gu _ _).2 (qL h1.1 (by rw [mX];exact h2.1));have e2:bw x.name y.name=0:=(gu _ _).2 (qL h1.2 (by rw [mX];exact h2.2));unfold eG iQ;rw [e1,e2];rfl
theorem Ip {o:bE} {s n:ByteArray} {p:Nat} (hr:aN eG o.tables=true) (hp:bj o.tables s n=p) (hpl:p < o.tables.length) (t:Nat) (ht:t < o.tables.length):iN s n o.tables[t]=decide (t=p):=by
 have h1:iN s n o.tables[p]=true:=gY (fun c:cu=>bk c.aa s&&bk c.name n) o.tables p hpl hp
 rcases Nat.lt_trichotomy t p with h | h | h
 ·rw [decide_eq_false (by omega),Bool.eq_false_iff]
  intro h2;have h3:=eh mM.tr hr t p ht hpl h;have h4:=yV h2 h1;omega
 ·subst h;rw [h1];simp
 ·rw [decide_eq_false (by omega),Bool.eq_false_iff]
  intro h2;have h3:=eh mM.tr hr p t hpl ht h;have h4:=yV h1 h2;omega
theorem bC.DK {w w5:World} {B gt q:Nat} {hs ht hc':Hd} {ss:List gj} {L:List ay} {DL:List fc} (ob:bC w B hs ht ss L) (hq:q < L.length) (gX:ht.a=some ⟨gt,0,none⟩)
  (kb:Kb (fun g=>L[q].hc.v.ownBlock=some g) w w5) (ho:w5.ownsRow B 98 3 hc'.v DL.length (DL.flatMap qM)) (hb:∀ g∈hc'.blk,g∈L[q].hc.blk∨w.heap.size≤g) :
  bC (w5.setCell ⟨gt,q*5+3,none⟩ hc'.v) B hs ht ss (L.set q { L[q] with ak:=DL,hc:=hc' }):=by
 have nd:=ob.nd;have OG:=jf.1 nd
 have O0:∀ g,L[q].hc.v.ownBlock=some g→g∈L[q].bI:=fun g h=>by unfold ay.bI;simp [Hd.au.2 h]
 have Ny:∀ g,g∈L[q].bI→g∈L.flatMap ay.bI:=fun g h=>List.mem_flatMap.2 ⟨L[q],List.getElem_mem hq,h⟩
 have tq:=ob.nth hq;have Ig:=jO OG hq;have Lv:(L[q].hc.blk++(L[q].hr.blk++L[q].rules.flatMap (·.h.blk))).Nodup:=Ig;refine bC.put (j:=3) (u:=hc'.v) (y:={ L[q] with ak:=DL,hc:=hc' }) ?_ ?_ ?_ ?_ ?_ gX hq (by decide) rfl
 ·exact aP ob.gQ kb fun g h1 h2=>bp nd (Hd.au.2 h1) (List.mem_append.2 (.inr (Ny g (O0 g h2))))
 ·exact aP ob.tab kb fun g h1 h2=>bp (List.nodup_append.1 nd).2.1 (Hd.au.2 h1) (Ny g (O0 g h2))
 ·exact fun i hi hne=>(ob.nth hi).kb kb fun g h1 h2=>yg OG hq hi hne (O0 g h2) h1
 ·refine ⟨ho,aP tq.nw kb fun g h1 h2=>bp Lv (Hd.au.2 h2) (by simp [Hd.au.2 h1]),fun r hr=>(tq.each r hr).kb kb fun g h1 h2=>bp Lv (Hd.au.2 h2) (List.mem_append.2 (.inr (List.mem_flatMap.2 ⟨r,hr,h1⟩)))⟩
 ·rw [jf]
  refine qF (N:=w.heap.size) OG hq ?_ ?_ (fun g hg=>(ob.lt g (by rw [List.append_assoc] at hg;exact hg)).2)
  ·show (hc'.blk++(L[q].hr.blk++L[q].rules.flatMap (·.h.blk))).Nodup
   refine List.nodup_append.2 ⟨cX _,(List.nodup_append.1 Lv).2.1,fun a ha b hb2 e=>?_⟩;subst e
   rcases hb a ha with h1 | h1
   ·exact bp Lv h1 hb2
   ·have:=(tq.lt a (by unfold ay.bI;exact List.mem_append.2 (.inr hb2))).2
    omega
  ·intro g hg
   have gl:g∈hc'.blk++(L[q].hr.blk++L[q].rules.flatMap (·.h.blk)):=hg
   rcases List.mem_append.1 gl with h1 | h1
   ·rcases hb g h1 with h2 | h2
    ·exact .inl (by unfold ay.bI;exact List.mem_append.2 (.inl h2))
    ·exact .inr h2
   ·exact .inl (by unfold ay.bI;exact List.mem_append.2 (.inr h1))
def eF (c:fc) (t:cu):cu × Int :=
 if (!kh c || !c.null) then (t,63) else if 0≤cA t.ak c.name then (t,60) else if 8≤t.ak.length then (t,2) else ({ t with ak:=t.ak++[c] },0)
def Iq (t:cu) (s:ByteArray):Bool:=decide (t.ak.length=1) || t.rules.any fun r=>r.ak.any fun x=>bk x s
def eB (s:ByteArray) (t:cu):cu × Int :=
 if cA t.ak s < 0 then (t,61) else if Iq t s then (t,62) else ({ t with ak:=t.ak.eraseIdx (cA t.ak s).toNat },0)
theorem BF (nm:ByteArray) (kd:Int) (nl:Bool) (o:bE) (w:World) (hs ht:Hd) (L:List ay) (B n3 q gt bc:Nat) (hq:q < L.length) (uV:B≤n3) (hL:L.map ay.t=o.tables) (ob:bC w B hs ht o.ae L) (hne:∀ g∈hs.blk++(ht.blk++L.flatMap ay.bI),g≠n3)
  (r3:ap w n3 [.slice hs.a o.ae.length hs.c,.slice ht.a o.tables.length ht.c]) (gX:ht.a=some ⟨gt,0,none⟩) (rc:ap w bc [.string nm,.int .i64 kd,.bool nl]) (hbc:bc < B) (sm:kA o) (hc:Small nm.size) :
  Calls Tryz.prog 158 #[.agg #[.slice hs.a o.ae.length hs.c,.slice ht.a o.tables.length ht.c],.pointer (some ⟨gt,q*5,none⟩),.pointer (some ⟨bc,0,none⟩)] w (rU w B n3 hs ht o.ae L q (eF ⟨nm,kd,nl⟩ L[q].t)):=by
 have wP:L.length=o.tables.length:=by rw [← hL];simp
 have pD:fL o.ae L=o:=by unfold fL;rw [hL]
 have Fa:rI L[q].t:=sm.2.2 _ (by rw [← hL];exact List.mem_map_of_mem (List.getElem_mem hq));have tq:=ob.nth hq;obtain ⟨z1,z2,zf⟩:=ob.row gX hq;obtain ⟨hA,hn,hC⟩:∃ x:ay,x=L[q]∧True:=⟨_,rfl,trivial⟩;clear hC;subst hn;have hcv:L[q].hc.v=.slice L[q].hc.a L[q].ak.length L[q].hc.c:=bL tq.qp
 have d3:w.cell? ⟨gt,q*5+3,none⟩=some (.slice L[q].hc.a L[q].ak.length L[q].hc.c):=by rw [← hcv];exact ob.cell gX hq (by decide)
 have f3:=zf 3 (by decide)
 have Do:gt∈ht.blk:=by rw [Hd.au];unfold Hd.v;rw [gX];rfl
 have nd:=ob.nd
 have ot:∀ g,L[q].hc.v.ownBlock=some g→g≠gt∧g≠n3∧B≤g:=fun g h=>by
  have mb:g∈L.flatMap ay.bI:=List.mem_flatMap.2 ⟨L[q],List.getElem_mem hq,by unfold ay.bI;simp [Hd.au.2 h]⟩;exact ⟨fun e=>bp (List.nodup_append.1 nd).2.1 Do (by rw [← e];exact mb),hne g (by simp only [List.mem_append];exact .inr (.inr mb)),(tq.qp.lt g h).1⟩
 have Az:gt≠n3:=hne gt (by simp [Do]);have ak:=tq.ak Fa;have hlen:=ak.len;obtain ⟨m,hm⟩:∃ m,kh ⟨nm,kd,nl⟩=m:=⟨_,rfl⟩;obtain ⟨i,hi⟩:∃ i,cA L[q].ak nm=i:=⟨_,rfl⟩
 have ye : -1≤i∧i < L[q].ak.length:=by rw [← hi];exact bg _ _
 have HE:=gH (show eF ⟨nm,kd,nl⟩ L[q].t=if (!m || !nl) then (L[q].t,63) else if 0≤i then (L[q].t,60) else if 8≤L[q].ak.length then (L[q].t,2) else ({ L[q].t with ak:=L[q].ak++[⟨nm,kd,nl⟩] },0) by
  unfold eF;rw [hm];show (if (!m || !nl) then (L[q].t,(63:Int)) else if 0≤cA L[q].ak nm then (L[q].t,60) else if 8≤L[q].ak.length then (L[q].t,2) else ({ L[q].t with ak:=L[q].ak++[⟨nm,kd,nl⟩] },0))=_;rw [hi])
 have CM:=gH (show ∀ w',Calls Tryz.prog 159 #[.agg #[.string nm,.int .i64 kd,.bool nl]] w' fun e w''=>e=.returned (.bool m)∧ag w' w'' from fun w'=>(tG nm kd nl w' hc.max).mono fun e w'' ⟨he,hw⟩=>⟨he.trans (by rw [← hm]),hw⟩)
 have CB:=gH (show ∀ w',ag w w'→Calls Tryz.prog 160 #[.slice L[q].hc.a L[q].ak.length L[q].hc.c,.string nm,.func (.func 161) #[] #[]] w' fun e w''=>e=.returned (.int .i64 i)∧ag w' w'' from
  fun w' a=>(vB L[q].hc.a L[q].hc.c L[q].ak nm w' (cy a ak)).mono fun e w'' ⟨he,hw⟩=>⟨he.trans (by rw [← hi];rfl),hw⟩)
 have lB:=gH ob;have ut:=gH gX;have ny:=gH r3;have EG:=gH rc;have tH:=gH ot;have nT:=gH wP;have Lx:=gH hcv;have x0:=rc.cell (j:=0) rfl;have x1:=rc.cell (j:=1) rfl;have x2:=rc.cell (j:=2) rfl;have xz:=rc.1
 have l1:bc < w.heap.size+1:=by omega
 have l2:gt < w.heap.size+1:=by omega
 have aW:ag w (w.alloc (.cells #[.slice hs.a o.ae.length hs.c,.slice ht.a o.tables.length ht.c] 25)):=(ag.refl w).alloc _;have br:=gH aW;clear ob gX r3 rc ot wP hcv hm hi ak nd pD Fa hL sm tq aW hc hne zf
 go_enter Tryz.func158,Tryz.ntmps158
 go_wp2_with fail;refine (CM.out _).mono ?_;rintro e w1 ⟨rfl,a1⟩;have cG:=gH (br.out.trans a1);have x2:=cG.out.cell_kept x2;have d3:=cG.out.cell_kept d3;have xz:=Nat.lt_of_lt_of_le xz cG.out.size;have z1:=Nat.lt_of_lt_of_le z1 cG.out.size;clear a1 CM
 cases m
 ·go_wp2_with fail
  go_ret;rw [HE.out];exact ⟨rfl,Kb.aH cG.out,fun h=>absurd h (by simp)⟩
 cases nl
 ·go_wp2_with fail
  go_ret;rw [HE.out];exact ⟨rfl,Kb.aH cG.out,fun h=>absurd h (by simp)⟩
 have x0:=cG.out.cell_kept x0;have x1:=cG.out.cell_kept x1;have DF:=gH (show ∀ x:ii w1,Calls Tryz.prog 160 #[.slice L[q].hc.a L[q].ak.length L[q].hc.c,.string nm,.func (.func 161) #[] #[]] (bH w1 x) fun e w''=>e=.returned (.int .i64 i)∧ag (bH w1 x) w'' from fun x=>CB.out _ (cG.out.bH x));clear CB;by_cases h0:0≤i
 ·have hd:decide (0≤i)=true:=by simpa using h0
  go_wp2_with fail;refine av (by kernel_rfl) (by kernel_rfl) ?_
  repeat (go_big_quiet_step ((go_at_call 160;exact Calls.bD (DF.out _))))
  refine wpQuiet_nil ?_;intro _ hw';obtain ⟨x,hw''⟩:=hw';subst hw'';go_wp2_with fail;go_ret;rw [HE.out];simp only [Bool.not_true,Bool.or_self,Bool.false_eq_true,if_false,if_pos h0];exact ⟨rfl,Kb.aH (cG.out.bH x),fun h=>absurd h (by simp)⟩
 ·have hd:decide (0≤i)=false:=by simpa using h0
  have E4:=gH h0;clear h0;go_wp2_with fail;refine av (by kernel_rfl) (by kernel_rfl) ?_
  repeat (go_big_quiet_step ((go_at_call 160;exact Calls.bD (DF.out _))))
  refine wpQuiet_nil ?_;intro _ hw';obtain ⟨x,hw''⟩:=hw';subst hw'';obtain ⟨W,hW⟩:∃ W,W=bH w1 x:=⟨_,rfl⟩
  have aW:ag w1 W:=by rw [hW];exact (ag.refl w1).bH x
  rw [← hW];have x0:=aW.cell_kept x0;have x1:=aW.cell_kept x1;have x2:=aW.cell_kept x2;have d3:=aW.cell_kept d3;have xz:=Nat.lt_of_lt_of_le xz aW.size;have z1:=Nat.lt_of_lt_of_le z1 aW.size;have Lz:=gH (cG.out.trans aW);clear hW aW DF br;by_cases h8:8≤L[q].ak.length
  ·have OA:decide (8≤L[q].ak.length)=true:=by simpa using h8
   have OB:=gH h8;go_wp2_with fail;go_ret;rw [HE.out];simp only [Bool.not_true,Bool.or_self,Bool.false_eq_true,if_false,if_neg (show ¬ 0≤i by have:=E4.out;omega),if_pos OB.out];exact ⟨rfl,Kb.aH Lz.out,fun h=>absurd h (by simp)⟩
  ·have OA:decide (8≤L[q].ak.length)=false:=by simpa using h8
   have Lm:=lB.out.az Lz.out;have HOW:=gH (show W.ownsRow B 98 3 (.slice L[q].hc.a L[q].ak.length L[q].hc.c) L[q].ak.length (L[q].ak.flatMap qM) by rw [← Lx.out];exact (Lm.nth hq).qp)
   have n1:¬ fN (.slice L[q].hc.a L[q].ak.length L[q].hc.c) gt:=fun h=>(tH.out gt (by rw [Lx.out];exact h)).1 rfl
   have n2:¬ fN (.slice L[q].hc.a L[q].ak.length L[q].hc.c) bc:=fun h=>by have:=(tH.out bc (by rw [Lx.out];exact h)).2.2;omega
   have f3:W.frozen? ⟨gt,q*5+3,none⟩=false:=(Lm.row ut.out hq).2.2 3 (by decide);obtain ⟨i0,eU,hz0,hz1,hz2⟩:=info_parts Fb;have HI:=gH eU;have qw:=gH hz0;have nS:=gH hz1;have mG:=gH hz2;have HBW:=gH (show B≤W.heap.size by have:=(Lm.row ut.out hq).2.1;omega);have E7:=gH Lm;clear eU hz0 hz1 hz2 Lm;go_wp2_with fail;refine dx 6 8 (fun w'=>∃ x:kQ (.slice L[q].hc.a L[q].ak.length L[q].hc.c) W,w'=kw (.slice L[q].hc.a L[q].ak.length L[q].hc.c) W x) (by kernel_rfl) (by kernel_rfl) (KL.az (ag.refl W).drew) ?_;simp only [List.take_succ_cons,List.take_zero,List.drop_succ_cons,List.drop_zero]
   repeat (go_big_quiet_step (fail))
   refine wpQuiet_nil ?_;refine bX (fun K hK=>?_);go_simp;refine hK _ _ (fun _=>KL.az (((ag.refl W).alloc _).drew)) ?_;clear hK K;refine bX (fun K hK=>?_);refine wp_append_lies _ (.tmp 35) (.tmp 37) 34 rfl B 98 i0 _ 3 32 Tryz.underlying34 HI.out qw.out nS.out mG.out rfl (by decide) (.slice L[q].hc.a L[q].ak.length L[q].hc.c) L[q].ak.length (L[q].ak.flatMap qM) (by rfl) ((HOW.out.alloc _).drew) ⟨W.heap.size,0,none⟩ 1 1 [.string nm,.int .i64 kd,.bool true] (by rfl) (by rfl) (World.news_of_block (cs:=#[.string nm,.int .i64 kd,.bool true]) (t:=98) (fr:=(0,0)) (heap_alloc_new W _)) (by simp [Value.oneCell']) (by omega) (by unfold maxLen;omega) (by omega) (by have:=HBW.out;simp;omega) (W.heap.size+1) (by simp) ?_;intro gg cap' w5 eX hgrow hat nR;refine hK _ _ (fun _=>KL.of ((Kb.aH (((ag.refl W).alloc _).drew)).trans (jD hgrow))) ?_;clear hK K;refine d9 _ (by simp) (by decide) ?_;have mj:Kb (fN (.slice L[q].hc.a L[q].ak.length L[q].hc.c)) W w5:=(Kb.aH (((ag.refl W).alloc _).drew)).trans (jD hgrow);have d5:=mj.cell d3 n1
   have f5:w5.frozen? ⟨gt,q*5+3,none⟩=false:=by
    have:=mj.block gt z1 n1;rw [← f3];simp [World.frozen?,this]
   have z5:=Nat.lt_of_lt_of_le z1 mj.size
   have HP:=gH (show rU w B n3 hs ht o.ae L q (({ L[q].t with ak:=L[q].ak++[⟨nm,kd,true⟩] }:cu),0) (.returned (.int .i64 0)) (w5.setCell ⟨gt,q*5+3,none⟩ (.slice (some ⟨gg,0,none⟩) (L[q].ak.length+1) cap')) from by
    have obA:=E7.out.az (((ag.refl W).alloc (.cells #[.string nm,.int .i64 kd,.bool true] 98)).drew)
    have kbA:Kb (fun g=>L[q].hc.v.ownBlock=some g) (W.alloc (.cells #[.string nm,.int .i64 kd,.bool true] 98)).drew w5:=by rw [Lx.out];exact Kb.ey hgrow
    refine ⟨rfl,?_,fun _=>⟨{ L[q] with ak:=L[q].ak++[⟨nm,kd,true⟩],hc:=⟨some ⟨gg,0,none⟩,L[q].ak.length+1,cap'⟩ },rfl,?_,?_⟩⟩
    ·refine (Kb.aH Lz.out).trans ((mj.mono fun g _ h=>?_).trans ((Kb.set w5 gt (q*5+3) _).mono fun g _ e=>?_))
     ·exact (tH.out g (by rw [Lx.out];exact h)).2.2
     ·subst e;exact z2
    ·refine obA.DK (hc':=⟨some ⟨gg,0,none⟩,L[q].ak.length+1,cap'⟩) hq ut.out kbA ?_ ?_
     ·rw [List.length_append,List.flatMap_append];exact eX
     ·intro g hg
      rw [cM,List.mem_singleton] at hg;subst hg
      rcases hat with h1 | h1
      ·exact .inl (Hd.au.2 (by rw [Lx.out];exact h1))
      ·refine .inr ?_
       simp;omega
    ·have e:=nT.out
     rw [e]
     exact (Kb.set w5 gt (q*5+3) _).row (mj.row (ny.out.az Lz.out) (fun h=>(tH.out n3 (by rw [Lx.out];exact h)).2.1 rfl)) (fun e=>Az e.symm))
   have OB:=gH h8;clear eX hgrow hat nR mj h8;go_wp2_with fail;refine NoPanic.normal ?_;go_wp2_with fail;go_ret;rw [HE.out];simp only [Bool.not_true,Bool.or_self,Bool.false_eq_true,if_false,if_neg (show ¬ 0≤i by have:=E4.out;omega),if_neg (show ¬ 8≤L[q].ak.length by have:=OB.out;omega)];exact HP.out
theorem wT (nm:ByteArray) (kd:Int) (nl:Bool) (o:bE) (As:Option Addr) (ar:Nat) (At:Option Addr) (ax:Nat) (s n:ByteArray) (w:World) (bS:aL w 2 fk As ar o.ae) (bB:aL w 5 dA At ax o.tables) (hc:Small nm.size) :
  Calls Tryz.prog 104 #[.agg #[.slice As o.ae.length ar,.slice At o.tables.length ax],.string s,.string n,.agg #[.string nm,.int .i64 kd,.bool nl]] w (ix w (cR o (cY o s n (eF ⟨nm,kd,nl⟩)))):=by
 have hlen:=bS.len;have fl:=bB.len;have sm:kA o:=⟨iy bS,iz bB⟩;have bR:=enters (P:=Tryz.prog) Tryz.func158 (by kernel_rfl) rfl
 have l1:w.heap.size < w.heap.size+1:=by omega
 have l2:w.heap.size < w.heap.size+1+1:=by omega
 have l3:w.heap.size < w.heap.size+1+1+1:=by omega
 obtain ⟨W,hW⟩:∃ W,W=((w.alloc (.cells #[.slice As o.ae.length ar,.slice At o.tables.length ax] 25)).alloc (.cells #[.string nm,.int .i64 kd,.bool nl] 98)).alloc (.cells #[.slice none 0 0,.slice none 0 0] 25):=⟨_,rfl⟩
 have aW:ag w W:=by rw [hW];exact (((ag.refl w).alloc _).alloc _).alloc _
 have rc:ap W (w.heap.size+1) [.string nm,.int .i64 kd,.bool nl]:=by
  rw [hW];have:=(aO (w:=w.alloc (.cells #[.slice As o.ae.length ar,.slice At o.tables.length ax] 25)) (c:=[.string nm,.int .i64 kd,.bool nl]) (t:=98) (ag.refl _)).az ((ag.refl _).alloc (.cells #[.slice none 0 0,.slice none 0 0] 25))
  simpa using this
 have r2:ap W (w.heap.size+1+1) [.slice none 0 0,.slice none 0 0]:=by
  rw [hW];have:=(aO (w:=(w.alloc (.cells #[.slice As o.ae.length ar,.slice At o.tables.length ax] 25)).alloc (.cells #[.string nm,.int .i64 kd,.bool nl] 98)) (c:=[.slice none 0 0,.slice none 0 0]) (t:=25) (ag.refl _))
  simpa using this
 have zW:W.heap.size=w.heap.size+3:=by rw [hW];simp
 have CT:=gH (pE o As ar At ax s n 158 #[.pointer (some ⟨w.heap.size+1,0,none⟩)] (eF ⟨nm,kd,nl⟩) W (bm aW bS) (aQ aW bB) bR
  (fun gA w'' hs ht L B n3 q gt hq a'' hB hn hL ob hne r3 gX Kd=>BF nm kd nl o w'' hs ht L B n3 q gt (w.heap.size+1) hq hn hL ob hne r3 gX (rc.az a'') (by omega) sm hc))
 obtain ⟨rr,jz⟩:∃ rr,cR o (cY o s n (eF ⟨nm,kd,nl⟩))=rr:=⟨_,rfl⟩;rw [jz] at CT ⊢;have br:=gH aW;have mB:=gH r2;have HZ:=gH zW;clear jz bS bB r2 aW zW rc hc sm
 go_enter Tryz.func104,Tryz.ntmps104
 go_wp2_with fail;rw [← hW];clear hW;refine CT.out.mono ?_;rintro e w3 ⟨hs,ht,L,hL,rfl,a3,ob⟩;have b2:=mB.out.az a3;have d0:=b2.cell (j:=0) rfl;have d1:=b2.cell (j:=1) rfl;have f0:=b2.2.2 0 (by simp);have f1:=b2.2.2 1 (by simp);have z2:=b2.1;have mq:=gH b2;have iw:=gH (br.out.trans a3);have HO:=gH ob;have HL:=gH hL;clear b2 a3 ob hL;go_wp2_with fail;refine bodyPost_ret (results_cell_tmp (v:=.agg #[.slice hs.a rr.1.ae.length hs.c,.slice ht.a rr.1.tables.length ht.c]) rfl _ rfl (b9 (gU mq.out rfl _ _))) rfl ?_;exact gV iw.out HL.out HO.out (by omega) (by have:=HZ.out;omega) rfl
theorem yX {α:Type} (p:α→Bool) (l:List α):decide (0≤bK p l)=l.any p:=by
 induction l with
 | nil=>rfl
 | cons x l ih =>
  rw [List.any_cons,← ih]
  show decide (0≤(if p x then (0:Int) else if bK p l < 0 then -1 else bK p l+1))=_
  cases h:p x
  ·simp only [Bool.false_or]
   by_cases h2:bK p l < 0
   ·simp [h2]
   ·simp [h2];omega
  ·simp
theorem Fc (A:Option Addr) (cap:Nat) (l:List ByteArray) (name:ByteArray) (w:World) (h:aL w 1 dK A cap l) :
  Calls Tryz.prog 18 #[.slice A l.length cap,.string name] w fun e w'=>e=.returned (.bool (l.any fun c=>bk c name))∧w=w':=by
 have C:=gH (tI A cap l name w h);have HE:=gH (yX (fun c=>bk c name) l);obtain ⟨i,hi⟩:∃ i,bK (fun c=>bk c name) l=i:=⟨_,rfl⟩;rw [hi] at C HE;clear hi
 go_enter Tryz.func18,Tryz.ntmps18
 go_wp2_with fail;refine C.out.mono ?_;rintro e w1 ⟨rfl,rfl⟩;go_wp2_with fail;go_ret;exact ⟨by rw [← HE.out];rfl,rfl⟩
theorem wU (r:gi) (s:ByteArray) (A:Option Addr) (cap bs:Nat) (w:World) (h:aL w 1 dK A cap r.ak) (hc:w.cell? ⟨bs,0,none⟩=some (.string s)) :
  Calls Tryz.prog 164 #[.agg #[.string r.name,.int .i64 r.kind,.slice A r.ak.length cap,.int .i64 r.low,.int .i64 r.high,.string r.aa,.string r.table,.string r.key],.pointer (some ⟨bs,0,none⟩)] w
   fun e w'=>e=.returned (.bool (r.ak.any fun c=>bk c s))∧ag w w':=by
 have y1:=World.block_lt_of_cell? _ _ hc
 have l1:bs < w.heap.size+1:=by have:bs < w.heap.size:=y1;omega
 have C:=gH (Fc A cap r.ak s (w.alloc (.cells #[.string r.name,.int .i64 r.kind,.slice A r.ak.length cap,.int .i64 r.low,.int .i64 r.high,.string r.aa,.string r.table,.string r.key] 37)) (aM ((ag.refl w).alloc _) h));have HA:=gH (show ag w (w.alloc (.cells #[.string r.name,.int .i64 r.kind,.slice A r.ak.length cap,.int .i64 r.low,.int .i64 r.high,.string r.aa,.string r.table,.string r.key] 37)) from (ag.refl w).alloc _);obtain ⟨b,hb⟩:∃ b,(r.ak.any fun c=>bk c s)=b:=⟨_,rfl⟩;rw [hb] at C ⊢;clear hb h
 go_enter Tryz.func164,Tryz.ntmps164
 go_wp2_with fail;refine C.out.mono ?_;rintro e w1 ⟨rfl,rfl⟩;go_wp2_with fail;go_ret;exact ⟨rfl,HA.out⟩
theorem yY (l:List gi) (s:ByteArray) (A:Option Addr) (cap bs:Nat) (w:World) (h:aL w 8 gI A cap l) (hc:w.cell? ⟨bs,0,none⟩=some (.string s)) :
  Calls Tryz.prog 163 #[.slice A l.length cap,.func (.func 164) #[] #[.pointer (some ⟨bs,0,none⟩)]] w
   fun e w'=>e=.returned (.bool (l.any fun r=>r.ak.any fun c=>bk c s))∧ag w w':=by
 have bR:=enters (P:=Tryz.prog) Tryz.func164 (by kernel_rfl) rfl
 have C:=gH (Ir A cap l 164 #[.pointer (some ⟨bs,0,none⟩)] (fun r=>r.ak.any fun c=>bk c s) w h bR (fun w' a i hi e1 he=>by
  obtain ⟨A2,bT,rfl,h2,_⟩:=he
  exact wU l[i] s A2 bT bs w' h2 (a.cell_kept hc)))
 have HE:=gH (yX (fun r:gi=>r.ak.any fun c=>bk c s) l);obtain ⟨i,hi⟩:∃ i,bK (fun r:gi=>r.ak.any fun c=>bk c s) l=i:=⟨_,rfl⟩;rw [hi] at C HE;clear hi
 go_enter Tryz.func163,Tryz.ntmps163
 go_wp2_with fail;refine C.out.mono ?_;rintro e w1 ⟨rfl,a1⟩;have HA:=gH a1;clear a1;go_wp2_with fail;go_ret;exact ⟨by rw [← HE.out];rfl,HA.out⟩
theorem yZ (s:ByteArray) (o:bE) (w:World) (hs ht:Hd) (L:List ay) (B n3 q gt bs:Nat) (hq:q < L.length) (uV:B≤n3) (hL:L.map ay.t=o.tables) (ob:bC w B hs ht o.ae L) (hne:∀ g∈hs.blk++(ht.blk++L.flatMap ay.bI),g≠n3)
  (r3:ap w n3 [.slice hs.a o.ae.length hs.c,.slice ht.a o.tables.length ht.c]) (gX:ht.a=some ⟨gt,0,none⟩) (hc1:w.cell? ⟨bs,0,none⟩=some (.string s)) (sm:kA o) :
  Calls Tryz.prog 162 #[.agg #[.slice hs.a o.ae.length hs.c,.slice ht.a o.tables.length ht.c],.pointer (some ⟨gt,q*5,none⟩),.pointer (some ⟨bs,0,none⟩)] w (rU w B n3 hs ht o.ae L q (eB s L[q].t)):=by
 have wP:L.length=o.tables.length:=by rw [← hL];simp
 have pD:fL o.ae L=o:=by unfold fL;rw [hL]
 have Fa:rI L[q].t:=sm.2.2 _ (by rw [← hL];exact List.mem_map_of_mem (List.getElem_mem hq));have tq:=ob.nth hq;obtain ⟨z1,z2,zf⟩:=ob.row gX hq;obtain ⟨hA,hn,hC⟩:∃ x:ay,x=L[q]∧True:=⟨_,rfl,trivial⟩;clear hC;subst hn;have hcv:L[q].hc.v=.slice L[q].hc.a L[q].ak.length L[q].hc.c:=bL tq.qp
 have d3:w.cell? ⟨gt,q*5+3,none⟩=some (.slice L[q].hc.a L[q].ak.length L[q].hc.c):=by rw [← hcv];exact ob.cell gX hq (by decide)
 have f3:=zf 3 (by decide)
 have Do:gt∈ht.blk:=by rw [Hd.au];unfold Hd.v;rw [gX];rfl
 have nd:=ob.nd
 have ot:∀ g,L[q].hc.v.ownBlock=some g→g≠gt∧g≠n3∧B≤g:=fun g h=>by
  have mb:g∈L.flatMap ay.bI:=List.mem_flatMap.2 ⟨L[q],List.getElem_mem hq,by unfold ay.bI;simp [Hd.au.2 h]⟩;exact ⟨fun e=>bp (List.nodup_append.1 nd).2.1 Do (by rw [← e];exact mb),hne g (by simp only [List.mem_append];exact .inr (.inr mb)),(tq.qp.lt g h).1⟩
 have Az:gt≠n3:=hne gt (by simp [Do]);have ak:=tq.ak Fa;have hlen:=ak.len;have oU:=tq.oU Fa;have Iu:L[q].hr.v=.slice L[q].hr.a L[q].rules.length L[q].hr.c:=bL tq.nw
 have d4:w.cell? ⟨gt,q*5+4,none⟩=some (.slice L[q].hr.a L[q].rules.length L[q].hr.c):=by rw [← Iu];exact ob.cell gX hq (by decide)
 obtain ⟨i,hi⟩:∃ i,cA L[q].ak s=i:=⟨_,rfl⟩
 have ye : -1≤i∧i < L[q].ak.length:=by rw [← hi];exact bg _ _
 obtain ⟨u,hu⟩:∃ u,((L[q].rules.map (·.r)).any fun r=>r.ak.any fun c=>bk c s)=u:=⟨_,rfl⟩
 have HE:=gH (show eB s L[q].t=if i < 0 then (L[q].t,61) else if (decide (L[q].ak.length=1) || u) then (L[q].t,62) else ({ L[q].t with ak:=L[q].ak.eraseIdx i.toNat },0) by
  rw [← hi,← hu];rfl)
 have CB:=gH (show ∀ w',ag w w'→Calls Tryz.prog 160 #[.slice L[q].hc.a L[q].ak.length L[q].hc.c,.string s,.func (.func 161) #[] #[]] w' fun e w''=>e=.returned (.int .i64 i)∧ag w' w'' from
  fun w' a=>(vB L[q].hc.a L[q].hc.c L[q].ak s w' (cy a ak)).mono fun e w'' ⟨he,hw⟩=>⟨he.trans (by rw [← hi];rfl),hw⟩)
 have CR:=gH (show ∀ w',ag w w'→Calls Tryz.prog 163 #[.slice L[q].hr.a L[q].rules.length L[q].hr.c,.func (.func 164) #[] #[.pointer (some ⟨bs,0,none⟩)]] w' fun e w''=>e=.returned (.bool u)∧ag w' w'' from
  fun w' a=>by
   have h9:=(yY (L[q].rules.map (·.r)) s L[q].hr.a L[q].hr.c bs w' (ee a oU) (a.cell_kept hc1)).mono fun e w'' ⟨he,hw⟩=>(⟨he.trans (by rw [hu]),hw⟩:e=Ending.returned (Value.bool u)∧ag w' w'')
   rw [List.length_map] at h9
   exact h9)
 have lB:=gH ob;have ut:=gH gX;have ny:=gH r3;have tH:=gH ot;have nT:=gH wP;have Lx:=gH hcv;have y1:=World.block_lt_of_cell? _ _ hc1;have y1:bs < w.heap.size:=y1
 have l1:bs < w.heap.size+1:=by omega
 have l2:gt < w.heap.size+1:=by omega
 obtain ⟨W,hW⟩:∃ W,W=w.alloc (.cells #[.slice hs.a o.ae.length hs.c,.slice ht.a o.tables.length ht.c] 25):=⟨_,rfl⟩
 have aW:ag w W:=by rw [hW];exact (ag.refl w).alloc _
 have DF:=gH (show ∀ x:ii W,Calls Tryz.prog 160 #[.slice L[q].hc.a L[q].ak.length L[q].hc.c,.string s,.func (.func 161) #[] #[]] (bH W x) fun e w''=>e=.returned (.int .i64 i)∧ag (bH W x) w'' from fun x=>CB.out _ (aW.bH x));have c1:=aW.cell_kept hc1;have Y2:=aW.cell_kept d3;have Y4:=aW.cell_kept d4;have Y5:=Nat.lt_of_lt_of_le z1 aW.size;have y1':=Nat.lt_of_lt_of_le y1 aW.size;have br:=gH aW;clear ob gX r3 ot wP hcv Iu hi hu ak oU nd pD Fa hL sm tq aW hne zf CB
 go_enter Tryz.func162,Tryz.ntmps162
 go_wp2_with fail;rw [← hW];clear hW;refine av (by kernel_rfl) (by kernel_rfl) ?_
 repeat (go_big_quiet_step ((go_at_call 160;exact Calls.bD (DF.out _))))
 refine wpQuiet_nil ?_;intro _ hw';obtain ⟨x,hw''⟩:=hw';subst hw'';obtain ⟨V,hV⟩:∃ V,V=bH W x:=⟨_,rfl⟩
 have aV:ag W V:=by rw [hV];exact (ag.refl W).bH x
 rw [← hV];have d3:=aV.cell_kept Y2;have d4:=aV.cell_kept Y4;have z1:=Nat.lt_of_lt_of_le Y5 aV.size;have lC:=gH (br.out.trans aV);clear hV aV Y2 Y4 Y5 c1 y1' DF;by_cases h0:i < 0
 ·have hd:decide (i < 0)=true:=by simpa using h0
  have E4:=gH h0;go_wp2_with fail;go_ret;rw [HE.out,if_pos (by have:=E4.out;omega)];exact ⟨rfl,Kb.aH lC.out,fun h=>absurd h (by simp)⟩
 have hd:decide (i < 0)=false:=by simpa using h0
 have E4:=gH h0;clear h0;by_cases h1:L[q].ak.length=1
 ·have YH:((L[q].ak.length:Int)==1)=true:=by simp [h1]
  have WN:=gH h1;clear h1;go_wp2_with fail;go_ret;rw [HE.out,if_neg (by have:=E4.out;omega),if_pos (by rw [decide_eq_true WN.out];rfl)];exact ⟨rfl,Kb.aH lC.out,fun h=>absurd h (by simp)⟩
 have YH:((L[q].ak.length:Int)==1)=false:=by simp;omega
 have WN:=gH h1;clear h1;go_wp2_with fail;refine (CR.out V lC.out).mono ?_;rintro e w2 ⟨rfl,a2⟩;have fx:=gH (lC.out.trans a2);have d3:=a2.cell_kept d3;have z1:=Nat.lt_of_lt_of_le z1 a2.size;clear a2 CR d4
 cases u
 ·have AA:=lB.out.az fx.out
  obtain ⟨p,rfl⟩:∃ p:Nat,i=p:=⟨i.toNat,by have:=E4.out;omega⟩;obtain ⟨m,hm⟩:∃ m,L[q].ak.length=p+1+m:=⟨L[q].ak.length - (p+1),by omega⟩;obtain ⟨gc,cap,hv,aai,mo,hrow⟩:=aR (AA.nth hq).qp (by omega)
  have iu:cap≤9223372036854775807:=by
   rcases (AA.nth hq).qp.2 with ⟨_,hn⟩ | ⟨g',cap',cur,hv',_,_,_,hcm,_⟩
   ·omega
   ·rw [hv] at hv'
    simp only [Value.slice.injEq] at hv';rw [hv'.2.2];unfold maxLen at hcm;omega
  have hA:L[q].hc.a=some ⟨gc,0,none⟩∧L[q].hc.c=cap:=by
   have:=Lx.out.symm.trans hv;simp only [Value.slice.injEq] at this;exact ⟨this.1,this.2.2⟩
  have oW:w2.ownsRow B 98 3 (.slice (some ⟨gc,0,none⟩) (p+1+m) cap) (p+1+m) (L[q].ak.flatMap qM):=by
   have:=(AA.nth hq).qp;rw [hv,hm] at this;exact this
  have CD:=gH (O1 gc cap p m B (L[q].ak.flatMap qM) w2 oW (eO Iw _) iu)
  have hbl:L[q].hc.v.ownBlock=some gc:=by rw [hv];rfl
  have hg1:gc≠gt:=(tH.out gc hbl).1;have f3:w2.frozen? ⟨gt,q*5+3,none⟩=false:=(AA.row ut.out hq).2.2 3 (by decide);rw [hA.1,hA.2,hm] at d3;have HA:=gH hA;have HM:=gH hm;have WO:=gH AA;have HV:=gH hv
  have hpb:(p:Int)+1≤9223372036854775807:=by omega
  rw [hA.1,hA.2,hm];clear AA oW hrow hv hA hm;go_wp2_with fail;refine CD.out.mono ?_;rintro e w5 ⟨rfl,Te,k5⟩;have d5:=k5.cell d3 hg1.symm;have z5:=Nat.lt_of_lt_of_le z1 k5.size
  have f5:w5.frozen? ⟨gt,q*5+3,none⟩=false:=by
   have:=k5.block gt z1 hg1.symm;rw [← f3];simp [World.frozen?,this]
  have HP:=gH (show rU w B n3 hs ht o.ae L q (({ L[q].t with ak:=L[q].ak.eraseIdx p }:cu),0) (.returned (.int .i64 0)) (w5.setCell ⟨gt,q*5+3,none⟩ (.slice (some ⟨gc,0,none⟩) (p+m) cap)) from by
   have hbl:L[q].hc.v.ownBlock=some gc:=by rw [HV.out];rfl
   have kk:Kb (fun g=>L[q].hc.v.ownBlock=some g) w2 w5:=k5.mono fun g _ e=>by rw [e];exact hbl
   have Nr:(L[q].ak.eraseIdx p).length=p+m:=by rw [List.length_eraseIdx];have:=HM.out;rw [if_pos (by omega)];omega
   refine ⟨rfl,?_,fun _=>⟨{ L[q] with ak:=L[q].ak.eraseIdx p,hc:=⟨some ⟨gc,0,none⟩,p+m,cap⟩ },rfl,?_,?_⟩⟩
   ·refine (Kb.aH fx.out).trans ((k5.mono fun g _ e=>?_).trans ((Kb.set w5 gt (q*5+3) _).mono fun g _ e=>?_))
    ·subst e;exact (tH.out g hbl).2.2
    ·subst e;exact z2
   ·refine WO.out.DK (hc':=⟨some ⟨gc,0,none⟩,p+m,cap⟩) hq ut.out kk ?_ ?_
    ·rw [Nr,← fS (size:=3) (fun _=>rfl)];exact Te
    ·intro g hg
     rw [cM,List.mem_singleton] at hg;subst hg;exact .inl (Hd.au.2 hbl)
   ·have e:=nT.out
    rw [e]
    exact (Kb.set w5 gt (q*5+3) _).row (k5.row (ny.out.az fx.out) (fun e=>(tH.out gc hbl).2.1 e.symm)) (fun e=>Az e.symm))
  clear Te k5;go_wp2_with fail;go_ret;rw [HE.out,if_neg (by omega),if_neg (by simp;exact WN.out)];exact HP.out
 ·go_wp2_with fail
  go_ret;rw [HE.out,if_neg (by have:=E4.out;omega),if_pos (by simp)];exact ⟨rfl,Kb.aH fx.out,fun h=>absurd h (by simp)⟩
theorem uE (c:ByteArray) (o:bE) (As:Option Addr) (ar:Nat) (At:Option Addr) (ax:Nat) (s n:ByteArray) (w:World) (bS:aL w 2 fk As ar o.ae) (bB:aL w 5 dA At ax o.tables) :
  Calls Tryz.prog 105 #[.agg #[.slice As o.ae.length ar,.slice At o.tables.length ax],.string s,.string n,.string c] w (ix w (cR o (cY o s n (eB c)))):=by
 have hlen:=bS.len;have fl:=bB.len;have sm:kA o:=⟨iy bS,iz bB⟩;have bR:=enters (P:=Tryz.prog) Tryz.func162 (by kernel_rfl) rfl
 have l1:w.heap.size < w.heap.size+1:=by omega
 have l2:w.heap.size < w.heap.size+1+1:=by omega
 have l3:w.heap.size < w.heap.size+1+1+1:=by omega
 obtain ⟨W,hW⟩:∃ W,W=((w.alloc (.cells #[.slice As o.ae.length ar,.slice At o.tables.length ax] 25)).alloc (.cells #[.string c] 9)).alloc (.cells #[.slice none 0 0,.slice none 0 0] 25):=⟨_,rfl⟩
 have aW:ag w W:=by rw [hW];exact (((ag.refl w).alloc _).alloc _).alloc _
 have hc1:W.cell? ⟨w.heap.size+1,0,none⟩=some (.string c):=by
  rw [hW];(repeat (refine (World.cell?_alloc_past _ _ _ (by first | (simp;done) | (simp;omega))).trans ?_));exact World.cell?_alloc_at _ _ _ _ (by simp)
 have r2:ap W (w.heap.size+1+1) [.slice none 0 0,.slice none 0 0]:=by
  rw [hW];have:=(aO (w:=(w.alloc (.cells #[.slice As o.ae.length ar,.slice At o.tables.length ax] 25)).alloc (.cells #[.string c] 9)) (c:=[.slice none 0 0,.slice none 0 0]) (t:=25) (ag.refl _))
  simpa using this
 have zW:W.heap.size=w.heap.size+3:=by rw [hW];simp
 have CT:=gH (pE o As ar At ax s n 162 #[.pointer (some ⟨w.heap.size+1,0,none⟩)] (eB c) W (bm aW bS) (aQ aW bB) bR
  (fun gA w'' hs ht L B n3 q gt hq a'' hB hn hL ob hne r3 gX Kd=>yZ c o w'' hs ht L B n3 q gt (w.heap.size+1) hq hn hL ob hne r3 gX (a''.cell_kept hc1) sm))
 obtain ⟨rr,jz⟩:∃ rr,cR o (cY o s n (eB c))=rr:=⟨_,rfl⟩;rw [jz] at CT ⊢;have br:=gH aW;have mB:=gH r2;have HZ:=gH zW;clear jz bS bB r2 aW zW hc1 sm
 go_enter Tryz.func105,Tryz.ntmps105
 go_wp2_with fail;rw [← hW];clear hW;refine CT.out.mono ?_;rintro e w3 ⟨hs,ht,L,hL,rfl,a3,ob⟩;have b2:=mB.out.az a3;have d0:=b2.cell (j:=0) rfl;have d1:=b2.cell (j:=1) rfl;have f0:=b2.2.2 0 (by simp);have f1:=b2.2.2 1 (by simp);have z2:=b2.1;have mq:=gH b2;have iw:=gH (br.out.trans a3);have HO:=gH ob;have HL:=gH hL;clear b2 a3 ob hL;go_wp2_with fail;refine bodyPost_ret (results_cell_tmp (v:=.agg #[.slice hs.a rr.1.ae.length hs.c,.slice ht.a rr.1.tables.length ht.c]) rfl _ rfl (b9 (gU mq.out rfl _ _))) rfl ?_;exact gV iw.out HL.out HO.out (by omega) (by have:=HZ.out;omega) rfl
end Go.Proofs.YtmflccbnoeaafaaGreat
