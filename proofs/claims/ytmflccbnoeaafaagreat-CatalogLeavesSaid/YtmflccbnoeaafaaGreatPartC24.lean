import Derived.Test.YtmflccbnoeaafaaGreatPartC23
namespace Go.Proofs.YtmflccbnoeaafaaGreat
open Go.RowKit Go.Deep Go.Shelf
set_option maxRecDepth 100000
set_option linter.unusedVariables false
set_option maxHeartbeats 64000000
theorem zK (s n name:ByteArray) (o:bE) (w:World) (hs ht:Hd) (L:List ay) (B n3 q gt bn bs bt:Nat) (hq:q < L.length) (uV:B≤n3) (hL:L.map ay.t=o.tables) (ob:bC w B hs ht o.ae L) (hne:∀ g∈hs.blk++(ht.blk++L.flatMap ay.bI),g≠n3)
  (r3:ap w n3 [.slice hs.a o.ae.length hs.c,.slice ht.a o.tables.length ht.c]) (gX:ht.a=some ⟨gt,0,none⟩) (hc0:w.cell? ⟨bn,0,none⟩=some (.string name)) (hc1:w.cell? ⟨bs,0,none⟩=some (.string s)) (hc2:w.cell? ⟨bt,0,none⟩=some (.string n)) (sm:kA o) :
  Calls Tryz.prog 171 #[.agg #[.slice hs.a o.ae.length hs.c,.slice ht.a o.tables.length ht.c],.pointer (some ⟨gt,q*5,none⟩),.pointer (some ⟨bn,0,none⟩),.pointer (some ⟨bs,0,none⟩),.pointer (some ⟨bt,0,none⟩)] w (rU w B n3 hs ht o.ae L q (dN o.tables s n name L[q].t)):=by
 have wP:L.length=o.tables.length:=by rw [← hL];simp
 have pD:fL o.ae L=o:=by unfold fL;rw [hL]
 have Fa:rI L[q].t:=sm.2.2 _ (by rw [← hL];exact List.mem_map_of_mem (List.getElem_mem hq))
 have bB:aL w 5 dA ht.a ht.c o.tables:=by have:=ob.tabs (by rw [pD];exact sm);rw [hL] at this;exact this
 have tq:=ob.nth hq;obtain ⟨z1,z2,zf⟩:=ob.row gX hq;have Iu:L[q].hr.v=.slice L[q].hr.a L[q].rules.length L[q].hr.c:=bL tq.nw;have oU:=tq.oU Fa;have hlen:=oU.len;have fl:=bB.len
 have Kk:L[q].t.rules.length=L[q].rules.length:=by unfold ay.t;simp
 have Do:gt∈ht.blk:=by rw [Hd.au];unfold Hd.v;rw [gX];rfl
 have nd:=ob.nd
 have ot:∀ g,L[q].hr.v.ownBlock=some g→g≠gt∧g≠n3∧B≤g∧g < w.heap.size:=fun g h=>by
  have mb:g∈L.flatMap ay.bI:=List.mem_flatMap.2 ⟨L[q],List.getElem_mem hq,by unfold ay.bI;simp [Hd.au.2 h]⟩;exact ⟨fun e=>bp (List.nodup_append.1 nd).2.1 Do (by rw [← e];exact mb),hne g (by simp only [List.mem_append];exact .inr (.inr mb)),tq.nw.lt g h⟩
 have Az:gt≠n3:=hne gt (by simp [Do]);obtain ⟨i,hi⟩:∃ i,gp L[q].t.rules name=i:=⟨_,rfl⟩;obtain ⟨kd,DJ⟩:∃ k,pP L[q].t name=k:=⟨_,rfl⟩
 have ye : -1≤i∧i < L[q].rules.length:=by rw [← hi,← Kk];exact bg _ _
 have HE:=gH (show dN o.tables s n name L[q].t=if i < 0 then (L[q].t,61) else if ((gW s n o.tables).any fun p=>nV kd name p.2) then (L[q].t,62) else ({ L[q].t with rules:=L[q].t.rules.eraseIdx i.toNat },0) by
  unfold dN;rw [hi,DJ])
 have y0:bn < w.heap.size:=World.block_lt_of_cell? _ _ hc0;have y1:bs < w.heap.size:=World.block_lt_of_cell? _ _ hc1;have y2:bt < w.heap.size:=World.block_lt_of_cell? _ _ hc2
 have l1:w.heap.size < w.heap.size+1:=by omega
 obtain ⟨W,hW⟩:∃ W,W=((w.alloc (.cells #[.slice hs.a o.ae.length hs.c,.slice ht.a o.tables.length ht.c] 25)).alloc (.cells #[.pointer (some ⟨gt,q*5,none⟩)] 173)).alloc (.cells #[.int .i64 0] 43):=⟨_,rfl⟩
 have aW:ag w W:=by rw [hW];exact (((ag.refl w).alloc _).alloc _).alloc _
 have zW:W.heap.size=w.heap.size+3:=by rw [hW];simp
 have r0:ap W w.heap.size [.slice hs.a o.ae.length hs.c,.slice ht.a o.tables.length ht.c]:=by rw [hW];exact (aO (ag.refl _)).az (((ag.refl _).alloc _).alloc _)
 have r1:ap W (w.heap.size+1) [.pointer (some ⟨gt,q*5,none⟩)]:=by
  rw [hW];have:=(aO (w:=w.alloc (.cells #[.slice hs.a o.ae.length hs.c,.slice ht.a o.tables.length ht.c] 25)) (c:=[.pointer (some ⟨gt,q*5,none⟩)]) (t:=173) (ag.refl _)).az ((ag.refl _).alloc (.cells #[.int .i64 0] 43))
  simpa using this
 have r2:ap W (w.heap.size+1+1) [.int .i64 0]:=by
  rw [hW];have:=(aO (w:=(w.alloc (.cells #[.slice hs.a o.ae.length hs.c,.slice ht.a o.tables.length ht.c] 25)).alloc (.cells #[.pointer (some ⟨gt,q*5,none⟩)] 173)) (c:=[.int .i64 0]) (t:=43) (ag.refl _))
  simpa using this
 have Vn:=gH r2
 have CB:=gH (show ∀ V,ag w V→Calls Tryz.prog 167 #[.slice L[q].hr.a L[q].rules.length L[q].hr.c,.string name,.func (.func 168) #[] #[]] V fun e w''=>e=.returned (.int .i64 i)∧ag V w'' from
  fun V a=>by
   have h9:=(GQ L[q].hr.a L[q].hr.c (L[q].rules.map (·.r)) name V (ee a oU)).mono fun e w'' ⟨he,hw⟩=>(⟨he.trans (by rw [← hi];rfl),hw⟩:e=Ending.returned (Value.int .i64 i)∧ag V w'')
   rw [List.length_map] at h9
   exact h9)
 have KF:=gH (show ∀ V,ag W V→((V.cell? ⟨w.heap.size,0,none⟩=some (.slice hs.a o.ae.length hs.c)∧V.cell? ⟨w.heap.size,1,none⟩=some (.slice ht.a o.tables.length ht.c)∧w.heap.size < V.heap.size)∧(V.cell? ⟨w.heap.size+1,0,none⟩=some (.pointer (some ⟨gt,q*5,none⟩))∧w.heap.size+1 < V.heap.size)∧(V.cell? ⟨bn,0,none⟩=some (.string name)∧V.cell? ⟨bs,0,none⟩=some (.string s)∧V.cell? ⟨bt,0,none⟩=some (.string n)∧bn < V.heap.size∧bs < V.heap.size∧bt < V.heap.size)∧(V.cell? ⟨gt,q*5+4,none⟩=some (.slice L[q].hr.a L[q].rules.length L[q].hr.c)∧gt < V.heap.size))∧(V.cell? ⟨w.heap.size+1+1,0,none⟩=some (.int .i64 0)∧V.frozen? ⟨w.heap.size+1+1,0,none⟩=false∧w.heap.size+1+1 < V.heap.size) from fun V a=>by
  have a0:=aW.trans a;have p0:=r0.az a;have p1:=r1.az a;have p2:=r2.az a;have e0:=a0.cell_kept hc0;have e1:=a0.cell_kept hc1;have e2:=a0.cell_kept hc2;have AA:=ob.az a0
  have d4:V.cell? ⟨gt,q*5+4,none⟩=some (.slice L[q].hr.a L[q].rules.length L[q].hr.c):=by rw [← Iu];exact AA.cell gX hq (by decide)
  exact ⟨⟨⟨p0.cell (j:=0) rfl,p0.cell (j:=1) rfl,p0.1⟩,⟨p1.cell (j:=0) rfl,p1.1⟩,⟨e0,e1,e2,World.block_lt_of_cell? _ _ e0,World.block_lt_of_cell? _ _ e1,World.block_lt_of_cell? _ _ e2⟩,⟨d4,(AA.row gX hq).1⟩⟩,⟨p2.cell (j:=0) rfl,p2.2.2 0 (by simp),p2.1⟩⟩)
 have KR:=gH (show ∀ p:Nat,i=p→p < L[q].rules.length∧∃ g cap,L[q].hr.v=.slice (some ⟨g,0,none⟩) L[q].rules.length cap∧∀ V,ag W V→(V.cell? ⟨g,p*8+1,none⟩=some (.int .i64 kd)∧g < V.heap.size) from fun p hp=>by
  subst hp
  have hpl:p < L[q].rules.length:=by omega
  obtain ⟨g,Zq,_,hr⟩:=jN tq.nw (by omega);refine ⟨hpl,g,L[q].hr.c,by rw [Iu,Zq],fun V a=>?_⟩;have hk:=tC hi (by rw [Kk];exact hpl)
  have he:L[q].t.rules[p]'(by rw [Kk];exact hpl)=L[q].rules[p].r:=by unfold ay.t;simp
  rw [DJ,he] at hk;have hcell:=mI (tq.nw) (f:=b7.cells) b7.qK Zq hpl (j:=1) (by decide);have hcell:w.cell? ⟨g,p*8+1,none⟩=some (.int .i64 L[q].rules[p].r.kind):=hcell;rw [← hk] at hcell
  exact ⟨(aW.trans a).cell_kept hcell,Nat.lt_of_lt_of_le hr.1 (aW.trans a).size⟩)
 obtain ⟨⟨⟨x0,x1,xz⟩,⟨xp,xq⟩,⟨c0,c1,c2,y0,y1,y2⟩,⟨d4,dz⟩⟩,⟨b0,b1,b2⟩⟩:=KF.out W (ag.refl W);have br:=gH aW;have lB:=gH ob;have ut:=gH gX;have ny:=gH r3;have tH:=gH ot;have HT:=gH bB;have nT:=gH wP;have ul:=gH Iu;have D5:=gH Kk;have lc:=gH zW;have Zr:=gH (show ∀ V,Kb (fun g=>B≤g) w V→∀ c:Int,c≠0→rU w B n3 hs ht o.ae L q (L[q].t,c) (.returned (.int .i64 c)) V from fun V a c hc=>⟨rfl,a,fun h=>absurd h hc⟩);clear ob r3 hne hL pD hi DJ bB wP sm Fa aW hc0 hc1 hc2 r0 r1 r2 ot Iu Kk oU tq zf nd gX zW;refine (callsIn_wide (n:=8)).1 ?_;refine callsIn_of_wp_marks Tryz.func171 rfl trivial ?_ rfl;simp only [Tryz.ntmps171,List.size_toArray,List.length_cons,List.length_nil,Nat.reduceAdd,Nat.reduceSub,Array.replicate_succ,Array.replicate_zero,List.push_toArray,List.append_toArray,List.nil_append,List.cons_append];refine wpIn_wide.2 ?_;go_wp2_with fail;rw [← hW];clear hW;have KS:=gH (show ∀ V,ag W V→(ag W V∧V.cell? ⟨w.heap.size+1,0,none⟩=some (.pointer (some ⟨gt,q*5,none⟩))∧V.cell? ⟨gt,q*5+4,none⟩=some (.slice L[q].hr.a L[q].rules.length L[q].hr.c)∧V.cell? ⟨bn,0,none⟩=some (.string name)) from fun V a=>⟨a,a.cell_kept xp,a.cell_kept d4,a.cell_kept c0⟩)
 go_region_held3 (fun V=>ag W V∧V.cell? ⟨w.heap.size+1,0,none⟩=some (.pointer (some ⟨gt,q*5,none⟩))∧V.cell? ⟨gt,q*5+4,none⟩=some (.slice L[q].hr.a L[q].rules.length L[q].hr.c)∧V.cell? ⟨bn,0,none⟩=some (.string name))
  (first | exact KS.out _ (ag.refl _).drew | exact KS.out _ ((ag.refl _).drew.alloc _) | exact KS.out _ ((ag.refl W).drew.trans aV) | exact KS.out _ (((ag.refl W).drew.trans aV).alloc _) | exact KS.out _ (((ag.refl W).alloc _).drew.trans aV) | exact KS.out _ ((((ag.refl W).drew.trans aV).alloc _).setCell _ _ (((ag.refl W).drew.trans aV).size)) | exact KS.out _ ((((ag.refl W).alloc _).drew.trans aV).setCell _ _ (Nat.le_refl _)))
  ((go_at_call 167;refine (CB.out _ (br.out.trans (And.left (by assumption:ag W _∧_)))).mono ?_;rintro e V ⟨rfl,aV⟩;first | (have Re:ag (W.drew.alloc (.cells #[.int .i64 0] 3)) V:=aV;have aV2:=cJ Re;obtain ⟨lf,Zs,Zt,Xw,gN⟩:=aV2;have Xx:V.cell? ⟨W.heap.size,0,none⟩=some (.int .i64 0):=lf 0;have hf9:V.frozen? ⟨W.heap.size,0,none⟩=false:=Zs 0;have Zu:W.heap.size < V.heap.size:=Zt.1;clear gN lf Zs Zt Xw Re) | skip))
 focus
  obtain ⟨U,hU⟩:∃ U,U=V.alloc (.cells #[.int .i64 (i:Int)] 3):=⟨_,rfl⟩;obtain ⟨ba,Cj⟩:∃ ba,ba=V.heap.size:=⟨_,rfl⟩
  have aU:ag W U:=by rw [hU];exact ((ag.refl W).drew.trans aV).alloc _
  have cU:U.cell? ⟨ba,0,none⟩=some (.int .i64 i):=by rw [hU,Cj];exact World.cell?_alloc_at _ _ _ _ (by simp)
  have zU0:W.heap.size≤ba:=by rw [Cj];exact ((ag.refl W).drew.trans aV).size
  have zU:ba < U.heap.size:=by rw [hU,Cj];simp
  rw [← hU,← Cj];clear hU Cj aV
 rotate_left
 focus
  obtain ⟨U,hU⟩:∃ U,U=V.setCell ⟨W.heap.size,0,none⟩ (.int .i64 (i:Int)):=⟨_,rfl⟩;obtain ⟨ba,Cj⟩:∃ ba,ba=W.heap.size:=⟨_,rfl⟩
  have aU:ag W U:=by rw [hU];exact (((ag.refl W).alloc _).drew.trans aV).setCell _ _ (Nat.le_refl _)
  have cU:U.cell? ⟨ba,0,none⟩=some (.int .i64 i):=by rw [hU,Cj];exact World.cell?_setCell_same' _ _ _ (by rw [Xx];rfl)
  have zU0:W.heap.size≤ba:=by rw [Cj];exact Nat.le_refl _
  have zU:ba < U.heap.size:=by rw [hU,Cj];simpa using Zu
  rw [← hU,← Cj];clear hU Cj aV Xx hf9 Zu
 rotate_left
 all_goals
  have DG:=gH aU;have HCU:=gH cU;obtain ⟨⟨⟨x0,x1,xz⟩,⟨xp,xq⟩,⟨c0,c1,c2,y0,y1,y2⟩,⟨d4,dz⟩⟩,⟨b0,b1,b2⟩⟩:=KF.out U aU;clear aU KS CB;by_cases eU:i < 0
  case pos =>
   have hd:decide (i < 0)=true:=decide_eq_true eU;have HJ:=gH eU;go_wp2_with fail;refine ⟨_,dv (v:=.int .i64 61) rfl _ rfl (vp (World.cell?_setCell_same' _ _ _ (by rw [b0];rfl))),?_⟩;rw [HE.out,if_pos HJ.out];exact Zr.out _ ((Kb.aH (br.out.trans DG.out)).trans ((Kb.set U (w.heap.size+1+1) 0 _).mono fun g _ e=>by have e:g=w.heap.size+1+1:=e;omega)) 61 (by decide)
  have hd:decide (i < 0)=false:=decide_eq_false eU;obtain ⟨p,rfl⟩:∃ p:Nat,i=p:=⟨i.toNat,by omega⟩;obtain ⟨hpl,gr,cap,hv,Zv⟩:=KR.out p rfl;have HKR:=gH Zv;have Fz:=gH hv
  have TY:Value.slice L[q].hr.a L[q].rules.length L[q].hr.c=.slice (some ⟨gr,0,none⟩) L[q].rules.length cap:=by rw [← ul.out];exact hv
  have Ib:=gH TY;clear Zv hv KR TY;go_wp2_with fail;refine (rK _ _ s n U).mono ?_;intro e X hX;obtain ⟨rfl,hX⟩:=hX
  have aX:ag U X:=by rw [hX];exact (((ag.refl U).alloc _).alloc _).alloc _
  have zX:X.heap.size=U.heap.size+3:=by rw [hX];simp
  have q1:ap X U.heap.size [.slice hs.a o.ae.length hs.c,.slice ht.a o.tables.length ht.c]:=by rw [hX];exact (aO (w:=U) (c:=[.slice hs.a o.ae.length hs.c,.slice ht.a o.tables.length ht.c]) (t:=25) (ag.refl _)).az (((ag.refl _).alloc _).alloc _)
  have q2:ap X (U.heap.size+1) [.string s]:=by
   rw [hX];have:=(aO (w:=U.alloc (.cells #[.slice hs.a o.ae.length hs.c,.slice ht.a o.tables.length ht.c] 25)) (c:=[.string s]) (t:=9) (ag.refl _)).az ((ag.refl _).alloc (.cells #[.string n] 9))
   simpa using this
  have q3:ap X (U.heap.size+1+1) [.string n]:=by
   rw [hX];have:=aO (w:=(U.alloc (.cells #[.slice hs.a o.ae.length hs.c,.slice ht.a o.tables.length ht.c] 25)).alloc (.cells #[.string s] 9)) (c:=[.string n]) (t:=9) (ag.refl _)
   simpa using this
  obtain ⟨⟨⟨x0,x1,xz⟩,⟨xp,xq⟩,⟨c0,c1,c2,y0,y1,y2⟩,⟨d4,dz⟩⟩,⟨b0,b1,b2⟩⟩:=KF.out X (DG.out.trans aX);have gN:=gH (DG.out.trans aX);have Zw:=gH (aX.cell_kept HCU.out);have WJ:=gH (oq 7 (by omega) o.tables ht.a ht.c s n U.heap.size (U.heap.size+1) (U.heap.size+1+1) X (aQ (br.out.trans gN.out) HT.out) (q1.cell (j:=1) rfl) (q2.cell (j:=0) rfl) (q3.cell (j:=0) rfl));clear hX aX q1 q2 q3;go_wp2_with fail;have Lr:w.heap.size+1+1 < X.heap.size:=b2;refine (wpIn_wide (n:=8)).1 ?_
  refine wpIn_rangeFunc_ownH (α:=FP) rfl (by omega) (gf:=197) (lb:=#[.pointer (some ⟨U.heap.size,0,none⟩),.pointer (some ⟨U.heap.size+1,0,none⟩),.pointer (some ⟨U.heap.size+1+1,0,none⟩)]) rfl trivial (enters_of Tryz.func197 (by kernel_rfl) rfl) WJ.out
   (fun h k=>⟨h.1.trans k.1,h.2.trans k.2⟩) (fun W l o o' hl h ho hw=>⟨Kc.put h ho,belowK_b (Nat.le_refl _) W l o o' hl h ho hw⟩) (Below.refl _ _) (fun _=>rfl)
   (fun pre W'=>Kb (fun _=>False) X W'∧pre.all (fun x=>!nV kd name x.r)=true)
   (fun c pre W'=>(c=Code.ret∧∃ x∈pre,nV kd name x.r=true)∧(Kb (fun g=>g=w.heap.size+1+1) X W'∧W'.cell? ⟨w.heap.size+1+1,0,none⟩=some (.int .i64 62)))
   (OwnFrom.and (lM (B:=0) (Nat.le_refl _)) (ownFrom_pure _ _)) (fun c=>OwnFrom.and (ownFrom_pure _ _) (OwnFrom.and (lM (B:=0) (Nat.le_refl _)) (pR Lr)))
   ⟨Kb.refl _ _,rfl⟩
   (fun x a' W'=>∃ Bx,ap W' Bx [.string x.r.name,.int .i64 x.r.kind,.slice x.a3 x.r.ak.length x.c3,.int .i64 x.r.low,.int .i64 x.r.high,.string x.r.aa,.string x.r.table,.string x.r.key]∧a'={ tmps:=#[.agg #[.slice hs.a o.ae.length hs.c,.slice ht.a o.tables.length ht.c],.pointer (some ⟨gt,q*5,none⟩),.pointer (some ⟨bn,0,none⟩),.pointer (some ⟨bs,0,none⟩),.pointer (some ⟨bt,0,none⟩),.pointer (some ⟨w.heap.size,0,none⟩),.pointer (some ⟨w.heap.size+1,0,none⟩),.pointer (some ⟨w.heap.size+1+1,0,none⟩),.pointer (some ⟨ba,0,none⟩),undef,.pointer (some ⟨Bx,0,none⟩),.pointer (some ⟨gt,q*5,none⟩),.pointer (some ⟨gt,q*5,none⟩),.pointer (some ⟨gt,q*5+4,none⟩),.slice L[q].hr.a L[q].rules.length L[q].hr.c,.string name,.int .i64 (p:Int),.int .i64 (p:Int),.bool false,.agg #[.slice hs.a o.ae.length hs.c,.slice ht.a o.tables.length ht.c],.string s,.string n,.func (.func 197) #[] #[.pointer (some ⟨U.heap.size,0,none⟩),.pointer (some ⟨U.heap.size+1,0,none⟩),.pointer (some ⟨U.heap.size+1+1,0,none⟩)],.agg #[.string x.t.aa,.string x.t.name,.string x.t.owner,.slice x.a1 x.t.ak.length x.c1,.slice x.a2 x.t.rules.length x.c2],.agg #[.string x.r.name,.int .i64 x.r.kind,.slice x.a3 x.r.ak.length x.c3,.int .i64 x.r.low,.int .i64 x.r.high,.string x.r.aa,.string x.r.table,.string x.r.key],undef,undef,undef,undef,undef,undef,undef,undef,undef,undef,undef,undef,undef,undef,undef,undef,undef,undef,undef,undef,undef,undef,undef,undef,undef,undef],defers:=[] })
   (fun x a' s' W1 W2 row h hg hr=>by
    obtain ⟨Bx,hrow,ha⟩:=h
    exact ⟨Bx,rL (β:=Unit) (by simp) () W1 W2 row hrow hg hr,ha⟩)
   ?assign ?body ?done ?stop
  case assign =>
   intro l pre x W' K hi hK;dsimp only [FP.enc];have lw:=Nat.lt_succ_self W'.heap.size
   gi_wp2
   refine hK _ _ ((KeepsOthers.alloc _ _).from _) ⟨Kc.aH ((ag.refl W').alloc _),(Below.refl _ W').alloc (by have:=hi.1.size;omega) _⟩ ⟨hi.1.trans (Kb.aH ((ag.refl W').alloc _)),hi.2⟩ ⟨W'.heap.size,aO (c:=[.string x.r.name,.int .i64 x.r.kind,.slice x.a3 x.r.ak.length x.c3,.int .i64 x.r.low,.int .i64 x.r.high,.string x.r.aa,.string x.r.table,.string x.r.key]) (ag.refl _),rfl⟩
  case body =>
   rintro l pre x a' W' hl ⟨rr,jz⟩ ⟨hk,hall⟩ ⟨Bx,hrow,rfl⟩ hlt;have xM:ag X W':=hk.aZ (ag.refl X) (fun _ _ h=>h);obtain ⟨⟨⟨x0,x1,xz⟩,⟨xp,xq⟩,⟨c0,c1,c2,y0,y1,y2⟩,⟨d4,dz⟩⟩,⟨b0,b1,b2⟩⟩:=KF.out W' (gN.out.trans xM);have t7:=hrow.cell (j:=7) rfl;have tz:=hrow.1;have hcb:=xM.cell_kept Zw.out;have hzb:ba < W'.heap.size:=World.block_lt_of_cell? _ _ hcb;obtain ⟨Pv,hkz⟩:=HKR.out W' (gN.out.trans xM);rw [Ib.out] at d4;have HK:=gH hk;have Vo:=gH hall
   have hb0:(0:Int)≤(p:Int):=by omega
   have hb1:(p:Int) < (L[q].rules.length:Int):=by omega
   clear hk hall hrow xM jz hlt
   cases g1:bk x.r.key name
   ·have e1:(x.r.key.toList==name.toList)=false:=g1
    have HS:=gH (show nV kd name x.r=false by unfold nV;rw [g1];rfl);clear g1
    gi_wp2
    refine ig (by kernel_rfl) (by kernel_rfl) (by kernel_rfl) ?_
    repeat (quiet_step_in (fail))
    refine wpQuietIn_nil ?_;intro _ hw';obtain ⟨nq,hw''⟩:=hw';subst hw''
    gi_wp2
    exact ⟨(show KeepsOthers W' (W'.drewN nq) from ⟨Nat.le_refl _,fun _ _ h _=>h⟩).from _,⟨Kc.aH ⟨rfl,rfl,rfl,Nat.le_refl _,fun _ _=>rfl⟩,⟨rfl,rfl,rfl,Nat.le_refl _,fun _ _=>rfl⟩⟩,HK.out.trans (Kb.aH (show ag W' (W'.drewN nq) from ⟨rfl,rfl,rfl,Nat.le_refl _,fun _ _=>rfl⟩)),by rw [List.all_append,Vo.out];simp [HS.out]⟩
   ·have e1:(x.r.key.toList==name.toList)=true:=g1
    by_cases g2:kd=2
    ·have HS:=gH (show nV kd name x.r=true by unfold nV;rw [g1,g2];rfl)
     rw [g2] at Pv;clear g1 g2
     gi_wp2
     refine ig (by kernel_rfl) (by kernel_rfl) (by kernel_rfl) ?_
     repeat (quiet_step_in (fail))
     refine wpQuietIn_nil ?_;intro _ hw';obtain ⟨nq,hw''⟩:=hw';subst hw''
     gi_wp2
     exact ⟨((show KeepsOthers W' (W'.drewN nq) from ⟨Nat.le_refl _,fun _ _ h _=>h⟩).trans (KeepsOthers.setCell _ _ _)).from _,⟨rfl,x,by simp,HS.out⟩,(HK.out.mono fun _ _ h=>h.elim).trans ((Kb.aH (show ag W' (W'.drewN nq) from ⟨rfl,rfl,rfl,Nat.le_refl _,fun _ _=>rfl⟩)).trans (Kb.set (W'.drewN nq) (w.heap.size+1+1) 0 _)),World.cell?_setCell_same' _ _ _ (by rw [show (W'.drewN nq).cell? ⟨w.heap.size+1+1,0,none⟩=some (.int .i64 0) from b0];rfl)⟩
    ·have HS:=gH (show nV kd name x.r=false by unfold nV;rw [show (kd==2)=false by simpa using g2];simp)
     have e2:(kd==2)=false:=by simpa using g2
     clear g1 g2
     gi_wp2
     refine ig (by kernel_rfl) (by kernel_rfl) (by kernel_rfl) ?_
     repeat (quiet_step_in (fail))
     refine wpQuietIn_nil ?_;intro _ hw';obtain ⟨nq,hw''⟩:=hw';subst hw''
     gi_wp2
     exact ⟨(show KeepsOthers W' (W'.drewN nq) from ⟨Nat.le_refl _,fun _ _ h _=>h⟩).from _,⟨Kc.aH ⟨rfl,rfl,rfl,Nat.le_refl _,fun _ _=>rfl⟩,⟨rfl,rfl,rfl,Nat.le_refl _,fun _ _=>rfl⟩⟩,HK.out.trans (Kb.aH (show ag W' (W'.drewN nq) from ⟨rfl,rfl,rfl,Nat.le_refl _,fun _ _=>rfl⟩)),by rw [List.all_append,Vo.out];simp [HS.out]⟩
  case stop =>
   rintro D c pre W' hD S8 ⟨⟨rfl,x,hx,Bu⟩,hk,hcell⟩ hK;have HU:=gH (show ((gW s n o.tables).any fun p=>nV kd name p.2)=true from List.any_eq_true.2 ⟨FP.key x,S8.subset (List.mem_map_of_mem hx),Bu⟩)
   have HP:=gH (show rU w B n3 hs ht o.ae L q (dN o.tables s n name L[q].t) (.returned (.int .i64 62)) (W'.putObj D (.deferred none)) from by
    rw [HE.out,if_neg (show ¬ (p:Int) < 0 by omega),if_pos HU.out];have a1:=br.out.trans gN.out;have z9:=a1.size
    exact Zr.out _ (((Kb.aH a1).trans (hk.mono fun g _ e=>by have e:g=w.heap.size+1+1:=e;omega)).trans (Kb.put.mono fun g _ e=>by have e:g=D:=e;omega)) 62 (by decide))
   have HC:=gH (show (W'.putObj D (.deferred none)).cell? ⟨w.heap.size+1+1,0,none⟩=some (.int .i64 62) from (World.cell?_of_block (World.putObj_heap_other (k:=w.heap.size+1+1) (by omega))).trans hcell);clear hk hcell S8 hx Bu
   gi_wp2
   refine ⟨by simp,.inl ⟨_,_,rfl,run_takeDeferred hK,?_⟩⟩;exact ⟨_,dv (v:=.int .i64 62) rfl _ rfl (vp HC.out),HP.out⟩
  case done =>
   rintro D xs W' hD hS ⟨hk,hall⟩ hK;have xM:ag X W':=hk.aZ (ag.refl X) (fun _ _ h=>h)
   have HU:=gH (show ((gW s n o.tables).any fun p=>nV kd name p.2)=false by
    rw [← hS,Bool.eq_false_iff];intro h;obtain ⟨y,hy,Gt⟩:=List.any_eq_true.1 h;obtain ⟨x,hx,rfl⟩:=List.mem_map.1 hy;have h3:=List.all_eq_true.1 hall x hx;have Gt:nV kd name x.r=true:=Gt;have h3:(!nV kd name x.r)=true:=h3
    rw [Gt] at h3;cases h3)
   obtain ⟨⟨⟨x0,x1,xz⟩,⟨xp,xq⟩,⟨c0,c1,c2,y0,y1,y2⟩,⟨d4,dz⟩⟩,⟨b0,b1,b2⟩⟩:=KF.out W' (gN.out.trans xM);have hcb:=xM.cell_kept Zw.out;have hzb:ba < W'.heap.size:=World.block_lt_of_cell? _ _ hcb;have jG:=gH (br.out.trans (gN.out.trans xM));have S9:=gH xM;clear hk hall hS xM;have r2:=lB.out.az jG.out;obtain ⟨k,rJ⟩:∃ k,L[q].rules.length=p+1+k:=⟨L[q].rules.length - p - 1,by omega⟩
   have o2:W'.ownsRow B 37 8 (.slice (some ⟨gr,0,none⟩) (p+1+k) cap) (p+1+k) (L[q].rules.flatMap b7.cells):=by
    have:=(r2.nth hq).nw;rw [Fz.out,rJ] at this;exact this
   have oo:cap≤9223372036854775807:=tA (r2.nth hq).nw _ _ _ Fz.out;have CD:=gH (Jl gr cap p k B (L[q].rules.flatMap b7.cells) W' o2 (eO tu _) oo);obtain ⟨hg1,hg2,hg3,hg4⟩:=tH.out gr (by rw [Fz.out];rfl);rw [Ib.out,rJ] at d4;have kR:=ny.out.az jG.out;have uL:n3 < w.heap.size:=ny.out.1;have f4:W'.frozen? ⟨gt,q*5+4,none⟩=false:=(r2.row ut.out hq).2.2 4 (by decide)
   have K2:=gH (show ∀ w3,Kb (fun j=>j=gr) W' w3→w3.ownsRow B 37 8 (.slice (some ⟨gr,0,none⟩) (p+k) cap) (p+k) ((L[q].rules.flatMap b7.cells).take (p*8)++(L[q].rules.flatMap b7.cells).drop ((p+1)*8))→(w3.cell? ⟨gt,q*5+4,none⟩=some (.slice (some ⟨gr,0,none⟩) (p+1+k) cap)∧w3.frozen? ⟨gt,q*5+4,none⟩=false∧gt < w3.heap.size∧w3.cell? ⟨w.heap.size+1+1,0,none⟩=some (.int .i64 0)∧w3.frozen? ⟨w.heap.size+1+1,0,none⟩=false∧w.heap.size+1+1 < w3.heap.size ∧
     Hid (((w3.setCell ⟨gt,q*5+4,none⟩ (.slice (some ⟨gr,0,none⟩) (p+k) cap)).setCell ⟨w.heap.size+1+1,0,none⟩ (.int .i64 0)).heap[D]? = some (.deferred (some []))∧(((w3.setCell ⟨gt,q*5+4,none⟩ (.slice (some ⟨gr,0,none⟩) (p+k) cap)).setCell ⟨w.heap.size+1+1,0,none⟩ (.int .i64 0)).putObj D (.deferred none)).cell? ⟨w.heap.size+1+1,0,none⟩=some (.int .i64 0) ∧
      rU w B n3 hs ht o.ae L q (dN o.tables s n name L[q].t) (.returned (.int .i64 0)) (((w3.setCell ⟨gt,q*5+4,none⟩ (.slice (some ⟨gr,0,none⟩) (p+k) cap)).setCell ⟨w.heap.size+1+1,0,none⟩ (.int .i64 0)).putObj D (.deferred none)))) from fun w3 kb o3=>by
    have TZ:¬ gt=gr:=fun e=>hg1 e.symm
    have d43:=kb.cell d4 TZ
    have f43:w3.frozen? ⟨gt,q*5+4,none⟩=false:=by
     have:=kb.block gt dz TZ;rw [← f4];simp [World.frozen?,this]
    have dz3:=Nat.lt_of_lt_of_le dz kb.size;have Il:=kb.row (Vn.out.az (gN.out.trans S9.out)) (fun e=>by have e:w.heap.size+1+1=gr:=e;omega);have jv:=kb.row kR (fun e=>hg2 (by have e:n3=gr:=e;exact e.symm))
    have e1:(L[q].rules.eraseIdx p).length=p+k:=by rw [List.length_eraseIdx_of_lt (by omega)];omega
    have ks:=Kb.set w3 gt (q*5+4) (.slice (some ⟨gr,0,none⟩) (p+k) cap);have kr:=Kb.set (w3.setCell ⟨gt,q*5+4,none⟩ (.slice (some ⟨gr,0,none⟩) (p+k) cap)) (w.heap.size+1+1) 0 (.int .i64 0);have zW3:X.heap.size≤W'.heap.size:=S9.out.size;have hDlt:D < W'.heap.size:=(Array.getElem?_eq_some_iff.1 hK).1
    have hK3:((w3.setCell ⟨gt,q*5+4,none⟩ (.slice (some ⟨gr,0,none⟩) (p+k) cap)).setCell ⟨w.heap.size+1+1,0,none⟩ (.int .i64 0)).heap[D]? = some (.deferred (some [])):=by
     rw [kr.block D (by simp;have:=kb.size;omega) (fun e=>by have e:D=w.heap.size+1+1:=e;omega),ks.block D (by have:=kb.size;omega) (fun e=>by have e:D=gt:=e;omega),kb.block D hDlt (fun e=>by have e:D=gr:=e;omega)];exact hK
    refine ⟨d43,f43,dz3,Il.cell (j:=0) rfl,Il.2.2 0 (by simp),Il.1,gH ⟨hK3,?_,?_⟩⟩
    ·refine (World.cell?_of_block (World.putObj_heap_other (k:=w.heap.size+1+1) (by omega))).trans (World.cell?_setCell_same' _ _ _ ?_)
     rw [ks.cell (Il.cell (j:=0) rfl) (fun e=>by have e:w.heap.size+1+1=gt:=e;omega)];rfl
    rw [HE.out,if_neg (show ¬ (p:Int) < 0 by omega),if_neg (by rw [HU.out];simp)];simp only [Int.toNat_natCast]
    have S4:(w3.setCell ⟨gt,q*5+4,none⟩ (.slice (some ⟨gr,0,none⟩) (p+k) cap)).ownsRow B 37 8 (Hd.mk (some ⟨gr,0,none⟩) (p+k) cap).v (L[q].rules.eraseIdx p).length ((L[q].rules.eraseIdx p).flatMap b7.cells):=by
     rw [e1,← fS (size:=8) b7.qK]
     exact aP o3 ks (fun g hg e=>by
      have e:g=gt:=e
      have h9:gr=g:=by simpa [Value.ownBlock,Hd.v] using hg
      exact hg1 (h9.trans e))
    have Ig:=jO (jf.1 lB.out.nd) hq;have TX:(L[q].rules.flatMap (·.h.blk)).Nodup:=(List.nodup_append.1 (List.nodup_append.1 Ig).2.1).2.1
    have S5:=r2.Bp (Y:=fun _=>False) (Bq:=⟨some ⟨gr,0,none⟩,p+k,cap⟩) (l':=L[q].rules.eraseIdx p) (gg:=gr) (w5:=w3) (w7:=(w3.setCell ⟨gt,q*5+4,none⟩ (.slice (some ⟨gr,0,none⟩) (p+k) cap))) hq ut.out (fun _ h=>h.elim) (kb.mono fun g _ e=>.inl (by have e:g=gr:=e;rw [e,Fz.out];rfl)) (Kb.refl _ _) (.inl (by rw [Fz.out];rfl)) S4
     (fun g hg=>by rw [cM,List.mem_singleton] at hg;exact hg) (fun y hy=>.inl (List.mem_of_mem_eraseIdx hy)) ((jJ (fun x:b7=>x.h.blk) (List.eraseIdx_sublist L[q].rules p)).nodup TX)
    refine ⟨rfl,((((Kb.aH jG.out).trans (kb.mono fun a _ e=>by have e:a=gr:=e;omega)).trans (ks.mono fun a _ e=>by have e:a=gt:=e;omega)).trans (kr.mono fun a _ e=>by have e:a=w.heap.size+1+1:=e;omega)).trans (Kb.put.mono fun a _ e=>by have e:a=D:=e;omega),fun _=>⟨{ L[q] with rules:=L[q].rules.eraseIdx p,hr:=⟨some ⟨gr,0,none⟩,p+k,cap⟩ },?_,?_,?_⟩⟩
    ·unfold ay.t
     simp only
     rw [map_eraseIdx]
    ·have T1:∀ a∈hs.blk++(ht.blk++(L.set q { L[q] with rules:=L[q].rules.eraseIdx p,hr:=⟨some ⟨gr,0,none⟩,p+k,cap⟩ }).flatMap ay.bI),a < w.heap.size:=fun a ha=>by
      have hold:∀ b∈hs.blk++(ht.blk++L.flatMap ay.bI),b < w.heap.size:=fun b hb=>(lB.out.lt b hb).2
      rcases List.mem_append.1 ha with h1 | h1
      ·exact hold a (List.mem_append.2 (.inl h1))
      ·rcases List.mem_append.1 h1 with h2 | h2
       ·exact hold a (List.mem_append.2 (.inr (List.mem_append.2 (.inl h2))))
       ·obtain ⟨y,hy,VC⟩:=List.mem_flatMap.1 h2
        rcases i7 hq hy with rfl | ⟨i,hi,_,rfl⟩
        ·have VC:a∈L[q].hc.blk++((Hd.mk (some ⟨gr,0,none⟩) (p+k) cap).blk++(L[q].rules.eraseIdx p).flatMap (·.h.blk)):=VC
         rcases List.mem_append.1 VC with h3 | h3
         ·exact hold a (List.mem_append.2 (.inr (List.mem_append.2 (.inr (List.mem_flatMap.2 ⟨L[q],List.getElem_mem hq,by unfold ay.bI;exact List.mem_append.2 (.inl h3)⟩)))))
         ·rcases List.mem_append.1 h3 with h4 | h4
          ·rw [cM,List.mem_singleton] at h4
           have h4:a=gr:=h4;omega
          ·exact hold a (List.mem_append.2 (.inr (List.mem_append.2 (.inr (List.mem_flatMap.2 ⟨L[q],List.getElem_mem hq,by unfold ay.bI;exact List.mem_append.2 (.inr (List.mem_append.2 (.inr ((jJ (fun x:b7=>x.h.blk) (List.eraseIdx_sublist L[q].rules p)).subset h4))))⟩)))))
        ·exact hold a (List.mem_append.2 (.inr (List.mem_append.2 (.inr (List.mem_flatMap.2 ⟨L[i],List.getElem_mem hi,VC⟩)))))
     exact (S5.kb kr fun a ha e=>by have:=T1 a ha;have e:a=w.heap.size+1+1:=e;omega).kb Kb.put fun a ha e=>by have:=T1 a ha;have e:a=D:=e;omega
    ·rw [nT.out]
     exact Kb.put.row (kr.row (ks.row jv (fun e=>Az (by have e:n3=gt:=e;exact e.symm))) (fun e=>by have e:n3=w.heap.size+1+1:=e;omega)) (fun e=>by have e:n3=D:=e;omega))
   have hpb:(p:Int)+1≤9223372036854775807:=by have:=hlen;simp at this;omega
   have CD':=gH (Jl gr cap p k B (L[q].rules.flatMap b7.cells) W'.drew (bu o2 (ag.refl W').drew) (eO tu _) oo);have K3:=gH (show ∀ w3,Kb (fun j=>j=gr) W'.drew w3→w3.ownsRow B 37 8 (.slice (some ⟨gr,0,none⟩) (p+k) cap) (p+k) ((L[q].rules.flatMap b7.cells).take (p*8)++(L[q].rules.flatMap b7.cells).drop ((p+1)*8))→(∃ x:kQ (.slice (some ⟨gr,0,none⟩) (p+1+k) cap) W',w3=kw (.slice (some ⟨gr,0,none⟩) (p+1+k) cap) W' x)∧_ from fun w3 kb o3=>⟨KL.of ((Kb.aH (ag.refl W').drew).trans (kb.mono fun g _ e=>by have e:g=gr:=e;rw [e];rfl)),K2.out w3 ((Kb.aH (ag.refl W').drew).trans kb) o3⟩);have hWw:=lc.out;have HWR:=gH (show IntKind.i64.wrap ((p:Int)+1)=(p:Int)+1 from IntWalk.i64_in _ (by omega))
   have m1:¬ fN (.slice (some ⟨gr,0,none⟩) (p+1+k) cap) (w.heap.size+1):=fun h=>by have h:some gr=some (w.heap.size+1):=h;simp only [Option.some.injEq] at h;omega
   have m2:¬ fN (.slice (some ⟨gr,0,none⟩) (p+1+k) cap) ba:=fun h=>by have h:some gr=some ba:=h;simp only [Option.some.injEq] at h;omega
   have m3:¬ fN (.slice (some ⟨gr,0,none⟩) (p+1+k) cap) gt:=fun h=>by have h:some gr=some gt:=h;simp only [Option.some.injEq] at h;exact hg1 h
   clear r2 o2 kR hg1 hg2 hg3 uL f4 hWw;go_wp2_with fail;refine dx 7 9 (fun w'=>∃ x:kQ (.slice (some ⟨gr,0,none⟩) (p+1+k) cap) W',w'=kw (.slice (some ⟨gr,0,none⟩) (p+1+k) cap) W' x) (by kernel_rfl) (by kernel_rfl) (KL.az (ag.refl W').drew) ?_;simp only [List.take_succ_cons,List.take_zero,List.drop_succ_cons,List.drop_zero]
   repeat (go_big_quiet_step (fail))
   refine wpQuiet_nil ?_;refine bX (fun K hK2=>?_);go_simp;refine hK2 _ _ (fun _=>KL.az (ag.refl W').drew) ?_;clear hK2 K;refine bX (fun K hK2=>?_);go_simp
   go_at_call 172
   rw [HWR.out];refine CD'.out.mono ?_;rintro e w3 ⟨rfl,o3,kb⟩;obtain ⟨hT,f0,f1,f2,f3,f4,f5,HP⟩:=K3.out w3 kb o3
   dsimp only
   refine hK2 _ _ (fun _=>hT) ?_;clear hK2 K o3 kb hT;refine d9 _ (by simp) (by decide) ?_
   have hn8:¬ gt=w.heap.size+1+1:=by omega
   have hn9:¬ w.heap.size+1+1=gt:=by omega
   go_wp2_with fail;refine NoPanic.normal ?_;go_wp2_with fail;refine ⟨by simp,.inl ⟨_,_,rfl,run_takeDeferred HP.out.1,?_⟩⟩;exact ⟨_,dv (v:=.int .i64 0) rfl _ rfl (vp HP.out.2.1),HP.out.2.2⟩
end Go.Proofs.YtmflccbnoeaafaaGreat
namespace Go.Proofs.YtmflccbnoeaafaaGreat
open Go.RowKit Go.Deep
set_option maxRecDepth 100000
set_option linter.unusedVariables false
set_option maxHeartbeats 64000000
theorem Cl (o:bE) (As:Option Addr) (ar:Nat) (At:Option Addr) (ax:Nat) (r:gi) (Ac:Option Addr) (cc:Nat) (s n:ByteArray) (w:World) (bS:aL w 2 fk As ar o.ae) (bB:aL w 5 dA At ax o.tables) (Rm:aL w 1 dK Ac cc r.ak) (h1:Small r.name.size) (h2:Small r.aa.size) (h3:Small r.table.size) (h4:Small r.key.size) :
  Calls Tryz.prog 106 #[.agg #[.slice As o.ae.length ar,.slice At o.tables.length ax],.string s,.string n,.agg #[.string r.name,.int .i64 r.kind,.slice Ac r.ak.length cc,.int .i64 r.low,.int .i64 r.high,.string r.aa,.string r.table,.string r.key]] w (ix w (cR o (cY o s n (eo o.tables r)))):=by
 have hlen:=bS.len;have fl:=bB.len;have sm:kA o:=⟨iy bS,iz bB⟩;have bR:=enters (P:=Tryz.prog) Tryz.func166 (by kernel_rfl) rfl
 have l1:w.heap.size < w.heap.size+1:=by omega
 have l2:w.heap.size < w.heap.size+1+1:=by omega
 obtain ⟨W,hW⟩:∃ W,W=((w.alloc (.cells #[.slice As o.ae.length ar,.slice At o.tables.length ax] 25)).alloc (.cells #[.string r.name,.int .i64 r.kind,.slice Ac r.ak.length cc,.int .i64 r.low,.int .i64 r.high,.string r.aa,.string r.table,.string r.key] 37)).alloc (.cells #[.slice none 0 0,.slice none 0 0] 25):=⟨_,rfl⟩
 have aW:ag w W:=by rw [hW];exact (((ag.refl w).alloc _).alloc _).alloc _
 have yQ:ap W (w.heap.size+1) [.string r.name,.int .i64 r.kind,.slice Ac r.ak.length cc,.int .i64 r.low,.int .i64 r.high,.string r.aa,.string r.table,.string r.key]:=by
  rw [hW];have:=(aO (w:=(w.alloc (.cells #[.slice As o.ae.length ar,.slice At o.tables.length ax] 25))) (c:=[.string r.name,.int .i64 r.kind,.slice Ac r.ak.length cc,.int .i64 r.low,.int .i64 r.high,.string r.aa,.string r.table,.string r.key]) (t:=37) (ag.refl _)).az ((ag.refl _).alloc (.cells #[.slice none 0 0,.slice none 0 0] 25))
  simpa using this
 have r2:ap W (w.heap.size+1+1) [.slice none 0 0,.slice none 0 0]:=by
  rw [hW];have:=(aO (w:=((w.alloc (.cells #[.slice As o.ae.length ar,.slice At o.tables.length ax] 25)).alloc (.cells #[.string r.name,.int .i64 r.kind,.slice Ac r.ak.length cc,.int .i64 r.low,.int .i64 r.high,.string r.aa,.string r.table,.string r.key] 37))) (c:=[.slice none 0 0,.slice none 0 0]) (t:=25) (ag.refl _))
  simpa using this
 have zW:W.heap.size=w.heap.size+3:=by rw [hW];simp
 have CT:=gH (FD (fun g=>g=w.heap.size+1) o As ar At ax s n 166 #[.pointer (some ⟨w.heap.size+1,0,none⟩)] (eo o.tables r) W (bm aW bS) (aQ aW bB) bR (fun g e=>by have e:g=w.heap.size+1:=e;omega)
  (fun gA w'' hs ht L B n3 q gt hq a'' hB hn hL ob hne r3 gX Kd=>Ci r Ac cc o w'' hs ht L B n3 q gt (w.heap.size+1) gA hq hn hL ob hne r3 gX (yQ.az a'') (by omega) (aM (aW.trans a'') Rm) sm h1 h2 h3 h4))
 obtain ⟨rr,jz⟩:∃ rr,cR o (cY o s n (eo o.tables r))=rr:=⟨_,rfl⟩;rw [jz] at CT ⊢;have br:=gH aW;have mB:=gH r2;have HZ:=gH zW;clear jz bS bB r2 aW zW yQ sm
 go_enter Tryz.func106,Tryz.ntmps106
 go_wp2_with fail;rw [← hW];clear hW;refine CT.out.mono ?_;rintro e w3 ⟨hs,ht,L,hL,rfl,a3,ob⟩;have b2:=a3.row mB.out (fun e=>by have e:w.heap.size+1+1=w.heap.size+1:=e;omega);have d0:=b2.cell (j:=0) rfl;have d1:=b2.cell (j:=1) rfl;have f0:=b2.2.2 0 (by simp);have f1:=b2.2.2 1 (by simp);have z2:=b2.1;have mq:=gH b2;have iw:=gH (a3.aZ br.out (fun g hg e=>by omega));have HO:=gH ob;have HL:=gH hL;clear b2 a3 ob hL;go_wp2_with fail;refine bodyPost_ret (results_cell_tmp (v:=.agg #[.slice hs.a rr.1.ae.length hs.c,.slice ht.a rr.1.tables.length ht.c]) rfl _ rfl (b9 (gU mq.out rfl _ _))) rfl ?_;exact gV iw.out HL.out HO.out (by omega) (by have:=HZ.out;omega) rfl
theorem zL (o:bE) (As:Option Addr) (ar:Nat) (At:Option Addr) (ax:Nat) (s n name:ByteArray) (w:World) (bS:aL w 2 fk As ar o.ae) (bB:aL w 5 dA At ax o.tables) :
  Calls Tryz.prog 107 #[.agg #[.slice As o.ae.length ar,.slice At o.tables.length ax],.string s,.string n,.string name] w (ix w (cR o (cY o s n (dN o.tables s n name)))):=by
 have hlen:=bS.len;have fl:=bB.len;have sm:kA o:=⟨iy bS,iz bB⟩;have bR:=enters (P:=Tryz.prog) Tryz.func171 (by kernel_rfl) rfl
 have l1:w.heap.size < w.heap.size+1:=by omega
 have l2:w.heap.size < w.heap.size+1+1:=by omega
 have l3:w.heap.size < w.heap.size+1+1+1:=by omega
 have l4:w.heap.size < w.heap.size+1+1+1+1:=by omega
 obtain ⟨W,hW⟩:∃ W,W=((((w.alloc (.cells #[.slice As o.ae.length ar,.slice At o.tables.length ax] 25)).alloc (.cells #[.string s] 9)).alloc (.cells #[.string n] 9)).alloc (.cells #[.string name] 9)).alloc (.cells #[.slice none 0 0,.slice none 0 0] 25):=⟨_,rfl⟩
 have aW:ag w W:=by rw [hW];exact (((((ag.refl w).alloc _).alloc _).alloc _).alloc _).alloc _
 have yQ:ap W (w.heap.size+1) [.string s]:=by
  rw [hW];have:=(aO (w:=(w.alloc (.cells #[.slice As o.ae.length ar,.slice At o.tables.length ax] 25))) (c:=[.string s]) (t:=9) (ag.refl _)).az ((((ag.refl _).alloc (.cells #[.string n] 9)).alloc (.cells #[.string name] 9)).alloc (.cells #[.slice none 0 0,.slice none 0 0] 25))
  simpa using this
 have Nw:ap W (w.heap.size+1+1) [.string n]:=by
  rw [hW];have:=(aO (w:=((w.alloc (.cells #[.slice As o.ae.length ar,.slice At o.tables.length ax] 25)).alloc (.cells #[.string s] 9))) (c:=[.string n]) (t:=9) (ag.refl _)).az (((ag.refl _).alloc (.cells #[.string name] 9)).alloc (.cells #[.slice none 0 0,.slice none 0 0] 25))
  simpa using this
 have Zx:ap W (w.heap.size+1+1+1) [.string name]:=by
  rw [hW];have:=(aO (w:=(((w.alloc (.cells #[.slice As o.ae.length ar,.slice At o.tables.length ax] 25)).alloc (.cells #[.string s] 9)).alloc (.cells #[.string n] 9))) (c:=[.string name]) (t:=9) (ag.refl _)).az ((ag.refl _).alloc (.cells #[.slice none 0 0,.slice none 0 0] 25))
  simpa using this
 have r2:ap W (w.heap.size+1+1+1+1) [.slice none 0 0,.slice none 0 0]:=by
  rw [hW];have:=(aO (w:=((((w.alloc (.cells #[.slice As o.ae.length ar,.slice At o.tables.length ax] 25)).alloc (.cells #[.string s] 9)).alloc (.cells #[.string n] 9)).alloc (.cells #[.string name] 9))) (c:=[.slice none 0 0,.slice none 0 0]) (t:=25) (ag.refl _))
  simpa using this
 have zW:W.heap.size=w.heap.size+5:=by rw [hW];simp
 have CT:=gH (pE o As ar At ax s n 171 #[.pointer (some ⟨w.heap.size+1+1+1,0,none⟩),.pointer (some ⟨w.heap.size+1,0,none⟩),.pointer (some ⟨w.heap.size+1+1,0,none⟩)] (dN o.tables s n name) W (bm aW bS) (aQ aW bB) bR
  (fun gA w'' hs ht L B n3 q gt hq a'' hB hn hL ob hne r3 gX Kd=>zK s n name o w'' hs ht L B n3 q gt (w.heap.size+1+1+1) (w.heap.size+1) (w.heap.size+1+1) hq hn hL ob hne r3 gX ((Zx.az a'').cell (j:=0) rfl) ((yQ.az a'').cell (j:=0) rfl) ((Nw.az a'').cell (j:=0) rfl) sm))
 obtain ⟨rr,jz⟩:∃ rr,cR o (cY o s n (dN o.tables s n name))=rr:=⟨_,rfl⟩;rw [jz] at CT ⊢;have br:=gH aW;have mB:=gH r2;have HZ:=gH zW;clear jz bS bB r2 aW zW yQ Nw Zx sm
 go_enter Tryz.func107,Tryz.ntmps107
 go_wp2_with fail;rw [← hW];clear hW;refine CT.out.mono ?_;rintro e w3 ⟨hs,ht,L,hL,rfl,a3,ob⟩;have b2:=mB.out.az a3;have d0:=b2.cell (j:=0) rfl;have d1:=b2.cell (j:=1) rfl;have f0:=b2.2.2 0 (by simp);have f1:=b2.2.2 1 (by simp);have z2:=b2.1;have mq:=gH b2;have iw:=gH (br.out.trans a3);have HO:=gH ob;have HL:=gH hL;clear b2 a3 ob hL;go_wp2_with fail;refine bodyPost_ret (results_cell_tmp (v:=.agg #[.slice hs.a rr.1.ae.length hs.c,.slice ht.a rr.1.tables.length ht.c]) rfl _ rfl (b9 (gU mq.out rfl _ _))) rfl ?_;exact gV iw.out HL.out HO.out (by omega) (by have:=HZ.out;omega) rfl
theorem Co (x:eW) (h:0 < x.ak.length):dP x=x.ak[0]:=by
 obtain ⟨k,ac,sc,tb,nm,ro,ak,ru,ri,op⟩:=x
 cases ak with
 | nil=>exact absurd h (by simp)
 | cons c l=>rfl
theorem ix.Cp {w w1 W:World} {r:bE × Int} {b:Nat} {hs ht:Hd} {L:List ay} (aW:ag w W) (a:ag W w1) (hb:w.heap.size≤b) (Vl:b < W.heap.size) (hL:L.map ay.t=r.1.tables) (ob:bC w1 W.heap.size hs ht r.1.ae L) :
  ix w r (.returned (.tuple #[.agg #[.slice hs.a r.1.ae.length hs.c,.slice ht.a r.1.tables.length ht.c],.int .i64 r.2])) ((w1.setCell ⟨b,0,none⟩ (.slice hs.a r.1.ae.length hs.c)).setCell ⟨b,1,none⟩ (.slice ht.a r.1.tables.length ht.c)) :=
 gV (W:=W) (aW.trans a) hL ob hb Vl rfl
theorem zM (o:bE) (As:Option Addr) (ar:Nat) (At:Option Addr) (ax:Nat) (x:eW) (A6:Option Addr) (c6:Nat) (A9:Option Addr) (c9:Nat) (w:World) (bS:aL w 2 fk As ar o.ae) (bB:aL w 5 dA At ax o.tables) (h6:aL w 3 iv A6 c6 x.ak) (h9:aL w 1 dK A9 c9 x.rule.ak)
  (h5:x.kind=5→0 < x.ak.length) (s1:Small x.aJ.size) (s2:Small x.aa.size) (s3:Small x.table.size) (t1:Small x.rule.name.size) (t2:Small x.rule.aa.size) (t3:Small x.rule.table.size) (t4:Small x.rule.key.size) :
  Calls Tryz.prog 61 #[.agg #[.slice As o.ae.length ar,.slice At o.tables.length ax],.agg #[.int .i64 x.kind,.string x.aJ,.string x.aa,.string x.table,.string x.name,.string x.role,.slice A6 x.ak.length c6,.string x.rule.name,.int .i64 x.rule.kind,.slice A9 x.rule.ak.length c9,.int .i64 x.rule.low,.int .i64 x.rule.high,.string x.rule.aa,.string x.rule.table,.string x.rule.key,.int .i64 x.right,.bool x.opt]] w (ix w (if x.kind=1 then cR o (dp x.aa x.aJ o) else if x.kind=2 then cR o (cP x.aa o) else if x.kind=3 then cR o (dy ⟨x.aa,x.table,x.aJ,x.ak,[]⟩ o) else if x.kind=5 then cR o (cY o x.aa x.table (eF (dP x))) else if x.kind=6 then cR o (cY o x.aa x.table (eB x.name)) else if x.kind=7 then cR o (cY o x.aa x.table (eo o.tables x.rule)) else cR o (cY o x.aa x.table (dN o.tables x.aa x.table x.name)))):=by
 have l1:w.heap.size < w.heap.size+1:=by omega
 have l2:w.heap.size < w.heap.size+1+1:=by omega
 have l3:w.heap.size < w.heap.size+1+1+1:=by omega
 have l4:w.heap.size+1 < w.heap.size+1+1+1:=by omega
 obtain ⟨W,hW⟩:∃ W,W=((w.alloc (.cells #[.slice As o.ae.length ar,.slice At o.tables.length ax] 25)).alloc (.cells #[.int .i64 x.kind,.string x.aJ,.string x.aa,.string x.table,.string x.name,.string x.role,.slice A6 x.ak.length c6,.string x.rule.name,.int .i64 x.rule.kind,.slice A9 x.rule.ak.length c9,.int .i64 x.rule.low,.int .i64 x.rule.high,.string x.rule.aa,.string x.rule.table,.string x.rule.key,.int .i64 x.right,.bool x.opt] 40)).alloc (.cells #[.slice none 0 0,.slice none 0 0] 25):=⟨_,rfl⟩
 have aW:ag w W:=by rw [hW];exact (((ag.refl w).alloc _).alloc _).alloc _
 have r0:ap W (w.heap.size) [.slice As o.ae.length ar,.slice At o.tables.length ax]:=by rw [hW];exact ap.up (ap.up (bv (ag.refl _) (by simp)))
 have r1:ap W (w.heap.size+1) [.int .i64 x.kind,.string x.aJ,.string x.aa,.string x.table,.string x.name,.string x.role,.slice A6 x.ak.length c6,.string x.rule.name,.int .i64 x.rule.kind,.slice A9 x.rule.ak.length c9,.int .i64 x.rule.low,.int .i64 x.rule.high,.string x.rule.aa,.string x.rule.table,.string x.rule.key,.int .i64 x.right,.bool x.opt]:=by rw [hW];exact ap.up (bv (ag.refl _) (by simp))
 have r2:ap W (w.heap.size+1+1) [.slice none 0 0,.slice none 0 0]:=by rw [hW];exact bv (ag.refl _) (by simp)
 have zW:W.heap.size=w.heap.size+3:=by rw [hW];simp
 have HR:=gH r2;have br:=gH aW;have lc:=gH zW
 have Ri:=gH (show Small (dP x).name.size from by
  unfold dP
  cases hx:x.ak with
  | nil=>exact Nat.zero_le _
  | cons c l =>
   obtain ⟨b,off,cs,hA,hb,hl,hR,hc⟩:=h6.2.2 0 (by rw [hx];simp);have:=hR.2
   simpa [hx] using this)
 have HCE:=gH (show x.kind=5→∃ b off,A6=some ⟨b,off,none⟩∧0 < x.ak.length∧b < w.heap.size∧∀ V,ag W V→V.cell? ⟨b,off,none⟩=some (.string (dP x).name)∧V.cell? ⟨b,off+1,none⟩=some (.int .i64 (dP x).kind)∧V.cell? ⟨b,off+2,none⟩=some (.bool (dP x).null) from fun hk=>by
  have hl0:=h5 hk;have hb:=(show ∃ b off,A6=some ⟨b,off,none⟩∧b < w.heap.size from by obtain ⟨b,off,cs,hA,hb,_⟩:=h6.2.2 0 hl0;exact ⟨b,off,hA,hb⟩);obtain ⟨b0,aaj,vR,hb0⟩:=hb;obtain ⟨b,off,cs,hA,Xx,hl,hR,hc⟩:=(cy aW h6).2.2 0 hl0
  have hb:b < w.heap.size:=by rw [hA] at vR;simp at vR;omega
  have he:dP x=x.ak[0]:=Co x hl0;obtain ⟨rfl,-⟩:=hR;refine ⟨b,off,hA,hl0,hb,fun V a=>?_⟩;rw [he];have q0:=hc 0 (by omega);have q1:=hc 1 (by omega);have q2:=hc 2 (by omega);simp only [Nat.zero_mul,Nat.zero_add,Nat.add_zero] at q0 q1 q2
  exact ⟨a.cell_kept q0,a.cell_kept q1,a.cell_kept q2⟩)
 have HC0:=gH (wO o As ar At ax x.aa x.aJ W (bm aW bS) (aQ aW bB) s2 s1);have yK:=gH (uB o As ar At ax x.aa W (bm aW bS) (aQ aW bB));have xL:=gH (zI o As ar At ax ⟨x.aa,x.table,x.aJ,x.ak,[]⟩ A6 c6 none 0 W (bm aW bS) (aQ aW bB) (cy aW h6) gR s2 s3 s1);have Kf:=gH (show ∀ V,ag W V→Calls Tryz.prog 104 #[.agg #[.slice As o.ae.length ar,.slice At o.tables.length ax],.string x.aa,.string x.table,.agg #[.string (dP x).name,.int .i64 (dP x).kind,.bool (dP x).null]] V (ix V (cR o (cY o x.aa x.table (eF (dP x))))) from fun V a=>wT (dP x).name (dP x).kind (dP x).null o As ar At ax x.aa x.table V (bm (aW.trans a) bS) (aQ (aW.trans a) bB) Ri.out);have HC4:=gH (uE x.name o As ar At ax x.aa x.table W (bm aW bS) (aQ aW bB));have WH:=gH (Cl o As ar At ax x.rule A9 c9 x.aa x.table W (bm aW bS) (aQ aW bB) (h9.az aW fun _ _ h=>h) t1 t2 t3 t4);have HC6:=gH (zL o As ar At ax x.aa x.table x.name W (bm aW bS) (aQ aW bB));have z0:=r0.1;have z1:=r1.1;have z2:=r2.1;have x0:=r0.cell (j:=0) rfl;have x1:=r0.cell (j:=1) rfl;have y0:=r1.cell (j:=0) rfl;have y1:=r1.cell (j:=1) rfl;have y2:=r1.cell (j:=2) rfl;have y3:=r1.cell (j:=3) rfl;have y4:=r1.cell (j:=4) rfl;have y5:=r1.cell (j:=5) rfl;have y6:=r1.cell (j:=6) rfl
 have y7:=r1.cell (j:=7) rfl;have y8:=r1.cell (j:=8) rfl;have y9:=r1.cell (j:=9) rfl;have jq:=r1.cell (j:=10) rfl;have jS:=r1.cell (j:=11) rfl;have jT:=r1.cell (j:=12) rfl;have jU:=r1.cell (j:=13) rfl;have jV:=r1.cell (j:=14) rfl;have jw:=r1.cell (j:=15) rfl;have jx:=r1.cell (j:=16) rfl;clear bS bB h6 h9 h5 aW r0 r1 r2 zW s1 s2 s3 t1 t2 t3 t4;by_cases h1:x.kind=1
 case pos =>
  rw [if_pos h1]
  go_enter Tryz.func61,Tryz.ntmps61
  go_wp2_with fail;rw [h1] at hW;rw [← hW];clear hW;refine HC0.out.mono ?_;rintro e w1 ⟨⟨A1,n1,c1⟩,⟨A2,n2,c2⟩,L,hL,rfl,a1,ob⟩;have row:=HR.out.az a1;have u0:=row.cell (j:=0) rfl;have u1:=row.cell (j:=1) rfl;have uz:=row.1;have f0:=row.2.2 0 (by simp);have f1:=row.2.2 1 (by simp);obtain ⟨F,hF⟩:∃ F,cR o (dp x.aa x.aJ o)=F:=⟨_,rfl⟩;rw [hF] at hL ob ⊢;have HP:=gH (ix.Cp (b:=w.heap.size+1+1) br.out a1 (by omega) (by have:=lc.out;omega) hL ob);have fJ:=gH row;have qR:=gH hF;obtain ⟨⟨F0,F1⟩,F2⟩:=F;simp only [Hd.v];clear ob hL row a1 hF;go_wp2_with fail;refine bodyPost_ret (results_cell_tmp (v:=.agg #[.slice A1 F0.length c1,.slice A2 F1.length c2]) rfl _ rfl (b9 (dg fJ.out rfl _ _))) rfl ?_;rw [qR.out];exact HP.out
 by_cases h2:x.kind=2
 case pos =>
  rw [if_neg h1,if_pos h2]
  go_enter Tryz.func61,Tryz.ntmps61
  go_wp2_with fail;rw [h2] at hW;rw [← hW];clear hW;refine yK.out.mono ?_;rintro e w1 ⟨⟨A1,n1,c1⟩,⟨A2,n2,c2⟩,L,hL,rfl,a1,ob⟩;have row:=HR.out.az a1;have u0:=row.cell (j:=0) rfl;have u1:=row.cell (j:=1) rfl;have uz:=row.1;have f0:=row.2.2 0 (by simp);have f1:=row.2.2 1 (by simp);obtain ⟨F,hF⟩:∃ F,cR o (cP x.aa o)=F:=⟨_,rfl⟩;rw [hF] at hL ob ⊢;have HP:=gH (ix.Cp (b:=w.heap.size+1+1) br.out a1 (by omega) (by have:=lc.out;omega) hL ob);have fJ:=gH row;have qR:=gH hF;obtain ⟨⟨F0,F1⟩,F2⟩:=F;simp only [Hd.v];clear ob hL row a1 hF;go_wp2_with fail;refine bodyPost_ret (results_cell_tmp (v:=.agg #[.slice A1 F0.length c1,.slice A2 F1.length c2]) rfl _ rfl (b9 (dg fJ.out rfl _ _))) rfl ?_;rw [qR.out];exact HP.out
 by_cases h3:x.kind=3
 case pos =>
  rw [if_neg h1,if_neg h2,if_pos h3]
  go_enter Tryz.func61,Tryz.ntmps61
  go_wp2_with fail;rw [h3] at hW;rw [← hW];clear hW;refine xL.out.mono ?_;rintro e w1 ⟨⟨A1,n1,c1⟩,⟨A2,n2,c2⟩,L,hL,rfl,a1,ob⟩;have row:=HR.out.az a1;have u0:=row.cell (j:=0) rfl;have u1:=row.cell (j:=1) rfl;have uz:=row.1;have f0:=row.2.2 0 (by simp);have f1:=row.2.2 1 (by simp);obtain ⟨F,hF⟩:∃ F,cR o (dy ⟨x.aa,x.table,x.aJ,x.ak,[]⟩ o)=F:=⟨_,rfl⟩;rw [hF] at hL ob ⊢;have HP:=gH (ix.Cp (b:=w.heap.size+1+1) br.out a1 (by omega) (by have:=lc.out;omega) hL ob);have fJ:=gH row;have qR:=gH hF;obtain ⟨⟨F0,F1⟩,F2⟩:=F;simp only [Hd.v];clear ob hL row a1 hF;go_wp2_with fail;refine bodyPost_ret (results_cell_tmp (v:=.agg #[.slice A1 F0.length c1,.slice A2 F1.length c2]) rfl _ rfl (b9 (dg fJ.out rfl _ _))) rfl ?_;rw [qR.out];exact HP.out
 by_cases h5:x.kind=5
 case pos =>
  rw [if_neg h1,if_neg h2,if_neg h3,if_pos h5];obtain ⟨g6,o6,rfl,VD,Xy,hc6⟩:=HCE.out h5;have aak:g6 < W.heap.size:=Nat.lt_of_lt_of_le Xy br.out.size;obtain ⟨e0,e1,e2⟩:=hc6 W (ag.refl _);obtain ⟨F,hF⟩:∃ F,cR o (cY o x.aa x.table (eF (dP x)))=F:=⟨_,rfl⟩;have C3:=gH (show ∀ V,ag W V→Calls Tryz.prog 104 #[.agg #[.slice As o.ae.length ar,.slice At o.tables.length ax],.string x.aa,.string x.table,.agg #[.string (dP x).name,.int .i64 (dP x).kind,.bool (dP x).null]] V (ix V F) from hF▸Kf.out);have qR:=gH hF;obtain ⟨⟨F0,F1⟩,F2⟩:=F;clear hF Kf
  go_enter Tryz.func61,Tryz.ntmps61
  go_wp2_with fail;rw [h5] at hW;rw [← hW];clear hW;have HN:=gH (show ¬ w.heap.size=w.heap.size+1+1∧¬ w.heap.size+1=w.heap.size+1+1∧¬ g6=w.heap.size+1+1 from ⟨by omega,by omega,by omega⟩);have KS:=gH (show ∀ V,Kb (fun g=>g=w.heap.size+1+1) W V→(V.cell? ⟨w.heap.size,0,none⟩=some (.slice As o.ae.length ar)∧V.cell? ⟨w.heap.size,1,none⟩=some (.slice At o.tables.length ax)∧V.cell? ⟨w.heap.size+1,2,none⟩=some (.string x.aa)∧V.cell? ⟨w.heap.size+1,3,none⟩=some (.string x.table)∧V.cell? ⟨w.heap.size+1,6,none⟩=some (.slice (some ⟨g6,o6,none⟩) x.ak.length c6)∧V.cell? ⟨g6,o6,none⟩=some (.string (dP x).name)∧V.cell? ⟨g6,o6+1,none⟩=some (.int .i64 (dP x).kind)∧V.cell? ⟨g6,o6+2,none⟩=some (.bool (dP x).null)) from fun V k=>⟨k.cell x0 HN.out.1,k.cell x1 HN.out.1,k.cell y2 HN.out.2.1,k.cell y3 HN.out.2.1,k.cell y6 HN.out.2.1,k.cell e0 HN.out.2.2,k.cell e1 HN.out.2.2,k.cell e2 HN.out.2.2⟩);clear e0 e1 e2 x0 x1 y2 y3 y6
  go_region_held3 (fun V=>V.cell? ⟨w.heap.size,0,none⟩=some (.slice As o.ae.length ar)∧V.cell? ⟨w.heap.size,1,none⟩=some (.slice At o.tables.length ax)∧V.cell? ⟨w.heap.size+1,2,none⟩=some (.string x.aa)∧V.cell? ⟨w.heap.size+1,3,none⟩=some (.string x.table)∧V.cell? ⟨w.heap.size+1,6,none⟩=some (.slice (some ⟨g6,o6,none⟩) x.ak.length c6)∧V.cell? ⟨g6,o6,none⟩=some (.string (dP x).name)∧V.cell? ⟨g6,o6+1,none⟩=some (.int .i64 (dP x).kind)∧V.cell? ⟨g6,o6+2,none⟩=some (.bool (dP x).null))
   ((refine KS.out _ ?_;first
    | with_reducible exact Kb.aH (ag.refl _).drew
    | with_reducible exact Kb.aH a2
    | exact (Kb.aH a2).trans (Kb.set w1 (w.heap.size+1+1) 0 _)
    | exact (Kb.aH a2).trans (lJ w1 (w.heap.size+1+1) _ _)))
   ((go_at_call 104;refine (C3.out _ (ag.refl _).drew).mono ?_;rintro e w1 ⟨⟨A1,n1,c1⟩,⟨A2,n2,c2⟩,L,hL,rfl,a1,ob⟩;have a2:ag W w1:=(ag.refl _).drew.trans a1;have row:=HR.out.az a2;have u0:=row.cell (j:=0) rfl;have u1:=row.cell (j:=1) rfl;have uz:=row.1;have f0:=row.2.2 0 (by simp);have f1:=row.2.2 1 (by simp)))
  have AA:bC w1 W.heap.size ⟨A1,n1,c1⟩ ⟨A2,n2,c2⟩ F0 L:=ob;have HP:=gH (ix.Cp (r:=(⟨F0,F1⟩,F2)) (b:=w.heap.size+1+1) br.out a2 (by omega) (by have:=lc.out;omega) hL AA);have fJ:=gH row;clear ob AA hL row a1 a2;go_wp2_with fail;refine bodyPost_ret (results_cell_tmp (v:=.agg #[.slice A1 F0.length c1,.slice A2 F1.length c2]) rfl _ rfl (b9 (dg fJ.out rfl _ _))) rfl ?_;rw [qR.out];exact HP.out
 by_cases h6:x.kind=6
 case pos =>
  rw [if_neg h1,if_neg h2,if_neg h3,if_neg h5,if_pos h6]
  go_enter Tryz.func61,Tryz.ntmps61
  go_wp2_with fail;rw [h6] at hW;rw [← hW];clear hW;refine HC4.out.mono ?_;rintro e w1 ⟨⟨A1,n1,c1⟩,⟨A2,n2,c2⟩,L,hL,rfl,a1,ob⟩;have row:=HR.out.az a1;have u0:=row.cell (j:=0) rfl;have u1:=row.cell (j:=1) rfl;have uz:=row.1;have f0:=row.2.2 0 (by simp);have f1:=row.2.2 1 (by simp);obtain ⟨F,hF⟩:∃ F,cR o (cY o x.aa x.table (eB x.name))=F:=⟨_,rfl⟩;rw [hF] at hL ob ⊢;have HP:=gH (ix.Cp (b:=w.heap.size+1+1) br.out a1 (by omega) (by have:=lc.out;omega) hL ob);have fJ:=gH row;have qR:=gH hF;obtain ⟨⟨F0,F1⟩,F2⟩:=F;simp only [Hd.v];clear ob hL row a1 hF;go_wp2_with fail;refine bodyPost_ret (results_cell_tmp (v:=.agg #[.slice A1 F0.length c1,.slice A2 F1.length c2]) rfl _ rfl (b9 (dg fJ.out rfl _ _))) rfl ?_;rw [qR.out];exact HP.out
 by_cases h7:x.kind=7
 case pos =>
  rw [if_neg h1,if_neg h2,if_neg h3,if_neg h5,if_neg h6,if_pos h7]
  go_enter Tryz.func61,Tryz.ntmps61
  go_wp2_with fail;rw [h7] at hW;rw [← hW];clear hW;refine WH.out.mono ?_;rintro e w1 ⟨⟨A1,n1,c1⟩,⟨A2,n2,c2⟩,L,hL,rfl,a1,ob⟩;have row:=HR.out.az a1;have u0:=row.cell (j:=0) rfl;have u1:=row.cell (j:=1) rfl;have uz:=row.1;have f0:=row.2.2 0 (by simp);have f1:=row.2.2 1 (by simp);obtain ⟨F,hF⟩:∃ F,cR o (cY o x.aa x.table (eo o.tables x.rule))=F:=⟨_,rfl⟩;rw [hF] at hL ob ⊢;have HP:=gH (ix.Cp (b:=w.heap.size+1+1) br.out a1 (by omega) (by have:=lc.out;omega) hL ob);have fJ:=gH row;have qR:=gH hF;obtain ⟨⟨F0,F1⟩,F2⟩:=F;simp only [Hd.v];clear ob hL row a1 hF;go_wp2_with fail;refine bodyPost_ret (results_cell_tmp (v:=.agg #[.slice A1 F0.length c1,.slice A2 F1.length c2]) rfl _ rfl (b9 (dg fJ.out rfl _ _))) rfl ?_;rw [qR.out];exact HP.out
 rw [if_neg h1,if_neg h2,if_neg h3,if_neg h5,if_neg h6,if_neg h7]
 go_enter Tryz.func61,Tryz.ntmps61
 go_wp2_with fail
 skip
 rw [← hW];clear hW;refine HC6.out.mono ?_;rintro e w1 ⟨⟨A1,n1,c1⟩,⟨A2,n2,c2⟩,L,hL,rfl,a1,ob⟩;have row:=HR.out.az a1;have u0:=row.cell (j:=0) rfl;have u1:=row.cell (j:=1) rfl;have uz:=row.1;have f0:=row.2.2 0 (by simp);have f1:=row.2.2 1 (by simp);obtain ⟨F,hF⟩:∃ F,cR o (cY o x.aa x.table (dN o.tables x.aa x.table x.name))=F:=⟨_,rfl⟩;rw [hF] at hL ob ⊢;have HP:=gH (ix.Cp (b:=w.heap.size+1+1) br.out a1 (by omega) (by have:=lc.out;omega) hL ob);have fJ:=gH row;have qR:=gH hF;obtain ⟨⟨F0,F1⟩,F2⟩:=F;simp only [Hd.v];clear ob hL row a1 hF;go_wp2_with fail;refine bodyPost_ret (results_cell_tmp (v:=.agg #[.slice A1 F0.length c1,.slice A2 F1.length c2]) rfl _ rfl (b9 (dg fJ.out rfl _ _))) rfl ?_;rw [qR.out];exact HP.out
end Go.Proofs.YtmflccbnoeaafaaGreat
