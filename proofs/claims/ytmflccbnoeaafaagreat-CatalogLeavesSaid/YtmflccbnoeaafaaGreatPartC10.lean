import Derived.Test.YtmflccbnoeaafaaGreatPartC9
namespace Go.Proofs.YtmflccbnoeaafaaGreat
open Go.RowKit Go.Deep
set_option maxRecDepth 100000
set_option linter.unusedVariables false
set_option maxHeartbeats 64000000
theorem bp {l m:List Nat} (h:(l++m).Nodup) {g:Nat} (h1:g∈l) (h2:g∈m):False:=(List.nodup_append.1 h).2.2 g h1 g h2 rfl
theorem bC.push {wr w4 w5:World} {B:Nat} {hs ht ju:Hd} {ss:List gj} {L:List ay} {x:ay} (h:bC wr B hs ht ss L) (a4:ag wr w4) (hx:dW w4 wr.heap.size x) (nx:x.bI.Nodup) (hB:B≤wr.heap.size)
  (hg:w4.grownBy w5 ht.v.ownBlock) (ho:w5.ownsRow B 53 5 ju.v (L.length+1) (L.flatMap ay.cells++x.cells)) (hb:∀ g∈ju.blk,g∈ht.blk∨w4.heap.size≤g) (hn:∀ g∈ju.blk,g∉x.bI):bC w5 B hs ju ss (L++[x]):=by
 have k1:Kb (fun g=>ht.v.ownBlock=some g) w4 w5:=Kb.ey hg;have k2:Kb (fun g=>ht.v.ownBlock=some g) wr w5:=(Kb.aH a4).trans k1;have hlt:=h.lt;have nd:=h.nd;have N6:=(List.nodup_append.1 nd).2.1
 have eT:∀ g∈hs.blk,g < wr.heap.size:=fun g hg=>(hlt g (by simp [hg])).2
 have Ev:∀ g∈ht.blk,g < wr.heap.size:=fun g hg=>(hlt g (by simp [hg])).2
 have QZ:∀ g∈L.flatMap ay.bI,g < wr.heap.size:=fun g hg=>(hlt g (by simp only [List.mem_append];exact .inr (.inr hg))).2
 have N7:=hx.lt;have hz:=a4.size;refine ⟨aP h.gQ k2 fun g hg1 hg2=>bp nd (Hd.au.2 hg1) (by simp [Hd.au.2 hg2]),?_,?_,?_⟩
 ·rw [List.length_append,List.flatMap_append]
  simpa using ho
 ·intro y hy
  simp only [List.mem_append,List.mem_singleton] at hy
  rcases hy with hy | rfl
  ·exact (h.each y hy).kb k2 fun g hg1 hg2=>bp N6 (Hd.au.2 hg2) (List.mem_flatMap.2 ⟨y,hy,hg1⟩)
  ·exact (hx.kb k1 fun g hg1 hg2=>by have:=(N7 g hg1).1;have:=Ev g (Hd.au.2 hg2);omega).down hB
 ·rw [List.flatMap_append]
  have hz2:wr.heap.size≤w4.heap.size:=a4.size
  have e:[x].flatMap ay.bI=x.bI:=by simp
  rw [e];refine List.nodup_append.2 ⟨(List.nodup_append.1 nd).1,List.nodup_append.2 ⟨cX _,gy (List.nodup_append.1 N6).2.1 nx QZ (fun g hg=>(N7 g hg).1),?_⟩,?_⟩
  ·intro a ha b hb2 e
   subst e
   rcases List.mem_append.1 hb2 with h1 | h1
   ·rcases hb a ha with h2 | h2
    ·exact bp N6 h2 h1
    ·have:=QZ a h1;omega
   ·exact hn a ha h1
  ·intro a ha b hb2 e
   subst e;have:=eT a ha
   rcases List.mem_append.1 hb2 with h1 | h1
   ·rcases hb a h1 with h2 | h2
    ·exact bp nd ha (by simp [h2])
    ·omega
   ·rcases List.mem_append.1 h1 with h1 | h1
    ·exact bp nd ha (List.mem_append.2 (.inr h1))
    ·have:=(N7 a h1).1;omega
theorem ay.GH {w:World} {B:Nat} {x:ay} {p:cu} (h:dW w B x) (ht:x.t=p):x.cells=[.string p.aa,.string p.name,.string p.owner,.slice x.hc.a p.ak.length x.hc.c,.slice x.hr.a p.rules.length x.hr.c]:=by
 subst ht;unfold ay.cells;rw [bL h.qp,bL h.nw];simp [ay.t]
theorem b9 {W:World} {b:Nat} {a c:Value} (h:ap W b [a,c]):(loadVar 25 ⟨b,0,none⟩).run Tryz.prog W=.ok (.agg #[a,c]) W:=by
 have e0:=h.cell (j:=0) rfl;have e1:=h.cell (j:=1) rfl;have h1:=Ek W b 0 (by rw [e0];rfl) (by rw [e1];rfl);rw [e0,e1] at h1;exact h1
structure GI (w wr:World) (o:bE) (n3:Nat) (hs ht:Hd) (L:List ay) (k:Nat):Prop where
 az:ag w wr
 out:ap wr (w.heap.size+1) [.slice none 0 0,.slice none 0 0]
 box:ap wr n3 [.slice hs.a o.ae.length hs.c,.slice ht.a k ht.c]
 obj:bC wr (w.heap.size+2) hs ht o.ae L
 ne:∀ g∈hs.blk++(ht.blk++L.flatMap ay.bI),g≠n3
 is:L.map ay.t=o.tables.take k
 n3:w.heap.size+2≤n3
 len:L.length=k
theorem GI.step {w wr w4 w5:World} {o:bE} {n3:Nat} {hs ht ju:Hd} {L:List ay} {x:ay} {k:Nat} (s:GI w wr o n3 hs ht L k) (hk:k < o.tables.length) (AD:x.t=o.tables[k]) (a4:ag wr w4) (hx:dW w4 wr.heap.size x) (nx:x.bI.Nodup)
  (hg:w4.grownBy w5 ht.v.ownBlock) (ho:w5.ownsRow (w.heap.size+2) 53 5 ju.v (k+1) (L.flatMap ay.cells++x.cells)) (hb:∀ g∈ju.blk,g∈ht.blk∨w4.heap.size≤g) (hn:∀ g∈ju.blk,g∉x.bI) :
  GI w (w5.setCell ⟨n3,1,none⟩ (.slice ju.a (k+1) ju.c)) o n3 hs ju (L++[x]) (k+1):=by
 have hz:=a4.size;have VW:=hg.size;have uL:=s.n3;have hb3:=s.box.1
 have hzz:w.heap.size+2≤wr.heap.size:=by omega
 have ob:=s.obj.push a4 hx nx hzz hg (by rw [s.len];exact ho) hb hn
 have hne:∀ g∈hs.blk++(ju.blk++(L++[x]).flatMap ay.bI),g≠n3:=by
  intro g Di e;subst e;simp only [List.mem_append,List.flatMap_append] at Di
  rcases Di with h1 | h1 | h1 | h1
  ·exact s.ne g (by simp [h1]) rfl
  ·rcases hb g h1 with h2 | h2
   ·exact s.ne g (by simp [h2]) rfl
   ·omega
  ·exact s.ne g (by simp only [List.mem_append];exact .inr (.inr h1)) rfl
  ·have:=(hx.lt g (by simpa using h1)).1;omega
 have k5:Kb (fun g=>g=n3) w5 (w5.setCell ⟨n3,1,none⟩ (.slice ju.a (k+1) ju.c)):=Kb.set _ _ _ _;have kg:Kb (fun g=>ht.v.ownBlock=some g) w4 w5:=Kb.ey hg
 have Ew:∀ g,ht.v.ownBlock=some g→w.heap.size+2≤g:=fun g h1=>(s.obj.tab.lt g h1).1
 refine ⟨k5.aZ (kg.aZ (s.az.trans a4) (fun g nR h1=>by have:=Ew g h1;omega)) (fun g nR e=>by omega),k5.row (kg.row (s.out.az a4) (fun h1=>by have:=Ew _ h1;omega)) (by omega),?_,ob.kb k5 (fun g Di e=>hne g Di e),hne,?_,uL,by simp [s.len]⟩
 ·have:=(kg.row (s.box.az a4) (fun h1=>s.ne n3 (by simp [Hd.au.2 h1]) rfl)).set 1 (.slice ju.a (k+1) ju.c) (by simp)
  exact this
 ·rw [List.map_append,s.is,List.take_succ_eq_append_getElem hk,← AD];rfl
theorem GJ (o:bE) (As:Option Addr) (ar:Nat) (At:Option Addr) (ax:Nat) (w:World) (bS:aL w 2 fk As ar o.ae) (bB:aL w 5 dA At ax o.tables) (hm:N8 o) :
  Calls Tryz.prog 196 #[.agg #[.slice As o.ae.length ar,.slice At o.tables.length ax]] w (VX w o):=by
 obtain ⟨i0,hi,hz0,hz1,hz2⟩:=info_parts sI;have HI:=gH hi;have qw:=gH hz0;have nS:=gH hz1;have mG:=gH hz2;clear hi hz0 hz1 hz2;have hlen:=bS.len;have fl:=bB.len;have C1:=gH (show ∀ w',ag w w'→_ from fun w' a=>qx As ar o.ae w w' a bS hm.1)
 have l1:w.heap.size < w.heap.size+1:=by omega
 have l2:w.heap.size < w.heap.size+1+1:=by omega
 go_enter Tryz.func196,Tryz.ntmps196
 go_wp2_with fail;refine (C1.out _ (((ag.refl w).alloc _).alloc _)).mono ?_;rintro e w1 ⟨v1,N9,rfl,a1,fo,GK⟩;have r1:ap w1 w.heap.size [.slice As o.ae.length ar,.slice At o.tables.length ax]:=(aO (ag.refl _)).az (((ag.refl _).alloc _).trans a1)
 have r2:ap w1 (w.heap.size+1) [.slice none 0 0,.slice none 0 0]:=by
  have:=(aO (w:=w.alloc (.cells #[.slice As o.ae.length ar,.slice At o.tables.length ax] 25)) (c:=[.slice none 0 0,.slice none 0 0]) (t:=25) (ag.refl _)).az a1
  simpa using this
 have cG:=gH ((((ag.refl w).alloc _).alloc _).trans a1);obtain ⟨Ac,cc,i5⟩:=dw fo;subst i5;rw [qy GK] at fo;have fo:w1.ownsRow (w.heap.size+2) 61 2 (Hd.mk Ac o.ae.length cc).v o.ae.length (o.ae.flatMap iJ):=bV fo (by simp)
 have hz1:w.heap.size+2≤w1.heap.size:=by have:=a1.size;simp at this;omega
 have z0:w.heap.size < w1.heap.size+1:=by omega
 have b1:=r1.cell (j:=1) rfl;have zz:=r1.1;obtain ⟨W1,hW1⟩:∃ W1,W1=w1.alloc (.cells #[.slice Ac o.ae.length cc,.slice none 0 0] 25):=⟨_,rfl⟩
 have J7:ag w1 W1:=by rw [hW1];exact (ag.refl _).alloc _
 have Si:GI w W1 o w1.heap.size ⟨Ac,o.ae.length,cc⟩ ⟨none,0,0⟩ [] 0:=by
  have Dj:=bu fo J7;refine ⟨cG.out.trans J7,r2.az J7,?_,⟨Dj,dl _ _ _ _,fun x hx=>by simp at hx,by simpa [i6] using cX _⟩,fun g hg=>?_,rfl,hz1,rfl⟩
  ·rw [hW1];exact aO (c:=[.slice Ac o.ae.length cc,.slice none 0 0]) (ag.refl _)
  ·have gl:g∈(Hd.mk Ac o.ae.length cc).blk:=by simpa [i6] using hg
   have:=(fV fo g gl).2;omega
 have Ku:=gH Si;have HT:=gH bB;have HM:=gH hm;have q1:=J7.cell_kept b1;have qz:w.heap.size < W1.heap.size:=Nat.lt_of_lt_of_le zz J7.size;clear fo GK a1 r1 r2 Si bB bS hm C1;go_wp2_with fail;rw [← hW1];obtain ⟨n3,uL⟩:∃ n,n=w1.heap.size:=⟨_,rfl⟩;rw [← uL] at Ku ⊢;clear hW1 uL b1 zz z0 hz1 q1 qz J7 cG
 go_loopw [13] (fun i wr=>∃ (k:Nat) (ht:Hd) (L:List ay),k≤o.tables.length∧i=.int .i64 k∧GI w wr o n3 ⟨Ac,o.ae.length,cc⟩ ht L k) (fun i _=>o.tables.length - (intOf i).toNat)
 case atStart=>exact ⟨0,_,[],Nat.zero_le _,rfl,Ku.out⟩
 case round =>
  clear Ku;obtain ⟨k,ht,L,hk,rfl,hs⟩:=hrel;have HS:=gH hs;have z3:=hs.box.1;have k1:=hs.box.cell (j:=1) rfl;have f1:=hs.box.2.2 1 (by simp);by_cases hlt:k < o.tables.length
  ·obtain ⟨b,off,A2,bT,A3,fA,rfl,hb,t0,t1,t2,t3,t4,eA,mf,ur⟩:=jt (aQ hs.az HT.out) hlt
   obtain ⟨p,nZ⟩:∃ p,o.tables[k]=p:=⟨_,rfl⟩;rw [nZ] at t0 t1 t2 t3 t4 eA mf ur;have Gk:=gH nZ;have C:=gH (show ∀ w',ag wr w'→_ from fun w' a=>qA p A2 bT A3 fA w' (cy a eA) (ee a mf) (by have:=HM.out.2.2 p (by rw [← nZ];exact List.getElem_mem hlt);exact this))
   have qY:w.heap.size+2≤wr.heap.size:=by have:=hs.n3;omega
   obtain ⟨J8,nt,ct⟩:=ht;have bB:=hs.obj.tab;rw [hs.len] at bB;have hnt:nt=k:=gm bB;subst hnt;have hown:wr.ownsRow (w.heap.size+2) 53 5 (.slice J8 nt ct) nt (L.flatMap ay.cells):=bB;have AE:=gH hown
   have Oa:(Value.slice J8 nt ct).ownBlock≠some n3:=fun e=>hs.ne n3 (by simp only [List.mem_append];exact .inr (.inl (Hd.au.2 e))) rfl
   have HB:=gH hs.box;clear hs bB hown nZ eA mf;obtain ⟨W,hW⟩:∃ W,W=wr.alloc (.cells #[.string p.aa,.string p.name,.string p.owner,.slice A2 p.ak.length bT,.slice A3 p.rules.length fA] 53):=⟨_,rfl⟩
   have zr3:n3 < wr.heap.size+1:=by omega
   have aW:ag wr W:=by rw [hW];exact (ag.refl _).alloc _
   have rW:ap W wr.heap.size [.string p.aa,.string p.name,.string p.owner,.slice A2 p.ak.length bT,.slice A3 p.rules.length fA]:=by rw [hW];exact aO (ag.refl _)
   have KF:=gH (show ∀ w',Kb (fun g=>(Value.slice J8 nt ct).ownBlock=some g) W w'→(w'.cell? ⟨n3,1,none⟩=some (.slice J8 nt ct)∧w'.cell? ⟨wr.heap.size,0,none⟩=some (.string p.aa)∧w'.cell? ⟨wr.heap.size,1,none⟩=some (.string p.name)∧w'.cell? ⟨wr.heap.size,2,none⟩=some (.string p.owner)∧w'.cell? ⟨wr.heap.size,3,none⟩=some (.slice A2 p.ak.length bT)∧w'.cell? ⟨wr.heap.size,4,none⟩=some (.slice A3 p.rules.length fA)∧w'.frozen? ⟨n3,1,none⟩=false∧n3 < w'.heap.size) from fun w' kb=>by
    have VY:¬ (Value.slice J8 nt ct).ownBlock=some wr.heap.size:=fun e=>by have:=(AE.out.lt _ e).2;omega
    have r':=kb.row rW VY;have r3:=kb.row (HB.out.az aW) Oa
    exact ⟨kb.cell (aW.cell_kept k1) Oa,r'.cell (j:=0) rfl,r'.cell (j:=1) rfl,r'.cell (j:=2) rfl,r'.cell (j:=3) rfl,r'.cell (j:=4) rfl,r3.2.2 1 (by simp),r3.1⟩)
   have br:=gH aW
   have h63:nt+1≤maxLen:=by unfold maxLen;omega
   have hby:(nt+1)*96≤140737488355328:=by have:=HM.out.2.1;omega
   have wz:n3 < W.heap.size:=Nat.lt_of_lt_of_le z3 aW.size;clear Oa rW aW;go_wp2_with fail;rw [← hW];clear hW;obtain ⟨q1,q2,q3,q4,q5,q6,q7,q8⟩:=KF.out _ (Kb.refl _ _)
   go_region_law ((first | (go_simp;go_at_call 44;refine (C.out _ br.out.drew).mono ?_;rintro e w4 ⟨x,AD,rfl,a4,rR,Dk⟩;have a5:ag W w4:=(ag.refl _).drew.trans a4;obtain ⟨p1,p2,p3,p4,p5,p6,p7,p8⟩:=KF.out w4 (Kb.aH a5);dsimp only) | (refine step_append_lies _ (by rfl) _ _ _ (by rfl) (w.heap.size+2) 53 i0 _ 5 96 Tryz.underlying23 HI.out qw.out nS.out mG.out rfl (by omega) (.slice J8 nt ct) nt (L.flatMap ay.cells) (by rfl) ((bu AE.out (br.out.trans a5)).alloc _) ⟨w4.heap.size,0,none⟩ 1 1 [.string p.aa,.string p.name,.string p.owner,.slice x.hc.a p.ak.length x.hc.c,.slice x.hr.a p.rules.length x.hr.c] (by rfl) (by rfl) (World.news_of_block (cs:=#[.string p.aa,.string p.name,.string p.owner,.slice x.hc.a p.ak.length x.hc.c,.slice x.hr.a p.rules.length x.hr.c]) (t:=53) (fr:=(0,0)) (heap_alloc_new w4 _)) (by simp [Value.oneCell']) (by omega) h63 hby (by simp;have:=(br.out.trans a5).size;omega) (w4.heap.size+1) (by simp) ?_;intro gg cap' w5 eX hgrow hat nR;obtain ⟨s1,s2,s3,s4,s5,s6,s7,s8⟩:=KF.out _ ((Kb.aH (a5.alloc _)).trans (Kb.ey hgrow)))))
   all_goals
    have wn:=gH (HS.out.step (ju:=⟨some ⟨gg,0,none⟩,nt+1,cap'⟩) (x:=x) hlt (by rw [AD,Gk.out]) ((br.out.trans a5).alloc _) ((rR.down (by show wr.heap.size≤W.heap.size;exact br.out.size)).az ((ag.refl _).alloc _)) Dk hgrow (by rw [ay.GH rR AD];exact eX)
     (fun g hg=>by
      rw [cM,List.mem_singleton] at hg;subst hg
      rcases hat with h1 | h1
      ·exact .inl (Hd.au.2 h1)
      ·refine .inr ?_
       simp
       omega)
     (fun g hg hx=>by
      rw [cM,List.mem_singleton] at hg;subst hg;have h2:=rR.lt _ hx;have h3:=br.out.size;have h4:W.heap.size≤g:=h2.1
      rcases hat with h1 | h1
      ·have:=(AE.out.lt _ h1).2
       omega
      ·omega))
    clear rR Dk eX hgrow hat nR a5 a4 AD q1 q2 q3 q4 q5 q6 q7 q8 p1 p2 p3 p4 p5 p6 p7 p8 s1 s2 s3 s4 s5 s6 s7 s8;go_wp2_with fail
    go_roundw
    case rel=>exact ⟨nt+1,_,_,by omega,by go_num,wn.out⟩
    case measure=>simp [intOf];omega
  ·have c0:=hs.box.cell (j:=0) rfl
   have d0:=hs.out.cell (j:=0) rfl;have d1:=hs.out.cell (j:=1) rfl;have e0:=hs.out.2.2 0 (by simp);have e1:=hs.out.2.2 1 (by simp);have dz:=hs.out.1;clear hs;go_wp2_with fail
   (try simp only [Exit.inBlock,Exit.then])
   have hs:=HS.out;obtain ⟨F,hF⟩:∃ F,F=(wr.setCell ⟨w.heap.size+1,0,none⟩ (.slice Ac o.ae.length cc)).setCell ⟨w.heap.size+1,1,none⟩ (.slice ht.a k ht.c):=⟨_,rfl⟩
   have kF:Kb (fun x=>x=w.heap.size+1) wr F:=by
    rw [hF];exact (Kb.set _ _ _ _).trans (Kb.set _ _ _ _)
   have rF:ap F (w.heap.size+1) [.slice Ac o.ae.length cc,.slice ht.a k ht.c]:=by
    rw [hF];exact (hs.out.set 0 _ (by simp)).set 1 _ (by simp)
   rw [← hF];refine bodyPost_ret (dv (v:=.agg #[.slice Ac o.ae.length cc,.slice ht.a k ht.c]) rfl _ rfl ?hl) rfl ?_
   case hl=>exact b9 rF
   have Gl:k=o.tables.length:=by omega
   subst Gl;have x8:=hs.is;rw [List.take_of_length_le (Nat.le_refl _)] at x8;refine ⟨⟨Ac,o.ae.length,cc⟩,ht,L,x8,rfl,kF.aZ hs.az (fun x hx e=>by omega),?_⟩;refine bC.down (hs.obj.kb kF fun g hg e=>?_) (by omega);have:=(hs.obj.lt g hg).1;omega
end Go.Proofs.YtmflccbnoeaafaaGreat
namespace Go.Proofs.YtmflccbnoeaafaaGreat
open Go.RowKit
set_option maxRecDepth 100000
set_option linter.unusedVariables false
set_option maxHeartbeats 64000000
def AG (_:World) (cs:List Value) (n:Int):Prop:=cs=[.int .i64 n]
theorem x9 {w w':World} {A:Option Addr} {cap:Nat} {l:List Int} (hw:ag w w') (h:aL w 1 AG A cap l):aL w' 1 AG A cap l:=h.az hw fun _ _ h=>h
theorem GL {w:World} {A:Option Addr} {cap:Nat} {l:List Int} (h:aL w 1 AG A cap l) {k:Nat} (hk:k < l.length) :
  ∃ b off,A=some ⟨b,off,none⟩∧b < w.heap.size∧w.cell? ⟨b,off+k,none⟩=some (.int .i64 l[k]):=by
 obtain ⟨b,off,cs,hA,hb,hl,rfl,hc⟩:=h.2.2 k hk;refine ⟨b,off,hA,hb,?_⟩;have:=hc 0 (by omega)
 simpa using this
theorem ya {w:World} {base:Nat} {e:TypeId} {v:Value} {l:List Int} (h:w.ownsRow base e 1 v l.length (l.map (Value.int .i64))) (hs:Small (l.length*16)):∃ A cap,v=.slice A l.length cap∧aL w 1 AG A cap l:=by
 refine GF (base:=base) (e:=e) (fun n=>[Value.int .i64 n]) AG (fun _=>rfl) ?_ (fun _ _=>rfl) hs
 have e1:l.flatMap (fun n=>[Value.int .i64 n])=l.map (Value.int .i64):=by
  clear h hs
  induction l with
  | nil=>rfl
  | cons x l ih=>simp [List.flatMap_cons,ih]
 rw [e1];exact h
theorem GM {α:Type} (l l2:List α) (k:Nat) (h:k < l.length) (h2:k < l2.length) (hn:¬ l[k]=l2[k]):¬ l=l2:=by
 intro e;subst e;exact hn rfl
theorem Ex {α:Type} (l l2:List α) (hl:l.length=l2.length) (hp:∀ k (h:k < l.length) (h2:k < l2.length),l[k]=l2[k]):l=l2:=List.ext_getElem hl hp
theorem Kv (A:Option Addr) (cap:Nat) (l:List Int) (A2:Option Addr) (bT:Nat) (l2:List Int) (w:World) (h:aL w 1 AG A cap l) (h2:aL w 1 AG A2 bT l2) :
  Calls Tryz.prog 195 #[.slice A l.length cap,.slice A2 l2.length bT] w fun e w'=>e=.returned (.bool (decide (l=l2)))∧ag w w':=by
 have hlen:=h.len;have fl:=h2.len;by_cases hl:l.length=l2.length
 ·have e1:((l.length:Int) != (l2.length:Int))=false:=by simp [hl]
  go_enter Tryz.func195,Tryz.ntmps195
  go_wp2_with fail
  go_loopw [13] (fun i wr=>∃ k:Nat,k≤l.length∧i=.int .i64 k∧ag w wr∧∀ j,j < k→∀ (hj:j < l.length) (qB:j < l2.length),l[j]=l2[j]) (fun i _=>l.length - (intOf i).toNat)
  case atStart=>exact ⟨0,Nat.zero_le _,rfl,ag.refl _,fun j hj=>absurd hj (Nat.not_lt_zero j)⟩
  case round =>
   obtain ⟨k,hk,rfl,ha,hp⟩:=hrel;have HA:=gH ha;have HP:=gH hp;clear hp;by_cases hlt:k < l.length
   ·have jF:k < l2.length:=by omega
    obtain ⟨b,off,rfl,hb,c0⟩:=GL (x9 ha h) hlt;obtain ⟨b2,GN,rfl,hb2,d0⟩:=GL (x9 ha h2) jF;clear ha
    cases heq:(l[k] != l2[k])
    ·have HN:=gH (er (p:=fun j=>∀ (hj:j < l.length) (qB:j < l2.length),l[j]=l2[j]) HP.out (fun _ _=>by simpa using heq))
     go_wp2_with fail;refine av (by kernel_rfl) (by kernel_rfl) ?_
     repeat (go_big_quiet_step (fail))
     refine wpQuiet_nil ?_;intro _ hw';obtain ⟨x,hw''⟩:=hw';subst hw'';go_wp2_with fail
     go_roundw
     case rel=>exact ⟨k+1,by omega,by go_num,HA.out.bH x,HN.out⟩
     case measure=>simp [intOf];omega
    ·have HN:=gH (show ¬ l=l2 from GM l l2 k hlt jF (by simpa using heq))
     go_wp2_with fail;refine av (by kernel_rfl) (by kernel_rfl) ?_
     repeat (go_big_quiet_step (fail))
     refine wpQuiet_nil ?_;intro _ hw';obtain ⟨x,hw''⟩:=hw';subst hw'';go_wp2_with fail;go_ret;exact ⟨by rw [decide_eq_false HN.out];rfl,HA.out.bH x⟩
   ·have HN:=gH (show l=l2 from Ex l l2 hl fun j hj qB=>HP.out j (by omega) hj qB)
    clear ha;go_wp2_with fail;go_ret;exact ⟨by rw [decide_eq_true HN.out];rfl,HA.out⟩
 ·have e1:((l.length:Int) != (l2.length:Int))=true:=by simp;omega
  have HN:=gH (show ¬ l=l2 from fun e=>hl (by rw [e]))
  go_enter Tryz.func195,Tryz.ntmps195
  go_wp2_with fail;go_ret;exact ⟨by rw [decide_eq_false HN.out];rfl,ag.refl _⟩
theorem Small.mono {m n:Nat} (h:Small n) (hm:m≤n):Small m:=Nat.le_trans hm h
theorem qZ {l:List fc} {cs:List ByteArray} (h:Small (cs.length*16)):Small ((cL l cs).length*16):=h.mono (Nat.mul_le_mul_right _ (jX l cs))
theorem Ey {ts:List cu} {l:List fc} {r:gi} (h:bj ts r.aa r.table < 0):mH ts l r=61:=by
 unfold mH;split<;>simp [h]
theorem Ez {ts:List cu} {l:List fc} {r:gi} {q:Nat} (h:bj ts r.aa r.table=q) (hq:q < ts.length):mH ts l r=pz ts[q] l r:=by
 unfold mH;rw [h];simp [List.getElem?_eq_getElem hq];omega
theorem EA {t:cu} {l:List fc} {r:gi} (h:gp t.rules r.key < 0):pz t l r=61:=by
 unfold pz;split<;>simp [h]
theorem EB {t:cu} {l:List fc} {r:gi} {q:Nat} (h:gp t.rules r.key=q) (hq:q < t.rules.length):pz t l r=if t.rules[q].kind==2 then (if eQ l t.ak r.ak t.rules[q].ak then 0 else 63) else 61:=by
 have h0:¬ ((q:Int) < 0):=by omega
 unfold pz;rw [h];simp [List.getElem?_eq_getElem hq,h0]
theorem ag.qC {w w':World} (h:ag w w') {a:Addr} {v:Value} (hc:w.cell? a=some v):w'.cell? a=some v:=(Below.cell h (World.block_lt_of_cell? w a hc)).trans hc
theorem GP {W w w':World} {a b:Addr} {u v:Value} (hS:ag W w∧w.cell? a=some u∧w.cell? b=some v) (h:ag w w'):ag W w'∧w'.cell? a=some u∧w'.cell? b=some v :=
 ⟨hS.1.trans h,h.qC hS.2.1,h.qC hS.2.2⟩
theorem Dl (vs:Value) (At:Option Addr) (ax:Nat) (ts:List cu) (A:Option Addr) (cap:Nat) (l:List fc) (r:gi) (A2:Option Addr) (bT:Nat) (w:World) (ht:aL w 5 dA At ax ts) (h:aL w 3 iv A cap l) (h2:aL w 1 dK A2 bT r.ak) :
  Calls Tryz.prog 126 #[.agg #[vs,.slice At ts.length ax],.slice A l.length cap,.agg #[.string r.name,.int .i64 r.kind,.slice A2 r.ak.length bT,.int .i64 r.low,.int .i64 r.high,.string r.aa,.string r.table,.string r.key]] w
   fun e w'=>e=.returned (.int .i64 (mH ts l r))∧ag w w':=by
 obtain ⟨i,hi⟩:∃ i,bj ts r.aa r.table=i:=⟨_,rfl⟩;have hlen:=ht.len;have fl:=h2.len
 have Cw:=gH (show ∀ w',ag w w'→Calls Tryz.prog 43 #[.agg #[vs,.slice At ts.length ax],.string r.aa,.string r.table] w' fun e w''=>e=.returned (.tuple #[.int .i64 i,.bool (decide (0≤i))])∧ag w' w'' from
  fun w' a=>(jL vs At ax ts r.aa r.table w' (aQ a ht)).mono fun e w'' ⟨he,hw⟩=>⟨he.trans (by rw [← hi]),hw⟩)
 by_cases eU:0≤i
 ·obtain ⟨q,rfl⟩:=Int.eq_ofNat_of_zero_le eU
  have q9:q < ts.length:=by have:=(bg (fun t=>bk t.aa r.aa&&bk t.name r.table) ts).2;unfold bj at hi;omega
  have HE:=gH (Ez (l:=l) hi q9);have dq:decide (0≤(q:Int))=true:=decide_eq_true eU;rw [HE.out];clear HE hi
  go_enter Tryz.func126,Tryz.ntmps126
  go_wp2_with fail;refine (Cw.out _ (((ag.refl w).alloc _).alloc _)).mono ?_;rintro e w1 ⟨rfl,a1⟩;obtain ⟨J9,hbr,hz,HA⟩:=jc a1;have Yy:=aQ HA.out ht;clear a1 Cw;obtain ⟨b,off,B2,uM,B3,uO,rfl,hb,c0,c1,c2,c3,c4,eA,fW,ur⟩:=jt Yy q9;obtain ⟨t,Ob⟩:∃ t,ts[q]=t:=⟨_,rfl⟩;rw [Ob] at c0 c1 c2 c3 c4 eA fW ur;have HT:=gH Ob;clear Ob;have Nb:=fW.len;obtain ⟨k,hk⟩:∃ k,gp t.rules r.key=k:=⟨_,rfl⟩
  have Cb:=gH (show ∀ w',ag w1 w'→Calls Tryz.prog 167 #[.slice B3 t.rules.length uO,.string r.key,.func (.func 168) #[] #[]] w' fun e w''=>e=.returned (.int .i64 k)∧ag w' w'' from
   fun w' a=>(GQ B3 uO t.rules r.key w' (ee a fW)).mono fun e w'' ⟨he,hw⟩=>⟨he.trans (by rw [← hk];rfl),hw⟩)
  clear Yy;go_wp2_with fail;refine (Cb.out _ ((ag.refl w1).alloc _)).mono ?_;rintro e w2 ⟨rfl,a2⟩;obtain ⟨Gm,hft,hzt,aaa,fx⟩:=cJ a2;have GR:=gH (HA.out.trans fx.out)
  have VZ:∀ o,w2.cell? ⟨w.heap.size+1,o,none⟩=_:=fun o=>(Below.cell fx.out (p:=⟨w.heap.size+1,o,none⟩) hz.2).trans (hbr o)
  have hz2:w.heap.size+1 < w2.heap.size:=Nat.lt_of_lt_of_le hz.2 fx.out.size;have Dm:=ee fx.out fW;have V0:=cy fx.out eA;have h02:=cy GR.out h;have V2:=aM GR.out h2;clear a2 Cb J9 hbr c0 c1 c2 c3 c4 fW eA;by_cases xH:0≤k
  ·obtain ⟨m,rfl⟩:=Int.eq_ofNat_of_zero_le xH
   have Oc:m < t.rules.length:=by have:=(bg (fun c=>bk c.name r.key) t.rules).2;unfold gp at hk;omega
   have HE:=gH (EB (l:=l) hk Oc);clear hk;obtain ⟨b3,Kw,D2,uP,rfl,hb3,e0,e1,e2,e3,e4,e5,e6,e7,hcs,Sj⟩:=oD Dm Oc;obtain ⟨p,hp⟩:∃ p,t.rules[m]=p:=⟨_,rfl⟩;rw [hp] at e0 e1 e2 e3 e4 e5 e6 e7 hcs Sj;have HP:=gH hp;clear hp Dm
   cases hk2:(p.kind != 2)
   ·have HV:=gH (show pz ts[q] l r=if eQ l t.ak r.ak p.ak then 0 else 63 by
     have hk3:(p.kind==2)=true:=by simpa using hk2
     rw [HT.out,HE.out,HP.out,if_pos hk3])
    clear HE HT HP;have Sk:=hcs.len;go_wp2_with fail;have q1:w2.cell? ⟨w.heap.size+1,2,none⟩=some (.slice A2 r.ak.length bT):=VZ 2;have q2:w2.cell? ⟨w1.heap.size,3,none⟩=some (.slice B2 t.ak.length uM):=Gm 3
    go_region_held3 (fun w'=>ag w2 w'∧w'.cell? ⟨w.heap.size+1,2,none⟩=some (.slice A2 r.ak.length bT)∧w'.cell? ⟨w1.heap.size,3,none⟩=some (.slice B2 t.ak.length uM))
     (first | exact ⟨(ag.refl _).drew,q1,q2⟩ | exact GP (by assumption) (by assumption))
     ((go_at_call 194;refine (EC _ _ _ _ _ _ _ (cy (And.left (by assumption:ag w2 _∧_)) (by assumption)) (aM (And.left (by assumption:ag w2 _∧_)) (by assumption))).mono ?_;rintro e w4 ⟨v4,rfl,pA,a4⟩;try have V3:=bu (by assumption) a4))
    all_goals
     have jr:=gH (GR.out.trans (And.left (by assumption:ag w2 w4∧_)));have aab:w4.cell? ⟨w.heap.size+1,2,none⟩=some (.slice A2 r.ak.length bT):=(And.left (by assumption:ag w2 w4∧_)).qC q1;obtain ⟨G3,fA,e3,hs3⟩:=ya (w:=w4) (l:=cL l r.ak) (by assumption) (qZ V2.2.1);obtain ⟨G4,wq,e4,Yz⟩:=ya (w:=w4) (l:=cL t.ak p.ak) (by assumption) (qZ hcs.2.1);subst e3;subst e4;have Ce:=gH (Kv G3 fA (cL l r.ak) G4 wq (cL t.ak p.ak) w4 hs3 Yz);have HC:=gH (pB l t.ak r.ak p.ak);have uh:=jX t.ak p.ak;obtain ⟨bq,Do⟩:∃ b,decide (cL l r.ak=cL t.ak p.ak)=b:=⟨_,rfl⟩;rw [Do] at Ce HC;clear V3 pA a4 hs3 Yz Do;by_cases d1:p.ak.length=r.ak.length
     ·have f1:((p.ak.length:Int) != (r.ak.length:Int))=false:=by simp [d1]
      by_cases d2:(cL t.ak p.ak).length=p.ak.length
      ·have f2:(((cL t.ak p.ak).length:Int) != (p.ak.length:Int))=false:=by simp [d2]
       have HR:=gH (show pz ts[q] l r=if bq then 0 else 63 by rw [HV.out,HC.out];simp [d1,d2]);clear HV HC d1 d2
       cases bq
       all_goals
        go_wp2_with fail;refine Ce.out.mono ?_;rintro e w5 ⟨rfl,a5⟩;have qD:=gH (jr.out.trans a5);clear a5;go_wp2_with fail;go_ret;exact ⟨by rw [HR.out];rfl,qD.out⟩
      ·have f2:(((cL t.ak p.ak).length:Int) != (p.ak.length:Int))=true:=by simp;omega
       have HR:=gH (show pz ts[q] l r=63 by rw [HV.out,HC.out];simp [d2]);clear HV HC d1 d2;go_wp2_with fail;go_ret;exact ⟨by rw [HR.out];rfl,jr.out⟩
     ·have f1:((p.ak.length:Int) != (r.ak.length:Int))=true:=by simp;omega
      have HR:=gH (show pz ts[q] l r=63 by rw [HV.out,HC.out];simp [d1]);clear HV HC d1;go_wp2_with fail;go_ret;exact ⟨by rw [HR.out];rfl,jr.out⟩
   ·have HV:=gH (show pz ts[q] l r=61 by
     have hk3:¬ ((p.kind==2)=true):=by simpa using hk2
     rw [HT.out,HE.out,HP.out,if_neg hk3])
    go_wp2_with fail;go_ret;exact ⟨by rw [HV.out];rfl,GR.out⟩
  ·have oF:k < 0:=by omega
   have HE:=gH (EA (l:=l) (by rw [hk];exact oF):pz t l r=61);clear hk;go_wp2_with fail;go_ret;exact ⟨by rw [HT.out,HE.out];rfl,GR.out⟩
 ·have ra:i < 0:=by omega
  have dq:decide (0≤i)=false:=decide_eq_false eU;have HE:=gH (Ey (l:=l) (by rw [hi];exact ra):mH ts l r=61);rw [HE.out];clear HE hi
  go_enter Tryz.func126,Tryz.ntmps126
  go_wp2_with fail;refine (Cw.out _ (((ag.refl w).alloc _).alloc _)).mono ?_;rintro e w1 ⟨rfl,a1⟩;have HA:=gH ((((ag.refl w).alloc _).alloc _).trans a1);clear a1;go_wp2_with fail;go_ret;exact ⟨rfl,HA.out⟩
theorem AH (n1:ByteArray) (k1:Int) (A1:Option Addr) (m1 c1:Nat) (lo1 ra:Int) (s1 t1 y1:ByteArray) (n2:ByteArray) (k2:Int) (A2:Option Addr) (m2 c2:Nat) (lo2 qr:Int) (s2 t2 y2:ByteArray) (w:World) :
  Calls Tryz.prog 128 #[.agg #[.string n1,.int .i64 k1,.slice A1 m1 c1,.int .i64 lo1,.int .i64 ra,.string s1,.string t1,.string y1],.agg #[.string n2,.int .i64 k2,.slice A2 m2 c2,.int .i64 lo2,.int .i64 qr,.string s2,.string t2,.string y2]] w fun e w'=>e=.returned (.int .i64 (bw n1 n2))∧ag w w':=by
 go_enter Tryz.func128,Tryz.ntmps128
 go_wp2_with fail;refine (ik _ _ _).mono ?_;rintro e w1 ⟨rfl,rfl⟩;go_wp2_with fail;go_ret;exact ⟨rfl,((ag.refl w).alloc _).alloc _⟩
theorem AJ (n1 o1 n2 o2:ByteArray) (w:World) :
  Calls Tryz.prog 82 #[.agg #[.string n1,.string o1],.agg #[.string n2,.string o2]] w fun e w'=>e=.returned (.int .i64 (bw n1 n2))∧ag w w':=by
 go_enter Tryz.func82,Tryz.ntmps82
 go_wp2_with fail;refine (ik _ _ _).mono ?_;rintro e w1 ⟨rfl,rfl⟩;go_wp2_with fail;go_ret;exact ⟨rfl,((ag.refl w).alloc _).alloc _⟩
theorem ED (A:Option Addr) (cap:Nat) (l:List gi) (w:World) (h:aL w 8 gI A cap l) :
  Calls Tryz.prog 127 #[.slice A l.length cap,.func (.func 128) #[] #[]] w fun e w'=>e=.returned (.bool (aN (fun a b=>bw a.name b.name) l))∧ag w w' :=
 GS A cap l 128 #[] (fun a b=>bw a.name b.name) w h (enters (P:=Tryz.prog) Tryz.func128 (by kernel_rfl) rfl) fun w' ha i hi e1 e2 h1 h2=>by
  obtain ⟨A1,c1,rfl,_⟩:=h1;obtain ⟨A2,c2,rfl,_⟩:=h2;exact AH _ _ _ _ _ _ _ _ _ _ _ _ _ _ _ _ _ _ _ _ w'
theorem GU (A:Option Addr) (cap:Nat) (l:List gj) (w:World) (h:aL w 2 fk A cap l) :
  Calls Tryz.prog 81 #[.slice A l.length cap,.func (.func 82) #[] #[]] w fun e w'=>e=.returned (.bool (aN (fun a b=>bw a.name b.name) l))∧ag w w' :=
 GV A cap l 82 #[] (fun a b=>bw a.name b.name) w h (enters (P:=Tryz.prog) Tryz.func82 (by kernel_rfl) rfl) fun w' ha i hi=>AJ _ _ _ _ w'
theorem GW (A:Option Addr) (cap:Nat) (l:List cu) (w:World) (h:aL w 5 dA A cap l) :
  Calls Tryz.prog 79 #[.slice A l.length cap,.func (.func 80) #[] #[]] w fun e w'=>e=.returned (.bool (aN (fun a b=>iQ (bw a.aa b.aa) (bw a.name b.name)) l))∧ag w w' :=
 GX A cap l 80 #[] (fun a b=>iQ (bw a.aa b.aa) (bw a.name b.name)) w h (enters (P:=Tryz.prog) Tryz.func80 (by kernel_rfl) rfl) fun w' ha i hi e1 e2 h1 h2=>by
  obtain ⟨A1,c1,B1,d1,rfl,_⟩:=h1;obtain ⟨A2,c2,B2,d2,rfl,_⟩:=h2;exact EE _ _ _ _ _ _ _ _ _ _ w'
theorem EF (o:bE) (t:cu) (As:Option Addr) (ar:Nat) (At:Option Addr) (ax:Nat) (A:Option Addr) (cap:Nat) (A2:Option Addr) (bT:Nat) (w:World) (bS:aL w 2 fk As ar o.ae) (bB:aL w 5 dA At ax o.tables)
  (h:aL w 3 iv A cap t.ak) (h2:aL w 8 gI A2 bT t.rules) (hn:Small t.name.size) (ho:Small t.owner.size) :
  Calls Tryz.prog 85 #[.agg #[.slice As o.ae.length ar,.slice At o.tables.length ax],.agg #[.string t.aa,.string t.name,.string t.owner,.slice A t.ak.length cap,.slice A2 t.rules.length bT]] w
   fun e w'=>e=.returned (.bool (dB o t))∧ag w w':=by
 have fl:=h2.len
 cases hN:bP t.name
 ·have HF:=gH (show dB o t=false by simp [dB,hN])
  go_enter Tryz.func85,Tryz.ntmps85
  go_wp2_with (go_at_call 38;refine (cz _ _ (by first | exact hn.max | exact ho.max)).mono ?_;rintro e w' ⟨rfl,rfl⟩)
  go_ret;exact ⟨by rw [HF.out];rfl,((ag.refl _).alloc _).alloc _⟩
 cases hO:bP t.owner
 ·have HF:=gH (show dB o t=false by simp [dB,hO])
  go_enter Tryz.func85,Tryz.ntmps85
  go_wp2_with (go_at_call 38;refine (cz _ _ (by first | exact hn.max | exact ho.max)).mono ?_;rintro e w' ⟨rfl,rfl⟩)
  go_ret;exact ⟨by rw [HF.out];rfl,((ag.refl _).alloc _).alloc _⟩
 have je:=gH (show dB o t=(fp t.ak&&decide (t.rules.length≤8)&&decide (0≤cE o.ae t.aa)&&(t.rules.all (iR o.tables t.ak)&&aN (fun a b=>bw a.name b.name) t.rules)) by simp [dB,hN,hO]);obtain ⟨m,hm⟩:∃ m,fp t.ak=m:=⟨_,rfl⟩;rw [hm] at je
 have Cm:=gH (show ∀ w',ag w w'→Calls Tryz.prog 122 #[.slice A t.ak.length cap] w' fun e w''=>e=.returned (.bool m)∧ag w' w'' from
  fun w' a=>(rf A cap t.ak w' (cy a h)).mono fun e w'' ⟨he,hw⟩=>⟨he.trans (by rw [← hm]),hw⟩)
 clear hm
 go_enter Tryz.func85,Tryz.ntmps85
 go_wp2_with (go_at_call 38;refine (cz _ _ (by first | exact hn.max | exact ho.max)).mono ?_;rintro e w' ⟨rfl,rfl⟩)
 refine (Cm.out _ (((ag.refl w).alloc _).alloc _)).mono ?_;rintro e w1 ⟨rfl,a1⟩;obtain ⟨J9,Gm,hz,HA⟩:=jc a1;have mg:=gH a1;clear a1 Cm
 cases m
 ·have HF:=gH (show dB o t=false by rw [je.out];rfl)
  go_wp2_with fail;go_ret;exact ⟨by rw [HF.out];rfl,HA.out⟩
 by_cases h8:8 < t.rules.length
 ·have HF:=gH (show dB o t=false by rw [je.out,decide_eq_false (by omega)];rfl)
  have Va:(8:Int) < (t.rules.length:Int):=by omega
  go_wp2_with fail;go_ret;exact ⟨by rw [HF.out];rfl,HA.out⟩
 have Va:(t.rules.length:Int)≤8:=by omega
 have d8:decide ((8:Int) < (t.rules.length:Int))=false:=decide_eq_false (by omega);have qs:=gH (show dB o t=(decide (0≤cE o.ae t.aa)&&(t.rules.all (iR o.tables t.ak)&&aN (fun a b=>bw a.name b.name) t.rules)) by rw [je.out,decide_eq_true (show t.rules.length≤8 by omega)];rfl);clear je;obtain ⟨i,hi⟩:∃ i,cE o.ae t.aa=i:=⟨_,rfl⟩;rw [hi] at qs
 have Cs:=gH (show ∀ w',ag w w'→Calls Tryz.prog 123 #[.slice As o.ae.length ar,.string t.aa,.func (.func 124) #[] #[]] w' fun e w''=>e=.returned (.int .i64 i)∧ag w' w'' from
  fun w' a=>(Dp As ar o.ae t.aa w' (bm a bS)).mono fun e w'' ⟨he,hw⟩=>⟨he.trans (by rw [← hi];rfl),hw⟩)
 clear hi;go_wp2_with fail;refine (Cs.out _ HA.out).mono ?_;rintro e w2 ⟨rfl,a2⟩;have yb:=gH (mg.out.trans a2);clear a2 Cs HA mg J9 Gm hz;obtain ⟨J9,Gm,hz,HA⟩:=jc yb.out;by_cases eU:i < 0
 ·have HF:=gH (show dB o t=false by rw [qs.out,decide_eq_false (by omega)];rfl)
  go_wp2_with fail;go_ret;exact ⟨by rw [HF.out];rfl,HA.out⟩
 have ra:0≤i:=by omega
 have mB:=gH (show dB o t=(t.rules.all (iR o.tables t.ak)&&aN (fun a b=>bw a.name b.name) t.rules) by rw [qs.out,decide_eq_true ra];rfl);clear qs;go_wp2_with fail
 go_loopw [40] (fun i wr=>∃ k:Nat,k≤t.rules.length∧i=.int .i64 k∧ag ((w.alloc (.cells #[.slice As o.ae.length ar,.slice At o.tables.length ax] 25)).alloc (.cells #[.string t.aa,.string t.name,.string t.owner,.slice A t.ak.length cap,.slice A2 t.rules.length bT] 53)) wr∧∀ j,j < k→∀ (hj:j < t.rules.length),iR o.tables t.ak t.rules[j]=true) (fun i _=>t.rules.length - (intOf i).toNat)
 case atStart=>exact ⟨0,Nat.zero_le _,rfl,yb.out,fun j hj=>absurd hj (Nat.not_lt_zero j)⟩
 case round =>
  clear J9 Gm hz HA yb;obtain ⟨k,hk,rfl,ha,hp⟩:=hrel;obtain ⟨J9,Gm,hz,HA⟩:=jc ha;have mg:=gH ha;have HP:=gH hp;clear hp ha;by_cases hlt:k < t.rules.length
  ·have hr:=ee HA.out h2
   obtain ⟨b,off,D2,uP,rfl,hb,c0,c1,c2,c3,c4,c5,c6,c7,hcs,s0,s1,s2,s3⟩:=oD hr hlt;obtain ⟨p,nZ⟩:∃ p,t.rules[k]=p:=⟨_,rfl⟩;rw [nZ] at c0 c1 c2 c3 c4 c5 c6 c7 hcs s0 s1 s2 s3;have Gk:=gH nZ;obtain ⟨f,hf⟩:∃ f,dS t.ak p=f:=⟨_,rfl⟩;obtain ⟨z,hz'⟩:∃ z,mH o.tables t.ak p=z:=⟨_,rfl⟩;have HO:=gH (show iR o.tables t.ak t.rules[k]=(f&&!(p.kind==4&&z != 0)) by rw [nZ];unfold iR;rw [hf,hz'])
   have Cf:=gH (show ∀ w',ag wr w'→Calls Tryz.prog 125 #[.slice A t.ak.length cap,.agg #[.string p.name,.int .i64 p.kind,.slice D2 p.ak.length uP,.int .i64 p.low,.int .i64 p.high,.string p.aa,.string p.table,.string p.key]] w' fun e w''=>e=.returned (.bool f)∧ag w' w'' from
    fun w' a=>(yc A cap t.ak p D2 uP w' (cy (HA.out.trans a) h) (aM a hcs) s0 s1 s2 s3).mono fun e w'' ⟨he,hw⟩=>⟨he.trans (by rw [← hf]),hw⟩)
   have Ck:=gH (show ∀ w',ag wr w'→Calls Tryz.prog 126 #[.agg #[.slice As o.ae.length ar,.slice At o.tables.length ax],.slice A t.ak.length cap,.agg #[.string p.name,.int .i64 p.kind,.slice D2 p.ak.length uP,.int .i64 p.low,.int .i64 p.high,.string p.aa,.string p.table,.string p.key]] w' fun e w''=>e=.returned (.int .i64 z)∧ag w' w'' from
    fun w' a=>(Dl _ At ax o.tables A cap t.ak p D2 uP w' (aQ (HA.out.trans a) bB) (cy (HA.out.trans a) h) (aM a hcs)).mono fun e w'' ⟨he,hw⟩=>⟨he.trans (by rw [← hz']),hw⟩)
   clear hf hz' nZ hr hcs Gk;go_wp2_with fail;refine (Cf.out _ ((ag.refl wr).alloc _)).mono ?_;rintro e w3 ⟨rfl,a3⟩;obtain ⟨hbr,mC,qY,aac,iw⟩:=cJ a3
   have V4:∀ o',w3.cell? ⟨w.heap.size,o',none⟩=_:=fun o'=>(Below.cell iw.out (p:=⟨w.heap.size,o',none⟩) hz.1).trans (J9 o')
   have V5:∀ o',w3.cell? ⟨w.heap.size+1,o',none⟩=_:=fun o'=>(Below.cell iw.out (p:=⟨w.heap.size+1,o',none⟩) hz.2).trans (Gm o')
   have hz3:w.heap.size < w3.heap.size∧w.heap.size+1 < w3.heap.size:=⟨Nat.lt_of_lt_of_le hz.1 iw.out.size,Nat.lt_of_lt_of_le hz.2 iw.out.size⟩;clear a3 Cf J9 Gm c0 c1 c2 c3 c4 c5 c6 c7
   cases f
   ·have HF:=gH (show dB o t=false by rw [mB.out,all_false _ _ k hlt (by rw [HO.out];rfl)];rfl)
    go_wp2_with fail;go_ret;exact ⟨by rw [HF.out];rfl,HA.out.trans iw.out⟩
   cases h4:(p.kind==4)
   ·have HN:=gH (er (p:=fun j=>∀ (hj:j < t.rules.length),iR o.tables t.ak t.rules[j]=true) HP.out (fun _=>by rw [HO.out,h4];rfl))
    go_wp2_with fail
    go_roundw
    case rel=>exact ⟨k+1,by omega,by go_num,mg.out.trans iw.out,HN.out⟩
    case measure=>simp [intOf];omega
   ·go_wp2_with fail
    refine (Ck.out _ iw.out).mono ?_;rintro e w4 ⟨rfl,a4⟩;have jr:=gH (iw.out.trans a4);clear a4 Ck V4 V5 hbr
    cases z0:(z != 0)
    ·have HN:=gH (er (p:=fun j=>∀ (hj:j < t.rules.length),iR o.tables t.ak t.rules[j]=true) HP.out (fun _=>by rw [HO.out,h4,z0];rfl))
     go_wp2_with fail
     go_roundw
     case rel=>exact ⟨k+1,by omega,by go_num,mg.out.trans jr.out,HN.out⟩
     case measure=>simp [intOf];omega
    ·have HF:=gH (show dB o t=false by rw [mB.out,all_false _ _ k hlt (by rw [HO.out,h4,z0];rfl)];rfl)
     go_wp2_with fail;go_ret;exact ⟨by rw [HF.out];rfl,HA.out.trans jr.out⟩
  ·have HF:=gH (show dB o t=aN (fun a b=>bw a.name b.name) t.rules by rw [mB.out,all_true _ _ fun j hj=>HP.out j (by omega) hj];rfl)
   have Cr:=gH (ED A2 bT t.rules wr (ee HA.out h2));go_wp2_with fail;refine Cr.out.mono ?_;rintro e w3 ⟨rfl,a3⟩;have iw:=gH (HA.out.trans a3);clear a3;go_wp2_with fail;go_ret;exact ⟨by rw [HF.out];rfl,iw.out⟩
def eK (o:bE):Int:=if bF o then 0 else 63
theorem lg (o:bE) (As:Option Addr) (ar:Nat) (At:Option Addr) (ax:Nat) (w:World) (bS:aL w 2 fk As ar o.ae) (bB:aL w 5 dA At ax o.tables) :
  Calls Tryz.prog 42 #[.agg #[.slice As o.ae.length ar,.slice At o.tables.length ax]] w
   fun e w'=>e=.returned (.int .i64 (eK o))∧ag w w':=by
 have hlen:=bS.len;have fl:=bB.len;by_cases d1:8 < o.ae.length
 ·have HF:=gH (show eK o=63 by simp [eK,bF,oG,show ¬ o.ae.length≤8 by omega])
  have e1:¬ ((o.ae.length:Int)≤8):=by omega
  have Od:decide ((o.ae.length:Int)≤8)=false:=decide_eq_false e1
  go_enter Tryz.func42,Tryz.ntmps42
  go_wp2_with fail
  go_loopw [3,4] (fun ok i wr=>ok=.bool false∧i=.int .i64 0∧ag (w.alloc (.cells #[.slice As o.ae.length ar,.slice At o.tables.length ax] 25)) wr) (fun _ _ _=>0)
  case atStart=>exact ⟨rfl,rfl,ag.refl _⟩
  case round =>
   obtain ⟨rfl,rfl,ha⟩:=hrel;have gN:=gH ha;clear ha;go_wp2_with fail
   go_loopw [3,6] (fun ok i wr=>ok=.bool false∧i=.int .i64 0∧ag (w.alloc (.cells #[.slice As o.ae.length ar,.slice At o.tables.length ax] 25)) wr) (fun _ _ _=>0)
   case atStart=>exact ⟨rfl,rfl,gN.out⟩
   case round =>
    obtain ⟨rfl,rfl,ha⟩:=hrel;have jG:=gH ha;clear ha;go_wp2_with fail;go_ret;exact ⟨by rw [HF.out];rfl,((ag.refl w).alloc _).trans jG.out⟩
 have e1:(o.ae.length:Int)≤8:=by omega
 have Od:decide ((o.ae.length:Int)≤8)=true:=decide_eq_true e1;by_cases d2:64 < o.tables.length
 ·have HF:=gH (show eK o=63 by simp [eK,bF,oG,show ¬ o.tables.length≤64 by omega])
  have e2:¬ ((o.tables.length:Int)≤64):=by omega
  have Ka:decide ((o.tables.length:Int)≤64)=false:=decide_eq_false e2
  go_enter Tryz.func42,Tryz.ntmps42
  go_wp2_with fail
  go_loopw [3,4] (fun ok i wr=>ok=.bool false∧i=.int .i64 0∧ag (w.alloc (.cells #[.slice As o.ae.length ar,.slice At o.tables.length ax] 25)) wr) (fun _ _ _=>0)
  case atStart=>exact ⟨rfl,rfl,ag.refl _⟩
  case round =>
   obtain ⟨rfl,rfl,ha⟩:=hrel;have gN:=gH ha;clear ha;go_wp2_with fail
   go_loopw [3,6] (fun ok i wr=>ok=.bool false∧i=.int .i64 0∧ag (w.alloc (.cells #[.slice As o.ae.length ar,.slice At o.tables.length ax] 25)) wr) (fun _ _ _=>0)
   case atStart=>exact ⟨rfl,rfl,gN.out⟩
   case round =>
    obtain ⟨rfl,rfl,ha⟩:=hrel;have jG:=gH ha;clear ha;go_wp2_with fail;go_ret;exact ⟨by rw [HF.out];rfl,((ag.refl w).alloc _).trans jG.out⟩
 have e2:(o.tables.length:Int)≤64:=by omega
 have Ka:decide ((o.tables.length:Int)≤64)=true:=decide_eq_true e2;obtain ⟨g1,hg1⟩:∃ g,aN (fun a b=>iQ (bw a.aa b.aa) (bw a.name b.name)) o.tables=g:=⟨_,rfl⟩;obtain ⟨g2,hg2⟩:∃ g,aN (fun a b=>bw a.name b.name) o.ae=g:=⟨_,rfl⟩;have HR:=gH (show eK o=if (g1&&g2&&(o.ae.all (pC o)&&o.tables.all (dB o))) then 0 else 63 by simp [eK,bF,oG,hg1,hg2,show o.ae.length≤8 by omega,show o.tables.length≤64 by omega])
 have C1:=gH (show ∀ w',ag w w'→Calls Tryz.prog 79 #[.slice At o.tables.length ax,.func (.func 80) #[] #[]] w' fun e w''=>e=.returned (.bool g1)∧ag w' w'' from
  fun w' a=>(GW At ax o.tables w' (aQ a bB)).mono fun e w'' ⟨he,hw⟩=>⟨he.trans (by rw [← hg1]),hw⟩)
 have C2:=gH (show ∀ w',ag w w'→Calls Tryz.prog 81 #[.slice As o.ae.length ar,.func (.func 82) #[] #[]] w' fun e w''=>e=.returned (.bool g2)∧ag w' w'' from
  fun w' a=>(GU As ar o.ae w' (bm a bS)).mono fun e w'' ⟨he,hw⟩=>⟨he.trans (by rw [← hg2]),hw⟩)
 clear hg1 hg2
 go_enter Tryz.func42,Tryz.ntmps42
 go_wp2_with fail;refine (C1.out _ ((ag.refl w).alloc _)).mono ?_;rintro e w1 ⟨rfl,a1⟩;obtain ⟨gv,mC,hz,qu,HA⟩:=cJ a1;have mg:=gH a1;clear a1 C1
 cases g1
 ·have HF:=gH (show eK o=63 by rw [HR.out];rfl)
  go_wp2_with fail
  go_loopw [3,4] (fun ok i wr=>ok=.bool false∧i=.int .i64 0∧ag (w.alloc (.cells #[.slice As o.ae.length ar,.slice At o.tables.length ax] 25)) wr) (fun _ _ _=>0)
  case atStart=>exact ⟨rfl,rfl,mg.out⟩
  case round =>
   obtain ⟨rfl,rfl,ha⟩:=hrel;have gN:=gH ha;clear ha;go_wp2_with fail
   go_loopw [3,6] (fun ok i wr=>ok=.bool false∧i=.int .i64 0∧ag (w.alloc (.cells #[.slice As o.ae.length ar,.slice At o.tables.length ax] 25)) wr) (fun _ _ _=>0)
   case atStart=>exact ⟨rfl,rfl,gN.out⟩
   case round =>
    obtain ⟨rfl,rfl,ha⟩:=hrel;have jG:=gH ha;clear ha;go_wp2_with fail;go_ret;exact ⟨by rw [HF.out];rfl,((ag.refl w).alloc _).trans jG.out⟩
 go_wp2_with fail;refine (C2.out _ HA.out).mono ?_;rintro e w2 ⟨rfl,a2⟩;have yb:=gH (mg.out.trans a2);clear a2 C2 mg HA gv mC hz qu;obtain ⟨gv,mC,hz,qu,HA⟩:=cJ yb.out
 cases g2
 ·have HF:=gH (show eK o=63 by rw [HR.out];rfl)
  go_wp2_with fail
  go_loopw [3,4] (fun ok i wr=>ok=.bool false∧i=.int .i64 0∧ag (w.alloc (.cells #[.slice As o.ae.length ar,.slice At o.tables.length ax] 25)) wr) (fun _ _ _=>0)
  case atStart=>exact ⟨rfl,rfl,yb.out⟩
  case round =>
   obtain ⟨rfl,rfl,ha⟩:=hrel;have gN:=gH ha;clear ha;go_wp2_with fail
   go_loopw [3,6] (fun ok i wr=>ok=.bool false∧i=.int .i64 0∧ag (w.alloc (.cells #[.slice As o.ae.length ar,.slice At o.tables.length ax] 25)) wr) (fun _ _ _=>0)
   case atStart=>exact ⟨rfl,rfl,gN.out⟩
   case round =>
    obtain ⟨rfl,rfl,ha⟩:=hrel;have jG:=gH ha;clear ha;go_wp2_with fail;go_ret;exact ⟨by rw [HF.out];rfl,((ag.refl w).alloc _).trans jG.out⟩
 have mB:=gH (show eK o=if (o.ae.all (pC o)&&o.tables.all (dB o)) then 0 else 63 by rw [HR.out];rfl);clear HR;go_wp2_with fail
 go_loopw [3,4] (fun ok i wr=>∃ (k:Nat) (b:Bool),k≤o.ae.length∧i=.int .i64 k∧ok=.bool b∧ag (w.alloc (.cells #[.slice As o.ae.length ar,.slice At o.tables.length ax] 25)) wr∧(b=true→∀ j,j < k→∀ (hj:j < o.ae.length),pC o o.ae[j]=true)∧(b=false→eK o=63)) (fun ok i _=>o.ae.length - (intOf i).toNat)
 case atStart=>exact ⟨0,true,Nat.zero_le _,rfl,rfl,yb.out,fun _ j hj=>absurd hj (Nat.not_lt_zero j),fun h=>by cases h⟩
 case round =>
  clear gv mC hz qu HA yb;obtain ⟨k,b,hk,rfl,rfl,ha,hp,hq⟩:=hrel;obtain ⟨gv,mC,hz,qu,HA⟩:=cJ ha;have mg:=gH ha;clear ha
  cases b
  ·have HF:=gH (hq rfl)
   clear hp hq;go_wp2_with fail
   go_loopw [3,6] (fun ok i wr=>ok=.bool false∧i=.int .i64 0∧ag (w.alloc (.cells #[.slice As o.ae.length ar,.slice At o.tables.length ax] 25)) wr) (fun _ _ _=>0)
   case atStart=>exact ⟨rfl,rfl,mg.out⟩
   case round =>
    obtain ⟨rfl,rfl,ha⟩:=hrel;have jG:=gH ha;clear ha;go_wp2_with fail;go_ret;exact ⟨by rw [HF.out];rfl,((ag.refl w).alloc _).trans jG.out⟩
  have HP:=gH (hp rfl);clear hp hq;by_cases hlt:k < o.ae.length
  ·have ur:=bm HA.out bS
   obtain ⟨b,off,rfl,hb,c0,c1,s0,s1⟩:=oC ur hlt;obtain ⟨p,nZ⟩:∃ p,o.ae[k]=p:=⟨_,rfl⟩;rw [nZ] at c0 c1 s0 s1;have HO:=gH (show pC o o.ae[k]=(bP p.name&&bP p.owner&&decide (within o.tables p.name≤8)) by rw [nZ];rfl);clear nZ ur
   cases hN:bP p.name
   ·have HF:=gH (show eK o=63 by rw [mB.out,all_false _ _ k hlt (by rw [HO.out,hN];rfl)];rfl)
    go_wp2_with (go_at_call 38;refine (cz _ _ (by first | exact s0.max | exact s1.max)).mono ?_;rintro e w' ⟨rfl,rfl⟩)
    go_roundw
    case rel=>exact ⟨k+1,false,by omega,by go_num,rfl,mg.out.alloc _,(fun h=>by cases h),fun _=>HF.out⟩
    case measure=>simp [intOf];omega
   cases hO:bP p.owner
   ·have HF:=gH (show eK o=63 by rw [mB.out,all_false _ _ k hlt (by rw [HO.out,hN,hO];rfl)];rfl)
    go_wp2_with (go_at_call 38;refine (cz _ _ (by first | exact s0.max | exact s1.max)).mono ?_;rintro e w' ⟨rfl,rfl⟩)
    go_roundw
    case rel=>exact ⟨k+1,false,by omega,by go_num,rfl,mg.out.alloc _,(fun h=>by cases h),fun _=>HF.out⟩
    case measure=>simp [intOf];omega
   obtain ⟨n,hn⟩:∃ n,within o.tables p.name=n:=⟨_,rfl⟩
   have Cw:=gH (show ∀ w',ag w w'→Calls Tryz.prog 84 #[.agg #[.slice (some ⟨b,off,none⟩) o.ae.length ar,.slice At o.tables.length ax],.string p.name] w' fun e w''=>e=.returned (.int .i64 n)∧ag w' w'' from
    fun w' a=>(oH _ At ax o.tables p.name w' (aQ a bB)).mono fun e w'' ⟨he,hw⟩=>⟨he.trans (by rw [← hn]),hw⟩)
   have Vb:=gH (show pC o o.ae[k]=decide (n≤8) by rw [HO.out,hN,hO,hn];rfl);clear HO hn
   go_wp2_with (go_at_call 38;refine (cz _ _ (by first | exact s0.max | exact s1.max)).mono ?_;rintro e w' ⟨rfl,rfl⟩)
   refine (Cw.out _ (HA.out.alloc _)).mono ?_;rintro e w3 ⟨rfl,a3⟩;have Sl:=gH ((mg.out.alloc _).trans a3);clear a3 Cw;by_cases h8:n≤8
   ·have Va:(n:Int)≤8:=by omega
    have HN:=gH (er (p:=fun j=>∀ (hj:j < o.ae.length),pC o o.ae[j]=true) HP.out (fun _=>by rw [Vb.out];exact decide_eq_true h8));go_wp2_with fail
    go_roundw
    case rel=>exact ⟨k+1,true,by omega,by go_num,by simp,Sl.out,fun _=>HN.out,fun h=>by cases h⟩
    case measure=>simp [intOf];omega
   ·have Va:¬ (n:Int)≤8:=by omega
    have HF:=gH (show eK o=63 by rw [mB.out,all_false _ _ k hlt (by rw [Vb.out];exact decide_eq_false h8)];rfl);go_wp2_with fail
    go_roundw
    case rel=>exact ⟨k+1,false,by omega,by go_num,by simp [Va],Sl.out,(fun h=>by cases h),fun _=>HF.out⟩
    case measure=>simp [intOf];omega
  have ny:=gH (show eK o=if o.tables.all (dB o) then 0 else 63 by rw [mB.out,all_true _ _ fun j hj=>HP.out j (by omega) hj];rfl);clear HP mB;go_wp2_with fail
  go_loopw [3,6] (fun ok i wr=>∃ (k:Nat) (b:Bool),k≤o.tables.length∧i=.int .i64 k∧ok=.bool b∧ag (w.alloc (.cells #[.slice As o.ae.length ar,.slice At o.tables.length ax] 25)) wr∧(b=true→∀ j,j < k→∀ (hj:j < o.tables.length),dB o o.tables[j]=true)∧(b=false→eK o=63)) (fun ok i _=>o.tables.length - (intOf i).toNat)
  case atStart=>exact ⟨0,true,Nat.zero_le _,rfl,rfl,mg.out,fun _ j hj=>absurd hj (Nat.not_lt_zero j),fun h=>by cases h⟩
  case round =>
   clear gv mC hz qu HA mg;obtain ⟨k2,b,hk2,rfl,rfl,ha,hp,hq⟩:=hrel;obtain ⟨gv,mC,hz,qu,HA⟩:=cJ ha;have mg:=gH ha;clear ha
   cases b
   ·have HF:=gH (hq rfl)
    clear hp hq;go_wp2_with fail;go_ret;exact ⟨by rw [HF.out];rfl,HA.out⟩
   have HP:=gH (hp rfl);clear hp hq;by_cases jF:k2 < o.tables.length
   ·have V6:=aQ HA.out bB
    have ur:=bm HA.out bS;obtain ⟨b,off,B2,uM,B3,uO,rfl,hb,c0,c1,c2,c3,c4,eA,fW,s0,s1,s2⟩:=jt V6 jF;obtain ⟨p,nZ⟩:∃ p,o.tables[k2]=p:=⟨_,rfl⟩;rw [nZ] at c0 c1 c2 c3 c4 eA fW s0 s1 s2;obtain ⟨f,hf⟩:∃ f,dB o p=f:=⟨_,rfl⟩;have HO:=gH (show dB o o.tables[k2]=f by rw [nZ];exact hf)
    have Cr:=gH (show ∀ x:ii wr,Calls Tryz.prog 85 #[.agg #[.slice As o.ae.length ar,.slice (some ⟨b,off,none⟩) o.tables.length ax],.agg #[.string p.aa,.string p.name,.string p.owner,.slice B2 p.ak.length uM,.slice B3 p.rules.length uO]] (bH wr x) fun e w'=>e=.returned (.bool f)∧ag (bH wr x) w' from
     fun x=>(EF o p As ar _ ax B2 uM B3 uO (bH wr x) (bm ((ag.refl wr).bH x) ur) (aQ ((ag.refl wr).bH x) V6) (cy ((ag.refl wr).bH x) eA) (ee ((ag.refl wr).bH x) fW) s1 s2).mono fun e w'' ⟨he,hw⟩=>⟨he.trans (by rw [← hf]),hw⟩)
    clear hf nZ V6 ur eA fW;go_wp2_with fail;refine av (by kernel_rfl) (by kernel_rfl) ?_
    repeat (go_big_quiet_step ((first | (go_at_call 85;exact Calls.bD (Cr.out _)))))
    refine wpQuiet_nil ?_;intro _ hw';obtain ⟨x,hw''⟩:=hw';subst hw''
    cases f
    ·have HF:=gH (show eK o=63 by rw [ny.out,all_false _ _ k2 jF HO.out];rfl)
     go_wp2_with fail
     go_roundw
     case rel=>exact ⟨k2+1,false,by omega,by go_num,rfl,mg.out.bH x,(fun h=>by cases h),fun _=>HF.out⟩
     case measure=>simp [intOf];omega
    ·have HN:=gH (er (p:=fun j=>∀ (hj:j < o.tables.length),dB o o.tables[j]=true) HP.out (fun _=>HO.out))
     go_wp2_with fail
     go_roundw
     case rel=>exact ⟨k2+1,true,by omega,by go_num,rfl,mg.out.bH x,fun _=>HN.out,fun h=>by cases h⟩
     case measure=>simp [intOf];omega
   ·have HF:=gH (show eK o=0 by rw [ny.out,all_true _ _ fun j hj=>HP.out j (by omega) hj];rfl)
    go_wp2_with fail;go_ret;exact ⟨by rw [HF.out];rfl,HA.out⟩
end Go.Proofs.YtmflccbnoeaafaaGreat
namespace Go.Proofs.YtmflccbnoeaafaaGreat
open Go.RowKit Go.Deep
set_option maxRecDepth 100000
set_option linter.unusedVariables false
set_option maxHeartbeats 64000000
def cx:bE:=⟨[],[]⟩
theorem jM {o:bE} (h:bF o=true):N8 o:=by
 unfold bF oG at h;simp only [Bool.and_eq_true,decide_eq_true_eq,List.all_eq_true] at h;obtain ⟨⟨⟨⟨h1,h2⟩,_⟩,_⟩,_,h3⟩:=h;refine ⟨by omega,by omega,fun t ht=>?_⟩;have h4:=h3 t ht;unfold dB at h4;simp only [Bool.and_eq_true,decide_eq_true_eq,List.all_eq_true] at h4;obtain ⟨⟨⟨⟨_,h5⟩,h6⟩,_⟩,h7,_⟩:=h4
 have h8:t.ak.length≤8:=by unfold fp at h5;simp only [Bool.and_eq_true,decide_eq_true_eq] at h5;exact h5.1.2
 refine ⟨by omega,by omega,fun r hr=>?_⟩;have h9:=h7 r hr;unfold iR at h9;simp only [Bool.and_eq_true] at h9
 have h1:rS t.ak r.ak=true:=by have hf:=h9.1;unfold dS at hf;simp only [Bool.and_eq_true] at hf;exact hf.1.1.1
 have:=AK t.ak r.ak h1;omega
def xI (w:World) (B n3:Nat) (r:bE × Int) (e:Ending) (w':World):Prop :=
 e=.returned (.int .i64 r.2)∧Kb (fun g=>B≤g) w w'∧(r.2=0→∃ hs ht L,L.map ay.t=r.1.tables∧bC w' B hs ht r.1.ae L∧ap w' n3 [.slice hs.a r.1.ae.length hs.c,.slice ht.a r.1.tables.length ht.c])
def ix (w:World) (r:bE × Int) (e:Ending) (w':World):Prop :=
 ∃ hs ht L,L.map ay.t=r.1.tables∧e=.returned (.tuple #[.agg #[.slice hs.a r.1.ae.length hs.c,.slice ht.a r.1.tables.length ht.c],.int .i64 r.2])∧ag w w'∧bC w' w.heap.size hs ht r.1.ae L
def cR (o:bE) (r:bE × Int):bE × Int:=if bF o then r else (cx,63)
theorem sJ (w:World) (B:Nat):bC w B ⟨none,0,0⟩ ⟨none,0,0⟩ [] []:=⟨dl _ _ _ _,dl _ _ _ _,fun x hx=>by simp at hx,by simp [i6]⟩
theorem qE {w w':World} {c:Int} (a:ag w w'):ix w (cx,c) (.returned (.tuple #[.agg #[.slice none 0 0,.slice none 0 0],.int .i64 c])) w':=⟨⟨none,0,0⟩,⟨none,0,0⟩,[],rfl,rfl,a,sJ _ _⟩
theorem jY (o:bE) (As:Option Addr) (ar:Nat) (At:Option Addr) (ax:Nat) (g:FuncId) (cs:Array Value) (r:bE × Int) (w:World) (bS:aL w 2 fk As ar o.ae) (bB:aL w 5 dA At ax o.tables)
  (bR:∀ (args:Array Value) (w:World),(callFunc g args).run Tryz.prog w=.ok (.enter g args) w) (hr:r.2≠0→r.1=cx)
  (uQ:bF o=true→∀ (w':World) (hs ht:Hd) (L:List ay) (B n3:Nat),ag w w'→w.heap.size≤B→B≤n3→L.map ay.t=o.tables→bC w' B hs ht o.ae L→(∀ g∈hs.blk++(ht.blk++L.flatMap ay.bI),g≠n3) →
   ap w' n3 [.slice hs.a o.ae.length hs.c,.slice ht.a o.tables.length ht.c]→Calls Tryz.prog g (#[.pointer (some ⟨n3,0,none⟩)]++cs) w' (xI w' B n3 r)) :
  Calls Tryz.prog 129 #[.agg #[.slice As o.ae.length ar,.slice At o.tables.length ax],.func (.func g) #[] cs] w (ix w (cR o r)):=by
 have hlen:=bS.len;have fl:=bB.len
 have l1:w.heap.size < w.heap.size+1:=by omega
 have l2:w.heap.size < w.heap.size+1+1:=by omega
 obtain ⟨W,hW⟩:∃ W,W=(w.alloc (.cells #[.slice As o.ae.length ar,.slice At o.tables.length ax] 25)).alloc (.cells #[.slice none 0 0,.slice none 0 0] 25):=⟨_,rfl⟩
 have aW:ag w W:=by rw [hW];exact ((ag.refl w).alloc _).alloc _
 have r1:ap W w.heap.size [.slice As o.ae.length ar,.slice At o.tables.length ax]:=by rw [hW];exact (aO (ag.refl _)).az ((ag.refl _).alloc _)
 have r2:ap W (w.heap.size+1) [.slice none 0 0,.slice none 0 0]:=by
  rw [hW];have:=(aO (w:=w.alloc (.cells #[.slice As o.ae.length ar,.slice At o.tables.length ax] 25)) (c:=[.slice none 0 0,.slice none 0 0]) (t:=25) (ag.refl _))
  simpa using this
 have zW:W.heap.size=w.heap.size+2:=by rw [hW];simp
 obtain ⟨c,hc⟩:∃ c,bF o=c:=⟨_,rfl⟩
 have CK:=gH (show ∀ w',ag w w'→Calls Tryz.prog 42 #[.agg #[.slice As o.ae.length ar,.slice At o.tables.length ax]] w' fun e w''=>e=.returned (.int .i64 (if c=true then 0 else 63))∧ag w' w'' from
  fun w' a=>(lg o As ar At ax w' (bm a bS) (aQ a bB)).mono fun e w'' ⟨he,hw⟩=>⟨he.trans (by unfold eK;rw [hc]),hw⟩)
 have CO:=gH (show c=true→∀ w',ag w w'→_ from fun h w' a=>GJ o As ar At ax w' (bm a bS) (aQ a bB) (jM (hc.trans h)));have GY:=gH (fun h:c=true=>uQ (hc.trans h));have HE:=gH (show cR o r=if c=true then r else (cx,63) by unfold cR;rw [hc]);have br:=gH aW;have HR:=gH hr;have qs:=gH r1;have mB:=gH r2;have HZ:=gH zW;clear hc uQ bS bB r1 r2 aW zW hr
 go_enter Tryz.func129,Tryz.ntmps129
 go_wp2_with fail;rw [← hW];refine (CK.out W br.out).mono ?_;rintro e w1 ⟨rfl,a1⟩;have b2:=mB.out.az a1;have d0:=b2.cell (j:=0) rfl;have d1:=b2.cell (j:=1) rfl;have f0:=b2.2.2 0 (by simp);have f1:=b2.2.2 1 (by simp);have z2:=b2.1;have cG:=gH (br.out.trans a1);have n7:=gH b2;clear hW
 cases c
 ·clear a1 b2
  go_wp2_with fail;obtain ⟨F,hF⟩:∃ F,F=(w1.setCell ⟨w.heap.size+1,0,none⟩ (.slice none 0 0)).setCell ⟨w.heap.size+1,1,none⟩ (.slice none 0 0):=⟨_,rfl⟩
  have rF:ap F (w.heap.size+1) [.slice none 0 0,.slice none 0 0]:=by rw [hF];exact (n7.out.set 0 _ (by simp)).set 1 _ (by simp)
  have aF:ag w F:=by rw [hF];exact (cG.out.setCell _ _ (Nat.le_succ _)).setCell _ _ (Nat.le_succ _)
  rw [← hF];refine bodyPost_ret (results_cell_tmp (v:=.agg #[.slice none 0 0,.slice none 0 0]) rfl _ rfl ?hl) rfl ?_
  case hl=>exact b9 rF
  rw [HE.out];exact qE aF
 ·have b1:=qs.out.az a1
  have c0:=b1.cell (j:=0) rfl;have c1:=b1.cell (j:=1) rfl;have z1:=b1.1;have nS:=gH (show w.heap.size+2≤w1.heap.size by have:=a1.size;have:=HZ.out;omega);clear a1 b1 b2;go_wp2_with fail;refine (CO.out (by simp) w1 cG.out).mono ?_;rintro e w2 ⟨hs,ht,L,hL,rfl,a2,ob⟩;obtain ⟨W3,hW3⟩:∃ W3,W3=w2.alloc (.cells #[.slice hs.a o.ae.length hs.c,.slice ht.a o.tables.length ht.c] 25):=⟨_,rfl⟩
  have a3:ag w2 W3:=by rw [hW3];exact (ag.refl _).alloc _
  have r3:ap W3 w2.heap.size [.slice hs.a o.ae.length hs.c,.slice ht.a o.tables.length ht.c]:=by rw [hW3];exact aO (ag.refl _)
  have HD:=gH (GY.out (by simp) W3 hs ht L w1.heap.size w2.heap.size (cG.out.trans (a2.trans a3)) cG.out.size a2.size hL (ob.az a3) (fun g hg e=>by have:=(ob.lt g hg).2;omega) r3);have iw:=gH (cG.out.trans (a2.trans a3));have mq:=gH (n7.out.az (a2.trans a3));clear a2 a3 ob hL CO GY r3 c0 c1 z1 d0 d1 f0 f1 z2 CK;obtain ⟨r0,rc⟩:=r;have mG:=gH (show w.heap.size+1 < w1.heap.size from n7.out.1);go_wp2_with fail;rw [← hW3];clear hW3;refine HD.out.mono ?_;rintro e w4 ⟨rfl,k4,AL⟩;have b4:=k4.row mq.out (by have:=mG.out;omega);have d0:=b4.cell (j:=0) rfl;have d1:=b4.cell (j:=1) rfl;have f0:=b4.2.2 0 (by simp);have f1:=b4.2.2 1 (by simp);have z2:=b4.1;have sK:=gH b4;have jr:=gH (k4.aZ iw.out (fun g hg h1=>by have:=cG.out.size;omega));have Ky:=gH AL;clear b4 k4 AL;by_cases oI:rc=0
  ·subst oI
   obtain ⟨hs',ju,L',Nc,Kz,r4⟩:=Ky.out rfl;have c0:=r4.cell (j:=0) rfl;have c1:=r4.cell (j:=1) rfl;have z3:=r4.1;have HO:=gH Kz;have V7:=gH Nc;clear Kz Nc r4;go_wp2_with fail;obtain ⟨F,hF⟩:∃ F,F=(w4.setCell ⟨w.heap.size+1,0,none⟩ (.slice hs'.a r0.ae.length hs'.c)).setCell ⟨w.heap.size+1,1,none⟩ (.slice ju.a r0.tables.length ju.c):=⟨_,rfl⟩
   have kF:Kb (fun g=>g=w.heap.size+1) w4 F:=by rw [hF];exact (Kb.set _ _ _ _).trans (Kb.set _ _ _ _)
   have rF:ap F (w.heap.size+1) [.slice hs'.a r0.ae.length hs'.c,.slice ju.a r0.tables.length ju.c]:=by rw [hF];exact (sK.out.set 0 _ (by simp)).set 1 _ (by simp)
   rw [← hF];refine bodyPost_ret (results_cell_tmp (v:=.agg #[.slice hs'.a r0.ae.length hs'.c,.slice ju.a r0.tables.length ju.c]) rfl _ rfl ?hl2) rfl ?_
   case hl2=>exact b9 rF
   rw [HE.out];refine ⟨hs',ju,L',V7.out,rfl,kF.aZ jr.out (fun g hg e=>by omega),?_⟩;refine bC.down (HO.out.kb kF fun g hg e=>?_) (by have:=cG.out.size;omega);have:=(HO.out.lt g hg).1;have:=mG.out;omega
  ·have t1:(rc != 0)=true:=by simpa using oI
   have rT:r0=cx:=HR.out oI;have je:=gH rT;have EG:=gH oI;clear oI rT;go_wp2_with fail;obtain ⟨F,hF⟩:∃ F,F=(w4.setCell ⟨w.heap.size+1,0,none⟩ (.slice none 0 0)).setCell ⟨w.heap.size+1,1,none⟩ (.slice none 0 0):=⟨_,rfl⟩
   have rF:ap F (w.heap.size+1) [.slice none 0 0,.slice none 0 0]:=by rw [hF];exact (sK.out.set 0 _ (by simp)).set 1 _ (by simp)
   have aF:ag w F:=by rw [hF];exact (jr.out.setCell _ _ (Nat.le_succ _)).setCell _ _ (Nat.le_succ _)
   rw [← hF];refine bodyPost_ret (results_cell_tmp (v:=.agg #[.slice none 0 0,.slice none 0 0]) rfl _ rfl ?Q0) rfl ?_
   case Q0=>exact b9 rF
   rw [HE.out,je.out];exact qE aF
def cY (o:bE) (s n:ByteArray) (f:cu→cu × Int):bE × Int :=
 match o.tables[(bj o.tables s n).toNat]? with
 | some t=>if bj o.tables s n < 0 then (cx,61) else if (f t).2=0 then (⟨o.ae,o.tables.set (bj o.tables s n).toNat (f t).1⟩,0) else (cx,(f t).2)
 | none=>(cx,61)
theorem nz {o:bE} {s n:ByteArray} {f:cu→cu × Int} (h:bj o.tables s n < 0):cY o s n f=(cx,61):=by
 unfold cY;split
 ·rw [if_pos h]
 ·rfl
theorem nA {o:bE} {s n:ByteArray} {f:cu→cu × Int} {q:Nat} (h:bj o.tables s n=q) (hq:q < o.tables.length):cY o s n f=if (f o.tables[q]).2=0 then (⟨o.ae,o.tables.set q (f o.tables[q]).1⟩,0) else (cx,(f o.tables[q]).2):=by
 unfold cY;rw [h];simp only [Int.toNat_natCast,List.getElem?_eq_getElem hq];rw [if_neg (by omega)]
theorem uU {o:bE} {s n:ByteArray} {f:cu→cu × Int}:(cY o s n f).2≠0→(cY o s n f).1=cx:=by
 unfold cY
 split
 ·split
  ·intro _;rfl
  ·split
   ·intro h;exact absurd rfl h
   ·intro _;rfl
 ·intro _;rfl
def rU (w:World) (B n3:Nat) (hs ht:Hd) (ss:List gj) (L:List ay) (q:Nat) (r:cu × Int) (e:Ending) (w':World):Prop :=
 e=.returned (.int .i64 r.2)∧Kb (fun g=>B≤g) w w'∧(r.2=0→∃ x:ay,x.t=r.1∧bC w' B hs ht ss (L.set q x)∧ap w' n3 [.slice hs.a ss.length hs.c,.slice ht.a L.length ht.c])
theorem EH (o:bE) (s n:ByteArray) (g2:FuncId) (GZ:Array Value) (f:cu→cu × Int) (w:World) (hs ht:Hd) (L:List ay) (B n3 bs bt bd:Nat) (hL:L.map ay.t=o.tables) (ob:bC w B hs ht o.ae L) (sm:kA o)
  (r3:ap w n3 [.slice hs.a o.ae.length hs.c,.slice ht.a o.tables.length ht.c]) (c1:w.cell? ⟨bs,0,none⟩=some (.string s)) (c2:w.cell? ⟨bt,0,none⟩=some (.string n)) (c3:w.cell? ⟨bd,0,none⟩=some (.func (.func g2) #[] GZ))
  (bR:∀ (args:Array Value) (w:World),(callFunc g2 args).run Tryz.prog w=.ok (.enter g2 args) w)
  (uQ:∀ (w':World) (q gt:Nat) (hq:q < L.length),ag w w'→ht.a=some ⟨gt,0,none⟩→bj o.tables s n=q→Calls Tryz.prog g2 (#[.agg #[.slice hs.a o.ae.length hs.c,.slice ht.a o.tables.length ht.c],.pointer (some ⟨gt,q*5,none⟩)]++GZ) w' (rU w' B n3 hs ht o.ae L q (f L[q].t))) :
  Calls Tryz.prog 198 #[.pointer (some ⟨n3,0,none⟩),.pointer (some ⟨bs,0,none⟩),.pointer (some ⟨bt,0,none⟩),.pointer (some ⟨bd,0,none⟩)] w (xI w B n3 (cY o s n f)):=by
 have pD:fL o.ae L=o:=by unfold fL;rw [hL]
 have tabs:=ob.tabs (by rw [pD];exact sm);rw [hL] at tabs;obtain ⟨i,hi⟩:∃ i,bj o.tables s n=i:=⟨_,rfl⟩
 have ye : -1≤i∧i < o.tables.length:=by rw [← hi];exact bg _ _
 have CW:=gH (show ∀ x:ii w,Calls Tryz.prog 43 #[.agg #[.slice hs.a o.ae.length hs.c,.slice ht.a o.tables.length ht.c],.string s,.string n] (bH w x) fun e w'=>e=.returned (.tuple #[.int .i64 i,.bool (decide (0≤i))])∧ag (bH w x) w' from
  fun x=>(jL (.slice hs.a o.ae.length hs.c) ht.a ht.c o.tables s n (bH w x) (aQ ((ag.refl w).bH x) tabs)).mono fun e w' ⟨he,hw⟩=>⟨he.trans (by rw [hi]),hw⟩)
 have e0:=r3.cell (j:=0) rfl;have e1:=r3.cell (j:=1) rfl;have z3:=r3.1;have y1:=World.block_lt_of_cell? _ _ c1;have y2:=World.block_lt_of_cell? _ _ c2;have y3:=World.block_lt_of_cell? _ _ c3;have nT:=gH (show L.length=o.tables.length by rw [← hL];simp);have hlen:o.tables.length*16≤140737488351232:=tabs.len;have HT:=gH ob.tab
 have GY:=gH uQ
 have HL:=gH hL;clear pD tabs uQ ob hL sm r3;by_cases h0:0≤i
 ·obtain ⟨q,rfl⟩:=Int.eq_ofNat_of_zero_le h0
  have hq:q < o.tables.length:=by omega
  obtain ⟨gt,gX,hgb,_⟩:=jN HT.out (by have:=nT.out;omega);obtain ⟨At,nt,ct⟩:=ht;have Oe:At=some ⟨gt,0,none⟩:=gX;subst Oe;have HI:=gH hi
  have hd:decide (0≤(q:Int))=true:=by simp
  clear gX hi h0 ye HT
  go_enter Tryz.func198,Tryz.ntmps198
  go_wp2_with fail;refine av (by kernel_rfl) (by kernel_rfl) ?_
  repeat (go_big_quiet_step ((go_at_call 43;exact Calls.bD (CW.out _))))
  refine wpQuiet_nil ?_;intro _ hw';obtain ⟨x,hw''⟩:=hw';subst hw'';obtain ⟨W,hW⟩:∃ W,W=bH w x:=⟨_,rfl⟩
  have aW:ag w W:=by rw [hW];exact (ag.refl w).bH x
  rw [← hW];have E0:=aW.cell_kept e0;have E1:=aW.cell_kept e1;have C3:=aW.cell_kept c3;have Z3:=Nat.lt_of_lt_of_le z3 aW.size;have Y3:=Nat.lt_of_lt_of_le y3 aW.size;have br:=gH aW;clear hW CW e0 e1 c1 c2 c3 z3 y1 y2 y3 aW
  have Kd:(q:Int) < (o.tables.length:Int):=by omega
  have hqz:(0:Int)≤(q:Int):=by omega
  go_wp2_with fail
  go_still_tail 10,(by kernel_rfl)
  go_wp2_with fail
  have Sm:q < L.length:=by rw [nT.out];exact hq
  refine (GY.out _ q gt Sm br.out.drew rfl HI.out).mono ?_;rintro e w4 ⟨rfl,k4,AL⟩
  have Sn:L[q].t=o.tables[q]:=by
   have:(L.map ay.t)[q]'(by simpa using Sm)=o.tables[q]:=by simp only [HL.out]
   simpa using this
  rw [Sn] at AL ⊢;have KC:=gH ((Kb.aH br.out.drew).trans k4);have Ky:=gH AL;clear k4 AL Sn;have HE:=gH (nA (f:=f) HI.out hq);obtain ⟨fr,mC⟩:∃ fr,f o.tables[q]=fr:=⟨_,rfl⟩;rw [mC] at HE Ky ⊢;clear mC;obtain ⟨r0,rc⟩:=fr;go_wp2_with fail;go_ret;rw [HE.out];by_cases oI:rc=0
  ·subst oI
   rw [if_pos rfl];refine ⟨rfl,KC.out,fun _=>?_⟩;obtain ⟨x',Nd,Kz,r4⟩:=Ky.out rfl;refine ⟨hs,⟨some ⟨gt,0,none⟩,nt,ct⟩,L.set q x',?_,Kz,?_⟩
   ·rw [List.map_set,HL.out,Nd]
   ·have hl:=nT.out
    rw [hl] at r4
    simpa using r4
  ·rw [if_neg (by simpa using oI)]
   exact ⟨rfl,KC.out,fun h=>absurd h (by simpa using oI)⟩
 ·have HI:=gH hi
  have hd:decide (0≤i)=false:=by simpa using h0
  clear hi
  go_enter Tryz.func198,Tryz.ntmps198
  go_wp2_with fail;refine av (by kernel_rfl) (by kernel_rfl) ?_
  repeat (go_big_quiet_step ((go_at_call 43;exact Calls.bD (CW.out _))))
  refine wpQuiet_nil ?_;intro _ hw';obtain ⟨x,hw''⟩:=hw';subst hw'';go_wp2_with fail;go_ret;rw [nz (by rw [HI.out];omega)];exact ⟨rfl,Kb.aH ((ag.refl w).bH x),fun h=>by simp at h⟩
theorem pE (o:bE) (As:Option Addr) (ar:Nat) (At:Option Addr) (ax:Nat) (s n:ByteArray) (g:FuncId) (cs:Array Value) (f:cu→cu × Int) (w:World) (bS:aL w 2 fk As ar o.ae) (bB:aL w 5 dA At ax o.tables)
  (bR:∀ (args:Array Value) (w:World),(callFunc g args).run Tryz.prog w=.ok (.enter g args) w)
  (uQ:bF o=true→∀ (w':World) (hs ht:Hd) (L:List ay) (B n3 q gt:Nat) (hq:q < L.length),ag w w'→w.heap.size≤B→B≤n3→L.map ay.t=o.tables→bC w' B hs ht o.ae L→(∀ g∈hs.blk++(ht.blk++L.flatMap ay.bI),g≠n3) →
   ap w' n3 [.slice hs.a o.ae.length hs.c,.slice ht.a o.tables.length ht.c]→ht.a=some ⟨gt,0,none⟩→bj o.tables s n=q→Calls Tryz.prog g (#[.agg #[.slice hs.a o.ae.length hs.c,.slice ht.a o.tables.length ht.c],.pointer (some ⟨gt,q*5,none⟩)]++cs) w' (rU w' B n3 hs ht o.ae L q (f L[q].t))) :
  Calls Tryz.prog 133 #[.agg #[.slice As o.ae.length ar,.slice At o.tables.length ax],.string s,.string n,.func (.func g) #[] cs] w (ix w (cR o (cY o s n f))):=by
 have hlen:=bS.len;have fl:=bB.len;have rh:=enters (P:=Tryz.prog) Tryz.func198 (by kernel_rfl) rfl
 have l1:w.heap.size < w.heap.size+1:=by omega
 have l2:w.heap.size < w.heap.size+1+1:=by omega
 have l3:w.heap.size < w.heap.size+1+1+1:=by omega
 have l4:w.heap.size < w.heap.size+1+1+1+1:=by omega
 have l5:w.heap.size < w.heap.size+1+1+1+1+1:=by omega
 have sm:kA o:=⟨iy bS,iz bB⟩;obtain ⟨W,hW⟩:∃ W,W=((((w.alloc (.cells #[.slice As o.ae.length ar,.slice At o.tables.length ax] 25)).alloc (.cells #[.string s] 9)).alloc (.cells #[.string n] 9)).alloc (.cells #[.func (.func g) #[] cs] 174)).alloc (.cells #[.slice none 0 0,.slice none 0 0] 25):=⟨_,rfl⟩
 have aW:ag w W:=by rw [hW];exact (((((ag.refl w).alloc _).alloc _).alloc _).alloc _).alloc _
 have c1:W.cell? ⟨w.heap.size+1,0,none⟩=some (.string s):=by
  rw [hW];(repeat (refine (World.cell?_alloc_past _ _ _ (by first | (simp;done) | (simp;omega))).trans ?_));exact World.cell?_alloc_at _ _ _ _ (by simp)
 have c2:W.cell? ⟨w.heap.size+1+1,0,none⟩=some (.string n):=by
  rw [hW];(repeat (refine (World.cell?_alloc_past _ _ _ (by first | (simp;done) | (simp;omega))).trans ?_));exact World.cell?_alloc_at _ _ _ _ (by simp)
 have c3:W.cell? ⟨w.heap.size+1+1+1,0,none⟩=some (.func (.func g) #[] cs):=by
  rw [hW];(repeat (refine (World.cell?_alloc_past _ _ _ (by first | (simp;done) | (simp;omega))).trans ?_));exact World.cell?_alloc_at _ _ _ _ (by simp)
 have r4:ap W (w.heap.size+1+1+1+1) [.slice none 0 0,.slice none 0 0]:=by
  rw [hW];have:=(aO (w:=(((w.alloc (.cells #[.slice As o.ae.length ar,.slice At o.tables.length ax] 25)).alloc (.cells #[.string s] 9)).alloc (.cells #[.string n] 9)).alloc (.cells #[.func (.func g) #[] cs] 174)) (c:=[.slice none 0 0,.slice none 0 0]) (t:=25) (ag.refl _))
  simpa using this
 have zW:w.heap.size≤W.heap.size:=aW.size
 have CC:=gH (jY o As ar At ax 198 #[.pointer (some ⟨w.heap.size+1,0,none⟩),.pointer (some ⟨w.heap.size+1+1,0,none⟩),.pointer (some ⟨w.heap.size+1+1+1,0,none⟩)] (cY o s n f) W (bm aW bS) (aQ aW bB) rh uU
  (fun gA w' hs ht L B n3 a' hB hn hL ob hne r3=>EH o s n g cs f w' hs ht L B n3 _ _ _ hL ob sm r3 (a'.cell_kept c1) (a'.cell_kept c2) (a'.cell_kept c3) bR
   (fun w'' q gt hq a'' gX Kd=>uQ gA w'' hs ht L B n3 q gt hq (aW.trans (a'.trans a'')) (Nat.le_trans zW hB) hn hL (ob.az a'') hne (r3.az a'') gX Kd)))
 have br:=gH aW;have V8:=gH r4;have lc:=gH (show W.heap.size=w.heap.size+5 by rw [hW];simp);obtain ⟨rr,jz⟩:∃ rr,cR o (cY o s n f)=rr:=⟨_,rfl⟩;rw [jz] at CC ⊢;clear c1 c2 c3 r4 aW bS bB uQ zW sm jz
 go_enter Tryz.func133,Tryz.ntmps133
 go_wp2_with fail;rw [← hW];clear hW;refine CC.out.mono ?_;rintro e w1 ⟨hs,ht,L,hL,rfl,a1,ob⟩;have b4:=V8.out.az a1;have d0:=b4.cell (j:=0) rfl;have d1:=b4.cell (j:=1) rfl;have f0:=b4.2.2 0 (by simp);have f1:=b4.2.2 1 (by simp);have z2:=b4.1;have sK:=gH b4;have cG:=gH (br.out.trans a1);have HO:=gH ob;have HL:=gH hL;clear b4 a1 ob hL CC;go_wp2_with fail;obtain ⟨F,hF⟩:∃ F,F=(w1.setCell ⟨w.heap.size+1+1+1+1,0,none⟩ (.slice hs.a rr.1.ae.length hs.c)).setCell ⟨w.heap.size+1+1+1+1,1,none⟩ (.slice ht.a rr.1.tables.length ht.c):=⟨_,rfl⟩
 have kF:Kb (fun g=>g=w.heap.size+1+1+1+1) w1 F:=by rw [hF];exact (Kb.set _ _ _ _).trans (Kb.set _ _ _ _)
 have rF:ap F (w.heap.size+1+1+1+1) [.slice hs.a rr.1.ae.length hs.c,.slice ht.a rr.1.tables.length ht.c]:=by rw [hF];exact (sK.out.set 0 _ (by simp)).set 1 _ (by simp)
 rw [← hF];refine bodyPost_ret (results_cell_tmp (v:=.agg #[.slice hs.a rr.1.ae.length hs.c,.slice ht.a rr.1.tables.length ht.c]) rfl _ rfl ?hl) rfl ?_
 case hl=>exact b9 rF
 refine ⟨hs,ht,L,HL.out,rfl,kF.aZ cG.out (fun g hg e=>by omega),?_⟩;have hz:=lc.out;refine bC.down (HO.out.kb kF fun g hg e=>?_) (show w.heap.size≤W.heap.size by omega);have:=(HO.out.lt g hg).1;omega
end Go.Proofs.YtmflccbnoeaafaaGreat
