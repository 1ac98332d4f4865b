import Derived.Test.YtakddkhipelmjaaGreatPartF18
set_option maxRecDepth 100000
set_option linter.unusedVariables false
set_option maxHeartbeats 64000000
namespace Go.Proofs.YtakddkhipelmjaaGreat
open Go.Deep Go.RowKit
structure pP (w wr:World) (t:cp) (hc hr:Hd) (L0 L:List gc) (k:Nat):Prop where
 aH:ag w wr
 box:au wr w.heap.size [.string t.ac,.string t.name,.string t.owner,.slice hc.a t.av.length hc.c,.slice hr.a t.rules.length hr.c]
 Bo:wr.ownsRow (w.heap.size+1) 169 3 hc.v t.av.length (t.av.flatMap Fi)
 yq:wr.ownsRow (w.heap.size+1) 42 8 hr.v t.rules.length ((L++L0.drop k).flatMap gc.cells)
 len:L.length=k
 is:L.map (·.r)=t.rules.take k
 each:∀ x∈L,nk wr (w.heap.size+1) x
 nd:(hc.blk++(hr.blk++L.flatMap (·.h.blk))).Nodup
theorem pP.lt {w wr:World} {t:cp} {hc hr:Hd} {L0 L:List gc} {k:Nat} (s:pP w wr t hc hr L0 L k):∀ g∈hc.blk++(hr.blk++L.flatMap (·.h.blk)),w.heap.size+1≤g∧g < wr.heap.size:=by
 intro g hg;simp only [List.mem_append,List.mem_flatMap] at hg
 rcases hg with hg | hg | ⟨r,hr,hg⟩
 ·exact gy s.Bo g hg
 ·exact gy s.yq g hg
 ·exact gy (s.each r hr).j0 g hg
theorem pP.step {w wr w4:World} {t:cp} {hc hr h4:Hd} {L0 L:List gc} {k gr:Nat} (s:pP w wr t hc hr L0 L k) (h0:L0.map (·.r)=t.rules) (hk:k < t.rules.length) (hgr:hr.a=some ⟨gr,0,none⟩)
  (a4:ag wr w4) (pQ:w4.ownsRow wr.heap.size 9 1 h4.v t.rules[k].av.length (t.rules[k].av.flatMap bT)):pP w (w4.setCell ⟨gr,k*8+2,none⟩ h4.v) t hc hr L0 (L++[⟨t.rules[k],h4⟩]) (k+1):=by
 have Ra:L0.length=t.rules.length:=by rw [← h0];simp
 have hgb:gr∈hr.blk:=by rw [Hd.bu];unfold Hd.v;rw [hgr];rfl
 have hlt:=s.lt;have hg:=hlt gr (by simp [hgb]);have kb:=Kb.set w4 gr (k*8+2) h4.v;have ka:Kb (fun x=>x=gr) wr (w4.setCell ⟨gr,k*8+2,none⟩ h4.v):=(Kb.bl a4).trans kb;have MP:=s.nd;have ZM:=s.box.1
 have ZN:∀ g∈hc.blk,¬ g=gr:=fun g LA e=>by
  subst e;exact (List.nodup_append.1 MP).2.2 g LA g (by simp [hgb]) rfl
 have ZO:∀ x∈L,∀ g∈x.h.blk,¬ g=gr:=fun x hx g LA e=>by
  subst e;exact (List.nodup_append.1 (List.nodup_append.1 MP).2.1).2.2 g hgb g (by simp only [List.mem_flatMap];exact ⟨x,hx,LA⟩) rfl
 refine ⟨ka.aN s.aH (fun x hx e=>by omega),ka.row s.box (by omega),bB s.Bo ka fun g hgo=>ZN g (Hd.bu.2 hgo),?_,by simp [s.len],?_,?_,?_⟩
 ·have h1:=lB (cj s.yq a4) (Hd.bu.1 hgb) (k*8+2) h4.v
  have pE:k < (L++L0.drop k).length:=by simp [s.len];omega
  have xG:(L++L0.drop k)[k]=L0[k]'(by omega):=by
   rw [List.getElem_append_right (by rw [s.len];exact Nat.le_refl _)];simp [s.len]
  have qT:(L0[k]'(by omega)).r=t.rules[k]:=by
   have:(L0.map (·.r))[k]'(by simpa using (by omega:k < L0.length))=t.rules[k]:=by simp only [h0]
   simpa using this
  rw [i9 (size:=8) (fun _=>rfl) (L++L0.drop k) k 2 pE (by decide) h4.v ⟨t.rules[k],h4⟩ (by rw [xG];unfold gc.cells Fj;rw [qT];rfl)] at h1
  have uG:(L++L0.drop k).set k ⟨t.rules[k],h4⟩=(L++[⟨t.rules[k],h4⟩])++L0.drop (k+1):=by
   have hd:L0.drop k=L0[k]'(by omega)::L0.drop (k+1):=List.drop_eq_getElem_cons (by omega:k < L0.length);rw [List.set_append_right _ _ (by rw [s.len];exact Nat.le_refl _),s.len,Nat.sub_self,hd];simp only [List.set_cons_zero,List.append_assoc,List.cons_append,List.nil_append]
  rw [uG] at h1;exact h1
 ·rw [List.map_append,s.is,List.take_succ_eq_append_getElem hk];rfl
 ·intro x hx
  simp only [List.mem_append,List.mem_singleton] at hx
  rcases hx with hx | rfl
  ·exact (s.each x hx).kb ka fun g hgo=>ZO x hx g hgo
  ·exact ⟨bS (bB pQ kb fun g hgo e=>by have:=(pQ.lt g hgo).1;omega) (by omega)⟩
 ·have e:hc.blk++(hr.blk++(L++[gc.mk t.rules[k] h4]).flatMap (·.h.blk))=(hc.blk++(hr.blk++L.flatMap (·.h.blk)))++h4.blk:=by simp [List.append_assoc]
  rw [e];exact jU MP (fC h4) (fun g hg=>(hlt g hg).2) (fun g hg=>(gy pQ g hg).1)
theorem pP.done {w wr:World} {t:cp} {hc hr:Hd} {L0 L:List gc} {k:Nat} (s:pP w wr t hc hr L0 L k) (h0:L0.map (·.r)=t.rules) (hk:k=t.rules.length) :
  (bK.mk t.ac t.name t.owner t.av L hc hr).t=t∧eU wr w.heap.size ⟨t.ac,t.name,t.owner,t.av,L,hc,hr⟩∧(bK.mk t.ac t.name t.owner t.av L hc hr).ig.Nodup:=by
 subst hk;have yE:=s.is;rw [List.take_of_length_le (Nat.le_refl _)] at yE
 have JQ:L0.length=t.rules.length:=by rw [← h0];simp
 have JR:=s.yq;rw [List.drop_of_length_le (by omega),List.append_nil] at JR;have JS:L.length=t.rules.length:=s.len;refine ⟨by unfold bK.t;rw [yE],?_,s.nd⟩;exact eU.down (w:=wr) (B:=w.heap.size+1) ⟨s.Bo,by show wr.ownsRow _ _ 8 _ L.length _;rw [JS];exact JR,s.each⟩ (by omega)
structure JT (w wr:World) (c:bX) (v4 v5 v6:Value) (hs ht:Hd) (L:List bK) (k:Nat):Prop where
 aH:ag w wr
 box:au wr w.heap.size [.int .i64 c.ax,.int .i64 c.version,.slice hs.a c.ah.aa.length hs.c,.slice ht.a k ht.c,v4,v5,v6]
 out:au wr (w.heap.size+1) [.int .i64 0,.int .i64 0,.slice none 0 0,.slice none 0 0,.slice none 0 0,.slice none 0 0,.slice none 0 0]
 obj:dM wr (w.heap.size+2) hs ht c.ah.aa L
 is:L.map bK.t=c.ah.tables.take k
 len:L.length=k
theorem JT.step {w wr w4 w5:World} {c:bX} {v4 v5 v6:Value} {hs ht lz:Hd} {L:List bK} {x:bK} {k:Nat} (s:JT w wr c v4 v5 v6 hs ht L k) (hk:k < c.ah.tables.length) (JU:x.t=c.ah.tables[k]) (a4:ag wr w4) (hx:eU w4 wr.heap.size x) (nx:x.ig.Nodup)
  (hg:w4.grownBy w5 ht.v.ownBlock) (ho:w5.ownsRow (w.heap.size+2) 80 5 lz.v (k+1) (L.flatMap bK.cells++x.cells)) (hb:∀ g∈lz.blk,g∈ht.blk∨w4.heap.size≤g) (hn:∀ g∈lz.blk,g∉x.ig) :
  JT w (w5.setCell ⟨w.heap.size,3,none⟩ (.slice lz.a (k+1) lz.c)) c v4 v5 v6 hs lz (L++[x]) (k+1):=by
 have hz:=a4.size;have hz5:=hg.size;have hb3:=s.out.1
 have hzz:w.heap.size+2≤wr.heap.size:=by omega
 have ob:=s.obj.push a4 hx nx hzz hg (by rw [s.len];exact ho) hb hn;have obl:=ob.lt;have k5:Kb (fun g=>g=w.heap.size) w5 (w5.setCell ⟨w.heap.size,3,none⟩ (.slice lz.a (k+1) lz.c)):=Kb.set _ _ _ _;have kg:Kb (fun g=>ht.v.ownBlock=some g) w4 w5:=Kb.dF hg
 have Gi:∀ g,ht.v.ownBlock=some g→w.heap.size+2≤g:=fun g h1=>(s.obj.tab.lt g h1).1
 refine ⟨k5.aN (kg.aN (s.aH.trans a4) (fun g yZ h1=>by have:=Gi g h1;omega)) (fun g yZ e=>by omega),?_,k5.row (kg.row (s.out.aH a4) (fun h1=>by have:=Gi _ h1;omega)) (by omega),ob.kb k5 (fun g TA e=>by have:=(obl g TA).1;have e:g=w.heap.size:=e;omega),?_,by simp [s.len]⟩
 ·have:=(kg.row (s.box.aH a4) (fun h1=>by have:=Gi _ h1;omega)).set 3 (.slice lz.a (k+1) lz.c) (by simp)
  exact this
 ·rw [List.map_append,s.is,List.take_succ_eq_append_getElem hk,← JU];rfl
theorem V9 (c:bX) (As:Option Addr) (ay:Nat) (At:Option Addr) (az:Nat) (An:Option Addr) (aC:Nat) (Am:Option Addr) (aJ:Nat) (Ag:Option Addr) (aQ:Nat) (w:World) (H:fp w c As ay At az An aC Am aJ Ag aQ) (j7:bw c.ah=true) (hln:c.ai.names.length≤1000000) (Wa:c.ai.members.length≤1000000) (ZP:c.af.length≤1000000) :
  Calls Tryz.prog 74 #[.agg #[.int .i64 c.ax,.int .i64 c.version,.slice As c.ah.aa.length ay,.slice At c.ah.tables.length az,.slice An c.ai.names.length aC,.slice Am c.ai.members.length aJ,.slice Ag c.af.length aQ]] w (Vp c w):=by
 have l1:w.heap.size < w.heap.size+1:=by omega
 have l2:w.heap.size < w.heap.size+1+1:=by omega
 obtain ⟨W,hW⟩:∃ W,W=(w.alloc (.cells #[.int .i64 c.ax,.int .i64 c.version,.slice As c.ah.aa.length ay,.slice At c.ah.tables.length az,.slice An c.ai.names.length aC,.slice Am c.ai.members.length aJ,.slice Ag c.af.length aQ] 32)).alloc (.cells #[.int .i64 0,.int .i64 0,.slice none 0 0,.slice none 0 0,.slice none 0 0,.slice none 0 0,.slice none 0 0] 32):=⟨_,rfl⟩
 have aW:ag w W:=by rw [hW];exact ((ag.refl w).alloc _).alloc _
 have r0:au W (w.heap.size) [.int .i64 c.ax,.int .i64 c.version,.slice As c.ah.aa.length ay,.slice At c.ah.tables.length az,.slice An c.ai.names.length aC,.slice Am c.ai.members.length aJ,.slice Ag c.af.length aQ]:=by rw [hW];exact au.up (bj (ag.refl _) (by simp))
 have r1:au W (w.heap.size+1) [.int .i64 0,.int .i64 0,.slice none 0 0,.slice none 0 0,.slice none 0 0,.slice none 0 0,.slice none 0 0]:=by rw [hW];exact bj (ag.refl _) (by simp)
 have zW:W.heap.size=w.heap.size+2:=by rw [hW];simp
 have HR:=gH (And.intro r0 r1);have bQ:=gH aW;have JH:=gH zW;have HH:=gH H;have hlt:=H.tab.len;have sV:=qx j7;have C1:=gH (fun w' (a:ag W w')=>vQ As ay c.ah.aa w' w' (ag.refl _) (bI (aW.trans a) H.gT) sV.1);have HM:=gH sV;have x2:=r0.cell (j:=2) rfl;have x3:=r0.cell (j:=3) rfl;have f2:=r0.2.2 2 (by simp);have f3:=r0.2.2 3 (by simp);have xz:=r0.1;clear H r0 r1 aW sV j7
 go_in
 go_wp2_with fail;rw [← hW];go_wp2_with fail;clear hW x2 x3 xz f2 f3;refine (C1.out _ (ag.refl _)).mono ?_;rintro e w1 ⟨v1,Wb,rfl,a1,kI,Pk⟩;obtain ⟨Bs,Hj,rfl⟩:=eA kI;rw [vR Pk] at kI;have p0:=HR.out.1.aH a1;have p1:=HR.out.2.aH a1;have xz:=p0.1;have x2:=p0.cell (j:=2) rfl;have x3:=p0.cell (j:=3) rfl;have f2:=p0.2.2 2 (by simp);have f3:=p0.2.2 3 (by simp);obtain ⟨X,hX⟩:∃ V,V=(w1.setCell ⟨w.heap.size,2,none⟩ (.slice Bs c.ah.aa.length Hj)).setCell ⟨w.heap.size,3,none⟩ (.slice none 0 0):=⟨_,rfl⟩
 have kX:Kb (fun g=>g=w.heap.size) w1 X:=by rw [hX];exact (Kb.set _ _ _ _).trans (Kb.set _ _ _ _)
 have zX:X.heap.size=w1.heap.size:=by rw [hX];simp
 have sW1:=a1.size
 have LOOP:=gH (show JT w X c (.slice An c.ai.names.length aC) (.slice Am c.ai.members.length aJ) (.slice Ag c.af.length aQ) ⟨Bs,c.ah.aa.length,Hj⟩ ⟨none,0,0⟩ [] 0 from by
  have Wc:=JH.out;have o1:X.ownsRow (w.heap.size+2) 109 2 (Hd.mk Bs c.ah.aa.length Hj).v c.ah.aa.length (c.ah.aa.flatMap jo):=bS (bB kI kX (fun g hg e=>by have:=(kI.lt g hg).1;have e:g=w.heap.size:=e;omega)) (by omega);refine ⟨kX.aN (bQ.out.trans a1) (fun g hg e=>by have e:g=w.heap.size:=e;omega),?_,kX.row p1 (by omega),⟨o1,cO _ _ _ _,fun x hx=>by simp at hx,by simpa [iQ] using fC _⟩,rfl,rfl⟩
  rw [hX];exact (p0.set 2 _ (by simp)).set 3 _ (by simp))
 have SZ1:=gH (show W.heap.size≤X.heap.size by rw [zX];exact sW1);clear a1 kI Pk p0 p1 kX zX C1 sW1;go_wp2_with fail;rw [← hX];clear hX x2 x3 f2 f3 xz
 go_loopw [18] (fun i wr=>∃ (k:Nat) (ht:Hd) (L:List bK),k≤c.ah.tables.length∧i=.int .i64 k∧JT w wr c (.slice An c.ai.names.length aC) (.slice Am c.ai.members.length aJ) (.slice Ag c.af.length aQ) ⟨Bs,c.ah.aa.length,Hj⟩ ht L k) (fun i _=>c.ah.tables.length - (intOf i).toNat)
 case atStart=>exact ⟨0,_,[],Nat.zero_le _,rfl,LOOP.out⟩
 case round =>
  clear LOOP;obtain ⟨wo,rfl⟩:∃ v,v=wr:=⟨_,rfl⟩;obtain ⟨k,ht,L,hk,rfl,hs⟩:=hrel;have HS:=gH hs;by_cases fd:k < c.ah.tables.length
  ·obtain ⟨b,off,A2,bJ,A3,fN,rfl,hb,t0,t1,t2,t3,t4,dt,lY,lZ⟩:=fh (br hs.aH HH.out.tab) fd
   obtain ⟨p,gf⟩:∃ p,c.ah.tables[k]=p:=⟨_,rfl⟩;rw [gf] at t0 t1 t2 t3 t4 dt lY lZ;have sM:=gH gf;have X5:Wd p:=HM.out.2.2 p (by rw [← gf];exact List.getElem_mem fd);have HMT:=gH X5;have D1:=gH (fun w' (a:ag wo w')=>vS A2 bJ p.av w' w' (ag.refl _) (bW a dt) X5.1);have D2:=gH (fun w' (a:ag wo w')=>vT A3 fN p.rules wo w' a lY X5.2.1)
   have zQ:w.heap.size+2≤wo.heap.size:=by have:=hs.out.1;have:=hs.aH.size;have:=JH.out;have:=SZ1.out;omega
   clear hs gf dt lY X5;obtain ⟨V,hV⟩:∃ V,V=wo.alloc (.cells #[.string p.ac,.string p.name,.string p.owner,.slice A2 p.av.length bJ,.slice A3 p.rules.length fN] 80):=⟨_,rfl⟩
   have aV:ag wo V:=by rw [hV];exact (ag.refl _).alloc _
   have zV:V.heap.size=wo.heap.size+1:=by rw [hV];simp
   have rV:au V wo.heap.size [.string p.ac,.string p.name,.string p.owner,.slice A2 p.av.length bJ,.slice A3 p.rules.length fN]:=by rw [hV];exact aU (ag.refl _)
   have RV:=gH rV;have oq:=gH aV;have Pm:=gH zV;have q3:=rV.cell (j:=3) rfl;have q4:=rV.cell (j:=4) rfl;have g3:=rV.2.2 3 (by simp);have g4:=rV.2.2 4 (by simp);have qz:=rV.1;have KF:=gH (show ∀ w',ag V w'→(w'.cell? ⟨wo.heap.size,3,none⟩=some (.slice A2 p.av.length bJ)∧w'.cell? ⟨wo.heap.size,4,none⟩=some (.slice A3 p.rules.length fN)∧w'.frozen? ⟨wo.heap.size,3,none⟩=false∧w'.frozen? ⟨wo.heap.size,4,none⟩=false∧wo.heap.size < w'.heap.size) from fun w' a=>⟨a.cell_kept q3,a.cell_kept q4,(RV.out.aH a).2.2 3 (by simp),(RV.out.aH a).2.2 4 (by simp),(RV.out.aH a).1⟩);clear rV aV zV;go_wp2_with fail;rw [← hV];clear hV
   go_region_law (first
    | (go_simp;go_at_call 119;(first | refine (D1.out _ (oq.out.trans (ag.refl V).drew)).mono ?_ | refine (D1.out _ oq.out).mono ?_);rintro e w4 ⟨v4,We,rfl,a4,o4,h4⟩;have b4:ag V w4:=(by first | exact (ag.refl V).drew.trans a4 | exact a4);obtain ⟨k4,k5,k6,k7,k8⟩:=KF.out w4 b4;rw [vU h4] at o4;clear h4;obtain ⟨A4,c4,hv4⟩:=eA o4;subst hv4)
    | (go_simp;go_at_call 120;refine (D2.out _ (oq.out.trans b4)).mono ?_;rintro e w5 ⟨v5,ZQ,rfl,a5,o5,h5⟩;have b5:ag V w5:=b4.trans a5;obtain ⟨ZR,ZT,ZU,ZV,ZW⟩:=KF.out w5 b5;obtain ⟨A5,c5,ZY⟩:=eA o5;subst ZY))
   all_goals
    obtain ⟨L0,Ra,JV,Di⟩:=vV h5;rw [JV,← List.flatMap_def] at o5;obtain ⟨Z,hZ⟩:∃ Z,Z=(w5.setCell ⟨wo.heap.size,3,none⟩ (.slice A4 p.av.length c4)).setCell ⟨wo.heap.size,4,none⟩ (.slice A5 p.rules.length c5):=⟨_,rfl⟩
    have kZ:Kb (fun g=>g=wo.heap.size) w5 Z:=by rw [hZ];exact (Kb.set _ _ _ _).trans (Kb.set _ _ _ _)
    have rZ:au Z wo.heap.size [.string p.ac,.string p.name,.string p.owner,.slice A4 p.av.length c4,.slice A5 p.rules.length c5]:=by rw [hZ];exact ((RV.out.aH b5).set 3 _ (by simp)).set 4 _ (by simp)
    have Pn:=Pm.out;have s4:=b4.size;have s5:=a5.size
    have l4:∀ g,(Hd.mk A4 p.av.length c4).v.ownBlock=some g→wo.heap.size+1≤g∧g < w4.heap.size:=fun g hg=>by have:=o4.lt g hg;(try simp at this);omega
    have l5:∀ g,(Hd.mk A5 p.rules.length c5).v.ownBlock=some g→w4.heap.size≤g∧g < w5.heap.size:=fun g hg=>by have:=o5.lt g hg;(try simp at this);omega
    have Gj:=gH (show pP wo Z p ⟨A4,p.av.length,c4⟩ ⟨A5,p.rules.length,c5⟩ L0 [] 0 from by
     refine ⟨kZ.aN (oq.out.trans b5) (fun g hg e=>by have e:g=wo.heap.size:=e;omega),rZ,mH (bB (cj o4 a5) kZ (fun g hg e=>by have:=(l4 g hg).1;have e:g=wo.heap.size:=e;omega)) (fun g hg=>(l4 g hg).1),mH (bB o5 kZ (fun g hg e=>by have:=(l5 g hg).1;have e:g=wo.heap.size:=e;omega)) (fun g hg=>by have:=(l5 g hg).1;omega),rfl,rfl,fun x hx=>by simp at hx,?_⟩;simp only [List.flatMap_nil,List.append_nil]
     exact jU (fC _) (fC _) (fun g hg=>(l4 g (Hd.bu.1 hg)).2) (fun g hg=>(l5 g (Hd.bu.1 hg)).1))
    have MQ:=gH Ra;have Rb:=gH (show ∀ x∈L0,∀ w',ag wo w'→x.h.n=x.r.av.length∧aA w' 1 dg x.h.a x.h.c x.r.av from fun x hx w' a=>⟨(Di x hx).1,aO a (Di x hx).2⟩);have y4:=rZ.cell (j:=4) rfl;have yz:=rZ.1;rw [hZ] at y4 yz;clear o4 o5 h5 JV Ra Di kZ rZ s4 s5 l4 l5 Pn q3 q4 g3 g4 qz k4 k5 k6 k7 k8 a4 b4 a5 b5
    (try clear t0 t1 t2 t3 t4 lZ)
    go_wp2_with fail;rw [← hZ];clear hZ y4 yz ZR ZT ZU ZV ZW;have aaT:p.rules.length≤1000000:=HMT.out.2.1
    go_loopw [33] (fun i wr=>∃ (m:Nat) (M:List gc),m≤p.rules.length∧i=.int .i64 m∧pP wo wr p ⟨A4,p.av.length,c4⟩ ⟨A5,p.rules.length,c5⟩ L0 M m) (fun i _=>p.rules.length - (intOf i).toNat)
    case atStart=>exact ⟨0,[],Nat.zero_le _,rfl,Gj.out⟩
    case round =>
     clear Gj;obtain ⟨m,M,hm,rfl,hq⟩:=hrel;have b4:=hq.box.cell (j:=4) rfl;have bz:=hq.box.1;have HQ:=gH hq;by_cases JW:m < p.rules.length
     ·have JQ:L0.length=p.rules.length:=by rw [← MQ.out];simp
      obtain ⟨gr,Wh,ZZ,rg⟩:=vW hq.yq (by omega);have Rc:A5=some ⟨gr,0,none⟩:=Wh;subst Rc
      have pE:m < L0.length:=by omega
      have xG:(M++L0.drop m)[m]'(by simp [hq.len];omega)=L0[m]:=by
       rw [List.getElem_append_right (by rw [hq.len];exact Nat.le_refl _)];simp [hq.len]
      have qT:L0[m].r=p.rules[m]:=by
       have:(L0.map (·.r))[m]'(by simpa using pE)=p.rules[m]:=by simp only [MQ.out]
       simpa using this
      obtain ⟨hn,hD⟩:=Rb.out L0[m] (List.getElem_mem pE) wr hq.aH;obtain ⟨r,BS⟩:∃ r,p.rules[m]=r:=⟨_,rfl⟩
      have x2:wr.cell? ⟨gr,m*8+2,none⟩=some (.slice L0[m].h.a r.av.length L0[m].h.c):=by
       refine rg.cell ?_;rw [kf gc.cells 8 (fun _=>rfl) _ m 2 (by simp [hq.len];omega) (by decide),xG];unfold gc.cells Fj Hd.v;rw [hn,qT,BS];rfl
      rw [qT,BS] at hD;obtain ⟨E2,hE2⟩:∃ D,L0[m].h.a=D:=⟨_,rfl⟩;obtain ⟨e2,Po⟩:∃ c,L0[m].h.c=c:=⟨_,rfl⟩;rw [hE2,Po] at x2 hD;have Re:=gH BS;have f2:=rg.2.2 (m*8+2) (by rw [cJ (size:=8) (fun _=>rfl)];simp [hq.len];omega);have gz:=rg.1;have Z0:r.av.length≤1000000:=HMT.out.2.2 r (by rw [← BS];exact List.getElem_mem JW);have hpl:=hD.len;have C3:=gH (show ∀ w',ag wr w'→_ from fun w' a=>lr E2 e2 r.av wr w' a hD Z0)
      have X1:gr≠wo.heap.size:=by omega
      clear BS xG qT hn hD hE2 Po hq rg Wh JQ;go_wp2_with fail
      go_region_with ((go_at_call 121;refine (C3.out _ (ag.refl _).drew).mono ?_;rintro e w6 ⟨v6,Z1,rfl,a6,rN,Wi⟩;have x6:=a6.cell_kept x2;have b6:=a6.cell_kept b4;have f6:=(Below.frozen a6 (p:=⟨gr,m*8+2,none⟩) gz).trans f2;obtain ⟨Dn,cn,hv6⟩:=eA rN;subst hv6))
      all_goals
       have Tp:ag wr w6:=(ag.refl _).drew.trans a6;have xH:=gH (HQ.out.step (h4:=⟨Dn,r.av.length,cn⟩) MQ.out JW rfl Tp (by rw [jV Wi] at rN;rw [Re.out];exact rN));rw [Re.out] at xH;clear rN Wi a6 Tp x6 b6 f6;go_wp2
       go_roundw
       case rel=>exact ⟨m+1,_,by omega,by go_num,xH.out⟩
       case measure=>simp [intOf];omega
     ·have hmn:m=p.rules.length:=by omega
      obtain ⟨JU,JX,MR⟩:=hq.done MQ.out hmn;obtain ⟨x,hx⟩:∃ x,(bK.mk p.ac p.name p.owner p.av M ⟨A4,p.av.length,c4⟩ ⟨A5,p.rules.length,c5⟩)=x:=⟨_,rfl⟩
      have Wj:x.cells=[.string p.ac,.string p.name,.string p.owner,.slice A4 p.av.length c4,.slice A5 p.rules.length c5]:=by rw [← hx];rfl
      rw [hx] at JU JX MR;have aq:=hq.aH;obtain ⟨y0,y1,y2,y3⟩:=yl hq.box;have z3:=(HS.out.box.aH aq).cell (j:=3) rfl;have zz:=(HS.out.box.aH aq).1;have HT:=gH (And.intro JU (And.intro JX MR));have Z2:=gH aq;have HXC:=gH Wj;obtain ⟨LC,nt,ct⟩:=ht;have dw:=HS.out.obj.tab;rw [HS.out.len] at dw;obtain rfl:nt=k:=nX dw;have pR:=gH (show wo.ownsRow (w.heap.size+2) 80 5 (.slice LC nt ct) nt (L.flatMap bK.cells) from dw)
      have h1m:nt≤1000000:=by have:=HM.out.2.1;omega
      have ZM:w.heap.size+2≤wr.heap.size+1:=by have:=aq.size;omega
      have HBX:=gH (fun w' (kb:Kb (fun g=>(Value.slice LC nt ct).ownBlock=some g) wr w')=>kb.row (HS.out.box.aH aq) (fun h1=>by have:=(pR.out.lt _ h1).1;omega));clear hq JU JX MR hx Wj aq dw;simp only [] at z3
      go_wp2_with (at_builtin;(refine Ms rfl _ _ rfl (w.heap.size+2) (.slice LC nt ct) nt (L.flatMap bK.cells) rfl (cj pR.out (Z2.out.alloc _)) wr.heap.size x p.ac p.name p.owner A4 p.av.length c4 A5 p.rules.length c5 HXC.out rfl (heap_alloc_new wr _) h1m (by simp;omega) ?_);intro gg cap' w7 Pp hgrow hat;have r7:=HBX.out w7 ((Kb.bl ((ag.refl wr).alloc _)).trans (Kb.dF hgrow));have m3:=r7.cell (j:=3) rfl;have n3:=r7.2.2 3 (by simp);have mz:=r7.1;have xH:=gH (HS.out.step (lz:=⟨some ⟨gg,0,none⟩,nt+1,cap'⟩) (x:=x) fd (by rw [HT.out.1,sM.out]) (Z2.out.alloc _) (HT.out.2.1.aH ((ag.refl _).alloc _)) HT.out.2.2 hgrow Pp
       (fun g hg=>by
        rw [gG,List.mem_singleton] at hg;subst hg
        rcases hat with h1 | h1
        ·exact .inl (Hd.bu.2 h1)
        ·refine .inr ?_
         omega)
       (fun g hg hx=>by
        rw [gG,List.mem_singleton] at hg;subst hg;have h2:=HT.out.2.1.lt _ hx;have h3:=Z2.out.size
        rcases hat with h1 | h1
        ·have:=(pR.out.lt _ h1).2
         omega
        ·simp at h1
         omega))
                                                            ;clear r7 Pp hgrow hat)
      go_roundw
      case rel=>exact ⟨nt+1,_,_,by omega,by go_num,xH.out⟩
      case measure=>simp [intOf];omega
  ·have Pq:k=c.ah.tables.length:=by omega
   subst Pq;have p0:=hs.box;have t4:=p0.cell (j:=4) rfl;have t5:=p0.cell (j:=5) rfl;have f4:=p0.2.2 4 (by simp);have f5:=p0.2.2 5 (by simp);have tz:=p0.1;have D1:=gH (fun w' (a:ag wo w')=>lr An aC c.ai.names w' w' (ag.refl _) (aO (HS.out.aH.trans a) HH.out.j0) hln);have D2:=gH (fun w' (a:ag wo w')=>vX Am aJ c.ai.members w' w' (ag.refl _) (cu (HS.out.aH.trans a) HH.out.mem) Wa);have KF:=gH (show ∀ w',ag wo w'→(w'.cell? ⟨w.heap.size,4,none⟩=some (.slice An c.ai.names.length aC)∧w'.cell? ⟨w.heap.size,5,none⟩=some (.slice Am c.ai.members.length aJ)∧w'.frozen? ⟨w.heap.size,4,none⟩=false∧w'.frozen? ⟨w.heap.size,5,none⟩=false∧w.heap.size < w'.heap.size) from fun w' a=>⟨a.cell_kept t4,a.cell_kept t5,(p0.aH a).2.2 4 (by simp),(p0.aH a).2.2 5 (by simp),(p0.aH a).1⟩);have hwr:=hs.out.1;clear p0 hs;go_wp2_with fail
   go_region_law (first
    | (go_simp;go_at_call 121;(first | refine (D1.out _ ((ag.refl wo).drew)).mono ?_ | refine (D1.out _ (ag.refl wo)).mono ?_);rintro e w4 ⟨v4,We,rfl,a4,o4,h4⟩;have q4:ag wo w4:=(by first | exact (ag.refl wo).drew.trans a4 | exact a4);obtain ⟨k4,k5,k6,k7,k8⟩:=KF.out w4 q4;rw [jV h4] at o4;clear h4;obtain ⟨A4,c4,hv4⟩:=eA o4;subst hv4)
    | (go_simp;go_at_call 122;refine (D2.out _ q4).mono ?_;rintro e w5 ⟨v5,ZQ,rfl,a5,o5,h5⟩;have q5:ag wo w5:=q4.trans a5;obtain ⟨ZR,ZT,ZU,ZV,ZW⟩:=KF.out w5 q5;rw [vY h5] at o5;clear h5;obtain ⟨A5,c5,ZY⟩:=eA o5;subst ZY))
   all_goals
    have s4:=q4.size;have s5:=a5.size;obtain ⟨Z,hZ⟩:∃ Z,Z=(w5.setCell ⟨w.heap.size,4,none⟩ (.slice A4 c.ai.names.length c4)).setCell ⟨w.heap.size,5,none⟩ (.slice A5 c.ai.members.length c5):=⟨_,rfl⟩
    have kZ:Kb (fun g=>g=w.heap.size) w5 Z:=by rw [hZ];exact (Kb.set _ _ _ _).trans (Kb.set _ _ _ _)
    have zZ:Z.heap.size=w5.heap.size:=by rw [hZ];simp
    have RZ:=gH (show au Z (w.heap.size) [.int .i64 c.ax,.int .i64 c.version,.slice Bs c.ah.aa.length Hj,.slice ht.a c.ah.tables.length ht.c,.slice A4 c.ai.names.length c4,.slice A5 c.ai.members.length c5,.slice Ag c.af.length aQ] by rw [hZ];exact ((HS.out.box.aH q5).set 4 _ (by simp)).set 5 _ (by simp));have RZ1:=gH (kZ.row (HS.out.out.aH q5) (by omega));have Wk:=gH (kZ.aN (HS.out.aH.trans q5) (fun g hg e=>by have e:g=_:=e;omega));have NL:=gH (show ∀ g,(Hd.mk A4 c.ai.names.length c4).v.ownBlock=some g→wo.heap.size≤g∧g < w4.heap.size from fun g hg=>by have:=o4.lt g hg;(try simp at this);omega);have ML:=gH (show ∀ g,(Hd.mk A5 c.ai.members.length c5).v.ownBlock=some g→w4.heap.size≤g∧g < w5.heap.size from fun g hg=>by have:=o5.lt g hg;(try simp at this);omega);have ON:=gH (show Z.ownsRow wo.heap.size 9 1 (Hd.mk A4 c.ai.names.length c4).v c.ai.names.length (c.ai.names.flatMap bT) from mH (bB (cj o4 a5) kZ (fun g hg e=>by have:=(NL.out g hg).1;have e:g=_:=e;omega)) (fun g hg=>(NL.out g hg).1));have OM:=gH (show Z.ownsRow w4.heap.size 174 2 (Hd.mk A5 c.ai.members.length c5).v c.ai.members.length (c.ai.members.flatMap kJ) from mH (bB o5 kZ (fun g hg e=>by have:=(ML.out g hg).1;have e:g=_:=e;omega)) (fun g hg=>(ML.out g hg).1));have KZ:=gH (show Kb (fun g=>g=w.heap.size) wo Z from (Kb.bl q5).trans kZ);have SZZ:=gH (show wo.heap.size≤w4.heap.size∧w4.heap.size≤w5.heap.size∧Z.heap.size=w5.heap.size∧w.heap.size+2≤wo.heap.size from ⟨s4,s5,zZ,by omega⟩)
    have CG:=gH (De Ag aQ c.af Z Z (ag.refl _) (dQ Wk.out HH.out.n7) ZP);have y6:=RZ.out.cell (j:=6) rfl;have yz:=RZ.out.1;rw [hZ] at y6 yz;clear q4 q5 a4 a5 o4 o5 s4 s5 kZ zZ k4 k5 k6 k7 k8 ZR ZT ZU ZV ZW t4 t5 f4 f5 tz D1 D2 KF;go_wp2_with fail;rw [← hZ];clear hZ y6 yz;refine CG.out.mono ?_;rintro e w6 ⟨v6,Z1,rfl,a6,rN,Wi⟩;obtain ⟨Ad,cd,rfl⟩:=eA rN;rw [eT (f:=eM) (fun _ _ h=>h.1) Wi] at rN;have HO6:=gH rN;have HA6:=gH a6;have p0:=RZ.out.aH a6;have p1:=RZ1.out.aH a6;have z0:=p0.cell (j:=0) rfl;have u0:=p1.cell (j:=0) rfl;have v0:=p1.2.2 0 (by simp);have z1:=p0.cell (j:=1) rfl;have u1:=p1.cell (j:=1) rfl;have v1:=p1.2.2 1 (by simp);have z2:=p0.cell (j:=2) rfl;have u2:=p1.cell (j:=2) rfl;have v2:=p1.2.2 2 (by simp);have z3:=p0.cell (j:=3) rfl;have u3:=p1.cell (j:=3) rfl;have v3:=p1.2.2 3 (by simp);have z4:=p0.cell (j:=4) rfl;have u4:=p1.cell (j:=4) rfl;have v4:=p1.2.2 4 (by simp);have z5:=p0.cell (j:=5) rfl;have u5:=p1.cell (j:=5) rfl;have v5:=p1.2.2 5 (by simp);have z6:=p0.cell (j:=6) rfl;have u6:=p1.cell (j:=6) rfl;have v6:=p1.2.2 6 (by simp);have zf:=p0.2.2 6 (by simp);have zz:=p0.1;have vz:=p1.1;have ne:w.heap.size+1≠w.heap.size:=(by omega);clear rN a6 p0 p1 Wi;go_wp2_with fail
    (try simp only [Exit.inBlock,Exit.then])
    have k3:=Kb.set w6 (w.heap.size) 6 (.slice Ad c.af.length cd);have q1:=k3.row (RZ1.out.aH HA6.out) (by omega);have k4:=pG (w6.setCell ⟨w.heap.size,6,none⟩ (.slice Ad c.af.length cd)) (w.heap.size+1) (.int .i64 c.ax) (.int .i64 c.version) (.slice Bs c.ah.aa.length Hj) (.slice ht.a c.ah.tables.length ht.c) (.slice A4 c.ai.names.length c4) (.slice A5 c.ai.members.length c5) (.slice Ad c.af.length cd);refine bodyPost_ret (bE (v:=.agg #[.int .i64 c.ax,.int .i64 c.version,.slice Bs c.ah.aa.length Hj,.slice ht.a c.ah.tables.length ht.c,.slice A4 c.ai.names.length c4,.slice A5 c.ai.members.length c5,.slice Ad c.af.length cd]) rfl _ rfl (nI (mW q1 rfl _ _ _ _ _ _ _))) rfl ?_;obtain ⟨e1,e2,e3,e4⟩:=SZZ.out;have kC:=k3.or k4;have KB:=(Kb.bl (P:=fun _=>False) HA6.out).or kC;have KA:=KZ.out.or KB
    have g6:∀ g,(Hd.mk Ad c.af.length cd).v.ownBlock=some g→Z.heap.size≤g:=fun g hg=>(HO6.out.lt g hg).1
    refine ⟨⟨Bs,c.ah.aa.length,Hj⟩,ht,⟨A4,c.ai.names.length,c4⟩,⟨A5,c.ai.members.length,c5⟩,⟨Ad,c.af.length,cd⟩,L,rfl,KA.aN HS.out.aH (fun g hg e=>by rcases e with e | e | e | e<;>first | exact e | (have e:g=_:=e;omega)),?_⟩;have hol:=HS.out.obj.lt
    have hNb:∀ g,g∈(Hd.mk A4 c.ai.names.length c4).blk∨g∈(Hd.mk A5 c.ai.members.length c5).blk→wo.heap.size≤g∧g < w5.heap.size:=fun g hg=>by
     rcases hg with h1 | h1
     ·have:=NL.out g (Hd.bu.1 h1);omega
     ·have:=ML.out g (Hd.bu.1 h1);omega
    refine ⟨?_,?_,⟨?_,?_,?_⟩,?_,?_,?_⟩
    ·exact (HS.out.obj.kb KA (fun g hg e=>by have:=(hol g hg).1;rcases e with e | e | e | e<;>first | exact e | (have e:g=_:=e;omega))).down (by omega)
    ·have:=HS.out.is
     rw [List.take_of_length_le (Nat.le_refl _)] at this;exact this
    ·exact bS (bB ON.out KB (fun g hg e=>by have:=(NL.out g hg).1;rcases e with e | e | e<;>first | exact e | (have e:g=_:=e;omega))) (by omega)
    ·exact bS (bB OM.out KB (fun g hg e=>by have:=(ML.out g hg).1;rcases e with e | e | e<;>first | exact e | (have e:g=_:=e;omega))) (by omega)
    ·intro g hg qh
     have h8:=(NL.out g (Hd.bu.1 hg)).2;have h9:=(ML.out g (Hd.bu.1 qh)).1;omega
    ·exact bS (bB HO6.out kC (fun g hg e=>by have:=g6 g hg;rcases e with e | e<;>(have e:g=_:=e;omega))) (by omega)
    ·intro g hg
     have h1:=(hol g hg).2;exact ⟨fun h2=>by have:=(hNb g h2).1;omega,fun h2=>by have:=g6 g (Hd.bu.1 h2);omega⟩
    ·intro g hg h2
     have h1:=(hNb g hg).2;have:=g6 g (Hd.bu.1 h2);omega
def yg (k:Int):Int:=if k=2∨k=3 then 1 else if 4≤k∧k≤9 then 2 else if k=14∨k=15 then 3 else 0
theorem Z3 (k:Int) (w:World):Calls Tryz.prog 115 #[.int .i64 k] w fun e w'=>e=.returned (.int .i64 (yg k))∧w=w':=by
 by_cases h2:k=2
 case pos =>
  subst h2
  go_in
  go_wp2;go_ret;exact ⟨rfl,rfl⟩
 by_cases h3:k=3
 case pos =>
  subst h3
  go_in
  go_wp2;go_ret;exact ⟨rfl,rfl⟩
 by_cases h4:k=4
 case pos =>
  subst h4
  go_in
  go_wp2;go_ret;exact ⟨rfl,rfl⟩
 by_cases h5:k=5
 case pos =>
  subst h5
  go_in
  go_wp2;go_ret;exact ⟨rfl,rfl⟩
 by_cases h6:k=6
 case pos =>
  subst h6
  go_in
  go_wp2;go_ret;exact ⟨rfl,rfl⟩
 by_cases h7:k=7
 case pos =>
  subst h7
  go_in
  go_wp2;go_ret;exact ⟨rfl,rfl⟩
 by_cases h8:k=8
 case pos =>
  subst h8
  go_in
  go_wp2;go_ret;exact ⟨rfl,rfl⟩
 by_cases h9:k=9
 case pos =>
  subst h9
  go_in
  go_wp2;go_ret;exact ⟨rfl,rfl⟩
 by_cases GZ:k=14
 case pos =>
  subst GZ
  go_in
  go_wp2;go_ret;exact ⟨rfl,rfl⟩
 by_cases G0:k=15
 case pos =>
  subst G0
  go_in
  go_wp2;go_ret;exact ⟨rfl,rfl⟩
 have HV:=gH (show yg k=0 by unfold yg;rw [if_neg (by omega),if_neg (by omega),if_neg (by omega)])
 go_in
 go_wp2;go_ret;exact ⟨by rw [HV.out];rfl,rfl⟩
theorem MS (nm ow s:ByteArray) (bx:Nat) (w:World) (hz:bx < w.heap.size) (hc:w.cell? ⟨bx,2,none⟩=some (.string s)) :
  Calls Tryz.prog 71 (#[.agg #[.string nm,.string ow]]++#[.pointer (some ⟨bx,0,none⟩)]) w fun e w'=>e=.returned (.bool (aS nm s))∧ag w w':=by
 show Calls Tryz.prog 71 #[.agg #[.string nm,.string ow],.pointer (some ⟨bx,0,none⟩)] w _
 have hz2:bx < w.heap.size+1:=by omega
 go_in
 go_wp2;go_ret;exact ⟨rfl,(ag.refl _).alloc _⟩
theorem MT (nm ow s:ByteArray) (bx:Nat) (w:World) (hz:bx < w.heap.size) (hc:w.cell? ⟨bx,2,none⟩=some (.string s)) :
  Calls Tryz.prog 116 (#[.agg #[.string nm,.string ow]]++#[.pointer (some ⟨bx,0,none⟩)]) w fun e w'=>e=.returned (.bool (aS nm s))∧ag w w':=by
 show Calls Tryz.prog 116 #[.agg #[.string nm,.string ow],.pointer (some ⟨bx,0,none⟩)] w _
 have hz2:bx < w.heap.size+1:=by omega
 go_in
 go_wp2;go_ret;exact ⟨rfl,(ag.refl _).alloc _⟩
theorem MU (A:Option Addr) (cap:Nat) (l:List fJ) (g:FuncId) (ay:Array Value) (p:fJ→Bool) (w:World) (h:aA w 2 eL A cap l) (dc:∀ (args:Array Value) (w:World),(callFunc g args).run Tryz.prog w=.ok (.enter g args) w)
  (hp:∀ w',ag w w'→∀ i (hi:i < l.length),Calls Tryz.prog g (#[.agg #[.string l[i].name,.string l[i].owner]]++ay) w' fun e w''=>e=.returned (.bool (p l[i]))∧ag w' w'') :
  Calls Tryz.prog 70 #[.slice A l.length cap,.func (.func g) #[] ay] w fun e w'=>e=.returned (.bool (l.any p))∧ag w w':=by
 have C:=gH (wT A cap l g ay p w h dc hp);have HE:=gH (iE p l);obtain ⟨i,hi⟩:∃ i,bD p l=i:=⟨_,rfl⟩;rw [hi] at C HE;clear hi h hp
 go_in
 go_wp2_with fail;refine C.out.mono ?_;rintro e w1 ⟨rfl,a1⟩;have HA:=gH a1;clear a1;go_wp2;go_ret;exact ⟨by rw [← HE.out];rfl,HA.out⟩
theorem xI {k:Int}:yg k=1↔(k=2∨k=3):=by
 unfold yg;by_cases h:k=2∨k=3
 ·rw [if_pos h];simp [h]
 ·rw [if_neg h];split
  ·simp [h]
  ·split<;>simp [h]
theorem EN {k:Int}:yg k=2↔(4≤k∧k≤9):=by
 unfold yg;by_cases h:k=2∨k=3
 ·rw [if_pos h];constructor
  ·intro h2;omega
  ·intro h2;omega
 ·rw [if_neg h]
  by_cases h2:4≤k∧k≤9
  ·rw [if_pos h2];simp [h2]
  ·rw [if_neg h2]
   constructor
   ·intro h3;split at h3<;>omega
   ·intro h3;exact absurd h3 h2
theorem vZ {k:Int}:yg k=3↔(k=14∨k=15):=by
 unfold yg;by_cases h:k=2∨k=3
 ·rw [if_pos h];constructor
  ·intro h2;omega
  ·intro h2;omega
 ·rw [if_neg h]
  by_cases h2:4≤k∧k≤9
  ·rw [if_pos h2];constructor
   ·intro h3;omega
   ·intro h3;omega
  ·rw [if_neg h2]
   by_cases h3:k=14∨k=15
   ·rw [if_pos h3];simp [h3]
   ·rw [if_neg h3];simp [h3]
theorem Gk (c:bX) (x:gV) (h:yg x.kind=1):gw c x=(Cj c.ai x.aP cE || Cj c.ai x.aP (qP c.ah x.ac)):=by
 unfold gw;rw [if_pos (xI.1 h)]
theorem Gl (c:bX) (x:gV) (h:yg x.kind=2):gw c x=ol c x.aP x.ac x.table:=by
 have:=EN.1 h;unfold gw;rw [if_neg (by omega),if_pos this]
theorem Ab (c:bX) (x:gV) (h:yg x.kind=3):gw c x=true:=by
 have:=vZ.1 h;unfold gw;rw [if_neg (by omega),if_neg (by omega),if_pos this]
theorem Dj (c:bX) (x:gV) (h1:yg x.kind≠1) (h2:yg x.kind≠2) (h3:yg x.kind≠3):gw c x=Cj c.ai x.aP cE:=by
 unfold gw;rw [if_neg (fun h=>h1 (xI.2 h)),if_neg (fun h=>h2 (EN.2 h)),if_neg (fun h=>h3 (vZ.2 h))]
theorem Gm (c:bX) (As:Option Addr) (ay:Nat) (At:Option Addr) (az:Nat) (An:Option Addr) (aC:Nat) (Am:Option Addr) (aJ:Nat) (Ag:Option Addr) (aQ:Nat) (x:gV) (A6:Option Addr) (n6 c6:Nat) (A9:Option Addr) (n9 c9:Nat) (w:World) (H:fp w c As ay At az An aC Am aJ Ag aQ) (s1:Small x.aP.size) (hsc:yg x.kind=1→0≤cy c.ah.aa x.ac) :
  Calls Tryz.prog 73 #[.agg #[.int .i64 c.ax,.int .i64 c.version,.slice As c.ah.aa.length ay,.slice At c.ah.tables.length az,.slice An c.ai.names.length aC,.slice Am c.ai.members.length aJ,.slice Ag c.af.length aQ],.agg #[.int .i64 x.kind,.string x.aP,.string x.ac,.string x.table,.string x.name,.string x.role,.slice A6 n6 c6,.string x.rule.name,.int .i64 x.rule.kind,.slice A9 n9 c9,.int .i64 x.rule.low,.int .i64 x.rule.high,.string x.rule.ac,.string x.rule.table,.string x.rule.key,.int .i64 x.right,.bool x.opt]] w fun e w'=>e=.returned (.bool (gw c x))∧ag w w':=by
 have hlen:=H.gT.len
 have l1:w.heap.size < w.heap.size+1:=by omega
 have l2:w.heap.size < w.heap.size+1+1:=by omega
 have dc:=enters (P:=Tryz.prog) Tryz.func116 (by kernel_rfl) rfl;obtain ⟨W,hW⟩:∃ W,W=(w.alloc (.cells #[.int .i64 c.ax,.int .i64 c.version,.slice As c.ah.aa.length ay,.slice At c.ah.tables.length az,.slice An c.ai.names.length aC,.slice Am c.ai.members.length aJ,.slice Ag c.af.length aQ] 32)).alloc (.cells #[.int .i64 x.kind,.string x.aP,.string x.ac,.string x.table,.string x.name,.string x.role,.slice A6 n6 c6,.string x.rule.name,.int .i64 x.rule.kind,.slice A9 n9 c9,.int .i64 x.rule.low,.int .i64 x.rule.high,.string x.rule.ac,.string x.rule.table,.string x.rule.key,.int .i64 x.right,.bool x.opt] 45):=⟨_,rfl⟩
 have aW:ag w W:=by rw [hW];exact ((ag.refl w).alloc _).alloc _
 have r0:au W (w.heap.size) [.int .i64 c.ax,.int .i64 c.version,.slice As c.ah.aa.length ay,.slice At c.ah.tables.length az,.slice An c.ai.names.length aC,.slice Am c.ai.members.length aJ,.slice Ag c.af.length aQ]:=by rw [hW];exact au.up (bj (ag.refl _) (by simp))
 have r1:au W (w.heap.size+1) [.int .i64 x.kind,.string x.aP,.string x.ac,.string x.table,.string x.name,.string x.role,.slice A6 n6 c6,.string x.rule.name,.int .i64 x.rule.kind,.slice A9 n9 c9,.int .i64 x.rule.low,.int .i64 x.rule.high,.string x.rule.ac,.string x.rule.table,.string x.rule.key,.int .i64 x.right,.bool x.opt]:=by rw [hW];exact bj (ag.refl _) (by simp)
 obtain ⟨b1,hb1⟩:∃ b,Cj c.ai x.aP cE=b:=⟨_,rfl⟩;obtain ⟨k,hk⟩:∃ k,yg x.kind=k:=⟨_,rfl⟩;have C1:=gH (show Calls Tryz.prog 114 #[.agg #[.slice An c.ai.names.length aC,.slice Am c.ai.members.length aJ],.string x.aP,.string cE] W fun e w''=>e=.returned (.bool b1)∧ag W w'' from hb1▸is8 c.ai An aC Am aJ x.aP cE W (aO aW H.j0) (cu aW H.mem) s1);have C2:=gH (show ∀ V,Calls Tryz.prog 115 #[.int .i64 x.kind] V fun e w'=>e=.returned (.int .i64 k)∧V=w' from fun V=>hk▸Z3 x.kind V);have C3:=gH (show ∀ V,ag W V→∀ nm,Calls Tryz.prog 114 #[.agg #[.slice An c.ai.names.length aC,.slice Am c.ai.members.length aJ],.string x.aP,.string nm] V fun e w''=>e=.returned (.bool (Cj c.ai x.aP nm))∧ag V w'' from fun V a nm=>is8 c.ai An aC Am aJ x.aP nm V (aO (aW.trans a) H.j0) (cu (aW.trans a) H.mem) s1);have C4:=gH (show ∀ V,ag W V→Calls Tryz.prog 117 #[.agg #[.int .i64 c.ax,.int .i64 c.version,.slice As c.ah.aa.length ay,.slice At c.ah.tables.length az,.slice An c.ai.names.length aC,.slice Am c.ai.members.length aJ,.slice Ag c.af.length aQ],.string x.aP,.string x.ac,.string x.table] V fun e w''=>e=.returned (.bool (ol c x.aP x.ac x.table))∧ag V w'' from fun V a=>Vl c As ay At az An aC Am aJ Ag aQ x.aP x.ac x.table s1 V (H.aH (aW.trans a)))
 have CI:=gH (show ∀ w',ag W w'→Calls Tryz.prog 110 #[.slice As c.ah.aa.length ay,.func (.func 116) #[] #[.pointer (some ⟨w.heap.size+1,0,none⟩)]] w' fun e w''=>e=.returned (.int .i64 (cy c.ah.aa x.ac))∧ag w' w'' from
  fun w' a=>wT As ay c.ah.aa 116 #[.pointer (some ⟨w.heap.size+1,0,none⟩)] (fun s=>aS s.name x.ac) w' (bI (aW.trans a) H.gT) dc (fun w'' b j hj=>by
   have p1:=r1.aH (a.trans b)
   exact MT _ _ x.ac _ w'' p1.1 (p1.cell (j:=2) rfl)))
 have HS:=gH (show k=1→∃ q:Nat,∃ gs os:Nat,∃ ov,cy c.ah.aa x.ac=q∧q < c.ah.aa.length∧As=some ⟨gs,os,none⟩∧gs < w.heap.size∧qP c.ah x.ac=ov∧∀ V,ag W V→V.cell? ⟨gs,os+q*2+1,none⟩=some (.string ov) from fun h=>by
  obtain ⟨q,hq⟩:=Int.eq_ofNat_of_zero_le (hsc (hk.trans h));have LY : -1≤cy c.ah.aa x.ac∧cy c.ah.aa x.ac < c.ah.aa.length:=bk _ _
  have mO:q < c.ah.aa.length:=by omega
  obtain ⟨bs,off,hA,YT,t0,t1,_⟩:=iC H.gT mO
  exact ⟨q,bs,off,_,hq,mO,hA,YT,oC hq mO,fun V a=>(aW.trans a).cell_kept t1⟩)
 have HV:=gH (And.intro (Gk c x) (And.intro (Gl c x) (And.intro (Ab c x) (Dj c x))));rw [hk,hb1] at HV;have bQ:=gH aW;have fO:=gH r0;have uy:=gH r1;have z0:=r0.1;have z1:=r1.1;have x2:=r0.cell (j:=2) rfl;have x4:=r0.cell (j:=4) rfl;have x5:=r0.cell (j:=5) rfl;have y0:=r1.cell (j:=0) rfl;have y1:=r1.cell (j:=1) rfl;clear H s1 hsc dc aW r0 r1 hb1 hk
 go_in
 go_wp2_with fail;rw [← hW];clear hW;refine C1.out.mono ?_;rintro e w1 ⟨rfl,a1⟩;have A1:=gH a1;have p0:=fO.out.aH a1;have p1:=uy.out.aH a1;clear z0 z1 x2 x4 x5 y0 y1 a1;have z0:=p0.1;have z1:=p1.1;obtain ⟨x0,x1,x2,x3,x4,x5,x6⟩:=wO p0;obtain ⟨y0,y1,y2,y3⟩:=yl p1;clear p0 p1;go_wp2_with fail;refine (C2.out _).mono ?_;rintro e w2 ⟨rfl,rfl⟩;by_cases k1:k=1
 case pos =>
  subst k1;obtain ⟨q,gs,os,ov,hq,mO,rfl,hgs,Tq,hcc⟩:=HS.out rfl;rw [hq] at CI;rw [Tq] at HV;have Z4:=gH (HV.out.1 rfl);obtain ⟨b2,hb2⟩:∃ b,Cj c.ai x.aP ov=b:=⟨_,rfl⟩;have C5:=gH (show ∀ V,ag W V→Calls Tryz.prog 114 #[.agg #[.slice An c.ai.names.length aC,.slice Am c.ai.members.length aJ],.string x.aP,.string ov] V fun e w''=>e=.returned (.bool b2)∧ag V w'' from fun V a=>hb2▸C3.out V a ov);rw [hb2] at Z4;have HHQ:=gH (And.intro hgs hcc);clear HV hb2 hq Tq hcc C3;go_wp2_with fail;refine (CI.out _ A1.out).mono ?_;rintro e w3 ⟨rfl,a3⟩;have A3:=gH (A1.out.trans a3);clear x0 x1 x2 x3 x4 x5 x6 y0 y1 y2 y3 z0 z1;have p0:=fO.out.aH (A1.out.trans a3);have p1:=uy.out.aH (A1.out.trans a3);have x2:=p0.cell (j:=2) rfl;have x4:=p0.cell (j:=4) rfl;have x5:=p0.cell (j:=5) rfl;have y1:=p1.cell (j:=1) rfl;have z0:=p0.1;have z1:=p1.1;have zg:=Nat.lt_of_lt_of_le HHQ.out.1 (bQ.out.trans (A1.out.trans a3)).size;have u1:=HHQ.out.2 _ (A1.out.trans a3);clear p0 p1 a3
  cases b1
  ·have KS:=gH (show ∀ V,ag w3 V→(V.cell? ⟨w.heap.size,2,none⟩=some (.slice (some ⟨gs,os,none⟩) c.ah.aa.length ay)∧V.cell? ⟨w.heap.size,4,none⟩=some (.slice An c.ai.names.length aC)∧V.cell? ⟨w.heap.size,5,none⟩=some (.slice Am c.ai.members.length aJ)∧V.cell? ⟨w.heap.size+1,1,none⟩=some (.string x.aP)∧V.cell? ⟨gs,os+q*2+1,none⟩=some (.string ov)) from fun V a=>⟨a.cell_kept x2,a.cell_kept x4,a.cell_kept x5,a.cell_kept y1,a.cell_kept u1⟩)
   clear x2 x4 x5 y1 u1;go_wp2_with fail
   go_region_held3 (fun V=>V.cell? ⟨w.heap.size,2,none⟩=some (.slice (some ⟨gs,os,none⟩) c.ah.aa.length ay)∧V.cell? ⟨w.heap.size,4,none⟩=some (.slice An c.ai.names.length aC)∧V.cell? ⟨w.heap.size,5,none⟩=some (.slice Am c.ai.members.length aJ)∧V.cell? ⟨w.heap.size+1,1,none⟩=some (.string x.aP)∧V.cell? ⟨gs,os+q*2+1,none⟩=some (.string ov))
    ((
     refine KS.out _ ?_;first
     | with_reducible exact (ag.refl _).drew
     | with_reducible exact a5))
    ((go_at_call 114;refine (C5.out _ (A3.out.trans (ag.refl _).drew)).mono ?_;rintro e w4 ⟨rfl,a4⟩;have a5:ag w3 w4:=(ag.refl _).drew.trans a4))
   go_wp2;go_ret;exact ⟨by rw [Z4.out];rfl,(bQ.out.trans A3.out).trans a5⟩
  ·go_wp2_with fail
   go_region
   go_wp2;go_ret;exact ⟨by rw [Z4.out];rfl,(bQ.out.trans A3.out).drew⟩
 by_cases k2:k=2
 case pos =>
  subst k2;have Rf:=gH (HV.out.2.1 rfl);clear HV;go_wp2_with fail;refine (C4.out _ A1.out).mono ?_;rintro e w3 ⟨rfl,a3⟩;have A3:=gH ((bQ.out.trans A1.out).trans a3);clear a3;go_wp2;go_ret;exact ⟨by rw [Rf.out];rfl,A3.out⟩
 by_cases k3:k=3
 case pos =>
  subst k3;have TB:=gH (HV.out.2.2.1 rfl);clear HV;go_wp2;go_ret;exact ⟨by rw [TB.out];rfl,bQ.out.trans A1.out⟩
 go_wp2;go_ret;exact ⟨by rw [HV.out.2.2.2 k1 k2 k3];rfl,bQ.out.trans A1.out⟩
theorem qy {c:bX} {x:gV} {k:Int} (h:dW c x=k) (hk:k≠0):dX c x=(sN,k):=by unfold dX;rw [if_pos (by rw [h];exact hk),h]
theorem Z5 {c:bX} {x:gV} (h:dh c=false):dW c x=1:=by unfold dW;rw [if_pos h]
theorem Z6 {c:bX} {x:gV} (h1:dh c=true) (h:gv x=false):dW c x=90:=by unfold dW;rw [if_neg (by rw [h1];decide),if_pos h]
theorem Z7 {c:bX} {x:gV} (h1:dh c=true) (h2:gv x=true) (h:cL c.ai.names x.aP=false):dW c x=71:=by unfold dW;rw [if_neg (by rw [h1];decide),if_neg (by rw [h2];decide),if_pos h]
theorem Z8 {c:bX} {x:gV} (h1:dh c=true) (h2:gv x=true) (h3:cL c.ai.names x.aP=true) (h:emp x.ac=false∧x.kind≠1∧cy c.ah.aa x.ac < 0):dW c x=61:=by unfold dW;rw [if_neg (by rw [h1];decide),if_neg (by rw [h2];decide),if_neg (by rw [h3];decide),if_pos h]
theorem Z9 {c:bX} {x:gV} (h1:dh c=true) (h2:gv x=true) (h3:cL c.ai.names x.aP=true) (h4:¬ (emp x.ac=false∧x.kind≠1∧cy c.ah.aa x.ac < 0)) (h:emp x.table=false∧x.kind≠3∧bp c.ah.tables x.ac x.table < 0):dW c x=61:=by unfold dW;rw [if_neg (by rw [h1];decide),if_neg (by rw [h2];decide),if_neg (by rw [h3];decide),if_neg h4,if_pos h]
theorem Wl {c:bX} {x:gV} (h1:dh c=true) (h2:gv x=true) (h3:cL c.ai.names x.aP=true) (h4:¬ (emp x.ac=false∧x.kind≠1∧cy c.ah.aa x.ac < 0)) (h5:¬ (emp x.table=false∧x.kind≠3∧bp c.ah.tables x.ac x.table < 0)):dW c x=if gw c x=false then 91 else 0:=by unfold dW;rw [if_neg (by rw [h1];decide),if_neg (by rw [h2];decide),if_neg (by rw [h3];decide),if_neg h4,if_neg h5]
theorem MV {c:bX} {x:gV} {k:Int} (h:dW c x=0) (h2:(dB c x).2=k) (hk:k≠0):dX c x=(sN,k):=by unfold dX;rw [if_neg (by rw [h];decide),if_pos (by rw [h2];exact hk),h2]
theorem JY {c:bX} {x:gV} (h:dW c x=0) (h2:(dB c x).2=0) (h3:1000000000≤c.version∨(dK x=true∧1000≤c.ax)):dX c x=(sN,92):=by unfold dX;rw [if_neg (by rw [h];decide),if_neg (by rw [h2];decide),if_pos h3]
theorem Wm {c:bX} {x:gV} (h:dW c x=0) (h2:(dB c x).2=0) (h3:¬ (1000000000≤c.version∨(dK x=true∧1000≤c.ax))):dX c x=(l9 (dB c x).1 (dK x),0):=by unfold dX;rw [if_neg (by rw [h];decide),if_neg (by rw [h2];decide),if_neg h3]
theorem MW (l:List fJ) (s:ByteArray):l.any (fun z=>aS z.name s)=decide (0≤cy l s):=by
 have h:=iE (fun z:fJ=>aS z.name s) l;have e:cy l s=bD (fun z:fJ=>aS z.name s) l:=rfl;rw [e,← h]
theorem JZ {s:ByteArray} (h:bA s=true):emp s=false:=by
 cases he:emp s
 ·rfl
 ·unfold emp at he
  have h1:s.toList=[]:=by simpa using he
  have h2:s.size=0:=(fU s).1 h1
  have h3:s=⟨#[]⟩:=by
   cases s with
   | mk a=>simp [ByteArray.size] at h2;subst h2;rfl
  subst h3;exact absurd h (by decide +kernel)
theorem wa {x:gV} (h:gv x=true):vo x.ac (uS x.kind)=true∧(x.kind=5→0 < x.av.length):=by
 unfold gv at h;rw [EE] at h;simp only [Bool.and_eq_true] at h;refine ⟨h.1.1.1.1.2,fun h5=>?_⟩;have h6:=h.2;rw [h5] at h6;unfold yU at h6;rw [if_neg (by decide),if_pos (by decide)] at h6;simp only [Bool.and_eq_true,beq_iff_eq] at h6;omega
theorem MX {x:gV} (h:gv x=true) (hk:x.kind=2∨x.kind=3):emp x.ac=false:=by
 have h1:=(wa h).1;unfold vo at h1;rw [if_pos (by unfold uS;rcases hk with e | e<;>rw [e]<;>rfl)] at h1;exact JZ h1
theorem J0 (c:bX) (As:Option Addr) (ay:Nat) (At:Option Addr) (az:Nat) (An:Option Addr) (aC:Nat) (Am:Option Addr) (aJ:Nat) (Ag:Option Addr) (aQ:Nat) (x:gV) (A6:Option Addr) (c6:Nat) (A9:Option Addr) (c9:Nat) (w:World) (H:fp w c As ay At az An aC Am aJ Ag aQ) (XA:ou w x A6 c6 A9 c9)
  (X7:∀ (hs ht hn hm hg:Hd) (L:List bK) (B b:Nat) (w:World),b < B→B≤w.heap.size→eN w B c hs ht hn hm hg L→FK c→au w b (mf c hs ht hn hm hg)→ou w x A6 c6 A9 c9→bG c.ai=true→(x.kind=5→0 < x.av.length)→(1≤x.kind∧x.kind≤15)→c.af.length≤1000000 →
   Calls Tryz.prog 75 #[.pointer (some ⟨b,0,none⟩),.agg #[.int .i64 x.kind,.string x.aP,.string x.ac,.string x.table,.string x.name,.string x.role,.slice A6 x.av.length c6,.string x.rule.name,.int .i64 x.rule.kind,.slice A9 x.rule.av.length c9,.int .i64 x.rule.low,.int .i64 x.rule.high,.string x.rule.ac,.string x.rule.table,.string x.rule.key,.int .i64 x.right,.bool x.opt]] w (tM w B b (dB c x))) :
  Calls Tryz.prog 49 #[.agg #[.int .i64 c.ax,.int .i64 c.version,.slice As c.ah.aa.length ay,.slice At c.ah.tables.length az,.slice An c.ai.names.length aC,.slice Am c.ai.members.length aJ,.slice Ag c.af.length aQ],.agg #[.int .i64 x.kind,.string x.aP,.string x.ac,.string x.table,.string x.name,.string x.role,.slice A6 x.av.length c6,.string x.rule.name,.int .i64 x.rule.kind,.slice A9 x.rule.av.length c9,.int .i64 x.rule.low,.int .i64 x.rule.high,.string x.rule.ac,.string x.rule.table,.string x.rule.key,.int .i64 x.right,.bool x.opt]] w (Gb w (dX c x)):=by
 have l1:w.heap.size < w.heap.size+1:=by omega
 have l2:w.heap.size < w.heap.size+1+1:=by omega
 have l3:w.heap.size < w.heap.size+1+1+1:=by omega
 have OW:∀ (fn:Fn) (first cap:Array Value) (w:World),(Instr.makeFunc fn first cap).run Tryz.prog w=.ok (.func fn first cap) w:=fun _ _ _ _=>rfl
 have dc:=enters (P:=Tryz.prog) Tryz.func71 (by kernel_rfl) rfl;obtain ⟨W,hW⟩:∃ W,W=(((w.alloc (.cells #[.int .i64 c.ax,.int .i64 c.version,.slice As c.ah.aa.length ay,.slice At c.ah.tables.length az,.slice An c.ai.names.length aC,.slice Am c.ai.members.length aJ,.slice Ag c.af.length aQ] 32)).alloc (.cells #[.int .i64 x.kind,.string x.aP,.string x.ac,.string x.table,.string x.name,.string x.role,.slice A6 x.av.length c6,.string x.rule.name,.int .i64 x.rule.kind,.slice A9 x.rule.av.length c9,.int .i64 x.rule.low,.int .i64 x.rule.high,.string x.rule.ac,.string x.rule.table,.string x.rule.key,.int .i64 x.right,.bool x.opt] 45)).alloc (.cells #[.int .i64 0,.int .i64 0,.slice none 0 0,.slice none 0 0,.slice none 0 0,.slice none 0 0,.slice none 0 0] 32)).alloc (.cells #[.int .i64 0] 46):=⟨_,rfl⟩
 have aW:ag w W:=by rw [hW];exact ((((ag.refl w).alloc _).alloc _).alloc _).alloc _
 have r0:au W (w.heap.size) [.int .i64 c.ax,.int .i64 c.version,.slice As c.ah.aa.length ay,.slice At c.ah.tables.length az,.slice An c.ai.names.length aC,.slice Am c.ai.members.length aJ,.slice Ag c.af.length aQ]:=by rw [hW];exact au.up (au.up (au.up (bj (ag.refl _) (by simp))))
 have r1:au W (w.heap.size+1) [.int .i64 x.kind,.string x.aP,.string x.ac,.string x.table,.string x.name,.string x.role,.slice A6 x.av.length c6,.string x.rule.name,.int .i64 x.rule.kind,.slice A9 x.rule.av.length c9,.int .i64 x.rule.low,.int .i64 x.rule.high,.string x.rule.ac,.string x.rule.table,.string x.rule.key,.int .i64 x.right,.bool x.opt]:=by rw [hW];exact au.up (au.up (bj (ag.refl _) (by simp)))
 have r2:au W (w.heap.size+1+1) [.int .i64 0,.int .i64 0,.slice none 0 0,.slice none 0 0,.slice none 0 0,.slice none 0 0,.slice none 0 0]:=by rw [hW];exact au.up (bj (ag.refl _) (by simp))
 have r3:au W (w.heap.size+1+1+1) [.int .i64 0]:=by rw [hW];exact bj (ag.refl _) (by simp)
 have zW:W.heap.size=w.heap.size+4:=by rw [hW];simp
 have HX:=gH XA;have HH:=gH H;have wZ:=gH H.sm;have bQ:=gH aW;have HR:=gH (And.intro r0 (And.intro r1 (And.intro r2 r3)));have JH:=gH zW
 have Rg:=gH (show ∀ (k:Int) (V:World) (tmps:Array Value),ag W V→tmps.getD 4 undef=.pointer (some ⟨w.heap.size+1+1,0,none⟩)→tmps.getD 5 undef=.pointer (some ⟨w.heap.size+1+1+1,0,none⟩)→dX c x=(sN,k)→Leaves Tryz.prog Tryz.f49 tmps (Gb w (dX c x)) [{ target:=Target.fn (Fn.func 65) #[.pointer (some ⟨w.heap.size+1+1,0,none⟩),.pointer (some ⟨w.heap.size+1+1+1,0,none⟩)],args:=#[] }] (.panicking [{ v:=.iface 103 (.agg #[.int .i64 k]),recovered:=false }]) V from
  fun k V tmps a h4 h5 he=>vO h4 h5 (r2.aH a) rfl (r3.aH a) (by omega) (fun w' kb=>by rw [he];exact EK (kb.aN (aW.trans a) (fun g hg e=>by omega))))
 obtain ⟨e1,TC⟩:∃ e1,(if dh c=true then (0:Int) else 1)=e1:=⟨_,rfl⟩
 have X8:=gH (show (e1=0→dh c=true)∧(e1≠0→dW c x=e1) from by
  cases hq:dh c
  ·rw [hq,if_neg (by decide)] at TC
   subst TC;exact ⟨fun h=>absurd h (by decide),fun _=>Z5 hq⟩
  ·rw [hq,if_pos rfl] at TC
   subst TC
   exact ⟨fun _=>rfl,fun h=>absurd rfl h⟩)
 have C1:=gH (TC▸EA c As ay At az An aC Am aJ Ag aQ W (H.aH aW));obtain ⟨m2,O0⟩:∃ m,gv x=m:=⟨_,rfl⟩;have C2:=gH (show ∀ V,Calls Tryz.prog 68 #[.agg #[.int .i64 x.kind,.string x.aP,.string x.ac,.string x.table,.string x.name,.string x.role,.slice A6 x.av.length c6,.string x.rule.name,.int .i64 x.rule.kind,.slice A9 x.rule.av.length c9,.int .i64 x.rule.low,.int .i64 x.rule.high,.string x.rule.ac,.string x.rule.table,.string x.rule.key,.int .i64 x.right,.bool x.opt]] V fun e w'=>e=.returned (.bool m2)∧ag V w' from fun V=>O0▸xl x.kind x.aP x.ac x.table x.name x.role A6 x.av.length c6 x.rule.name x.rule.kind A9 x.rule.av.length c9 x.rule.low x.rule.high x.rule.ac x.rule.table x.rule.key x.right x.opt V XA.s1.max XA.s2.max XA.s3.max XA.s4.max XA.s5.max XA.t1 XA.t2 XA.t3 XA.t4);obtain ⟨i3,Ex⟩:∃ b,cL c.ai.names x.aP=b:=⟨_,rfl⟩;have C3:=gH (show ∀ V,ag W V→Calls Tryz.prog 69 #[.slice An c.ai.names.length aC,.string x.aP] V fun e w''=>e=.returned (.bool i3)∧V=w'' from fun V a=>Ex▸jK An aC c.ai.names x.aP V (aO (aW.trans a) H.j0));obtain ⟨i4,Wn⟩:∃ b,decide (0≤cy c.ah.aa x.ac)=b:=⟨_,rfl⟩
 have C4:=gH (show ∀ V,ag W V→Calls Tryz.prog 70 #[.slice As c.ah.aa.length ay,.func (.func 71) #[] #[.pointer (some ⟨w.heap.size+1,0,none⟩)]] V fun e w''=>e=.returned (.bool i4)∧ag V w'' from fun V a=>Wn▸MW c.ah.aa x.ac▸MU As ay c.ah.aa _ _ (fun z=>aS z.name x.ac) V (bI (aW.trans a) H.gT) dc (fun w' a2 j hj=>by
  have p:=r1.aH (a.trans a2)
  exact MS _ _ x.ac _ w' p.1 (p.cell (j:=2) rfl)))
 obtain ⟨⟨f0,f5⟩,TD⟩:∃ F,ru c.ah x.ac x.table=F:=⟨_,rfl⟩;have C5:=gH (show ∀ V,ag W V→Calls Tryz.prog 72 #[.agg #[.slice As c.ah.aa.length ay,.slice At c.ah.tables.length az],.string x.ac,.string x.table] V (J1 V (f0,f5)) from fun V a=>TD▸MZ c.ah As ay At az x.ac x.table V (bI (aW.trans a) H.gT) (br (aW.trans a) H.tab))
 have HF5:=gH (show dh c=true→(f5=0→0≤bp c.ah.tables x.ac x.table)∧(f5≠0→f5=61∧bp c.ah.tables x.ac x.table < 0) from fun hq=>by
  have j7:=(bL.1 (eP.1 (jS.1 hq).2.2).1).2.1.1;by_cases ht:bp c.ah.tables x.ac x.table < 0
  ·rw [tO j7 ht] at TD
   have e:(61:Int)=f5:=congrArg Prod.snd TD;subst e;exact ⟨fun h=>absurd h (by decide),fun _=>⟨rfl,ht⟩⟩
  ·obtain ⟨n,hn⟩:∃ n:Nat,bp c.ah.tables x.ac x.table=n:=⟨_,(Int.toNat_of_nonneg (Int.not_lt.1 ht)).symm⟩
   have hr:=(bk (fun t:cp=>aS t.ac x.ac&&aS t.name x.table) c.ah.tables).2
   have hl:n < c.ah.tables.length:=by unfold bp at hn;omega
   rw [tP j7 hn hl] at TD;have e:(0:Int)=f5:=congrArg Prod.snd TD;subst e
   exact ⟨fun _=>Int.not_lt.1 ht,fun h=>absurd rfl h⟩)
 obtain ⟨a6,ha6⟩:∃ b,gw c x=b:=⟨_,rfl⟩;have C6:=gH (show ∀ V,ag W V→(yg x.kind=1→0≤cy c.ah.aa x.ac)→Calls Tryz.prog 73 #[.agg #[.int .i64 c.ax,.int .i64 c.version,.slice As c.ah.aa.length ay,.slice At c.ah.tables.length az,.slice An c.ai.names.length aC,.slice Am c.ai.members.length aJ,.slice Ag c.af.length aQ],.agg #[.int .i64 x.kind,.string x.aP,.string x.ac,.string x.table,.string x.name,.string x.role,.slice A6 x.av.length c6,.string x.rule.name,.int .i64 x.rule.kind,.slice A9 x.rule.av.length c9,.int .i64 x.rule.low,.int .i64 x.rule.high,.string x.rule.ac,.string x.rule.table,.string x.rule.key,.int .i64 x.right,.bool x.opt]] V fun e w'=>e=.returned (.bool a6)∧ag V w' from fun V a h=>ha6▸Gm c As ay At az An aC Am aJ Ag aQ x A6 x.av.length c6 A9 x.rule.av.length c9 V (H.aH (aW.trans a)) XA.s1 h);obtain ⟨fe,Rh⟩:∃ b,dK x=b:=⟨_,rfl⟩;have C7:=gH (show ∀ V,Calls Tryz.prog 76 #[.agg #[.int .i64 x.kind,.string x.aP,.string x.ac,.string x.table,.string x.name,.string x.role,.slice A6 x.av.length c6,.string x.rule.name,.int .i64 x.rule.kind,.slice A9 x.rule.av.length c9,.int .i64 x.rule.low,.int .i64 x.rule.high,.string x.rule.ac,.string x.rule.table,.string x.rule.key,.int .i64 x.right,.bool x.opt]] V fun e w'=>e=.returned (.bool fe)∧ag V w' from fun V=>Rh▸sY x.kind x.aP x.ac x.table x.name x.role A6 x.av.length c6 x.rule.name x.rule.kind A9 x.rule.av.length c9 x.rule.low x.rule.high x.rule.ac x.rule.table x.rule.key x.right x.opt V)
 have HM:=gH (And.intro O0 (And.intro Ex (And.intro Wn (And.intro ha6 Rh))));obtain ⟨x0,x1,x2,x3,x4,x5,x6⟩:=wO r0;obtain ⟨y0,y1,y2,y3,y4,y5,y6,y7,y8,y9,q9,ra,rb,rf,rh,ri,rj⟩:=kS r1;have z0:=r0.1;have z1:=r1.1;clear H XA r0 r1 r2 r3 aW zW TC O0 Ex Wn TD ha6 Rh dc
 go_enter_defers Tryz.func49,Tryz.ntmps49
 go_wp2_with fail;rw [← hW];clear hW;refine C1.out.mono ?_;rintro e w1 ⟨rfl,a1⟩;have cT:=gH a1;clear a1;clear x0 x1 x2 x3 x4 x5 x6 y0 y1 y2 y3 y4 y5 y6 y7 y8 y9 q9 ra rb rf rh ri rj z0 z1;have p0:=HR.out.1.aH cT.out;have p1:=HR.out.2.1.aH cT.out;have z0:=p0.1;have z1:=p1.1;obtain ⟨x0,x1,x2,x3,x4,x5,x6⟩:=wO p0;obtain ⟨y0,y1,y2,y3,y4,y5,y6,y7,y8,y9,q9,ra,rb,rf,rh,ri,rj⟩:=kS p1;clear p0 p1;by_cases h1:e1≠0
 ·go_wp2_with fail
  refine (xA e1 h1 _).mono ?_;rintro e w9 ⟨he,rfl⟩;unfold Be at he;subst he;exact Rg.out _ _ _ cT.out rfl rfl (qy (X8.out.2 h1) h1)
 obtain rfl:e1=0:=by omega
 clear h1;go_wp2_with fail;refine (xx _).mono ?_;rintro e w9 ⟨rfl,rfl⟩;have J2:=gH (show dh c=true from by first | exact X8.out.1 rfl | exact X8.out.1 trivial);clear X8 C1;go_wp2_with fail;refine (C2.out _).mono ?_;rintro e w2 ⟨rfl,a2⟩;have iy:=gH (cT.out.trans a2);clear a2;clear x0 x1 x2 x3 x4 x5 x6 y0 y1 y2 y3 y4 y5 y6 y7 y8 y9 q9 ra rb rf rh ri rj z0 z1;have p0:=HR.out.1.aH iy.out;have p1:=HR.out.2.1.aH iy.out;have z0:=p0.1;have z1:=p1.1;obtain ⟨x0,x1,x2,x3,x4,x5,x6⟩:=wO p0;obtain ⟨y0,y1,y2,y3,y4,y5,y6,y7,y8,y9,q9,ra,rb,rf,rh,ri,rj⟩:=kS p1;clear p0 p1;clear cT
 cases m2
 ·go_wp2_with fail
  refine (vN 90 _).mono ?_;rintro e w9 ⟨he,rfl⟩;unfold Be at he;subst he;exact Rg.out _ _ _ iy.out rfl rfl (qy (Z6 J2.out HM.out.1) (by decide))
 go_wp2_with fail;refine (vM 90 _).mono ?_;rintro e w9 ⟨rfl,rfl⟩;go_wp2_with fail;refine (C3.out _ iy.out).mono ?_;rintro e w3 ⟨rfl,rfl⟩
 cases i3
 ·go_wp2_with fail
  refine (vN 71 _).mono ?_;rintro e w9 ⟨he,rfl⟩;unfold Be at he;subst he;exact Rg.out _ _ _ iy.out rfl rfl (qy (Z7 J2.out HM.out.1 HM.out.2.1) (by decide))
 go_wp2_with fail;refine (vM 71 _).mono ?_;rintro e w9 ⟨rfl,rfl⟩;obtain ⟨es,hes⟩:∃ b,emp x.ac=b:=⟨_,rfl⟩;obtain ⟨k1,jd⟩:∃ b,(x.kind != 1)=b:=⟨_,rfl⟩;obtain ⟨et,het⟩:∃ b,emp x.table=b:=⟨_,rfl⟩;obtain ⟨k3,hk3⟩:∃ b,(x.kind != 3)=b:=⟨_,rfl⟩;have EO:=gH (And.intro hes (And.intro jd (And.intro het hk3)));clear hes jd het hk3
 go_upto_region 5 with fail
 go_cut [29] from 22 (fun s wx=>s=.bool (!es&&k1)∧wx=w2)
 case first =>
  have hq1:=EO.out.2.1
  cases es
  all_goals
   have Po:(x.ac.toList=[])=(x.ac.toList.isEmpty=true):=by simp
   rw [show x.ac.toList.isEmpty=_ from EO.out.1] at Po;simp only [Bool.false_eq_true,if_true,eq_iff_iff,iff_true,iff_false] at Po
   cases k1
   all_goals
    go_wp2
    go_meet
    case rel=>first | exact ⟨rfl,rfl⟩ | exact ⟨by rw [show x.ac.toList.isEmpty=_ from EO.out.1];rfl,rfl⟩
 case rest =>
 obtain ⟨rfl,rfl⟩:=hcut;obtain ⟨t5,ht5⟩:∃ b,(!es&&k1)=b:=⟨_,rfl⟩;rw [ht5];have HT5:=gH ht5;clear ht5
 go_upto_if 29 with fail
 go_cut [] from 22 (fun wx=>ag W wx∧(t5=true→i4=true))
 case first =>
  cases t5
  ·go_wp2
   go_meet
   case rel=>exact ⟨iy.out,fun h=>absurd h (by decide)⟩
  ·go_wp2_with fail
   refine (C4.out _ iy.out).mono ?_;rintro e w4 ⟨rfl,a4⟩;have ul:=gH (iy.out.trans a4);clear a4
   cases i4
   ·go_wp2_with fail
    refine (vN 61 _).mono ?_;rintro e w9 ⟨he,rfl⟩;unfold Be at he;subst he
    exact Rg.out _ _ _ ul.out rfl rfl (qy (Z8 J2.out HM.out.1 HM.out.2.1 (by
     have e5:=HT5.out;simp only [Bool.and_eq_true,Bool.not_eq_true'] at e5;refine ⟨by rw [EO.out.1];exact e5.1,?_,?_⟩
     ·have:=EO.out.2.1;rw [e5.2] at this;simpa using this
     ·have:=HM.out.2.2.1;simp at this;omega)) (by decide))
   ·go_wp2_with fail
    refine (vM 61 _).mono ?_;rintro e w9 ⟨rfl,rfl⟩;go_wp2
    go_meet
    case rel=>exact ⟨ul.out,fun _=>(by first | rfl | trivial)⟩
 case rest =>
 obtain ⟨a5,Wo⟩:=hcut;have M0:=gH a5
 have Tt:=gH (show ¬ (emp x.ac=false∧x.kind≠1∧cy c.ah.aa x.ac < 0) from fun ⟨q1,q2,q3⟩=>by
  have q4:es=false:=by rw [← EO.out.1];exact q1
  have q5:k1=true:=by rw [← EO.out.2.1];simpa using q2
  have q6:t5=true:=by rw [← HT5.out,q4,q5];rfl
  have q7:=HM.out.2.2.1.trans (Wo q6);simp at q7
  omega)
 clear a5 Wo;clear x0 x1 x2 x3 x4 x5 x6 y0 y1 y2 y3 y4 y5 y6 y7 y8 y9 q9 ra rb rf rh ri rj z0 z1;have p0:=HR.out.1.aH M0.out;have p1:=HR.out.2.1.aH M0.out;have z0:=p0.1;have z1:=p1.1;obtain ⟨x0,x1,x2,x3,x4,x5,x6⟩:=wO p0;obtain ⟨y0,y1,y2,y3,y4,y5,y6,y7,y8,y9,q9,ra,rb,rf,rh,ri,rj⟩:=kS p1;clear p0 p1;clear iy
 go_upto_region 7 with fail
 go_cut [43] from 22 (fun s wx=>s=.bool (!et&&k3)∧ag W wx)
 case first =>
  have hq3:=EO.out.2.2.2
  cases et
  all_goals
   have Po:(x.table.toList=[])=(x.table.toList.isEmpty=true):=by simp
   rw [show x.table.toList.isEmpty=_ from EO.out.2.2.1] at Po;simp only [Bool.false_eq_true,if_true,eq_iff_iff,iff_true,iff_false] at Po
   cases k3
   all_goals
    go_wp2
    go_meet
    case rel=>first | exact ⟨rfl,M0.out⟩ | exact ⟨by rw [show x.table.toList.isEmpty=_ from EO.out.2.2.1];rfl,M0.out⟩
 case rest =>
 obtain ⟨rfl,a7⟩:=hcut;have TE:=gH a7;clear a7;clear x0 x1 x2 x3 x4 x5 x6 y0 y1 y2 y3 y4 y5 y6 y7 y8 y9 q9 ra rb rf rh ri rj z0 z1;have p0:=HR.out.1.aH TE.out;have p1:=HR.out.2.1.aH TE.out;have z0:=p0.1;have z1:=p1.1;obtain ⟨x0,x1,x2,x3,x4,x5,x6⟩:=wO p0;obtain ⟨y0,y1,y2,y3,y4,y5,y6,y7,y8,y9,q9,ra,rb,rf,rh,ri,rj⟩:=kS p1;clear p0 p1;clear M0;obtain ⟨t7,ht7⟩:∃ b,(!et&&k3)=b:=⟨_,rfl⟩;rw [ht7];have HT7:=gH ht7;clear ht7
 go_upto_if 43 with fail
 go_cut [] from 22 (fun wx=>ag W wx∧(t7=true→f5=0))
 case first =>
  cases t7
  ·go_wp2
   go_meet
   case rel=>exact ⟨TE.out,fun h=>absurd h (by decide)⟩
  ·go_wp2_with fail
   refine (C5.out _ TE.out).mono ?_;rintro e w6 ⟨X,hX,rfl,a8,-,-⟩;have HA8:=gH (TE.out.trans a8);clear a8 hX;by_cases h5:f5=0
   ·subst h5
    go_wp2_with fail;refine (xx _).mono ?_;rintro e w9 ⟨rfl,rfl⟩;go_wp2
    go_meet
    case rel=>exact ⟨HA8.out.alloc _,fun _=>(by first | rfl | trivial)⟩
   ·go_wp2_with fail
    refine (xA f5 h5 _).mono ?_;rintro e w9 ⟨he,rfl⟩;unfold Be at he;subst he
    exact Rg.out _ _ _ (HA8.out.alloc _) rfl rfl (by
     obtain ⟨e6,h6⟩:=(HF5.out J2.out).2 h5;rw [e6];have e7:=HT7.out;simp only [Bool.and_eq_true,Bool.not_eq_true'] at e7
     exact qy (Z9 J2.out HM.out.1 HM.out.2.1 Tt.out ⟨by rw [EO.out.2.2.1];exact e7.1,by have:=EO.out.2.2.2;rw [e7.2] at this;simpa using this,h6⟩) (by decide))
 case rest =>
 obtain ⟨a9,Wo⟩:=hcut;have Wp:=gH a9
 have X9:=gH (show ¬ (emp x.table=false∧x.kind≠3∧bp c.ah.tables x.ac x.table < 0) from fun ⟨q1,q2,q3⟩=>by
  have q4:et=false:=by rw [← EO.out.2.2.1];exact q1
  have q5:k3=true:=by rw [← EO.out.2.2.2];simpa using q2
  have q6:t7=true:=by rw [← HT7.out,q4,q5];rfl
  have:=(HF5.out J2.out).1 (Wo q6)
  omega)
 clear a9 Wo;clear x0 x1 x2 x3 x4 x5 x6 y0 y1 y2 y3 y4 y5 y6 y7 y8 y9 q9 ra rb rf rh ri rj z0 z1;have p0:=HR.out.1.aH Wp.out;have p1:=HR.out.2.1.aH Wp.out;have z0:=p0.1;have z1:=p1.1;obtain ⟨x0,x1,x2,x3,x4,x5,x6⟩:=wO p0;obtain ⟨y0,y1,y2,y3,y4,y5,y6,y7,y8,y9,q9,ra,rb,rf,rh,ri,rj⟩:=kS p1;clear p0 p1;clear TE HF5 C5 C4 C3 C2;go_wp2_with fail;refine (C6.out _ Wp.out (fun hb=>by have hk:=xI.1 hb;have he:=MX HM.out.1 hk;exact Int.not_lt.1 fun h=>Tt.out ⟨he,by omega,h⟩)).mono ?_;rintro e w8 ⟨rfl,OH⟩;have HA:=gH (Wp.out.trans OH);clear OH;clear x0 x1 x2 x3 x4 x5 x6 y0 y1 y2 y3 y4 y5 y6 y7 y8 y9 q9 ra rb rf rh ri rj z0 z1;have p0:=HR.out.1.aH HA.out;have p1:=HR.out.2.1.aH HA.out;have z0:=p0.1;have z1:=p1.1;obtain ⟨x0,x1,x2,x3,x4,x5,x6⟩:=wO p0;obtain ⟨y0,y1,y2,y3,y4,y5,y6,y7,y8,y9,q9,ra,rb,rf,rh,ri,rj⟩:=kS p1;clear p0 p1;clear Wp
 cases a6
 ·go_wp2_with fail
  refine (vN 91 _).mono ?_;rintro e w9 ⟨he,rfl⟩;unfold Be at he;subst he;exact Rg.out _ _ _ HA.out rfl rfl (qy (by rw [Wl J2.out HM.out.1 HM.out.2.1 Tt.out X9.out,HM.out.2.2.2.1];rfl) (by decide))
 go_wp2_with fail;refine (vM 91 _).mono ?_;rintro e w9 ⟨rfl,rfl⟩;have Ya:=gH (show dW c x=0 from by rw [Wl J2.out HM.out.1 HM.out.2.1 Tt.out X9.out,HM.out.2.2.2.1];rfl);obtain ⟨aaU,⟨j7,BS,-,-⟩,-,-⟩:=bL.1 (eP.1 (jS.1 J2.out).2.2).1;have hrp:=dp.1 BS;have C8:=gH (V9 c As ay At az An aC Am aJ Ag aQ w8 (HH.out.aH (bQ.out.trans HA.out)) j7 (by omega) (by omega) (by omega));have Re:=gH BS
 have ZP:c.af.length≤1000000:=by omega
 clear j7 BS hrp C6;go_wp2_with fail;refine C8.out.mono ?_;rintro e w10 ⟨⟨Bs,nBs,Hj⟩,⟨Bt,nBt,bct⟩,⟨Bn,nBn,bcn⟩,⟨Bm,nBm,bcm⟩,⟨Bg,nBg,bcg⟩,L,rfl,Ic,ci⟩;simp only [Ql];have Wc:=JH.out;have hza:=HA.out.size;have aaa:=Ic.size;obtain ⟨V,hV⟩:∃ V,V=(((((((w10.setCell ⟨w.heap.size+1+1,0,none⟩ (.int .i64 c.ax)).setCell ⟨w.heap.size+1+1,1,none⟩ (.int .i64 c.version)).setCell ⟨w.heap.size+1+1,2,none⟩ (.slice Bs c.ah.aa.length Hj)).setCell ⟨w.heap.size+1+1,3,none⟩ (.slice Bt c.ah.tables.length bct)).setCell ⟨w.heap.size+1+1,4,none⟩ (.slice Bn c.ai.names.length bcn)).setCell ⟨w.heap.size+1+1,5,none⟩ (.slice Bm c.ai.members.length bcm)).setCell ⟨w.heap.size+1+1,6,none⟩ (.slice Bg c.af.length bcg)):=⟨_,rfl⟩
 have kV:Kb (fun g=>g=w.heap.size+1+1) w10 V:=by rw [hV];exact pG _ _ _ _ _ _ _ _ _
 have KV:=gH (show Kb (fun g=>g=w.heap.size+1+1) W V from (Kb.bl (HA.out.trans Ic)).trans kV)
 have hzV:V.heap.size=w10.heap.size:=by rw [hV];simp
 have CIV:=gH (ci.kb kV (fun g' h1 e=>by have:=(ci.lt h1).1;have e:g'=w.heap.size+1+1:=e;omega));have RP:=gH (show au V (w.heap.size+1+1) (mf c ⟨Bs,nBs,Hj⟩ ⟨Bt,nBt,bct⟩ ⟨Bn,nBn,bcn⟩ ⟨Bm,nBm,bcm⟩ ⟨Bg,nBg,bcg⟩) from by rw [hV];exact mW (HR.out.2.2.1.aH (HA.out.trans Ic)) rfl _ _ _ _ _ _ _);have oq:=gH (show ag w V from KV.out.aN bQ.out (fun g hg e=>by have e:g=w.heap.size+1+1:=e;omega));have Pm:=gH (show w8.heap.size≤V.heap.size∧w.heap.size+1+1+1 < w8.heap.size from ⟨by omega,by omega⟩);obtain ⟨⟨d,ke⟩,hd⟩:∃ D,dB c x=D:=⟨_,rfl⟩;have hmp:=wa HM.out.1;have CD:=gH (hd▸X7 ⟨Bs,nBs,Hj⟩ ⟨Bt,nBt,bct⟩ ⟨Bn,nBn,bcn⟩ ⟨Bm,nBm,bcm⟩ ⟨Bg,nBg,bcg⟩ L w8.heap.size (w.heap.size+1+1) V (by omega) (by omega) CIV.out wZ.out RP.out (HX.out.aH oq.out) Re.out hmp.2 (zJ HM.out.1) ZP);have HD:=gH hd;have H5:=gH hmp.2;have q2:=HR.out.2.2.1.aH (HA.out.trans Ic);have u00:=q2.cell (j:=0) rfl;have v00:=q2.2.2 0 (by simp);have u10:=q2.cell (j:=1) rfl;have v10:=q2.2.2 1 (by simp);have u20:=q2.cell (j:=2) rfl;have v20:=q2.2.2 2 (by simp);have u30:=q2.cell (j:=3) rfl;have v30:=q2.2.2 3 (by simp);have u40:=q2.cell (j:=4) rfl;have v40:=q2.2.2 4 (by simp);have u50:=q2.cell (j:=5) rfl;have v50:=q2.2.2 5 (by simp);have u60:=q2.cell (j:=6) rfl;have v60:=q2.2.2 6 (by simp);have uz0:=q2.1;clear q2;have p1:=KV.out.row HR.out.2.1 (by omega);clear x0 x1 x2 x3 x4 x5 x6 y0 y1 y2 y3 y4 y5 y6 y7 y8 y9 q9 ra rb rf rh ri rj z0 z1;have z1:=p1.1;obtain ⟨y0,y1,y2,y3,y4,y5,y6,y7,y8,y9,q9,ra,rb,rf,rh,ri,rj⟩:=kS p1
 rw [hV] at z1 y0 y1 y2 y3 y4 y5 y6 y7 y8 y9 q9 ra rb rf rh ri rj;clear p1 kV hzV ci Ic hd hmp hza aaa;go_wp2_with fail;rw [← hV];clear hV z1 y0 y1 y2 y3 y4 y5 y6 y7 y8 y9 q9 ra rb rf rh ri rj u00 v00 u10 v10 u20 v20 u30 v30 u40 v40 u50 v50 u60 v60 uz0;refine CD.out.mono ?_;rintro e Pr ⟨kb,hno,Wq⟩;have KW:=gH (show Kb (fun g=>g=w.heap.size+1+1∨w8.heap.size≤g) W Pr from (KV.out.mono fun g _ e=>.inl e).trans kb);have HVW:=gH kb.size;have lx:=gH (show ag w Pr from KW.out.aN bQ.out (fun g hg e=>by have:=Pm.out.2;rcases e with e | e<;>(have e:_:=e;omega)));have RQ:=gH (show au Pr (w.heap.size+1+1+1) [.int .i64 0] from KW.out.row HR.out.2.2.2 (fun e=>by have:=Pm.out.2;rcases e with e | e<;>omega))
 have Ri:=gH (show ∀ (k:Int) (V:World) (tmps:Array Value) (vs:List Value),ag Pr V→vs.length=7→au Pr (w.heap.size+1+1) vs→tmps.getD 4 undef=.pointer (some ⟨w.heap.size+1+1,0,none⟩)→tmps.getD 5 undef=.pointer (some ⟨w.heap.size+1+1+1,0,none⟩)→dX c x=(sN,k)→Leaves Tryz.prog Tryz.f49 tmps (Gb w (dX c x)) [{ target:=Target.fn (Fn.func 65) #[.pointer (some ⟨w.heap.size+1+1,0,none⟩),.pointer (some ⟨w.heap.size+1+1+1,0,none⟩)],args:=#[] }] (.panicking [{ v:=.iface 103 (.agg #[.int .i64 k]),recovered:=false }]) V from
  fun k V tmps vs a hl hr h4 h5 he=>vO h4 h5 (hr.aH a) hl (RQ.out.aH a) (by omega) (fun w' kb=>by rw [he];exact EK (kb.aN (lx.out.trans a) (fun g hg e=>by omega))))
 clear Rg;by_cases hz:ke≠0
 ·obtain ⟨he,vs,hvl,hrow⟩:=hno hz
  have he:e=Be ke:=he;unfold Be at he;subst he;exact Ri.out ke Pr _ vs (ag.refl _) hvl hrow rfl rfl (MV Ya.out (by rw [HD.out]) hz)
 obtain rfl:ke=0:=by omega
 obtain ⟨rfl,⟨Es,Ws,um⟩,⟨Et,Wt,un⟩,⟨En,Wu,uo⟩,⟨Em,Wv,uq⟩,⟨Eg,nEg,ecg⟩,M,di,row⟩:=Wq rfl;have di:eN Pr w8.heap.size d ⟨Es,Ws,um⟩ ⟨Et,Wt,un⟩ ⟨En,Wu,uo⟩ ⟨Em,Wv,uq⟩ ⟨Eg,nEg,ecg⟩ M:=di;have row:au Pr (w.heap.size+1+1) [.int .i64 d.ax,.int .i64 d.version,.slice Es d.ah.aa.length um,.slice Et d.ah.tables.length un,.slice En d.ai.names.length uo,.slice Em d.ai.members.length uq,.slice Eg d.af.length ecg]:=row;have JC:=vH (c:=c) (x:=x) (by rw [HD.out]);rw [HD.out] at JC;have hsd:=MO wZ.out HX.out.sm H5.out;rw [HD.out] at hsd;have HSD:=gH hsd;have DI:=gH di;have ROW:=gH row;have qZ:=jS.1 J2.out;have F6:=gH (And.intro JC qZ);have p0:=KW.out.row HR.out.1 (fun e=>by have:=Pm.out.2;rcases e with e | e<;>omega);have p1:=KW.out.row HR.out.2.1 (fun e=>by have:=Pm.out.2;rcases e with e | e<;>omega);have R0:=gH p0;have R1:=gH p1;have x0:=p0.cell (j:=0) rfl;have x1:=p0.cell (j:=1) rfl;have z0:=p0.1;obtain ⟨y0,y1,y2,y3,y4,y5,y6,y7,y8,y9,q9,ra,rb,rf,rh,ri,rj⟩:=kS p1;have z1:=p1.1;clear kb hno Wq hz di row JC hsd qZ p0 p1 CD C8 CIV RP;by_cases hv:c.version < 1000000000
 case neg =>
  go_wp2_with fail;refine (vN 92 _).mono ?_;rintro e w9 ⟨he,rfl⟩;unfold Be at he;subst he;exact Ri.out 92 _ _ _ (ag.refl _) rfl ROW.out rfl rfl (JY Ya.out (by rw [HD.out]) (.inl (by omega)))
 go_wp2_with fail;refine (C7.out _).mono ?_;rintro e w12 ⟨rfl,a12⟩;have xJ:=gH a12;have x0':=a12.cell_kept x0;have z0':w.heap.size < w12.heap.size:=Nat.lt_of_lt_of_le z0 a12.size;clear a12 x0 x1 z0 z1 y0 y1 y2 y3 y4 y5 y6 y7 y8 y9 q9 ra rb rf rh ri rj;have HV:=gH hv;by_cases Rh:fe=true∧¬ c.ax < 1000
 case pos =>
  obtain ⟨rfl,xj⟩:=Rh;have hdp:decide (c.ax < 1000)=false:=decide_eq_false xj;go_wp2_with fail;refine (vN 92 _).mono ?_;rintro e w9 ⟨he,rfl⟩;unfold Be at he;subst he;exact Ri.out 92 _ _ _ xJ.out rfl ROW.out rfl rfl (JY Ya.out (by rw [HD.out]) (.inr ⟨HM.out.2.2.2.2,by omega⟩))
 have HFE:=gH (show dX c x=(l9 d fe,0) from by
  have e:=Wm Ya.out (by rw [HD.out]) (fun h=>by
   rcases h with h | h
   ·have:=HV.out;omega
   ·exact Rh ⟨HM.out.2.2.2.2▸h.1,by omega⟩)
  rw [HD.out,HM.out.2.2.2.2] at e
  exact e)
 have CH:=gH (O5 d Es um Et un En uo Em uq Eg ecg w12 ((DI.out.aH xJ.out).at HSD.out));have q:=ROW.out.aH xJ.out;obtain ⟨q0,q1,q2,q3,q4,q5,q6,qz⟩:=im q;have HQ:=gH q;clear q
 cases fe
 case false =>
  go_wp2_with fail;refine (vM 92 _).mono ?_;rintro e w9 ⟨rfl,rfl⟩;go_wp2_with fail;refine CH.out.mono ?_;rintro e Rj ⟨⟨Aq,nq,cq⟩,rfl,ym,Ff⟩;obtain rfl:nq=(cH d).length:=nX Ff;clear q0 q1 q2 q3 q4 q5 q6 qz;have D7:=ym.size;have D6:=xJ.out.size;have h11:=HVW.out;have Wc:=JH.out;have Pn:=Pm.out;have q:=HQ.out.aH ym;have m0:=q.cell (j:=1) rfl;have m6:=q.cell (j:=6) rfl;have n1:=q.2.2 1 (by simp);have n6:=q.2.2 6 (by simp);have mz:=q.1;obtain ⟨Z,hZ⟩:∃ Z,Z=(Rj.setCell ⟨w.heap.size+1+1,6,none⟩ (.slice Aq (cH d).length cq)).setCell ⟨w.heap.size+1+1,1,none⟩ (.int .i64 (d.version+1)):=⟨_,rfl⟩
  have kZ:Kb (fun g=>g=w.heap.size+1+1) Rj Z:=by rw [hZ];exact (Kb.set _ _ _ _).trans (Kb.set _ _ _ _)
  have zZ:Z.heap.size=Rj.heap.size:=by rw [hZ];simp
  have RZ:=gH (show au Z (w.heap.size+1+1) [.int .i64 d.ax,.int .i64 (d.version+1),.slice Es d.ah.aa.length um,.slice Et d.ah.tables.length un,.slice En d.ai.names.length uo,.slice Em d.ai.members.length uq,.slice Aq (cH d).length cq] from by rw [hZ];exact (q.set 6 _ (by simp)).set 1 _ (by simp));have a3:=xJ.out.trans ym;have RZQ:=gH (kZ.row (RQ.out.aH a3) (by omega));have p1:=kZ.row (R1.out.aH a3) (by omega)
  have dlt:=fun g' h=>(DI.out.lt (g:=g') h)
  have DZ:=gH (show eN Z w8.heap.size (l9 d false) ⟨Es,Ws,um⟩ ⟨Et,Wt,un⟩ ⟨En,Wu,uo⟩ ⟨Em,Wv,uq⟩ ⟨Aq,(cH d).length,cq⟩ M from by
   have c1:=((DI.out.aH xJ.out).VY (qh:=⟨Aq,(cH d).length,cq⟩) (l:=cH d) (Kb.bl (P:=fun _=>False) ym) (fun _ _ h=>h) (bS Ff (by omega)) (fun g' h=>.inr (by have:=(Ff.lt g' (Hd.bu.1 h)).1;omega)));have c2:=c1.kb kZ (fun g' h1 e=>by have:=(c1.lt h1).1;have e:g'=w.heap.size+1+1:=e;omega)
   exact ⟨c2.obj,c2.O8,c2.IU,c2.n7,c2.Ba,c2.BK⟩)
  have Wk:=gH (show ag w Z from kZ.aN (lx.out.trans a3) (fun g hg e=>by have e:g=w.heap.size+1+1:=e;omega));have w9:IntKind.i64.wrap (d.version+1)=d.version+1:=IntWalk.i64_in _ (by have:=F6.out;omega);have SZ:=gH (show w.heap.size+1+1+1 < w8.heap.size∧w8.heap.size≤Z.heap.size from ⟨by omega,by omega⟩);have z1:=p1.1;obtain ⟨y0,y1,y2,y3,y4,y5,y6,y7,y8,y9,q9,ra,rb,rf,rh,ri,rj⟩:=kS p1;rw [hZ] at z1 y0 y1 y2 y3 y4 y5 y6 y7 y8 y9 q9 ra rb rf rh ri rj;clear q kZ zZ a3 p1 dlt Ff D7 D6 h11 Wc Pn ym;simp only [Hd.v];go_wp2_with fail;rw [← hZ];clear hZ z1 y0 y1 y2 y3 y4 y5 y6 y7 y8 y9 q9 ra rb rf rh ri rj m0 m6 n1 n6 mz w9;refine (C7.out _).mono ?_;rintro e Ps ⟨rfl,yn⟩;have aab:=gH yn;have q:=RZ.out.aH yn;have kT:Kb (fun g=>g=w.heap.size+1+1) Ps Ps:=Kb.refl _ _;have s0:=q.cell (j:=0) rfl;have r0:=q.2.2 0 (by simp);have s1:=q.cell (j:=1) rfl;have r1:=q.2.2 1 (by simp);have s2:=q.cell (j:=2) rfl;have r2:=q.2.2 2 (by simp);have s3:=q.cell (j:=3) rfl;have r3:=q.2.2 3 (by simp);have s4:=q.cell (j:=4) rfl;have r4:=q.2.2 4 (by simp);have s5:=q.cell (j:=5) rfl;have r5:=q.2.2 5 (by simp);have s6:=q.cell (j:=6) rfl;have r6:=q.2.2 6 (by simp);have sz:=q.1;have qq:=kT.row (RZQ.out.aH yn) (by omega);have t0:=qq.cell (j:=0) rfl;have tf:=qq.2.2 0 (by simp);have tz:=qq.1;have ne:w.heap.size+1+1+1≠w.heap.size+1+1:=(by omega);have QR:=gH (And.intro q qq);have KT:=gH ((Kb.bl (P:=fun g=>g=w.heap.size+1+1) yn).trans kT);clear q qq kT yn;go_wp2_with fail;have Pn:=SZ.out
  obtain ⟨S,hS⟩:∃ S,S=((((((Ps.setCell ⟨w.heap.size+1+1,0,none⟩ (.int .i64 d.ax)).setCell ⟨w.heap.size+1+1,1,none⟩ (.int .i64 (d.version+1))).setCell ⟨w.heap.size+1+1,2,none⟩ (.slice Es d.ah.aa.length um)).setCell ⟨w.heap.size+1+1,3,none⟩ (.slice Et d.ah.tables.length un)).setCell ⟨w.heap.size+1+1,4,none⟩ (.slice En d.ai.names.length uo)).setCell ⟨w.heap.size+1+1,5,none⟩ (.slice Em d.ai.members.length uq)).setCell ⟨w.heap.size+1+1,6,none⟩ (.slice Aq (cH d).length cq):=⟨_,rfl⟩
  have k7:Kb (fun g=>g=w.heap.size+1+1) Ps S:=by rw [hS];exact pG Ps (w.heap.size+1+1) (.int .i64 d.ax) (.int .i64 (d.version+1)) (.slice Es d.ah.aa.length um) (.slice Et d.ah.tables.length un) (.slice En d.ai.names.length uo) (.slice Em d.ai.members.length uq) (.slice Aq (cH d).length cq)
  have r7:au S (w.heap.size+1+1) [.int .i64 d.ax,.int .i64 (d.version+1),.slice Es d.ah.aa.length um,.slice Et d.ah.tables.length un,.slice En d.ai.names.length uo,.slice Em d.ai.members.length uq,.slice Aq (cH d).length cq]:=by rw [hS];exact mW QR.out.1 rfl (.int .i64 d.ax) (.int .i64 (d.version+1)) (.slice Es d.ah.aa.length um) (.slice Et d.ah.tables.length un) (.slice En d.ai.names.length uo) (.slice Em d.ai.members.length uq) (.slice Aq (cH d).length cq)
  obtain ⟨Vf,J3⟩:∃ Vf,Vf=S.setCell ⟨w.heap.size+1+1+1,0,none⟩ (.int .i64 0):=⟨_,rfl⟩
  have k8:Kb (fun g=>g=w.heap.size+1+1+1) S Vf:=by rw [J3];exact Kb.set S (w.heap.size+1+1+1) 0 (.int .i64 0)
  have rp:au Vf (w.heap.size+1+1) [.int .i64 d.ax,.int .i64 (d.version+1),.slice Es d.ah.aa.length um,.slice Et d.ah.tables.length un,.slice En d.ai.names.length uo,.slice Em d.ai.members.length uq,.slice Aq (cH d).length cq]:=by rw [J3];exact r7.Q8 (show w.heap.size+1+1+1≠w.heap.size+1+1 by omega) 0 (.int .i64 0)
  have rq:au Vf (w.heap.size+1+1+1) [.int .i64 0]:=by
   have e:=k7.row QR.out.2 (fun e=>by have e:w.heap.size+1+1+1=w.heap.size+1+1:=e;omega);rw [J3];exact e.set 0 (.int .i64 0) (by simp)
  have Rl:=gH (show Gb w (dX c x) (.returned (.tuple #[.agg #[.int .i64 d.ax,.int .i64 (d.version+1),.slice Es d.ah.aa.length um,.slice Et d.ah.tables.length un,.slice En d.ai.names.length uo,.slice Em d.ai.members.length uq,.slice Aq (cH d).length cq],.int .i64 0])) Vf from by
   rw [HFE.out];refine ⟨⟨Es,Ws,um⟩,⟨Et,Wt,un⟩,⟨En,Wu,uo⟩,⟨Em,Wv,uq⟩,⟨Aq,(cH d).length,cq⟩,M,rfl,?_,?_⟩
   ·exact k8.aN (k7.aN (KT.out.aN Wk.out (fun g hg e=>by have e:g=w.heap.size+1+1:=e;omega)) (fun g hg e=>by have e:g=w.heap.size+1+1:=e;omega)) (fun g hg e=>by have e:g=w.heap.size+1+1+1:=e;omega)
   ·have c3:=((DZ.out.kb KT.out (fun g' h1 e=>by have:=(DZ.out.lt h1).1;have e:g'=w.heap.size+1+1:=e;omega)).kb k7 (fun g' h1 e=>by have:=(DZ.out.lt h1).1;have e:g'=w.heap.size+1+1:=e;omega)).kb k8 (fun g' h1 e=>by have:=(DZ.out.lt h1).1;have e:g'=w.heap.size+1+1+1:=e;omega)
    exact c3.down (by have:=lx.out.size;have:=bQ.out.size;have:=HA.out.size;omega))
  rw [← hS,← J3];clear hS J3;have Ww:=gH (And.intro rp rq)
  show Leaves _ _ _ _ _ _ _
  exact vP rfl rfl Ww.out.1 Ww.out.2 Rl.out
 case true =>
  have xj:c.ax < 1000:=by
   by_cases h:c.ax < 1000
   ·exact h
   ·exact absurd ⟨rfl,h⟩ Rh
  have hdp:decide (c.ax < 1000)=true:=decide_eq_true xj;go_wp2_with fail;refine (vM 92 _).mono ?_;rintro e w9 ⟨rfl,rfl⟩;go_wp2_with fail;refine CH.out.mono ?_;rintro e Rj ⟨⟨Aq,nq,cq⟩,rfl,ym,Ff⟩;obtain rfl:nq=(cH d).length:=nX Ff;clear q0 q1 q2 q3 q4 q5 q6 qz;have D7:=ym.size;have D6:=xJ.out.size;have h11:=HVW.out;have Wc:=JH.out;have Pn:=Pm.out;have q:=HQ.out.aH ym;have m0:=q.cell (j:=1) rfl;have m6:=q.cell (j:=6) rfl;have n1:=q.2.2 1 (by simp);have n6:=q.2.2 6 (by simp);have mz:=q.1;obtain ⟨Z,hZ⟩:∃ Z,Z=(Rj.setCell ⟨w.heap.size+1+1,6,none⟩ (.slice Aq (cH d).length cq)).setCell ⟨w.heap.size+1+1,1,none⟩ (.int .i64 (d.version+1)):=⟨_,rfl⟩
  have kZ:Kb (fun g=>g=w.heap.size+1+1) Rj Z:=by rw [hZ];exact (Kb.set _ _ _ _).trans (Kb.set _ _ _ _)
  have zZ:Z.heap.size=Rj.heap.size:=by rw [hZ];simp
  have RZ:=gH (show au Z (w.heap.size+1+1) [.int .i64 d.ax,.int .i64 (d.version+1),.slice Es d.ah.aa.length um,.slice Et d.ah.tables.length un,.slice En d.ai.names.length uo,.slice Em d.ai.members.length uq,.slice Aq (cH d).length cq] from by rw [hZ];exact (q.set 6 _ (by simp)).set 1 _ (by simp));have a3:=xJ.out.trans ym;have RZQ:=gH (kZ.row (RQ.out.aH a3) (by omega));have p1:=kZ.row (R1.out.aH a3) (by omega)
  have dlt:=fun g' h=>(DI.out.lt (g:=g') h)
  have DZ:=gH (show eN Z w8.heap.size (l9 d true) ⟨Es,Ws,um⟩ ⟨Et,Wt,un⟩ ⟨En,Wu,uo⟩ ⟨Em,Wv,uq⟩ ⟨Aq,(cH d).length,cq⟩ M from by
   have c1:=((DI.out.aH xJ.out).VY (qh:=⟨Aq,(cH d).length,cq⟩) (l:=cH d) (Kb.bl (P:=fun _=>False) ym) (fun _ _ h=>h) (bS Ff (by omega)) (fun g' h=>.inr (by have:=(Ff.lt g' (Hd.bu.1 h)).1;omega)));have c2:=c1.kb kZ (fun g' h1 e=>by have:=(c1.lt h1).1;have e:g'=w.heap.size+1+1:=e;omega)
   exact ⟨c2.obj,c2.O8,c2.IU,c2.n7,c2.Ba,c2.BK⟩)
  have Wk:=gH (show ag w Z from kZ.aN (lx.out.trans a3) (fun g hg e=>by have e:g=w.heap.size+1+1:=e;omega));have w9:IntKind.i64.wrap (d.version+1)=d.version+1:=IntWalk.i64_in _ (by have:=F6.out;omega);have SZ:=gH (show w.heap.size+1+1+1 < w8.heap.size∧w8.heap.size≤Z.heap.size from ⟨by omega,by omega⟩);have z1:=p1.1;obtain ⟨y0,y1,y2,y3,y4,y5,y6,y7,y8,y9,q9,ra,rb,rf,rh,ri,rj⟩:=kS p1;rw [hZ] at z1 y0 y1 y2 y3 y4 y5 y6 y7 y8 y9 q9 ra rb rf rh ri rj;clear q kZ zZ a3 p1 dlt Ff D7 D6 h11 Wc Pn ym;simp only [Hd.v];go_wp2_with fail;rw [← hZ];clear hZ z1 y0 y1 y2 y3 y4 y5 y6 y7 y8 y9 q9 ra rb rf rh ri rj m0 m6 n1 n6 mz w9;refine (C7.out _).mono ?_;rintro e Ps ⟨rfl,yn⟩;have aab:=gH yn;have w9:IntKind.i64.wrap (d.ax+1)=d.ax+1:=IntWalk.i64_in _ (by have:=F6.out;omega);have q0:=RZ.out.aH yn;have m0:=q0.cell (j:=0) rfl;have n0:=q0.2.2 0 (by simp);have mz:=q0.1;obtain ⟨T,hT⟩:∃ T,T=Ps.setCell ⟨w.heap.size+1+1,0,none⟩ (.int .i64 (d.ax+1)):=⟨_,rfl⟩
  have kT:Kb (fun g=>g=w.heap.size+1+1) Ps T:=by rw [hT];exact Kb.set _ _ _ _
  have q:au T (w.heap.size+1+1) [.int .i64 (d.ax+1),.int .i64 (d.version+1),.slice Es d.ah.aa.length um,.slice Et d.ah.tables.length un,.slice En d.ai.names.length uo,.slice Em d.ai.members.length uq,.slice Aq (cH d).length cq]:=by rw [hT];exact q0.set 0 _ (by simp)
  have s0:=q.cell (j:=0) rfl;have r0:=q.2.2 0 (by simp);have s1:=q.cell (j:=1) rfl;have r1:=q.2.2 1 (by simp);have s2:=q.cell (j:=2) rfl;have r2:=q.2.2 2 (by simp);have s3:=q.cell (j:=3) rfl;have r3:=q.2.2 3 (by simp);have s4:=q.cell (j:=4) rfl;have r4:=q.2.2 4 (by simp);have s5:=q.cell (j:=5) rfl;have r5:=q.2.2 5 (by simp);have s6:=q.cell (j:=6) rfl;have r6:=q.2.2 6 (by simp);have sz:=q.1;have qq:=kT.row (RZQ.out.aH yn) (by omega);have t0:=qq.cell (j:=0) rfl;have tf:=qq.2.2 0 (by simp);have tz:=qq.1;have ne:w.heap.size+1+1+1≠w.heap.size+1+1:=(by omega);have QR:=gH (And.intro q qq);have KT:=gH ((Kb.bl (P:=fun g=>g=w.heap.size+1+1) yn).trans kT);rw [hT] at s0 r0 s1 r1 s2 r2 s3 r3 s4 r4 s5 r5 s6 r6 sz t0 tf tz;clear q qq kT yn q0;go_wp2_with fail;rw [← hT];clear hT;have Pn:=SZ.out;obtain ⟨S,hS⟩:∃ S,S=((((((T.setCell ⟨w.heap.size+1+1,0,none⟩ (.int .i64 (d.ax+1))).setCell ⟨w.heap.size+1+1,1,none⟩ (.int .i64 (d.version+1))).setCell ⟨w.heap.size+1+1,2,none⟩ (.slice Es d.ah.aa.length um)).setCell ⟨w.heap.size+1+1,3,none⟩ (.slice Et d.ah.tables.length un)).setCell ⟨w.heap.size+1+1,4,none⟩ (.slice En d.ai.names.length uo)).setCell ⟨w.heap.size+1+1,5,none⟩ (.slice Em d.ai.members.length uq)).setCell ⟨w.heap.size+1+1,6,none⟩ (.slice Aq (cH d).length cq):=⟨_,rfl⟩
  have k7:Kb (fun g=>g=w.heap.size+1+1) T S:=by rw [hS];exact pG T (w.heap.size+1+1) (.int .i64 (d.ax+1)) (.int .i64 (d.version+1)) (.slice Es d.ah.aa.length um) (.slice Et d.ah.tables.length un) (.slice En d.ai.names.length uo) (.slice Em d.ai.members.length uq) (.slice Aq (cH d).length cq)
  have r7:au S (w.heap.size+1+1) [.int .i64 (d.ax+1),.int .i64 (d.version+1),.slice Es d.ah.aa.length um,.slice Et d.ah.tables.length un,.slice En d.ai.names.length uo,.slice Em d.ai.members.length uq,.slice Aq (cH d).length cq]:=by rw [hS];exact mW QR.out.1 rfl (.int .i64 (d.ax+1)) (.int .i64 (d.version+1)) (.slice Es d.ah.aa.length um) (.slice Et d.ah.tables.length un) (.slice En d.ai.names.length uo) (.slice Em d.ai.members.length uq) (.slice Aq (cH d).length cq)
  obtain ⟨Vf,J3⟩:∃ Vf,Vf=S.setCell ⟨w.heap.size+1+1+1,0,none⟩ (.int .i64 0):=⟨_,rfl⟩
  have k8:Kb (fun g=>g=w.heap.size+1+1+1) S Vf:=by rw [J3];exact Kb.set S (w.heap.size+1+1+1) 0 (.int .i64 0)
  have rp:au Vf (w.heap.size+1+1) [.int .i64 (d.ax+1),.int .i64 (d.version+1),.slice Es d.ah.aa.length um,.slice Et d.ah.tables.length un,.slice En d.ai.names.length uo,.slice Em d.ai.members.length uq,.slice Aq (cH d).length cq]:=by rw [J3];exact r7.Q8 (show w.heap.size+1+1+1≠w.heap.size+1+1 by omega) 0 (.int .i64 0)
  have rq:au Vf (w.heap.size+1+1+1) [.int .i64 0]:=by
   have e:=k7.row QR.out.2 (fun e=>by have e:w.heap.size+1+1+1=w.heap.size+1+1:=e;omega);rw [J3];exact e.set 0 (.int .i64 0) (by simp)
  have Rl:=gH (show Gb w (dX c x) (.returned (.tuple #[.agg #[.int .i64 (d.ax+1),.int .i64 (d.version+1),.slice Es d.ah.aa.length um,.slice Et d.ah.tables.length un,.slice En d.ai.names.length uo,.slice Em d.ai.members.length uq,.slice Aq (cH d).length cq],.int .i64 0])) Vf from by
   rw [HFE.out];refine ⟨⟨Es,Ws,um⟩,⟨Et,Wt,un⟩,⟨En,Wu,uo⟩,⟨Em,Wv,uq⟩,⟨Aq,(cH d).length,cq⟩,M,rfl,?_,?_⟩
   ·exact k8.aN (k7.aN (KT.out.aN Wk.out (fun g hg e=>by have e:g=w.heap.size+1+1:=e;omega)) (fun g hg e=>by have e:g=w.heap.size+1+1:=e;omega)) (fun g hg e=>by have e:g=w.heap.size+1+1+1:=e;omega)
   ·have c3:=((DZ.out.kb KT.out (fun g' h1 e=>by have:=(DZ.out.lt h1).1;have e:g'=w.heap.size+1+1:=e;omega)).kb k7 (fun g' h1 e=>by have:=(DZ.out.lt h1).1;have e:g'=w.heap.size+1+1:=e;omega)).kb k8 (fun g' h1 e=>by have:=(DZ.out.lt h1).1;have e:g'=w.heap.size+1+1+1:=e;omega)
    exact c3.down (by have:=lx.out.size;have:=bQ.out.size;have:=HA.out.size;omega))
  rw [← hS,← J3];clear hS J3;have Ww:=gH (And.intro rp rq)
  show Leaves _ _ _ _ _ _ _
  exact vP rfl rfl Ww.out.1 Ww.out.2 Rl.out
end Go.Proofs.YtakddkhipelmjaaGreat
