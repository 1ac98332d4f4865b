import Derived.Test.YtakddkhipelmjaaGreatPartH16
set_option maxRecDepth 100000
set_option linter.unusedVariables false
set_option maxHeartbeats 64000000
namespace Go.Proofs.YtakddkhipelmjaaGreat
open Go.Deep Go.RowKit
structure n7 (w wr:World) (t:bW) (hc hr:Hd) (L0 L:List fu) (k:Nat):Prop where
 aA:ag w wr
 box:ai wr w.heap.size [.string t.af,.string t.name,.string t.owner,.slice hc.a t.au.length hc.c,.slice hr.a t.rules.length hr.c]
 zt:wr.ownsRow (w.heap.size+1) 169 3 hc.v t.au.length (t.au.flatMap DO)
 wQ:wr.ownsRow (w.heap.size+1) 42 8 hr.v t.rules.length ((L++L0.drop k).flatMap fu.cells)
 len:L.length=k
 is:L.map (·.r)=t.rules.take k
 each:∀ x∈L,lI wr (w.heap.size+1) x
 nd:(hc.blk++(hr.blk++L.flatMap (·.h.blk))).Nodup
theorem n7.lt {w wr:World} {t:bW} {hc hr:Hd} {L0 L:List fu} {k:Nat} (s:n7 w wr t hc hr L0 L k):∀ g∈hc.blk++(hr.blk++L.flatMap (·.h.blk)),w.heap.size+1≤g∧g < wr.heap.size:=by
 intro g hg;simp only [List.mem_append,List.mem_flatMap] at hg
 rcases hg with hg | hg | ⟨r,hr,hg⟩
 ·exact fG s.zt g hg
 ·exact fG s.wQ g hg
 ·exact fG (s.each r hr).kw g hg
theorem n7.step {w wr w4:World} {t:bW} {hc hr h4:Hd} {L0 L:List fu} {k gr:Nat} (s:n7 w wr t hc hr L0 L k) (h0:L0.map (·.r)=t.rules) (hk:k < t.rules.length) (hgr:hr.a=some ⟨gr,0,none⟩)
  (a4:ag wr w4) (od:w4.ownsRow wr.heap.size 9 1 h4.v t.rules[k].au.length (t.rules[k].au.flatMap cB)):n7 w (w4.setCell ⟨gr,k*8+2,none⟩ h4.v) t hc hr L0 (L++[⟨t.rules[k],h4⟩]) (k+1):=by
 have PA:L0.length=t.rules.length:=by rw [← h0];simp
 have hgb:gr∈hr.blk:=by rw [Hd.bj];unfold Hd.v;rw [hgr];rfl
 have hlt:=s.lt;have hg:=hlt gr (by simp [hgb]);have kb:=Kb.set w4 gr (k*8+2) h4.v;have ka:Kb (fun x=>x=gr) wr (w4.setCell ⟨gr,k*8+2,none⟩ h4.v):=(Kb.aO a4).trans kb;have Li:=s.nd;have XO:=s.box.1
 have XP:∀ g∈hc.blk,¬ g=gr:=fun g JR e=>by
  subst e;exact (List.nodup_append.1 Li).2.2 g JR g (by simp [hgb]) rfl
 have XQ:∀ x∈L,∀ g∈x.h.blk,¬ g=gr:=fun x hx g JR e=>by
  subst e;exact (List.nodup_append.1 (List.nodup_append.1 Li).2.1).2.2 g hgb g (by simp only [List.mem_flatMap];exact ⟨x,hx,JR⟩) rfl
 refine ⟨ka.aJ s.aA (fun x hx e=>by omega),ka.row s.box (by omega),br s.zt ka fun g hgo=>XP g (Hd.bj.2 hgo),?_,by simp [s.len],?_,?_,?_⟩
 ·have h1:=ku (cA s.wQ a4) (Hd.bj.1 hgb) (k*8+2) h4.v
  have pY:k < (L++L0.drop k).length:=by simp [s.len];omega
  have vW:(L++L0.drop k)[k]=L0[k]'(by omega):=by
   rw [List.getElem_append_right (by rw [s.len];exact Nat.le_refl _)];simp [s.len]
  have sS:(L0[k]'(by omega)).r=t.rules[k]:=by
   have:(L0.map (·.r))[k]'(by simpa using (by omega:k < L0.length))=t.rules[k]:=by simp only [h0]
   simpa using this
  rw [iy (size:=8) (fun _=>rfl) (L++L0.drop k) k 2 pY (by decide) h4.v ⟨t.rules[k],h4⟩ (by rw [vW];unfold fu.cells DR;rw [sS];rfl)] at h1
  have tF:(L++L0.drop k).set k ⟨t.rules[k],h4⟩=(L++[⟨t.rules[k],h4⟩])++L0.drop (k+1):=by
   have hd:L0.drop k=L0[k]'(by omega)::L0.drop (k+1):=List.drop_eq_getElem_cons (by omega:k < L0.length);rw [List.set_append_right _ _ (by rw [s.len];exact Nat.le_refl _),s.len,Nat.sub_self,hd];simp only [List.set_cons_zero,List.append_assoc,List.cons_append,List.nil_append]
  rw [tF] at h1;exact h1
 ·rw [List.map_append,s.is,List.take_succ_eq_append_getElem hk];rfl
 ·intro x hx
  simp only [List.mem_append,List.mem_singleton] at hx
  rcases hx with hx | rfl
  ·exact (s.each x hx).kb ka fun g hgo=>XQ x hx g hgo
  ·exact ⟨bM (br od kb fun g hgo e=>by have:=(od.lt g hgo).1;omega) (by omega)⟩
 ·have e:hc.blk++(hr.blk++(L++[fu.mk t.rules[k] h4]).flatMap (·.h.blk))=(hc.blk++(hr.blk++L.flatMap (·.h.blk)))++h4.blk:=by simp [List.append_assoc]
  rw [e];exact jf Li (eV h4) (fun g hg=>(hlt g hg).2) (fun g hg=>(fG od g hg).1)
theorem n7.done {w wr:World} {t:bW} {hc hr:Hd} {L0 L:List fu} {k:Nat} (s:n7 w wr t hc hr L0 L k) (h0:L0.map (·.r)=t.rules) (hk:k=t.rules.length) :
  (bA.mk t.af t.name t.owner t.au L hc hr).t=t∧ey wr w.heap.size ⟨t.af,t.name,t.owner,t.au,L,hc,hr⟩∧(bA.mk t.af t.name t.owner t.au L hc hr).gu.Nodup:=by
 subst hk;have xi:=s.is;rw [List.take_of_length_le (Nat.le_refl _)] at xi
 have Ib:L0.length=t.rules.length:=by rw [← h0];simp
 have Ic:=s.wQ;rw [List.drop_of_length_le (by omega),List.append_nil] at Ic;have Ie:L.length=t.rules.length:=s.len;refine ⟨by unfold bA.t;rw [xi],?_,s.nd⟩;exact ey.down (w:=wr) (B:=w.heap.size+1) ⟨s.zt,by show wr.ownsRow _ _ 8 _ L.length _;rw [Ie];exact Ic,s.each⟩ (by omega)
structure Ig (w wr:World) (c:bS) (v4 v5 v6:Value) (hs ht:Hd) (L:List bA) (k:Nat):Prop where
 aA:ag w wr
 box:ai wr w.heap.size [.int .i64 c.av,.int .i64 c.version,.slice hs.a c.aj.ae.length hs.c,.slice ht.a k ht.c,v4,v5,v6]
 out:ai wr (w.heap.size+1) [.int .i64 0,.int .i64 0,.slice none 0 0,.slice none 0 0,.slice none 0 0,.slice none 0 0,.slice none 0 0]
 obj:dw wr (w.heap.size+2) hs ht c.aj.ae L
 is:L.map bA.t=c.aj.tables.take k
 len:L.length=k
theorem Ig.step {w wr w4 w5:World} {c:bS} {v4 v5 v6:Value} {hs ht kq:Hd} {L:List bA} {x:bA} {k:Nat} (s:Ig w wr c v4 v5 v6 hs ht L k) (hk:k < c.aj.tables.length) (Ih:x.t=c.aj.tables[k]) (a4:ag wr w4) (hx:ey w4 wr.heap.size x) (nx:x.gu.Nodup)
  (hg:w4.grownBy w5 ht.v.ownBlock) (ho:w5.ownsRow (w.heap.size+2) 80 5 kq.v (k+1) (L.flatMap bA.cells++x.cells)) (hb:∀ g∈kq.blk,g∈ht.blk∨w4.heap.size≤g) (hn:∀ g∈kq.blk,g∉x.gu) :
  Ig w (w5.setCell ⟨w.heap.size,3,none⟩ (.slice kq.a (k+1) kq.c)) c v4 v5 v6 hs kq (L++[x]) (k+1):=by
 have hz:=a4.size;have hz5:=hg.size;have hb3:=s.out.1
 have hzz:w.heap.size+2≤wr.heap.size:=by omega
 have ob:=s.obj.push a4 hx nx hzz hg (by rw [s.len];exact ho) hb hn;have obl:=ob.lt;have k5:Kb (fun g=>g=w.heap.size) w5 (w5.setCell ⟨w.heap.size,3,none⟩ (.slice kq.a (k+1) kq.c)):=Kb.set _ _ _ _;have kg:Kb (fun g=>ht.v.ownBlock=some g) w4 w5:=Kb.cZ hg
 have EK:∀ g,ht.v.ownBlock=some g→w.heap.size+2≤g:=fun g h1=>(s.obj.tab.lt g h1).1
 refine ⟨k5.aJ (kg.aJ (s.aA.trans a4) (fun g Ep h1=>by have:=EK g h1;omega)) (fun g Ep e=>by omega),?_,k5.row (kg.row (s.out.aA a4) (fun h1=>by have:=EK _ h1;omega)) (by omega),ob.kb k5 (fun g Rc e=>by have:=(obl g Rc).1;have e:g=w.heap.size:=e;omega),?_,by simp [s.len]⟩
 ·have:=(kg.row (s.box.aA a4) (fun h1=>by have:=EK _ h1;omega)).set 3 (.slice kq.a (k+1) kq.c) (by simp)
  exact this
 ·rw [List.map_append,s.is,List.take_succ_eq_append_getElem hk,← Ih];rfl
theorem TT (c:bS) (As:Option Addr) (ax:Nat) (At:Option Addr) (aD:Nat) (An:Option Addr) (aH:Nat) (Am:Option Addr) (aL:Nat) (Ag:Option Addr) (aP:Nat) (w:World) (H:gl w c As ax At aD An aH Am aL Ag aP) (jL:bD c.aj=true) (hln:c.ar.names.length≤1000000) (TU:c.ar.members.length≤1000000) (XR:c.ah.length≤1000000) :
  Calls Tryz.prog 74 #[.agg #[.int .i64 c.av,.int .i64 c.version,.slice As c.aj.ae.length ax,.slice At c.aj.tables.length aD,.slice An c.ar.names.length aH,.slice Am c.ar.members.length aL,.slice Ag c.ah.length aP]] w (Td c w):=by
 have l1:w.heap.size < w.heap.size+1:=by omega
 have l2:w.heap.size < w.heap.size+1+1:=by omega
 obtain ⟨W,hW⟩:∃ W,W=(w.alloc (.cells #[.int .i64 c.av,.int .i64 c.version,.slice As c.aj.ae.length ax,.slice At c.aj.tables.length aD,.slice An c.ar.names.length aH,.slice Am c.ar.members.length aL,.slice Ag c.ah.length aP] 32)).alloc (.cells #[.int .i64 0,.int .i64 0,.slice none 0 0,.slice none 0 0,.slice none 0 0,.slice none 0 0,.slice none 0 0] 32):=⟨_,rfl⟩
 have aW:ag w W:=by rw [hW];exact ((ag.refl w).alloc _).alloc _
 have r0:ai W (w.heap.size) [.int .i64 c.av,.int .i64 c.version,.slice As c.aj.ae.length ax,.slice At c.aj.tables.length aD,.slice An c.ar.names.length aH,.slice Am c.ar.members.length aL,.slice Ag c.ah.length aP]:=by rw [hW];exact ai.up (aR (ag.refl _) (by simp))
 have r1:ai W (w.heap.size+1) [.int .i64 0,.int .i64 0,.slice none 0 0,.slice none 0 0,.slice none 0 0,.slice none 0 0,.slice none 0 0]:=by rw [hW];exact aR (ag.refl _) (by simp)
 have zW:W.heap.size=w.heap.size+2:=by rw [hW];simp
 have HR:=gH (And.intro r0 r1);have cu:=gH aW;have Ht:=gH zW;have HH:=gH H;have hlt:=H.tab.len;have rb:=oZ jL;have C1:=gH (fun w' (a:ag W w')=>uD As ax c.aj.ae w' w' (ag.refl _) (bQ (aW.trans a) H.fS) rb.1);have HM:=gH rb;have x2:=r0.cell (j:=2) rfl;have x3:=r0.cell (j:=3) rfl;have f2:=r0.2.2 2 (by simp);have f3:=r0.2.2 3 (by simp);have xz:=r0.1;clear H r0 r1 aW rb jL
 go_in
 go_wp2_with fail;rw [← hW];go_wp2_with fail;clear hW x2 x3 xz f2 f3;refine (C1.out _ (ag.refl _)).mono ?_;rintro e w1 ⟨v1,TV,rfl,a1,jP,NB⟩;obtain ⟨Bs,FT,rfl⟩:=dV jP;rw [uE NB] at jP;have p0:=HR.out.1.aA a1;have p1:=HR.out.2.aA a1;have xz:=p0.1;have x2:=p0.cell (j:=2) rfl;have x3:=p0.cell (j:=3) rfl;have f2:=p0.2.2 2 (by simp);have f3:=p0.2.2 3 (by simp);obtain ⟨X,hX⟩:∃ V,V=(w1.setCell ⟨w.heap.size,2,none⟩ (.slice Bs c.aj.ae.length FT)).setCell ⟨w.heap.size,3,none⟩ (.slice none 0 0):=⟨_,rfl⟩
 have kX:Kb (fun g=>g=w.heap.size) w1 X:=by rw [hX];exact (Kb.set _ _ _ _).trans (Kb.set _ _ _ _)
 have zX:X.heap.size=w1.heap.size:=by rw [hX];simp
 have sW1:=a1.size
 have LOOP:=gH (show Ig w X c (.slice An c.ar.names.length aH) (.slice Am c.ar.members.length aL) (.slice Ag c.ah.length aP) ⟨Bs,c.aj.ae.length,FT⟩ ⟨none,0,0⟩ [] 0 from by
  have TW:=Ht.out;have o1:X.ownsRow (w.heap.size+2) 109 2 (Hd.mk Bs c.aj.ae.length FT).v c.aj.ae.length (c.aj.ae.flatMap iO):=bM (br jP kX (fun g hg e=>by have:=(jP.lt g hg).1;have e:g=w.heap.size:=e;omega)) (by omega);refine ⟨kX.aJ (cu.out.trans a1) (fun g hg e=>by have e:g=w.heap.size:=e;omega),?_,kX.row p1 (by omega),⟨o1,cO _ _ _ _,fun x hx=>by simp at hx,by simpa [im] using eV _⟩,rfl,rfl⟩
  rw [hX];exact (p0.set 2 _ (by simp)).set 3 _ (by simp))
 have SZ1:=gH (show W.heap.size≤X.heap.size by rw [zX];exact sW1);clear a1 jP NB p0 p1 kX zX C1 sW1;go_wp2_with fail;rw [← hX];clear hX x2 x3 f2 f3 xz
 go_loopw [18] (fun i wr=>∃ (k:Nat) (ht:Hd) (L:List bA),k≤c.aj.tables.length∧i=.int .i64 k∧Ig w wr c (.slice An c.ar.names.length aH) (.slice Am c.ar.members.length aL) (.slice Ag c.ah.length aP) ⟨Bs,c.aj.ae.length,FT⟩ ht L k) (fun i _=>c.aj.tables.length - (intOf i).toNat)
 case atStart=>exact ⟨0,_,[],Nat.zero_le _,rfl,LOOP.out⟩
 case round =>
  clear LOOP;obtain ⟨wo,rfl⟩:∃ v,v=wr:=⟨_,rfl⟩;obtain ⟨k,ht,L,hk,rfl,hs⟩:=hrel;have HS:=gH hs;by_cases mg:k < c.aj.tables.length
  ·obtain ⟨b,off,A2,bJ,A3,fC,rfl,hb,t0,t1,t2,t3,t4,d9,kK,tv⟩:=iB (bC hs.aA HH.out.tab) mg
   obtain ⟨p,jY⟩:∃ p,c.aj.tables[k]=p:=⟨_,rfl⟩;rw [jY] at t0 t1 t2 t3 t4 d9 kK tv;have FJ:=gH jY;have VX:TX p:=HM.out.2.2 p (by rw [← jY];exact List.getElem_mem mg);have HMT:=gH VX;have D1:=gH (fun w' (a:ag wo w')=>uF A2 bJ p.au w' w' (ag.refl _) (dF a d9) VX.1);have D2:=gH (fun w' (a:ag wo w')=>uG A3 fC p.rules wo w' a kK VX.2.1)
   have zh:w.heap.size+2≤wo.heap.size:=by have:=hs.out.1;have:=hs.aA.size;have:=Ht.out;have:=SZ1.out;omega
   clear hs jY d9 kK VX;obtain ⟨V,hV⟩:∃ V,V=wo.alloc (.cells #[.string p.af,.string p.name,.string p.owner,.slice A2 p.au.length bJ,.slice A3 p.rules.length fC] 80):=⟨_,rfl⟩
   have aV:ag wo V:=by rw [hV];exact (ag.refl _).alloc _
   have zV:V.heap.size=wo.heap.size+1:=by rw [hV];simp
   have rV:ai V wo.heap.size [.string p.af,.string p.name,.string p.owner,.slice A2 p.au.length bJ,.slice A3 p.rules.length fC]:=by rw [hV];exact aN (ag.refl _)
   have RV:=gH rV;have Er:=gH aV;have NC:=gH zV;have q3:=rV.cell (j:=3) rfl;have q4:=rV.cell (j:=4) rfl;have g3:=rV.2.2 3 (by simp);have g4:=rV.2.2 4 (by simp);have qz:=rV.1;have KF:=gH (show ∀ w',ag V w'→(w'.cell? ⟨wo.heap.size,3,none⟩=some (.slice A2 p.au.length bJ)∧w'.cell? ⟨wo.heap.size,4,none⟩=some (.slice A3 p.rules.length fC)∧w'.frozen? ⟨wo.heap.size,3,none⟩=false∧w'.frozen? ⟨wo.heap.size,4,none⟩=false∧wo.heap.size < w'.heap.size) from fun w' a=>⟨a.cell_kept q3,a.cell_kept q4,(RV.out.aA a).2.2 3 (by simp),(RV.out.aA a).2.2 4 (by simp),(RV.out.aA a).1⟩);clear rV aV zV;go_wp2_with fail;rw [← hV];clear hV
   go_region_law (first
    | (go_simp;go_at_call 119;(first | refine (D1.out _ (Er.out.trans (ag.refl V).drew)).mono ?_ | refine (D1.out _ Er.out).mono ?_);rintro e w4 ⟨v4,TY,rfl,a4,o4,h4⟩;have b4:ag V w4:=(by first | exact (ag.refl V).drew.trans a4 | exact a4);obtain ⟨k4,k5,k6,k7,k8⟩:=KF.out w4 b4;rw [uH h4] at o4;clear h4;obtain ⟨A4,c4,hv4⟩:=dV o4;subst hv4)
    | (go_simp;go_at_call 120;refine (D2.out _ (Er.out.trans b4)).mono ?_;rintro e w5 ⟨v5,XS,rfl,a5,o5,h5⟩;have b5:ag V w5:=b4.trans a5;obtain ⟨XT,XU,XV,XW,XX⟩:=KF.out w5 b5;obtain ⟨A5,c5,XY⟩:=dV o5;subst XY))
   all_goals
    obtain ⟨L0,PA,Ii,Bo⟩:=uI h5;rw [Ii,← List.flatMap_def] at o5;obtain ⟨Z,hZ⟩:∃ Z,Z=(w5.setCell ⟨wo.heap.size,3,none⟩ (.slice A4 p.au.length c4)).setCell ⟨wo.heap.size,4,none⟩ (.slice A5 p.rules.length c5):=⟨_,rfl⟩
    have kZ:Kb (fun g=>g=wo.heap.size) w5 Z:=by rw [hZ];exact (Kb.set _ _ _ _).trans (Kb.set _ _ _ _)
    have rZ:ai Z wo.heap.size [.string p.af,.string p.name,.string p.owner,.slice A4 p.au.length c4,.slice A5 p.rules.length c5]:=by rw [hZ];exact ((RV.out.aA b5).set 3 _ (by simp)).set 4 _ (by simp)
    have ND:=NC.out;have s4:=b4.size;have s5:=a5.size
    have l4:∀ g,(Hd.mk A4 p.au.length c4).v.ownBlock=some g→wo.heap.size+1≤g∧g < w4.heap.size:=fun g hg=>by have:=o4.lt g hg;(try simp at this);omega
    have l5:∀ g,(Hd.mk A5 p.rules.length c5).v.ownBlock=some g→w4.heap.size≤g∧g < w5.heap.size:=fun g hg=>by have:=o5.lt g hg;(try simp at this);omega
    have Lj:=gH (show n7 wo Z p ⟨A4,p.au.length,c4⟩ ⟨A5,p.rules.length,c5⟩ L0 [] 0 from by
     refine ⟨kZ.aJ (Er.out.trans b5) (fun g hg e=>by have e:g=wo.heap.size:=e;omega),rZ,li (br (cA o4 a5) kZ (fun g hg e=>by have:=(l4 g hg).1;have e:g=wo.heap.size:=e;omega)) (fun g hg=>(l4 g hg).1),li (br o5 kZ (fun g hg e=>by have:=(l5 g hg).1;have e:g=wo.heap.size:=e;omega)) (fun g hg=>by have:=(l5 g hg).1;omega),rfl,rfl,fun x hx=>by simp at hx,?_⟩;simp only [List.flatMap_nil,List.append_nil]
     exact jf (eV _) (eV _) (fun g hg=>(l4 g (Hd.bj.1 hg)).2) (fun g hg=>(l5 g (Hd.bj.1 hg)).1))
    have Lk:=gH PA;have PB:=gH (show ∀ x∈L0,∀ w',ag wo w'→x.h.n=x.r.au.length∧az w' 1 dC x.h.a x.h.c x.r.au from fun x hx w' a=>⟨(Bo x hx).1,aU a (Bo x hx).2⟩);have y4:=rZ.cell (j:=4) rfl;have yz:=rZ.1;rw [hZ] at y4 yz;clear o4 o5 h5 Ii PA Bo kZ rZ s4 s5 l4 l5 ND q3 q4 g3 g4 qz k4 k5 k6 k7 k8 a4 b4 a5 b5
    (try clear t0 t1 t2 t3 t4 tv)
    go_wp2_with fail;rw [← hZ];clear hZ y4 yz XT XU XV XW XX;have aah:p.rules.length≤1000000:=HMT.out.2.1
    go_loopw [33] (fun i wr=>∃ (m:Nat) (M:List fu),m≤p.rules.length∧i=.int .i64 m∧n7 wo wr p ⟨A4,p.au.length,c4⟩ ⟨A5,p.rules.length,c5⟩ L0 M m) (fun i _=>p.rules.length - (intOf i).toNat)
    case atStart=>exact ⟨0,[],Nat.zero_le _,rfl,Lj.out⟩
    case round =>
     clear Lj;obtain ⟨m,M,hm,rfl,hq⟩:=hrel;have b4:=hq.box.cell (j:=4) rfl;have bz:=hq.box.1;have HQ:=gH hq;by_cases Ij:m < p.rules.length
     ·have Ib:L0.length=p.rules.length:=by rw [← Lk.out];simp
      obtain ⟨gr,TZ,XZ,rg⟩:=uJ hq.wQ (by omega);have PC:A5=some ⟨gr,0,none⟩:=TZ;subst PC
      have pY:m < L0.length:=by omega
      have vW:(M++L0.drop m)[m]'(by simp [hq.len];omega)=L0[m]:=by
       rw [List.getElem_append_right (by rw [hq.len];exact Nat.le_refl _)];simp [hq.len]
      have sS:L0[m].r=p.rules[m]:=by
       have:(L0.map (·.r))[m]'(by simpa using pY)=p.rules[m]:=by simp only [Lk.out]
       simpa using this
      obtain ⟨hn,hD⟩:=PB.out L0[m] (List.getElem_mem pY) wr hq.aA;obtain ⟨r,xG⟩:∃ r,p.rules[m]=r:=⟨_,rfl⟩
      have x2:wr.cell? ⟨gr,m*8+2,none⟩=some (.slice L0[m].h.a r.au.length L0[m].h.c):=by
       refine rg.cell ?_;rw [js fu.cells 8 (fun _=>rfl) _ m 2 (by simp [hq.len];omega) (by decide),vW];unfold fu.cells DR Hd.v;rw [hn,sS,xG];rfl
      rw [sS,xG] at hD;obtain ⟨E2,hE2⟩:∃ D,L0[m].h.a=D:=⟨_,rfl⟩;obtain ⟨e2,NE⟩:∃ c,L0[m].h.c=c:=⟨_,rfl⟩;rw [hE2,NE] at x2 hD;have PD:=gH xG;have f2:=rg.2.2 (m*8+2) (by rw [cp (size:=8) (fun _=>rfl)];simp [hq.len];omega);have gz:=rg.1;have X0:r.au.length≤1000000:=HMT.out.2.2 r (by rw [← xG];exact List.getElem_mem Ij);have hpl:=hD.len;have C3:=gH (show ∀ w',ag wr w'→_ from fun w' a=>ko E2 e2 r.au wr w' a hD X0)
      have VU:gr≠wo.heap.size:=by omega
      clear xG vW sS hn hD hE2 NE hq rg TZ Ib;go_wp2_with fail
      go_region_with ((go_at_call 121;refine (C3.out _ (ag.refl _).drew).mono ?_;rintro e w6 ⟨v6,X1,rfl,a6,qd,T4⟩;have x6:=a6.cell_kept x2;have b6:=a6.cell_kept b4;have f6:=(Below.frozen a6 (p:=⟨gr,m*8+2,none⟩) gz).trans f2;obtain ⟨Dn,cn,hv6⟩:=dV qd;subst hv6))
      all_goals
       have Q6:ag wr w6:=(ag.refl _).drew.trans a6;have vX:=gH (HQ.out.step (h4:=⟨Dn,r.au.length,cn⟩) Lk.out Ij rfl Q6 (by rw [jg T4] at qd;rw [PD.out];exact qd));rw [PD.out] at vX;clear qd T4 a6 Q6 x6 b6 f6;go_wp2
       go_roundw
       case rel=>exact ⟨m+1,_,by omega,by go_num,vX.out⟩
       case measure=>simp [intOf];omega
     ·have hmn:m=p.rules.length:=by omega
      obtain ⟨Ih,Ik,Ll⟩:=hq.done Lk.out hmn;obtain ⟨x,hx⟩:∃ x,(bA.mk p.af p.name p.owner p.au M ⟨A4,p.au.length,c4⟩ ⟨A5,p.rules.length,c5⟩)=x:=⟨_,rfl⟩
      have Ua:x.cells=[.string p.af,.string p.name,.string p.owner,.slice A4 p.au.length c4,.slice A5 p.rules.length c5]:=by rw [← hx];rfl
      rw [hx] at Ih Ik Ll;have aq:=hq.aA;obtain ⟨y0,y1,y2,y3⟩:=DM hq.box;have z3:=(HS.out.box.aA aq).cell (j:=3) rfl;have zz:=(HS.out.box.aA aq).1;have HT:=gH (And.intro Ih (And.intro Ik Ll));have X2:=gH aq;have HXC:=gH Ua;obtain ⟨JV,nt,ct⟩:=ht;have dH:=HS.out.obj.tab;rw [HS.out.len] at dH;obtain rfl:nt=k:=mq dH;have Bp:=gH (show wo.ownsRow (w.heap.size+2) 80 5 (.slice JV nt ct) nt (L.flatMap bA.cells) from dH)
      have h1m:nt≤1000000:=by have:=HM.out.2.1;omega
      have XO:w.heap.size+2≤wr.heap.size+1:=by have:=aq.size;omega
      have VY:=gH (fun w' (kb:Kb (fun g=>(Value.slice JV nt ct).ownBlock=some g) wr w')=>kb.row (HS.out.box.aA aq) (fun h1=>by have:=(Bp.out.lt _ h1).1;omega));clear hq Ih Ik Ll hx Ua aq dH;simp only [] at z3
      go_wp2_with (at_builtin;(refine KI rfl _ _ rfl (w.heap.size+2) (.slice JV nt ct) nt (L.flatMap bA.cells) rfl (cA Bp.out (X2.out.alloc _)) wr.heap.size x p.af p.name p.owner A4 p.au.length c4 A5 p.rules.length c5 HXC.out rfl (heap_alloc_new wr _) h1m (by simp;omega) ?_);intro gg cap' w7 NF hgrow hat;have r7:=VY.out w7 ((Kb.aO ((ag.refl wr).alloc _)).trans (Kb.cZ hgrow));have m3:=r7.cell (j:=3) rfl;have n3:=r7.2.2 3 (by simp);have mz:=r7.1;have vX:=gH (HS.out.step (kq:=⟨some ⟨gg,0,none⟩,nt+1,cap'⟩) (x:=x) mg (by rw [HT.out.1,FJ.out]) (X2.out.alloc _) (HT.out.2.1.aA ((ag.refl _).alloc _)) HT.out.2.2 hgrow NF
       (fun g hg=>by
        rw [fP,List.mem_singleton] at hg;subst hg
        rcases hat with h1 | h1
        ·exact .inl (Hd.bj.2 h1)
        ·refine .inr ?_
         omega)
       (fun g hg hx=>by
        rw [fP,List.mem_singleton] at hg;subst hg;have h2:=HT.out.2.1.lt _ hx;have h3:=X2.out.size
        rcases hat with h1 | h1
        ·have:=(Bp.out.lt _ h1).2
         omega
        ·simp at h1
         omega))
                                                            ;clear r7 NF hgrow hat)
      go_roundw
      case rel=>exact ⟨nt+1,_,_,by omega,by go_num,vX.out⟩
      case measure=>simp [intOf];omega
  ·have Lm:k=c.aj.tables.length:=by omega
   subst Lm;have p0:=hs.box;have t4:=p0.cell (j:=4) rfl;have t5:=p0.cell (j:=5) rfl;have f4:=p0.2.2 4 (by simp);have f5:=p0.2.2 5 (by simp);have tz:=p0.1;have D1:=gH (fun w' (a:ag wo w')=>ko An aH c.ar.names w' w' (ag.refl _) (aU (HS.out.aA.trans a) HH.out.kw) hln);have D2:=gH (fun w' (a:ag wo w')=>uK Am aL c.ar.members w' w' (ag.refl _) (df (HS.out.aA.trans a) HH.out.mem) TU);have KF:=gH (show ∀ w',ag wo w'→(w'.cell? ⟨w.heap.size,4,none⟩=some (.slice An c.ar.names.length aH)∧w'.cell? ⟨w.heap.size,5,none⟩=some (.slice Am c.ar.members.length aL)∧w'.frozen? ⟨w.heap.size,4,none⟩=false∧w'.frozen? ⟨w.heap.size,5,none⟩=false∧w.heap.size < w'.heap.size) from fun w' a=>⟨a.cell_kept t4,a.cell_kept t5,(p0.aA a).2.2 4 (by simp),(p0.aA a).2.2 5 (by simp),(p0.aA a).1⟩);have hwr:=hs.out.1;clear p0 hs;go_wp2_with fail
   go_region_law (first
    | (go_simp;go_at_call 121;(first | refine (D1.out _ ((ag.refl wo).drew)).mono ?_ | refine (D1.out _ (ag.refl wo)).mono ?_);rintro e w4 ⟨v4,TY,rfl,a4,o4,h4⟩;have q4:ag wo w4:=(by first | exact (ag.refl wo).drew.trans a4 | exact a4);obtain ⟨k4,k5,k6,k7,k8⟩:=KF.out w4 q4;rw [jg h4] at o4;clear h4;obtain ⟨A4,c4,hv4⟩:=dV o4;subst hv4)
    | (go_simp;go_at_call 122;refine (D2.out _ q4).mono ?_;rintro e w5 ⟨v5,XS,rfl,a5,o5,h5⟩;have q5:ag wo w5:=q4.trans a5;obtain ⟨XT,XU,XV,XW,XX⟩:=KF.out w5 q5;rw [uL h5] at o5;clear h5;obtain ⟨A5,c5,XY⟩:=dV o5;subst XY))
   all_goals
    have s4:=q4.size;have s5:=a5.size;obtain ⟨Z,hZ⟩:∃ Z,Z=(w5.setCell ⟨w.heap.size,4,none⟩ (.slice A4 c.ar.names.length c4)).setCell ⟨w.heap.size,5,none⟩ (.slice A5 c.ar.members.length c5):=⟨_,rfl⟩
    have kZ:Kb (fun g=>g=w.heap.size) w5 Z:=by rw [hZ];exact (Kb.set _ _ _ _).trans (Kb.set _ _ _ _)
    have zZ:Z.heap.size=w5.heap.size:=by rw [hZ];simp
    have RZ:=gH (show ai Z (w.heap.size) [.int .i64 c.av,.int .i64 c.version,.slice Bs c.aj.ae.length FT,.slice ht.a c.aj.tables.length ht.c,.slice A4 c.ar.names.length c4,.slice A5 c.ar.members.length c5,.slice Ag c.ah.length aP] by rw [hZ];exact ((HS.out.box.aA q5).set 4 _ (by simp)).set 5 _ (by simp));have RZ1:=gH (kZ.row (HS.out.out.aA q5) (by omega));have Ub:=gH (kZ.aJ (HS.out.aA.trans q5) (fun g hg e=>by have e:g=_:=e;omega));have NL:=gH (show ∀ g,(Hd.mk A4 c.ar.names.length c4).v.ownBlock=some g→wo.heap.size≤g∧g < w4.heap.size from fun g hg=>by have:=o4.lt g hg;(try simp at this);omega);have ML:=gH (show ∀ g,(Hd.mk A5 c.ar.members.length c5).v.ownBlock=some g→w4.heap.size≤g∧g < w5.heap.size from fun g hg=>by have:=o5.lt g hg;(try simp at this);omega);have ON:=gH (show Z.ownsRow wo.heap.size 9 1 (Hd.mk A4 c.ar.names.length c4).v c.ar.names.length (c.ar.names.flatMap cB) from li (br (cA o4 a5) kZ (fun g hg e=>by have:=(NL.out g hg).1;have e:g=_:=e;omega)) (fun g hg=>(NL.out g hg).1));have OM:=gH (show Z.ownsRow w4.heap.size 174 2 (Hd.mk A5 c.ar.members.length c5).v c.ar.members.length (c.ar.members.flatMap jQ) from li (br o5 kZ (fun g hg e=>by have:=(ML.out g hg).1;have e:g=_:=e;omega)) (fun g hg=>(ML.out g hg).1));have KZ:=gH (show Kb (fun g=>g=w.heap.size) wo Z from (Kb.aO q5).trans kZ);have SZZ:=gH (show wo.heap.size≤w4.heap.size∧w4.heap.size≤w5.heap.size∧Z.heap.size=w5.heap.size∧w.heap.size+2≤wo.heap.size from ⟨s4,s5,zZ,by omega⟩)
    have CG:=gH (Bi Ag aP c.ah Z Z (ag.refl _) (gB Ub.out HH.out.qr) XR);have y6:=RZ.out.cell (j:=6) rfl;have yz:=RZ.out.1;rw [hZ] at y6 yz;clear q4 q5 a4 a5 o4 o5 s4 s5 kZ zZ k4 k5 k6 k7 k8 XT XU XV XW XX t4 t5 f4 f5 tz D1 D2 KF;go_wp2_with fail;rw [← hZ];clear hZ y6 yz;refine CG.out.mono ?_;rintro e w6 ⟨v6,X1,rfl,a6,qd,T4⟩;obtain ⟨Ad,cd,rfl⟩:=dV qd;rw [ew (f:=eR) (fun _ _ h=>h.1) T4] at qd;have HO6:=gH qd;have HA6:=gH a6;have p0:=RZ.out.aA a6;have p1:=RZ1.out.aA a6;have z0:=p0.cell (j:=0) rfl;have u0:=p1.cell (j:=0) rfl;have v0:=p1.2.2 0 (by simp);have z1:=p0.cell (j:=1) rfl;have u1:=p1.cell (j:=1) rfl;have v1:=p1.2.2 1 (by simp);have z2:=p0.cell (j:=2) rfl;have u2:=p1.cell (j:=2) rfl;have v2:=p1.2.2 2 (by simp);have z3:=p0.cell (j:=3) rfl;have u3:=p1.cell (j:=3) rfl;have v3:=p1.2.2 3 (by simp);have z4:=p0.cell (j:=4) rfl;have u4:=p1.cell (j:=4) rfl;have v4:=p1.2.2 4 (by simp);have z5:=p0.cell (j:=5) rfl;have u5:=p1.cell (j:=5) rfl;have v5:=p1.2.2 5 (by simp);have z6:=p0.cell (j:=6) rfl;have u6:=p1.cell (j:=6) rfl;have v6:=p1.2.2 6 (by simp);have zf:=p0.2.2 6 (by simp);have zz:=p0.1;have vz:=p1.1;have ne:w.heap.size+1≠w.heap.size:=(by omega);clear qd a6 p0 p1 T4;go_wp2_with fail
    (try simp only [Exit.inBlock,Exit.then])
    have k3:=Kb.set w6 (w.heap.size) 6 (.slice Ad c.ah.length cd);have q1:=k3.row (RZ1.out.aA HA6.out) (by omega);have k4:=nQ (w6.setCell ⟨w.heap.size,6,none⟩ (.slice Ad c.ah.length cd)) (w.heap.size+1) (.int .i64 c.av) (.int .i64 c.version) (.slice Bs c.aj.ae.length FT) (.slice ht.a c.aj.tables.length ht.c) (.slice A4 c.ar.names.length c4) (.slice A5 c.ar.members.length c5) (.slice Ad c.ah.length cd);refine bodyPost_ret (bB (v:=.agg #[.int .i64 c.av,.int .i64 c.version,.slice Bs c.aj.ae.length FT,.slice ht.a c.aj.tables.length ht.c,.slice A4 c.ar.names.length c4,.slice A5 c.ar.members.length c5,.slice Ad c.ah.length cd]) rfl _ rfl (l6 (lw q1 rfl _ _ _ _ _ _ _))) rfl ?_;obtain ⟨e1,e2,e3,e4⟩:=SZZ.out;have kC:=k3.or k4;have KB:=(Kb.aO (P:=fun _=>False) HA6.out).or kC;have KA:=KZ.out.or KB
    have g6:∀ g,(Hd.mk Ad c.ah.length cd).v.ownBlock=some g→Z.heap.size≤g:=fun g hg=>(HO6.out.lt g hg).1
    refine ⟨⟨Bs,c.aj.ae.length,FT⟩,ht,⟨A4,c.ar.names.length,c4⟩,⟨A5,c.ar.members.length,c5⟩,⟨Ad,c.ah.length,cd⟩,L,rfl,KA.aJ HS.out.aA (fun g hg e=>by rcases e with e | e | e | e<;>first | exact e | (have e:g=_:=e;omega)),?_⟩;have hol:=HS.out.obj.lt
    have hNb:∀ g,g∈(Hd.mk A4 c.ar.names.length c4).blk∨g∈(Hd.mk A5 c.ar.members.length c5).blk→wo.heap.size≤g∧g < w5.heap.size:=fun g hg=>by
     rcases hg with h1 | h1
     ·have:=NL.out g (Hd.bj.1 h1);omega
     ·have:=ML.out g (Hd.bj.1 h1);omega
    refine ⟨?_,?_,⟨?_,?_,?_⟩,?_,?_,?_⟩
    ·exact (HS.out.obj.kb KA (fun g hg e=>by have:=(hol g hg).1;rcases e with e | e | e | e<;>first | exact e | (have e:g=_:=e;omega))).down (by omega)
    ·have:=HS.out.is
     rw [List.take_of_length_le (Nat.le_refl _)] at this;exact this
    ·exact bM (br ON.out KB (fun g hg e=>by have:=(NL.out g hg).1;rcases e with e | e | e<;>first | exact e | (have e:g=_:=e;omega))) (by omega)
    ·exact bM (br OM.out KB (fun g hg e=>by have:=(ML.out g hg).1;rcases e with e | e | e<;>first | exact e | (have e:g=_:=e;omega))) (by omega)
    ·intro g hg yq
     have h8:=(NL.out g (Hd.bj.1 hg)).2;have h9:=(ML.out g (Hd.bj.1 yq)).1;omega
    ·exact bM (br HO6.out kC (fun g hg e=>by have:=g6 g hg;rcases e with e | e<;>(have e:g=_:=e;omega))) (by omega)
    ·intro g hg
     have h1:=(hol g hg).2;exact ⟨fun h2=>by have:=(hNb g h2).1;omega,fun h2=>by have:=g6 g (Hd.bj.1 h2);omega⟩
    ·intro g hg h2
     have h1:=(hNb g hg).2;have:=g6 g (Hd.bj.1 h2);omega
def wJ (k:Int):Int:=if k=2∨k=3 then 1 else if 4≤k∧k≤9 then 2 else if k=14∨k=15 then 3 else 0
theorem X3 (k:Int) (w:World):Calls Tryz.prog 115 #[.int .i64 k] w fun e w'=>e=.returned (.int .i64 (wJ k))∧w=w':=by
 by_cases h2:k=2
 case pos =>
  subst h2
  go_in
  go_wp2;go_ret;exact ⟨rfl,rfl⟩
 by_cases h3:k=3
 case pos =>
  subst h3
  go_in
  go_wp2;go_ret;exact ⟨rfl,rfl⟩
 by_cases h4:k=4
 case pos =>
  subst h4
  go_in
  go_wp2;go_ret;exact ⟨rfl,rfl⟩
 by_cases h5:k=5
 case pos =>
  subst h5
  go_in
  go_wp2;go_ret;exact ⟨rfl,rfl⟩
 by_cases h6:k=6
 case pos =>
  subst h6
  go_in
  go_wp2;go_ret;exact ⟨rfl,rfl⟩
 by_cases h7:k=7
 case pos =>
  subst h7
  go_in
  go_wp2;go_ret;exact ⟨rfl,rfl⟩
 by_cases h8:k=8
 case pos =>
  subst h8
  go_in
  go_wp2;go_ret;exact ⟨rfl,rfl⟩
 by_cases h9:k=9
 case pos =>
  subst h9
  go_in
  go_wp2;go_ret;exact ⟨rfl,rfl⟩
 by_cases FE:k=14
 case pos =>
  subst FE
  go_in
  go_wp2;go_ret;exact ⟨rfl,rfl⟩
 by_cases FH:k=15
 case pos =>
  subst FH
  go_in
  go_wp2;go_ret;exact ⟨rfl,rfl⟩
 have HV:=gH (show wJ k=0 by unfold wJ;rw [if_neg (by omega),if_neg (by omega),if_neg (by omega)])
 go_in
 go_wp2;go_ret;exact ⟨by rw [HV.out];rfl,rfl⟩
theorem Ln (nm ow s:ByteArray) (bx:Nat) (w:World) (hz:bx < w.heap.size) (hc:w.cell? ⟨bx,2,none⟩=some (.string s)) :
  Calls Tryz.prog 71 (#[.agg #[.string nm,.string ow]]++#[.pointer (some ⟨bx,0,none⟩)]) w fun e w'=>e=.returned (.bool (aS nm s))∧ag w w':=by
 show Calls Tryz.prog 71 #[.agg #[.string nm,.string ow],.pointer (some ⟨bx,0,none⟩)] w _
 have hz2:bx < w.heap.size+1:=by omega
 go_in
 go_wp2;go_ret;exact ⟨rfl,(ag.refl _).alloc _⟩
theorem Lp (nm ow s:ByteArray) (bx:Nat) (w:World) (hz:bx < w.heap.size) (hc:w.cell? ⟨bx,2,none⟩=some (.string s)) :
  Calls Tryz.prog 116 (#[.agg #[.string nm,.string ow]]++#[.pointer (some ⟨bx,0,none⟩)]) w fun e w'=>e=.returned (.bool (aS nm s))∧ag w w':=by
 show Calls Tryz.prog 116 #[.agg #[.string nm,.string ow],.pointer (some ⟨bx,0,none⟩)] w _
 have hz2:bx < w.heap.size+1:=by omega
 go_in
 go_wp2;go_ret;exact ⟨rfl,(ag.refl _).alloc _⟩
theorem Lq (A:Option Addr) (cap:Nat) (l:List fK) (g:FuncId) (ax:Array Value) (p:fK→Bool) (w:World) (h:az w 2 eE A cap l) (cM:∀ (args:Array Value) (w:World),(callFunc g args).run Tryz.prog w=.ok (.enter g args) w)
  (hp:∀ w',ag w w'→∀ i (hi:i < l.length),Calls Tryz.prog g (#[.agg #[.string l[i].name,.string l[i].owner]]++ax) w' fun e w''=>e=.returned (.bool (p l[i]))∧ag w' w'') :
  Calls Tryz.prog 70 #[.slice A l.length cap,.func (.func g) #[] ax] w fun e w'=>e=.returned (.bool (l.any p))∧ag w w':=by
 have C:=gH (vx A cap l g ax p w h cM hp);have HE:=gH (gU p l);obtain ⟨i,hi⟩:∃ i,bu p l=i:=⟨_,rfl⟩;rw [hi] at C HE;clear hi h hp
 go_in
 go_wp2_with fail;refine C.out.mono ?_;rintro e w1 ⟨rfl,a1⟩;have HA:=gH a1;clear a1;go_wp2;go_ret;exact ⟨by rw [← HE.out];rfl,HA.out⟩
theorem vY {k:Int}:wJ k=1↔(k=2∨k=3):=by
 unfold wJ;by_cases h:k=2∨k=3
 ·rw [if_pos h];simp [h]
 ·rw [if_neg h];split
  ·simp [h]
  ·split<;>simp [h]
theorem Dj {k:Int}:wJ k=2↔(4≤k∧k≤9):=by
 unfold wJ;by_cases h:k=2∨k=3
 ·rw [if_pos h];constructor
  ·intro h2;omega
  ·intro h2;omega
 ·rw [if_neg h]
  by_cases h2:4≤k∧k≤9
  ·rw [if_pos h2];simp [h2]
  ·rw [if_neg h2]
   constructor
   ·intro h3;split at h3<;>omega
   ·intro h3;exact absurd h3 h2
theorem uM {k:Int}:wJ k=3↔(k=14∨k=15):=by
 unfold wJ;by_cases h:k=2∨k=3
 ·rw [if_pos h];constructor
  ·intro h2;omega
  ·intro h2;omega
 ·rw [if_neg h]
  by_cases h2:4≤k∧k≤9
  ·rw [if_pos h2];constructor
   ·intro h3;omega
   ·intro h3;omega
  ·rw [if_neg h2]
   by_cases h3:k=14∨k=15
   ·rw [if_pos h3];simp [h3]
   ·rw [if_neg h3];simp [h3]
theorem EL (c:bS) (x:gc) (h:wJ x.kind=1):fF c x=(Aw c.ar x.aK cI || Aw c.ar x.aK (tU c.aj x.af)):=by
 unfold fF;rw [if_pos (vY.1 h)]
theorem EM (c:bS) (x:gc) (h:wJ x.kind=2):fF c x=mG c x.aK x.af x.table:=by
 have:=Dj.1 h;unfold fF;rw [if_neg (by omega),if_pos this]
theorem yy (c:bS) (x:gc) (h:wJ x.kind=3):fF c x=true:=by
 have:=uM.1 h;unfold fF;rw [if_neg (by omega),if_neg (by omega),if_pos this]
theorem Bq (c:bS) (x:gc) (h1:wJ x.kind≠1) (h2:wJ x.kind≠2) (h3:wJ x.kind≠3):fF c x=Aw c.ar x.aK cI:=by
 unfold fF;rw [if_neg (fun h=>h1 (vY.2 h)),if_neg (fun h=>h2 (Dj.2 h)),if_neg (fun h=>h3 (uM.2 h))]
theorem EN (c:bS) (As:Option Addr) (ax:Nat) (At:Option Addr) (aD:Nat) (An:Option Addr) (aH:Nat) (Am:Option Addr) (aL:Nat) (Ag:Option Addr) (aP:Nat) (x:gc) (A6:Option Addr) (n6 c6:Nat) (A9:Option Addr) (n9 c9:Nat) (w:World) (H:gl w c As ax At aD An aH Am aL Ag aP) (s1:Small x.aK.size) (hsc:wJ x.kind=1→0≤bY c.aj.ae x.af) :
  Calls Tryz.prog 73 #[.agg #[.int .i64 c.av,.int .i64 c.version,.slice As c.aj.ae.length ax,.slice At c.aj.tables.length aD,.slice An c.ar.names.length aH,.slice Am c.ar.members.length aL,.slice Ag c.ah.length aP],.agg #[.int .i64 x.kind,.string x.aK,.string x.af,.string x.table,.string x.name,.string x.role,.slice A6 n6 c6,.string x.rule.name,.int .i64 x.rule.kind,.slice A9 n9 c9,.int .i64 x.rule.low,.int .i64 x.rule.high,.string x.rule.af,.string x.rule.table,.string x.rule.key,.int .i64 x.right,.bool x.opt]] w fun e w'=>e=.returned (.bool (fF c x))∧ag w w':=by
 have hlen:=H.fS.len
 have l1:w.heap.size < w.heap.size+1:=by omega
 have l2:w.heap.size < w.heap.size+1+1:=by omega
 have cM:=enters (P:=Tryz.prog) Tryz.func116 (by kernel_rfl) rfl;obtain ⟨W,hW⟩:∃ W,W=(w.alloc (.cells #[.int .i64 c.av,.int .i64 c.version,.slice As c.aj.ae.length ax,.slice At c.aj.tables.length aD,.slice An c.ar.names.length aH,.slice Am c.ar.members.length aL,.slice Ag c.ah.length aP] 32)).alloc (.cells #[.int .i64 x.kind,.string x.aK,.string x.af,.string x.table,.string x.name,.string x.role,.slice A6 n6 c6,.string x.rule.name,.int .i64 x.rule.kind,.slice A9 n9 c9,.int .i64 x.rule.low,.int .i64 x.rule.high,.string x.rule.af,.string x.rule.table,.string x.rule.key,.int .i64 x.right,.bool x.opt] 45):=⟨_,rfl⟩
 have aW:ag w W:=by rw [hW];exact ((ag.refl w).alloc _).alloc _
 have r0:ai W (w.heap.size) [.int .i64 c.av,.int .i64 c.version,.slice As c.aj.ae.length ax,.slice At c.aj.tables.length aD,.slice An c.ar.names.length aH,.slice Am c.ar.members.length aL,.slice Ag c.ah.length aP]:=by rw [hW];exact ai.up (aR (ag.refl _) (by simp))
 have r1:ai W (w.heap.size+1) [.int .i64 x.kind,.string x.aK,.string x.af,.string x.table,.string x.name,.string x.role,.slice A6 n6 c6,.string x.rule.name,.int .i64 x.rule.kind,.slice A9 n9 c9,.int .i64 x.rule.low,.int .i64 x.rule.high,.string x.rule.af,.string x.rule.table,.string x.rule.key,.int .i64 x.right,.bool x.opt]:=by rw [hW];exact aR (ag.refl _) (by simp)
 obtain ⟨b1,hb1⟩:∃ b,Aw c.ar x.aK cI=b:=⟨_,rfl⟩;obtain ⟨k,hk⟩:∃ k,wJ x.kind=k:=⟨_,rfl⟩;have C1:=gH (show Calls Tryz.prog 114 #[.agg #[.slice An c.ar.names.length aH,.slice Am c.ar.members.length aL],.string x.aK,.string cI] W fun e w''=>e=.returned (.bool b1)∧ag W w'' from hb1▸is8 c.ar An aH Am aL x.aK cI W (aU aW H.kw) (df aW H.mem) s1);have C2:=gH (show ∀ V,Calls Tryz.prog 115 #[.int .i64 x.kind] V fun e w'=>e=.returned (.int .i64 k)∧V=w' from fun V=>hk▸X3 x.kind V);have C3:=gH (show ∀ V,ag W V→∀ nm,Calls Tryz.prog 114 #[.agg #[.slice An c.ar.names.length aH,.slice Am c.ar.members.length aL],.string x.aK,.string nm] V fun e w''=>e=.returned (.bool (Aw c.ar x.aK nm))∧ag V w'' from fun V a nm=>is8 c.ar An aH Am aL x.aK nm V (aU (aW.trans a) H.kw) (df (aW.trans a) H.mem) s1);have C4:=gH (show ∀ V,ag W V→Calls Tryz.prog 117 #[.agg #[.int .i64 c.av,.int .i64 c.version,.slice As c.aj.ae.length ax,.slice At c.aj.tables.length aD,.slice An c.ar.names.length aH,.slice Am c.ar.members.length aL,.slice Ag c.ah.length aP],.string x.aK,.string x.af,.string x.table] V fun e w''=>e=.returned (.bool (mG c x.aK x.af x.table))∧ag V w'' from fun V a=>Tc c As ax At aD An aH Am aL Ag aP x.aK x.af x.table s1 V (H.aA (aW.trans a)))
 have CI:=gH (show ∀ w',ag W w'→Calls Tryz.prog 110 #[.slice As c.aj.ae.length ax,.func (.func 116) #[] #[.pointer (some ⟨w.heap.size+1,0,none⟩)]] w' fun e w''=>e=.returned (.int .i64 (bY c.aj.ae x.af))∧ag w' w'' from
  fun w' a=>vx As ax c.aj.ae 116 #[.pointer (some ⟨w.heap.size+1,0,none⟩)] (fun s=>aS s.name x.af) w' (bQ (aW.trans a) H.fS) cM (fun w'' b j hj=>by
   have p1:=r1.aA (a.trans b)
   exact Lp _ _ x.af _ w'' p1.1 (p1.cell (j:=2) rfl)))
 have HS:=gH (show k=1→∃ q:Nat,∃ gs os:Nat,∃ ov,bY c.aj.ae x.af=q∧q < c.aj.ae.length∧As=some ⟨gs,os,none⟩∧gs < w.heap.size∧tU c.aj x.af=ov∧∀ V,ag W V→V.cell? ⟨gs,os+q*2+1,none⟩=some (.string ov) from fun h=>by
  obtain ⟨q,hq⟩:=Int.eq_ofNat_of_zero_le (hsc (hk.trans h));have Ke : -1≤bY c.aj.ae x.af∧bY c.aj.ae x.af < c.aj.ae.length:=aT _ _
  have pC:q < c.aj.ae.length:=by omega
  obtain ⟨bs,off,hA,WO,t0,t1,_⟩:=lh H.fS pC
  exact ⟨q,bs,off,_,hq,pC,hA,WO,qX hq pC,fun V a=>(aW.trans a).cell_kept t1⟩)
 have HV:=gH (And.intro (EL c x) (And.intro (EM c x) (And.intro (yy c x) (Bq c x))));rw [hk,hb1] at HV;have cu:=gH aW;have kJ:=gH r0;have ze:=gH r1;have z0:=r0.1;have z1:=r1.1;have x2:=r0.cell (j:=2) rfl;have x4:=r0.cell (j:=4) rfl;have x5:=r0.cell (j:=5) rfl;have y0:=r1.cell (j:=0) rfl;have y1:=r1.cell (j:=1) rfl;clear H s1 hsc cM aW r0 r1 hb1 hk
 go_in
 go_wp2_with fail;rw [← hW];clear hW;refine C1.out.mono ?_;rintro e w1 ⟨rfl,a1⟩;have A1:=gH a1;have p0:=kJ.out.aA a1;have p1:=ze.out.aA a1;clear z0 z1 x2 x4 x5 y0 y1 a1;have z0:=p0.1;have z1:=p1.1;obtain ⟨x0,x1,x2,x3,x4,x5,x6⟩:=vr p0;obtain ⟨y0,y1,y2,y3⟩:=DM p1;clear p0 p1;go_wp2_with fail;refine (C2.out _).mono ?_;rintro e w2 ⟨rfl,rfl⟩;by_cases k1:k=1
 case pos =>
  subst k1;obtain ⟨q,gs,os,ov,hq,pC,rfl,hgs,hov,hcc⟩:=HS.out rfl;rw [hq] at CI;rw [hov] at HV;have X4:=gH (HV.out.1 rfl);obtain ⟨b2,hb2⟩:∃ b,Aw c.ar x.aK ov=b:=⟨_,rfl⟩;have C5:=gH (show ∀ V,ag W V→Calls Tryz.prog 114 #[.agg #[.slice An c.ar.names.length aH,.slice Am c.ar.members.length aL],.string x.aK,.string ov] V fun e w''=>e=.returned (.bool b2)∧ag V w'' from fun V a=>hb2▸C3.out V a ov);rw [hb2] at X4;have HHQ:=gH (And.intro hgs hcc);clear HV hb2 hq hov hcc C3;go_wp2_with fail;refine (CI.out _ A1.out).mono ?_;rintro e w3 ⟨rfl,a3⟩;have A3:=gH (A1.out.trans a3);clear x0 x1 x2 x3 x4 x5 x6 y0 y1 y2 y3 z0 z1;have p0:=kJ.out.aA (A1.out.trans a3);have p1:=ze.out.aA (A1.out.trans a3);have x2:=p0.cell (j:=2) rfl;have x4:=p0.cell (j:=4) rfl;have x5:=p0.cell (j:=5) rfl;have y1:=p1.cell (j:=1) rfl;have z0:=p0.1;have z1:=p1.1;have zg:=Nat.lt_of_lt_of_le HHQ.out.1 (cu.out.trans (A1.out.trans a3)).size;have u1:=HHQ.out.2 _ (A1.out.trans a3);clear p0 p1 a3
  cases b1
  ·have KS:=gH (show ∀ V,ag w3 V→(V.cell? ⟨w.heap.size,2,none⟩=some (.slice (some ⟨gs,os,none⟩) c.aj.ae.length ax)∧V.cell? ⟨w.heap.size,4,none⟩=some (.slice An c.ar.names.length aH)∧V.cell? ⟨w.heap.size,5,none⟩=some (.slice Am c.ar.members.length aL)∧V.cell? ⟨w.heap.size+1,1,none⟩=some (.string x.aK)∧V.cell? ⟨gs,os+q*2+1,none⟩=some (.string ov)) from fun V a=>⟨a.cell_kept x2,a.cell_kept x4,a.cell_kept x5,a.cell_kept y1,a.cell_kept u1⟩)
   clear x2 x4 x5 y1 u1;go_wp2_with fail
   go_region_held3 (fun V=>V.cell? ⟨w.heap.size,2,none⟩=some (.slice (some ⟨gs,os,none⟩) c.aj.ae.length ax)∧V.cell? ⟨w.heap.size,4,none⟩=some (.slice An c.ar.names.length aH)∧V.cell? ⟨w.heap.size,5,none⟩=some (.slice Am c.ar.members.length aL)∧V.cell? ⟨w.heap.size+1,1,none⟩=some (.string x.aK)∧V.cell? ⟨gs,os+q*2+1,none⟩=some (.string ov))
    ((
     refine KS.out _ ?_;first
     | with_reducible exact (ag.refl _).drew
     | with_reducible exact a5))
    ((go_at_call 114;refine (C5.out _ (A3.out.trans (ag.refl _).drew)).mono ?_;rintro e w4 ⟨rfl,a4⟩;have a5:ag w3 w4:=(ag.refl _).drew.trans a4))
   go_wp2;go_ret;exact ⟨by rw [X4.out];rfl,(cu.out.trans A3.out).trans a5⟩
  ·go_wp2_with fail
   go_region
   go_wp2;go_ret;exact ⟨by rw [X4.out];rfl,(cu.out.trans A3.out).drew⟩
 by_cases k2:k=2
 case pos =>
  subst k2;have HV2:=gH (HV.out.2.1 rfl);clear HV;go_wp2_with fail;refine (C4.out _ A1.out).mono ?_;rintro e w3 ⟨rfl,a3⟩;have A3:=gH ((cu.out.trans A1.out).trans a3);clear a3;go_wp2;go_ret;exact ⟨by rw [HV2.out];rfl,A3.out⟩
 by_cases k3:k=3
 case pos =>
  subst k3;have HV3:=gH (HV.out.2.2.1 rfl);clear HV;go_wp2;go_ret;exact ⟨by rw [HV3.out];rfl,cu.out.trans A1.out⟩
 go_wp2;go_ret;exact ⟨by rw [HV.out.2.2.2 k1 k2 k3];rfl,cu.out.trans A1.out⟩
theorem pc {c:bS} {x:gc} {k:Int} (h:dA c x=k) (hk:k≠0):dB c x=(qY,k):=by unfold dB;rw [if_pos (by rw [h];exact hk),h]
theorem X5 {c:bS} {x:gc} (h:cV c=false):dA c x=1:=by unfold dA;rw [if_pos h]
theorem X7 {c:bS} {x:gc} (h1:cV c=true) (h:fE x=false):dA c x=90:=by unfold dA;rw [if_neg (by rw [h1];decide),if_pos h]
theorem X8 {c:bS} {x:gc} (h1:cV c=true) (h2:fE x=true) (h:eu c.ar.names x.aK=false):dA c x=71:=by unfold dA;rw [if_neg (by rw [h1];decide),if_neg (by rw [h2];decide),if_pos h]
theorem X9 {c:bS} {x:gc} (h1:cV c=true) (h2:fE x=true) (h3:eu c.ar.names x.aK=true) (h:emp x.af=false∧x.kind≠1∧bY c.aj.ae x.af < 0):dA c x=61:=by unfold dA;rw [if_neg (by rw [h1];decide),if_neg (by rw [h2];decide),if_neg (by rw [h3];decide),if_pos h]
theorem Ya {c:bS} {x:gc} (h1:cV c=true) (h2:fE x=true) (h3:eu c.ar.names x.aK=true) (h4:¬ (emp x.af=false∧x.kind≠1∧bY c.aj.ae x.af < 0)) (h:emp x.table=false∧x.kind≠3∧bt c.aj.tables x.af x.table < 0):dA c x=61:=by unfold dA;rw [if_neg (by rw [h1];decide),if_neg (by rw [h2];decide),if_neg (by rw [h3];decide),if_neg h4,if_pos h]
theorem Uc {c:bS} {x:gc} (h1:cV c=true) (h2:fE x=true) (h3:eu c.ar.names x.aK=true) (h4:¬ (emp x.af=false∧x.kind≠1∧bY c.aj.ae x.af < 0)) (h5:¬ (emp x.table=false∧x.kind≠3∧bt c.aj.tables x.af x.table < 0)):dA c x=if fF c x=false then 91 else 0:=by unfold dA;rw [if_neg (by rw [h1];decide),if_neg (by rw [h2];decide),if_neg (by rw [h3];decide),if_neg h4,if_neg h5]
theorem Lr {c:bS} {x:gc} {k:Int} (h:dA c x=0) (h2:(cS c x).2=k) (hk:k≠0):dB c x=(qY,k):=by unfold dB;rw [if_neg (by rw [h];decide),if_pos (by rw [h2];exact hk),h2]
theorem Il {c:bS} {x:gc} (h:dA c x=0) (h2:(cS c x).2=0) (h3:1000000000≤c.version∨(dp x=true∧1000≤c.av)):dB c x=(qY,92):=by unfold dB;rw [if_neg (by rw [h];decide),if_neg (by rw [h2];decide),if_pos h3]
theorem Ud {c:bS} {x:gc} (h:dA c x=0) (h2:(cS c x).2=0) (h3:¬ (1000000000≤c.version∨(dp x=true∧1000≤c.av))):dB c x=(kN (cS c x).1 (dp x),0):=by unfold dB;rw [if_neg (by rw [h];decide),if_neg (by rw [h2];decide),if_neg h3]
theorem Ls (l:List fK) (s:ByteArray):l.any (fun z=>aS z.name s)=decide (0≤bY l s):=by
 have h:=gU (fun z:fK=>aS z.name s) l;have e:bY l s=bu (fun z:fK=>aS z.name s) l:=rfl;rw [e,← h]
theorem Im {s:ByteArray} (h:bG s=true):emp s=false:=by
 cases he:emp s
 ·rfl
 ·unfold emp at he
  have h1:s.toList=[]:=by simpa using he
  have h2:s.size=0:=(eL s).1 h1
  have h3:s=⟨#[]⟩:=by
   cases s with
   | mk a=>simp [ByteArray.size] at h2;subst h2;rfl
  subst h3;exact absurd h (by decide +kernel)
theorem uO {x:gc} (h:fE x=true):ua x.af (uS x.kind)=true∧(x.kind=5→0 < x.au.length):=by
 unfold fE at h;rw [CZ] at h;simp only [Bool.and_eq_true] at h;refine ⟨h.1.1.1.1.2,fun h5=>?_⟩;have h6:=h.2;rw [h5] at h6;unfold xB at h6;rw [if_neg (by decide),if_pos (by decide)] at h6;simp only [Bool.and_eq_true,beq_iff_eq] at h6;omega
theorem Lu {x:gc} (h:fE x=true) (hk:x.kind=2∨x.kind=3):emp x.af=false:=by
 have h1:=(uO h).1;unfold ua at h1;rw [if_pos (by unfold uS;rcases hk with e | e<;>rw [e]<;>rfl)] at h1;exact Im h1
theorem Io (c:bS) (As:Option Addr) (ax:Nat) (At:Option Addr) (aD:Nat) (An:Option Addr) (aH:Nat) (Am:Option Addr) (aL:Nat) (Ag:Option Addr) (aP:Nat) (x:gc) (A6:Option Addr) (c6:Nat) (A9:Option Addr) (c9:Nat) (w:World) (H:gl w c As ax At aD An aH Am aL Ag aP) (XA:mM w x A6 c6 A9 c9)
  (VZ:∀ (hs ht hn hm hg:Hd) (L:List bA) (B b:Nat) (w:World),b < B→B≤w.heap.size→er w B c hs ht hn hm hg L→Ed c→ai w b (kP c hs ht hn hm hg)→mM w x A6 c6 A9 c9→bI c.ar=true→(x.kind=5→0 < x.au.length)→(1≤x.kind∧x.kind≤15)→c.ah.length≤1000000 →
   Calls Tryz.prog 75 #[.pointer (some ⟨b,0,none⟩),.agg #[.int .i64 x.kind,.string x.aK,.string x.af,.string x.table,.string x.name,.string x.role,.slice A6 x.au.length c6,.string x.rule.name,.int .i64 x.rule.kind,.slice A9 x.rule.au.length c9,.int .i64 x.rule.low,.int .i64 x.rule.high,.string x.rule.af,.string x.rule.table,.string x.rule.key,.int .i64 x.right,.bool x.opt]] w (rT w B b (cS c x))) :
  Calls Tryz.prog 49 #[.agg #[.int .i64 c.av,.int .i64 c.version,.slice As c.aj.ae.length ax,.slice At c.aj.tables.length aD,.slice An c.ar.names.length aH,.slice Am c.ar.members.length aL,.slice Ag c.ah.length aP],.agg #[.int .i64 x.kind,.string x.aK,.string x.af,.string x.table,.string x.name,.string x.role,.slice A6 x.au.length c6,.string x.rule.name,.int .i64 x.rule.kind,.slice A9 x.rule.au.length c9,.int .i64 x.rule.low,.int .i64 x.rule.high,.string x.rule.af,.string x.rule.table,.string x.rule.key,.int .i64 x.right,.bool x.opt]] w (ED w (dB c x)):=by
 have l1:w.heap.size < w.heap.size+1:=by omega
 have l2:w.heap.size < w.heap.size+1+1:=by omega
 have l3:w.heap.size < w.heap.size+1+1+1:=by omega
 have Ng:∀ (fn:Fn) (first cap:Array Value) (w:World),(Instr.makeFunc fn first cap).run Tryz.prog w=.ok (.func fn first cap) w:=fun _ _ _ _=>rfl
 have cM:=enters (P:=Tryz.prog) Tryz.func71 (by kernel_rfl) rfl;obtain ⟨W,hW⟩:∃ W,W=(((w.alloc (.cells #[.int .i64 c.av,.int .i64 c.version,.slice As c.aj.ae.length ax,.slice At c.aj.tables.length aD,.slice An c.ar.names.length aH,.slice Am c.ar.members.length aL,.slice Ag c.ah.length aP] 32)).alloc (.cells #[.int .i64 x.kind,.string x.aK,.string x.af,.string x.table,.string x.name,.string x.role,.slice A6 x.au.length c6,.string x.rule.name,.int .i64 x.rule.kind,.slice A9 x.rule.au.length c9,.int .i64 x.rule.low,.int .i64 x.rule.high,.string x.rule.af,.string x.rule.table,.string x.rule.key,.int .i64 x.right,.bool x.opt] 45)).alloc (.cells #[.int .i64 0,.int .i64 0,.slice none 0 0,.slice none 0 0,.slice none 0 0,.slice none 0 0,.slice none 0 0] 32)).alloc (.cells #[.int .i64 0] 46):=⟨_,rfl⟩
 have aW:ag w W:=by rw [hW];exact ((((ag.refl w).alloc _).alloc _).alloc _).alloc _
 have r0:ai W (w.heap.size) [.int .i64 c.av,.int .i64 c.version,.slice As c.aj.ae.length ax,.slice At c.aj.tables.length aD,.slice An c.ar.names.length aH,.slice Am c.ar.members.length aL,.slice Ag c.ah.length aP]:=by rw [hW];exact ai.up (ai.up (ai.up (aR (ag.refl _) (by simp))))
 have r1:ai W (w.heap.size+1) [.int .i64 x.kind,.string x.aK,.string x.af,.string x.table,.string x.name,.string x.role,.slice A6 x.au.length c6,.string x.rule.name,.int .i64 x.rule.kind,.slice A9 x.rule.au.length c9,.int .i64 x.rule.low,.int .i64 x.rule.high,.string x.rule.af,.string x.rule.table,.string x.rule.key,.int .i64 x.right,.bool x.opt]:=by rw [hW];exact ai.up (ai.up (aR (ag.refl _) (by simp)))
 have r2:ai W (w.heap.size+1+1) [.int .i64 0,.int .i64 0,.slice none 0 0,.slice none 0 0,.slice none 0 0,.slice none 0 0,.slice none 0 0]:=by rw [hW];exact ai.up (aR (ag.refl _) (by simp))
 have r3:ai W (w.heap.size+1+1+1) [.int .i64 0]:=by rw [hW];exact aR (ag.refl _) (by simp)
 have zW:W.heap.size=w.heap.size+4:=by rw [hW];simp
 have HX:=gH XA;have HH:=gH H;have yZ:=gH H.sm;have cu:=gH aW;have HR:=gH (And.intro r0 (And.intro r1 (And.intro r2 r3)));have Ht:=gH zW
 have PE:=gH (show ∀ (k:Int) (V:World) (tmps:Array Value),ag W V→tmps.getD 4 undef=.pointer (some ⟨w.heap.size+1+1,0,none⟩)→tmps.getD 5 undef=.pointer (some ⟨w.heap.size+1+1+1,0,none⟩)→dB c x=(qY,k)→Leaves Tryz.prog Tryz.f49 tmps (ED w (dB c x)) [{ target:=Target.fn (Fn.func 65) #[.pointer (some ⟨w.heap.size+1+1,0,none⟩),.pointer (some ⟨w.heap.size+1+1+1,0,none⟩)],args:=#[] }] (.panicking [{ v:=.iface 103 (.agg #[.int .i64 k]),recovered:=false }]) V from
  fun k V tmps a h4 h5 he=>uB h4 h5 (r2.aA a) rfl (r3.aA a) (by omega) (fun w' kb=>by rw [he];exact Dg (kb.aJ (aW.trans a) (fun g hg e=>by omega))))
 obtain ⟨e1,Re⟩:∃ e1,(if cV c=true then (0:Int) else 1)=e1:=⟨_,rfl⟩
 have V0:=gH (show (e1=0→cV c=true)∧(e1≠0→dA c x=e1) from by
  cases hq:cV c
  ·rw [hq,if_neg (by decide)] at Re
   subst Re;exact ⟨fun h=>absurd h (by decide),fun _=>X5 hq⟩
  ·rw [hq,if_pos rfl] at Re
   subst Re
   exact ⟨fun _=>rfl,fun h=>absurd rfl h⟩)
 have C1:=gH (Re▸CM c As ax At aD An aH Am aL Ag aP W (H.aA aW));obtain ⟨m2,Q3⟩:∃ m,fE x=m:=⟨_,rfl⟩;have C2:=gH (show ∀ V,Calls Tryz.prog 68 #[.agg #[.int .i64 x.kind,.string x.aK,.string x.af,.string x.table,.string x.name,.string x.role,.slice A6 x.au.length c6,.string x.rule.name,.int .i64 x.rule.kind,.slice A9 x.rule.au.length c9,.int .i64 x.rule.low,.int .i64 x.rule.high,.string x.rule.af,.string x.rule.table,.string x.rule.key,.int .i64 x.right,.bool x.opt]] V fun e w'=>e=.returned (.bool m2)∧ag V w' from fun V=>Q3▸vG x.kind x.aK x.af x.table x.name x.role A6 x.au.length c6 x.rule.name x.rule.kind A9 x.rule.au.length c9 x.rule.low x.rule.high x.rule.af x.rule.table x.rule.key x.right x.opt V XA.s1.max XA.s2.max XA.s3.max XA.s4.max XA.s5.max XA.t1 XA.t2 XA.t3 XA.t4);obtain ⟨i3,JW⟩:∃ b,eu c.ar.names x.aK=b:=⟨_,rfl⟩;have C3:=gH (show ∀ V,ag W V→Calls Tryz.prog 69 #[.slice An c.ar.names.length aH,.string x.aK] V fun e w''=>e=.returned (.bool i3)∧V=w'' from fun V a=>JW▸jc An aH c.ar.names x.aK V (aU (aW.trans a) H.kw));obtain ⟨i4,Ue⟩:∃ b,decide (0≤bY c.aj.ae x.af)=b:=⟨_,rfl⟩
 have C4:=gH (show ∀ V,ag W V→Calls Tryz.prog 70 #[.slice As c.aj.ae.length ax,.func (.func 71) #[] #[.pointer (some ⟨w.heap.size+1,0,none⟩)]] V fun e w''=>e=.returned (.bool i4)∧ag V w'' from fun V a=>Ue▸Ls c.aj.ae x.af▸Lq As ax c.aj.ae _ _ (fun z=>aS z.name x.af) V (bQ (aW.trans a) H.fS) cM (fun w' a2 j hj=>by
  have p:=r1.aA (a.trans a2)
  exact Ln _ _ x.af _ w' p.1 (p.cell (j:=2) rfl)))
 obtain ⟨⟨f0,f5⟩,Rf⟩:∃ F,pN c.aj x.af x.table=F:=⟨_,rfl⟩;have C5:=gH (show ∀ V,ag W V→Calls Tryz.prog 72 #[.agg #[.slice As c.aj.ae.length ax,.slice At c.aj.tables.length aD],.string x.af,.string x.table] V (Ip V (f0,f5)) from fun V a=>Rf▸Lv c.aj As ax At aD x.af x.table V (bQ (aW.trans a) H.fS) (bC (aW.trans a) H.tab))
 have Yb:=gH (show cV c=true→(f5=0→0≤bt c.aj.tables x.af x.table)∧(f5≠0→f5=61∧bt c.aj.tables x.af x.table < 0) from fun hq=>by
  have jL:=(bP.1 (dX.1 (gf.1 hq).2.2).1).2.1.1;by_cases ht:bt c.aj.tables x.af x.table < 0
  ·rw [rX jL ht] at Rf
   have e:(61:Int)=f5:=congrArg Prod.snd Rf;subst e;exact ⟨fun h=>absurd h (by decide),fun _=>⟨rfl,ht⟩⟩
  ·obtain ⟨n,hn⟩:∃ n:Nat,bt c.aj.tables x.af x.table=n:=⟨_,(Int.toNat_of_nonneg (Int.not_lt.1 ht)).symm⟩
   have hr:=(aT (fun t:bW=>aS t.af x.af&&aS t.name x.table) c.aj.tables).2
   have hl:n < c.aj.tables.length:=by unfold bt at hn;omega
   rw [rY jL hn hl] at Rf;have e:(0:Int)=f5:=congrArg Prod.snd Rf;subst e
   exact ⟨fun _=>Int.not_lt.1 ht,fun h=>absurd rfl h⟩)
 obtain ⟨a6,Yc⟩:∃ b,fF c x=b:=⟨_,rfl⟩;have C6:=gH (show ∀ V,ag W V→(wJ x.kind=1→0≤bY c.aj.ae x.af)→Calls Tryz.prog 73 #[.agg #[.int .i64 c.av,.int .i64 c.version,.slice As c.aj.ae.length ax,.slice At c.aj.tables.length aD,.slice An c.ar.names.length aH,.slice Am c.ar.members.length aL,.slice Ag c.ah.length aP],.agg #[.int .i64 x.kind,.string x.aK,.string x.af,.string x.table,.string x.name,.string x.role,.slice A6 x.au.length c6,.string x.rule.name,.int .i64 x.rule.kind,.slice A9 x.rule.au.length c9,.int .i64 x.rule.low,.int .i64 x.rule.high,.string x.rule.af,.string x.rule.table,.string x.rule.key,.int .i64 x.right,.bool x.opt]] V fun e w'=>e=.returned (.bool a6)∧ag V w' from fun V a h=>Yc▸EN c As ax At aD An aH Am aL Ag aP x A6 x.au.length c6 A9 x.rule.au.length c9 V (H.aA (aW.trans a)) XA.s1 h);obtain ⟨fe,PF⟩:∃ b,dp x=b:=⟨_,rfl⟩;have C7:=gH (show ∀ V,Calls Tryz.prog 76 #[.agg #[.int .i64 x.kind,.string x.aK,.string x.af,.string x.table,.string x.name,.string x.role,.slice A6 x.au.length c6,.string x.rule.name,.int .i64 x.rule.kind,.slice A9 x.rule.au.length c9,.int .i64 x.rule.low,.int .i64 x.rule.high,.string x.rule.af,.string x.rule.table,.string x.rule.key,.int .i64 x.right,.bool x.opt]] V fun e w'=>e=.returned (.bool fe)∧ag V w' from fun V=>PF▸rj x.kind x.aK x.af x.table x.name x.role A6 x.au.length c6 x.rule.name x.rule.kind A9 x.rule.au.length c9 x.rule.low x.rule.high x.rule.af x.rule.table x.rule.key x.right x.opt V)
 have HM:=gH (And.intro Q3 (And.intro JW (And.intro Ue (And.intro Yc PF))));obtain ⟨x0,x1,x2,x3,x4,x5,x6⟩:=vr r0;obtain ⟨y0,y1,y2,y3,y4,y5,y6,y7,y8,y9,pG,pH,pI,pJ,pK,pL,pM⟩:=j0 r1;have z0:=r0.1;have z1:=r1.1;clear H XA r0 r1 r2 r3 aW zW Re Q3 JW Ue Rf Yc PF cM
 go_enter_defers Tryz.func49,Tryz.ntmps49
 go_wp2_with fail;rw [← hW];clear hW;refine C1.out.mono ?_;rintro e w1 ⟨rfl,a1⟩;have dc:=gH a1;clear a1;clear x0 x1 x2 x3 x4 x5 x6 y0 y1 y2 y3 y4 y5 y6 y7 y8 y9 pG pH pI pJ pK pL pM z0 z1;have p0:=HR.out.1.aA dc.out;have p1:=HR.out.2.1.aA dc.out;have z0:=p0.1;have z1:=p1.1;obtain ⟨x0,x1,x2,x3,x4,x5,x6⟩:=vr p0;obtain ⟨y0,y1,y2,y3,y4,y5,y6,y7,y8,y9,pG,pH,pI,pJ,pK,pL,pM⟩:=j0 p1;clear p0 p1;by_cases h1:e1≠0
 ·go_wp2_with fail
  refine (vQ e1 h1 _).mono ?_;rintro e w9 ⟨he,rfl⟩;unfold zj at he;subst he;exact PE.out _ _ _ dc.out rfl rfl (pc (V0.out.2 h1) h1)
 obtain rfl:e1=0:=by omega
 clear h1;go_wp2_with fail;refine (vP _).mono ?_;rintro e w9 ⟨rfl,rfl⟩;have Iq:=gH (show cV c=true from by first | exact V0.out.1 rfl | exact V0.out.1 trivial);clear V0 C1;go_wp2_with fail;refine (C2.out _).mono ?_;rintro e w2 ⟨rfl,a2⟩;have i5:=gH (dc.out.trans a2);clear a2;clear x0 x1 x2 x3 x4 x5 x6 y0 y1 y2 y3 y4 y5 y6 y7 y8 y9 pG pH pI pJ pK pL pM z0 z1;have p0:=HR.out.1.aA i5.out;have p1:=HR.out.2.1.aA i5.out;have z0:=p0.1;have z1:=p1.1;obtain ⟨x0,x1,x2,x3,x4,x5,x6⟩:=vr p0;obtain ⟨y0,y1,y2,y3,y4,y5,y6,y7,y8,y9,pG,pH,pI,pJ,pK,pL,pM⟩:=j0 p1;clear p0 p1;clear dc
 cases m2
 ·go_wp2_with fail
  refine (uA 90 _).mono ?_;rintro e w9 ⟨he,rfl⟩;unfold zj at he;subst he;exact PE.out _ _ _ i5.out rfl rfl (pc (X7 Iq.out HM.out.1) (by decide))
 go_wp2_with fail;refine (uy 90 _).mono ?_;rintro e w9 ⟨rfl,rfl⟩;go_wp2_with fail;refine (C3.out _ i5.out).mono ?_;rintro e w3 ⟨rfl,rfl⟩
 cases i3
 ·go_wp2_with fail
  refine (uA 71 _).mono ?_;rintro e w9 ⟨he,rfl⟩;unfold zj at he;subst he;exact PE.out _ _ _ i5.out rfl rfl (pc (X8 Iq.out HM.out.1 HM.out.2.1) (by decide))
 go_wp2_with fail;refine (uy 71 _).mono ?_;rintro e w9 ⟨rfl,rfl⟩;obtain ⟨es,hes⟩:∃ b,emp x.af=b:=⟨_,rfl⟩;obtain ⟨k1,mS⟩:∃ b,(x.kind != 1)=b:=⟨_,rfl⟩;obtain ⟨et,het⟩:∃ b,emp x.table=b:=⟨_,rfl⟩;obtain ⟨k3,hk3⟩:∃ b,(x.kind != 3)=b:=⟨_,rfl⟩;have Dk:=gH (And.intro hes (And.intro mS (And.intro het hk3)));clear hes mS het hk3
 go_upto_region 5 with fail
 go_cut [29] from 22 (fun s wx=>s=.bool (!es&&k1)∧wx=w2)
 case first =>
  have hq1:=Dk.out.2.1
  cases es
  all_goals
   have NE:(x.af.toList=[])=(x.af.toList.isEmpty=true):=by simp
   rw [show x.af.toList.isEmpty=_ from Dk.out.1] at NE;simp only [Bool.false_eq_true,eq_iff_iff,iff_true,iff_false] at NE
   cases k1
   all_goals
    go_wp2
    go_meet
    case rel=>first | exact ⟨rfl,rfl⟩ | exact ⟨by rw [show x.af.toList.isEmpty=_ from Dk.out.1];rfl,rfl⟩
 case rest =>
 obtain ⟨rfl,rfl⟩:=hcut;obtain ⟨t5,Yd⟩:∃ b,(!es&&k1)=b:=⟨_,rfl⟩;rw [Yd];have HT5:=gH Yd;clear Yd
 go_upto_if 29 with fail
 go_cut [] from 22 (fun wx=>ag W wx∧(t5=true→i4=true))
 case first =>
  cases t5
  ·go_wp2
   go_meet
   case rel=>exact ⟨i5.out,fun h=>absurd h (by decide)⟩
  ·go_wp2_with fail
   refine (C4.out _ i5.out).mono ?_;rintro e w4 ⟨rfl,a4⟩;have zk:=gH (i5.out.trans a4);clear a4
   cases i4
   ·go_wp2_with fail
    refine (uA 61 _).mono ?_;rintro e w9 ⟨he,rfl⟩;unfold zj at he;subst he
    exact PE.out _ _ _ zk.out rfl rfl (pc (X9 Iq.out HM.out.1 HM.out.2.1 (by
     have e5:=HT5.out;simp only [Bool.and_eq_true,Bool.not_eq_true'] at e5;refine ⟨by rw [Dk.out.1];exact e5.1,?_,?_⟩
     ·have:=Dk.out.2.1;rw [e5.2] at this;simpa using this
     ·have:=HM.out.2.2.1;simp at this;omega)) (by decide))
   ·go_wp2_with fail
    refine (uy 61 _).mono ?_;rintro e w9 ⟨rfl,rfl⟩;go_wp2
    go_meet
    case rel=>exact ⟨zk.out,fun _=>(by first | rfl | trivial)⟩
 case rest =>
 obtain ⟨a5,Uf⟩:=hcut;have PG:=gH a5
 have Q7:=gH (show ¬ (emp x.af=false∧x.kind≠1∧bY c.aj.ae x.af < 0) from fun ⟨q1,q2,q3⟩=>by
  have q4:es=false:=by rw [← Dk.out.1];exact q1
  have q5:k1=true:=by rw [← Dk.out.2.1];simpa using q2
  have q6:t5=true:=by rw [← HT5.out,q4,q5];rfl
  have q7:=HM.out.2.2.1.trans (Uf q6);simp at q7
  omega)
 clear a5 Uf;clear x0 x1 x2 x3 x4 x5 x6 y0 y1 y2 y3 y4 y5 y6 y7 y8 y9 pG pH pI pJ pK pL pM z0 z1;have p0:=HR.out.1.aA PG.out;have p1:=HR.out.2.1.aA PG.out;have z0:=p0.1;have z1:=p1.1;obtain ⟨x0,x1,x2,x3,x4,x5,x6⟩:=vr p0;obtain ⟨y0,y1,y2,y3,y4,y5,y6,y7,y8,y9,pG,pH,pI,pJ,pK,pL,pM⟩:=j0 p1;clear p0 p1;clear i5
 go_upto_region 7 with fail
 go_cut [43] from 22 (fun s wx=>s=.bool (!et&&k3)∧ag W wx)
 case first =>
  have hq3:=Dk.out.2.2.2
  cases et
  all_goals
   have NE:(x.table.toList=[])=(x.table.toList.isEmpty=true):=by simp
   rw [show x.table.toList.isEmpty=_ from Dk.out.2.2.1] at NE;simp only [Bool.false_eq_true,eq_iff_iff,iff_true,iff_false] at NE
   cases k3
   all_goals
    go_wp2
    go_meet
    case rel=>first | exact ⟨rfl,PG.out⟩ | exact ⟨by rw [show x.table.toList.isEmpty=_ from Dk.out.2.2.1];rfl,PG.out⟩
 case rest =>
 obtain ⟨rfl,a7⟩:=hcut;have Rg:=gH a7;clear a7;clear x0 x1 x2 x3 x4 x5 x6 y0 y1 y2 y3 y4 y5 y6 y7 y8 y9 pG pH pI pJ pK pL pM z0 z1;have p0:=HR.out.1.aA Rg.out;have p1:=HR.out.2.1.aA Rg.out;have z0:=p0.1;have z1:=p1.1;obtain ⟨x0,x1,x2,x3,x4,x5,x6⟩:=vr p0;obtain ⟨y0,y1,y2,y3,y4,y5,y6,y7,y8,y9,pG,pH,pI,pJ,pK,pL,pM⟩:=j0 p1;clear p0 p1;clear PG;obtain ⟨t7,Ye⟩:∃ b,(!et&&k3)=b:=⟨_,rfl⟩;rw [Ye];have HT7:=gH Ye;clear Ye
 go_upto_if 43 with fail
 go_cut [] from 22 (fun wx=>ag W wx∧(t7=true→f5=0))
 case first =>
  cases t7
  ·go_wp2
   go_meet
   case rel=>exact ⟨Rg.out,fun h=>absurd h (by decide)⟩
  ·go_wp2_with fail
   refine (C5.out _ Rg.out).mono ?_;rintro e w6 ⟨X,hX,rfl,a8,-,-⟩;have HA8:=gH (Rg.out.trans a8);clear a8 hX;by_cases h5:f5=0
   ·subst h5
    go_wp2_with fail;refine (vP _).mono ?_;rintro e w9 ⟨rfl,rfl⟩;go_wp2
    go_meet
    case rel=>exact ⟨HA8.out.alloc _,fun _=>(by first | rfl | trivial)⟩
   ·go_wp2_with fail
    refine (vQ f5 h5 _).mono ?_;rintro e w9 ⟨he,rfl⟩;unfold zj at he;subst he
    exact PE.out _ _ _ (HA8.out.alloc _) rfl rfl (by
     obtain ⟨e6,h6⟩:=(Yb.out Iq.out).2 h5;rw [e6];have e7:=HT7.out;simp only [Bool.and_eq_true,Bool.not_eq_true'] at e7
     exact pc (Ya Iq.out HM.out.1 HM.out.2.1 Q7.out ⟨by rw [Dk.out.2.2.1];exact e7.1,by have:=Dk.out.2.2.2;rw [e7.2] at this;simpa using this,h6⟩) (by decide))
 case rest =>
 obtain ⟨a9,Uf⟩:=hcut;have Ug:=gH a9
 have HS5:=gH (show ¬ (emp x.table=false∧x.kind≠3∧bt c.aj.tables x.af x.table < 0) from fun ⟨q1,q2,q3⟩=>by
  have q4:et=false:=by rw [← Dk.out.2.2.1];exact q1
  have q5:k3=true:=by rw [← Dk.out.2.2.2];simpa using q2
  have q6:t7=true:=by rw [← HT7.out,q4,q5];rfl
  have:=(Yb.out Iq.out).1 (Uf q6)
  omega)
 clear a9 Uf;clear x0 x1 x2 x3 x4 x5 x6 y0 y1 y2 y3 y4 y5 y6 y7 y8 y9 pG pH pI pJ pK pL pM z0 z1;have p0:=HR.out.1.aA Ug.out;have p1:=HR.out.2.1.aA Ug.out;have z0:=p0.1;have z1:=p1.1;obtain ⟨x0,x1,x2,x3,x4,x5,x6⟩:=vr p0;obtain ⟨y0,y1,y2,y3,y4,y5,y6,y7,y8,y9,pG,pH,pI,pJ,pK,pL,pM⟩:=j0 p1;clear p0 p1;clear Rg Yb C5 C4 C3 C2;go_wp2_with fail;refine (C6.out _ Ug.out (fun hb=>by have hk:=vY.1 hb;have he:=Lu HM.out.1 hk;exact Int.not_lt.1 fun h=>Q7.out ⟨he,by omega,h⟩)).mono ?_;rintro e w8 ⟨rfl,Nb⟩;have HA:=gH (Ug.out.trans Nb);clear Nb;clear x0 x1 x2 x3 x4 x5 x6 y0 y1 y2 y3 y4 y5 y6 y7 y8 y9 pG pH pI pJ pK pL pM z0 z1;have p0:=HR.out.1.aA HA.out;have p1:=HR.out.2.1.aA HA.out;have z0:=p0.1;have z1:=p1.1;obtain ⟨x0,x1,x2,x3,x4,x5,x6⟩:=vr p0;obtain ⟨y0,y1,y2,y3,y4,y5,y6,y7,y8,y9,pG,pH,pI,pJ,pK,pL,pM⟩:=j0 p1;clear p0 p1;clear Ug
 cases a6
 ·go_wp2_with fail
  refine (uA 91 _).mono ?_;rintro e w9 ⟨he,rfl⟩;unfold zj at he;subst he;exact PE.out _ _ _ HA.out rfl rfl (pc (by rw [Uc Iq.out HM.out.1 HM.out.2.1 Q7.out HS5.out,HM.out.2.2.2.1];rfl) (by decide))
 go_wp2_with fail;refine (uy 91 _).mono ?_;rintro e w9 ⟨rfl,rfl⟩;have V3:=gH (show dA c x=0 from by rw [Uc Iq.out HM.out.1 HM.out.2.1 Q7.out HS5.out,HM.out.2.2.2.1];rfl);obtain ⟨aai,⟨jL,xG,-,-⟩,-,-⟩:=bP.1 (dX.1 (gf.1 Iq.out).2.2).1;have hrp:=cG.1 xG;have C8:=gH (TT c As ax At aD An aH Am aL Ag aP w8 (HH.out.aA (cu.out.trans HA.out)) jL (by omega) (by omega) (by omega));have PD:=gH xG
 have XR:c.ah.length≤1000000:=by omega
 clear jL xG hrp C6;go_wp2_with fail;refine C8.out.mono ?_;rintro e Yf ⟨⟨Bs,nBs,FT⟩,⟨Bt,nBt,Yg⟩,⟨Bn,nBn,Yh⟩,⟨Bm,nBm,Yi⟩,⟨Bg,nBg,Yj⟩,L,rfl,Gh,ci⟩;simp only [OV];have TW:=Ht.out;have hza:=HA.out.size;have Yk:=Gh.size;obtain ⟨V,hV⟩:∃ V,V=(((((((Yf.setCell ⟨w.heap.size+1+1,0,none⟩ (.int .i64 c.av)).setCell ⟨w.heap.size+1+1,1,none⟩ (.int .i64 c.version)).setCell ⟨w.heap.size+1+1,2,none⟩ (.slice Bs c.aj.ae.length FT)).setCell ⟨w.heap.size+1+1,3,none⟩ (.slice Bt c.aj.tables.length Yg)).setCell ⟨w.heap.size+1+1,4,none⟩ (.slice Bn c.ar.names.length Yh)).setCell ⟨w.heap.size+1+1,5,none⟩ (.slice Bm c.ar.members.length Yi)).setCell ⟨w.heap.size+1+1,6,none⟩ (.slice Bg c.ah.length Yj)):=⟨_,rfl⟩
 have kV:Kb (fun g=>g=w.heap.size+1+1) Yf V:=by rw [hV];exact nQ _ _ _ _ _ _ _ _ _
 have KV:=gH (show Kb (fun g=>g=w.heap.size+1+1) W V from (Kb.aO (HA.out.trans Gh)).trans kV)
 have hzV:V.heap.size=Yf.heap.size:=by rw [hV];simp
 have CIV:=gH (ci.kb kV (fun g' h1 e=>by have:=(ci.lt h1).1;have e:g'=w.heap.size+1+1:=e;omega));have RP:=gH (show ai V (w.heap.size+1+1) (kP c ⟨Bs,nBs,FT⟩ ⟨Bt,nBt,Yg⟩ ⟨Bn,nBn,Yh⟩ ⟨Bm,nBm,Yi⟩ ⟨Bg,nBg,Yj⟩) from by rw [hV];exact lw (HR.out.2.2.1.aA (HA.out.trans Gh)) rfl _ _ _ _ _ _ _);have Er:=gH (show ag w V from KV.out.aJ cu.out (fun g hg e=>by have e:g=w.heap.size+1+1:=e;omega));have NC:=gH (show w8.heap.size≤V.heap.size∧w.heap.size+1+1+1 < w8.heap.size from ⟨by omega,by omega⟩);obtain ⟨⟨d,ke⟩,hd⟩:∃ D,cS c x=D:=⟨_,rfl⟩;have Yl:=uO HM.out.1;have CD:=gH (hd▸VZ ⟨Bs,nBs,FT⟩ ⟨Bt,nBt,Yg⟩ ⟨Bn,nBn,Yh⟩ ⟨Bm,nBm,Yi⟩ ⟨Bg,nBg,Yj⟩ L w8.heap.size (w.heap.size+1+1) V (by omega) (by omega) CIV.out yZ.out RP.out (HX.out.aA Er.out) PD.out Yl.2 (ya HM.out.1) XR);have HD:=gH hd;have H5:=gH Yl.2;have q2:=HR.out.2.2.1.aA (HA.out.trans Gh);have u00:=q2.cell (j:=0) rfl;have v00:=q2.2.2 0 (by simp);have u10:=q2.cell (j:=1) rfl;have v10:=q2.2.2 1 (by simp);have u20:=q2.cell (j:=2) rfl;have v20:=q2.2.2 2 (by simp);have u30:=q2.cell (j:=3) rfl;have v30:=q2.2.2 3 (by simp);have u40:=q2.cell (j:=4) rfl;have v40:=q2.2.2 4 (by simp);have u50:=q2.cell (j:=5) rfl;have v50:=q2.2.2 5 (by simp);have u60:=q2.cell (j:=6) rfl;have v60:=q2.2.2 6 (by simp);have uz0:=q2.1;clear q2;have p1:=KV.out.row HR.out.2.1 (by omega);clear x0 x1 x2 x3 x4 x5 x6 y0 y1 y2 y3 y4 y5 y6 y7 y8 y9 pG pH pI pJ pK pL pM z0 z1;have z1:=p1.1;obtain ⟨y0,y1,y2,y3,y4,y5,y6,y7,y8,y9,pG,pH,pI,pJ,pK,pL,pM⟩:=j0 p1
 rw [hV] at z1 y0 y1 y2 y3 y4 y5 y6 y7 y8 y9 pG pH pI pJ pK pL pM;clear p1 kV hzV ci Gh hd Yl hza Yk;go_wp2_with fail;rw [← hV];clear hV z1 y0 y1 y2 y3 y4 y5 y6 y7 y8 y9 pG pH pI pJ pK pL pM u00 v00 u10 v10 u20 v20 u30 v30 u40 v40 u50 v50 u60 v60 uz0;refine CD.out.mono ?_;rintro e NG ⟨kb,hno,Uh⟩;have KW:=gH (show Kb (fun g=>g=w.heap.size+1+1∨w8.heap.size≤g) W NG from (KV.out.mono fun g _ e=>.inl e).trans kb);have HVW:=gH kb.size;have vw:=gH (show ag w NG from KW.out.aJ cu.out (fun g hg e=>by have:=NC.out.2;rcases e with e | e<;>(have e:_:=e;omega)));have RQ:=gH (show ai NG (w.heap.size+1+1+1) [.int .i64 0] from KW.out.row HR.out.2.2.2 (fun e=>by have:=NC.out.2;rcases e with e | e<;>omega))
 have PH:=gH (show ∀ (k:Int) (V:World) (tmps:Array Value) (vs:List Value),ag NG V→vs.length=7→ai NG (w.heap.size+1+1) vs→tmps.getD 4 undef=.pointer (some ⟨w.heap.size+1+1,0,none⟩)→tmps.getD 5 undef=.pointer (some ⟨w.heap.size+1+1+1,0,none⟩)→dB c x=(qY,k)→Leaves Tryz.prog Tryz.f49 tmps (ED w (dB c x)) [{ target:=Target.fn (Fn.func 65) #[.pointer (some ⟨w.heap.size+1+1,0,none⟩),.pointer (some ⟨w.heap.size+1+1+1,0,none⟩)],args:=#[] }] (.panicking [{ v:=.iface 103 (.agg #[.int .i64 k]),recovered:=false }]) V from
  fun k V tmps vs a hl hr h4 h5 he=>uB h4 h5 (hr.aA a) hl (RQ.out.aA a) (by omega) (fun w' kb=>by rw [he];exact Dg (kb.aJ (vw.out.trans a) (fun g hg e=>by omega))))
 clear PE;by_cases hz:ke≠0
 ·obtain ⟨he,vs,hvl,hrow⟩:=hno hz
  have he:e=zj ke:=he;unfold zj at he;subst he;exact PH.out ke NG _ vs (ag.refl _) hvl hrow rfl rfl (Lr V3.out (by rw [HD.out]) hz)
 obtain rfl:ke=0:=by omega
 obtain ⟨rfl,⟨Es,Ui,sY⟩,⟨Et,Uj,sZ⟩,⟨En,Uk,s9⟩,⟨Em,Ul,td⟩,⟨Eg,nEg,Ym⟩,M,di,row⟩:=Uh rfl;have di:er NG w8.heap.size d ⟨Es,Ui,sY⟩ ⟨Et,Uj,sZ⟩ ⟨En,Uk,s9⟩ ⟨Em,Ul,td⟩ ⟨Eg,nEg,Ym⟩ M:=di;have row:ai NG (w.heap.size+1+1) [.int .i64 d.av,.int .i64 d.version,.slice Es d.aj.ae.length sY,.slice Et d.aj.tables.length sZ,.slice En d.ar.names.length s9,.slice Em d.ar.members.length td,.slice Eg d.ah.length Ym]:=row;have Hn:=ur (c:=c) (x:=x) (by rw [HD.out]);rw [HD.out] at Hn;have Yn:=Lh yZ.out HX.out.sm H5.out;rw [HD.out] at Yn;have HSD:=gH Yn;have DI:=gH di;have ROW:=gH row;have tx:=gf.1 Iq.out;have Hq:=gH (And.intro Hn tx);have p0:=KW.out.row HR.out.1 (fun e=>by have:=NC.out.2;rcases e with e | e<;>omega);have p1:=KW.out.row HR.out.2.1 (fun e=>by have:=NC.out.2;rcases e with e | e<;>omega);have R0:=gH p0;have R1:=gH p1;have x0:=p0.cell (j:=0) rfl;have x1:=p0.cell (j:=1) rfl;have z0:=p0.1;obtain ⟨y0,y1,y2,y3,y4,y5,y6,y7,y8,y9,pG,pH,pI,pJ,pK,pL,pM⟩:=j0 p1;have z1:=p1.1;clear kb hno Uh hz di row Hn Yn tx p0 p1 CD C8 CIV RP;by_cases hv:c.version < 1000000000
 case neg =>
  go_wp2_with fail;refine (uA 92 _).mono ?_;rintro e w9 ⟨he,rfl⟩;unfold zj at he;subst he;exact PH.out 92 _ _ _ (ag.refl _) rfl ROW.out rfl rfl (Il V3.out (by rw [HD.out]) (.inl (by omega)))
 go_wp2_with fail;refine (C7.out _).mono ?_;rintro e w12 ⟨rfl,a12⟩;have vZ:=gH a12;have x0':=a12.cell_kept x0;have z0':w.heap.size < w12.heap.size:=Nat.lt_of_lt_of_le z0 a12.size;clear a12 x0 x1 z0 z1 y0 y1 y2 y3 y4 y5 y6 y7 y8 y9 pG pH pI pJ pK pL pM;have HV:=gH hv;by_cases PF:fe=true∧¬ c.av < 1000
 case pos =>
  obtain ⟨rfl,Ee⟩:=PF;have hdp:decide (c.av < 1000)=false:=decide_eq_false Ee;go_wp2_with fail;refine (uA 92 _).mono ?_;rintro e w9 ⟨he,rfl⟩;unfold zj at he;subst he;exact PH.out 92 _ _ _ vZ.out rfl ROW.out rfl rfl (Il V3.out (by rw [HD.out]) (.inr ⟨HM.out.2.2.2.2,by omega⟩))
 have HFE:=gH (show dB c x=(kN d fe,0) from by
  have e:=Ud V3.out (by rw [HD.out]) (fun h=>by
   rcases h with h | h
   ·have:=HV.out;omega
   ·exact PF ⟨HM.out.2.2.2.2▸h.1,by omega⟩)
  rw [HD.out,HM.out.2.2.2.2] at e
  exact e)
 have CH:=gH (Nq d Es sY Et sZ En s9 Em td Eg Ym w12 ((DI.out.aA vZ.out).at HSD.out));have q:=ROW.out.aA vZ.out;obtain ⟨q0,q1,q2,q3,q4,q5,q6,qz⟩:=j7 q;have HQ:=gH q;clear q
 cases fe
 case false =>
  go_wp2_with fail;refine (uy 92 _).mono ?_;rintro e w9 ⟨rfl,rfl⟩;go_wp2_with fail;refine CH.out.mono ?_;rintro e PI ⟨⟨Aq,nq,cq⟩,rfl,wN,DJ⟩;obtain rfl:nq=(cJ d).length:=mq DJ;clear q0 q1 q2 q3 q4 q5 q6 qz;have Cp:=wN.size;have Co:=vZ.out.size;have h11:=HVW.out;have TW:=Ht.out;have ND:=NC.out;have q:=HQ.out.aA wN;have m0:=q.cell (j:=1) rfl;have m6:=q.cell (j:=6) rfl;have n1:=q.2.2 1 (by simp);have n6:=q.2.2 6 (by simp);have mz:=q.1;obtain ⟨Z,hZ⟩:∃ Z,Z=(PI.setCell ⟨w.heap.size+1+1,6,none⟩ (.slice Aq (cJ d).length cq)).setCell ⟨w.heap.size+1+1,1,none⟩ (.int .i64 (d.version+1)):=⟨_,rfl⟩
  have kZ:Kb (fun g=>g=w.heap.size+1+1) PI Z:=by rw [hZ];exact (Kb.set _ _ _ _).trans (Kb.set _ _ _ _)
  have zZ:Z.heap.size=PI.heap.size:=by rw [hZ];simp
  have RZ:=gH (show ai Z (w.heap.size+1+1) [.int .i64 d.av,.int .i64 (d.version+1),.slice Es d.aj.ae.length sY,.slice Et d.aj.tables.length sZ,.slice En d.ar.names.length s9,.slice Em d.ar.members.length td,.slice Aq (cJ d).length cq] from by rw [hZ];exact (q.set 6 _ (by simp)).set 1 _ (by simp));have a3:=vZ.out.trans wN;have Yo:=gH (kZ.row (RQ.out.aA a3) (by omega));have p1:=kZ.row (R1.out.aA a3) (by omega)
  have Yp:=fun g' h=>(DI.out.lt (g:=g') h)
  have DZ:=gH (show er Z w8.heap.size (kN d false) ⟨Es,Ui,sY⟩ ⟨Et,Uj,sZ⟩ ⟨En,Uk,s9⟩ ⟨Em,Ul,td⟩ ⟨Aq,(cJ d).length,cq⟩ M from by
   have c1:=((DI.out.aA vZ.out).TM (yq:=⟨Aq,(cJ d).length,cq⟩) (l:=cJ d) (Kb.aO (P:=fun _=>False) wN) (fun _ _ h=>h) (bM DJ (by omega)) (fun g' h=>.inr (by have:=(DJ.lt g' (Hd.bj.1 h)).1;omega)));have c2:=c1.kb kZ (fun g' h1 e=>by have:=(c1.lt h1).1;have e:g'=w.heap.size+1+1:=e;omega)
   exact ⟨c2.obj,c2.Nt,c2.GF,c2.qr,c2.za,c2.zS⟩)
  have Ub:=gH (show ag w Z from kZ.aJ (vw.out.trans a3) (fun g hg e=>by have e:g=w.heap.size+1+1:=e;omega));have w9:IntKind.i64.wrap (d.version+1)=d.version+1:=IntWalk.i64_in _ (by have:=Hq.out;omega);have SZ:=gH (show w.heap.size+1+1+1 < w8.heap.size∧w8.heap.size≤Z.heap.size from ⟨by omega,by omega⟩);have z1:=p1.1;obtain ⟨y0,y1,y2,y3,y4,y5,y6,y7,y8,y9,pG,pH,pI,pJ,pK,pL,pM⟩:=j0 p1;rw [hZ] at z1 y0 y1 y2 y3 y4 y5 y6 y7 y8 y9 pG pH pI pJ pK pL pM;clear q kZ zZ a3 p1 Yp DJ Cp Co h11 TW ND wN;simp only [Hd.v];go_wp2_with fail;rw [← hZ];clear hZ z1 y0 y1 y2 y3 y4 y5 y6 y7 y8 y9 pG pH pI pJ pK pL pM m0 m6 n1 n6 mz w9;refine (C7.out _).mono ?_;rintro e NH ⟨rfl,wO⟩;have Yq:=gH wO;have q:=RZ.out.aA wO;have kT:Kb (fun g=>g=w.heap.size+1+1) NH NH:=Kb.refl _ _;have s0:=q.cell (j:=0) rfl;have r0:=q.2.2 0 (by simp);have s1:=q.cell (j:=1) rfl;have r1:=q.2.2 1 (by simp);have s2:=q.cell (j:=2) rfl;have r2:=q.2.2 2 (by simp);have s3:=q.cell (j:=3) rfl;have r3:=q.2.2 3 (by simp);have s4:=q.cell (j:=4) rfl;have r4:=q.2.2 4 (by simp);have s5:=q.cell (j:=5) rfl;have r5:=q.2.2 5 (by simp);have s6:=q.cell (j:=6) rfl;have r6:=q.2.2 6 (by simp);have sz:=q.1;have qq:=kT.row (Yo.out.aA wO) (by omega);have t0:=qq.cell (j:=0) rfl;have tf:=qq.2.2 0 (by simp);have tz:=qq.1;have ne:w.heap.size+1+1+1≠w.heap.size+1+1:=(by omega);have QR:=gH (And.intro q qq);have KT:=gH ((Kb.aO (P:=fun g=>g=w.heap.size+1+1) wO).trans kT);clear q qq kT wO;go_wp2_with fail;have ND:=SZ.out
  obtain ⟨S,hS⟩:∃ S,S=((((((NH.setCell ⟨w.heap.size+1+1,0,none⟩ (.int .i64 d.av)).setCell ⟨w.heap.size+1+1,1,none⟩ (.int .i64 (d.version+1))).setCell ⟨w.heap.size+1+1,2,none⟩ (.slice Es d.aj.ae.length sY)).setCell ⟨w.heap.size+1+1,3,none⟩ (.slice Et d.aj.tables.length sZ)).setCell ⟨w.heap.size+1+1,4,none⟩ (.slice En d.ar.names.length s9)).setCell ⟨w.heap.size+1+1,5,none⟩ (.slice Em d.ar.members.length td)).setCell ⟨w.heap.size+1+1,6,none⟩ (.slice Aq (cJ d).length cq):=⟨_,rfl⟩
  have k7:Kb (fun g=>g=w.heap.size+1+1) NH S:=by rw [hS];exact nQ NH (w.heap.size+1+1) (.int .i64 d.av) (.int .i64 (d.version+1)) (.slice Es d.aj.ae.length sY) (.slice Et d.aj.tables.length sZ) (.slice En d.ar.names.length s9) (.slice Em d.ar.members.length td) (.slice Aq (cJ d).length cq)
  have r7:ai S (w.heap.size+1+1) [.int .i64 d.av,.int .i64 (d.version+1),.slice Es d.aj.ae.length sY,.slice Et d.aj.tables.length sZ,.slice En d.ar.names.length s9,.slice Em d.ar.members.length td,.slice Aq (cJ d).length cq]:=by rw [hS];exact lw QR.out.1 rfl (.int .i64 d.av) (.int .i64 (d.version+1)) (.slice Es d.aj.ae.length sY) (.slice Et d.aj.tables.length sZ) (.slice En d.ar.names.length s9) (.slice Em d.ar.members.length td) (.slice Aq (cJ d).length cq)
  obtain ⟨Vf,Ir⟩:∃ Vf,Vf=S.setCell ⟨w.heap.size+1+1+1,0,none⟩ (.int .i64 0):=⟨_,rfl⟩
  have k8:Kb (fun g=>g=w.heap.size+1+1+1) S Vf:=by rw [Ir];exact Kb.set S (w.heap.size+1+1+1) 0 (.int .i64 0)
  have rp:ai Vf (w.heap.size+1+1) [.int .i64 d.av,.int .i64 (d.version+1),.slice Es d.aj.ae.length sY,.slice Et d.aj.tables.length sZ,.slice En d.ar.names.length s9,.slice Em d.ar.members.length td,.slice Aq (cJ d).length cq]:=by rw [Ir];exact r7.Py (show w.heap.size+1+1+1≠w.heap.size+1+1 by omega) 0 (.int .i64 0)
  have rq:ai Vf (w.heap.size+1+1+1) [.int .i64 0]:=by
   have e:=k7.row QR.out.2 (fun e=>by have e:w.heap.size+1+1+1=w.heap.size+1+1:=e;omega);rw [Ir];exact e.set 0 (.int .i64 0) (by simp)
  have PJ:=gH (show ED w (dB c x) (.returned (.tuple #[.agg #[.int .i64 d.av,.int .i64 (d.version+1),.slice Es d.aj.ae.length sY,.slice Et d.aj.tables.length sZ,.slice En d.ar.names.length s9,.slice Em d.ar.members.length td,.slice Aq (cJ d).length cq],.int .i64 0])) Vf from by
   rw [HFE.out];refine ⟨⟨Es,Ui,sY⟩,⟨Et,Uj,sZ⟩,⟨En,Uk,s9⟩,⟨Em,Ul,td⟩,⟨Aq,(cJ d).length,cq⟩,M,rfl,?_,?_⟩
   ·exact k8.aJ (k7.aJ (KT.out.aJ Ub.out (fun g hg e=>by have e:g=w.heap.size+1+1:=e;omega)) (fun g hg e=>by have e:g=w.heap.size+1+1:=e;omega)) (fun g hg e=>by have e:g=w.heap.size+1+1+1:=e;omega)
   ·have c3:=((DZ.out.kb KT.out (fun g' h1 e=>by have:=(DZ.out.lt h1).1;have e:g'=w.heap.size+1+1:=e;omega)).kb k7 (fun g' h1 e=>by have:=(DZ.out.lt h1).1;have e:g'=w.heap.size+1+1:=e;omega)).kb k8 (fun g' h1 e=>by have:=(DZ.out.lt h1).1;have e:g'=w.heap.size+1+1+1:=e;omega)
    exact c3.down (by have:=vw.out.size;have:=cu.out.size;have:=HA.out.size;omega))
  rw [← hS,← Ir];clear hS Ir;have Um:=gH (And.intro rp rq)
  show Leaves _ _ _ _ _ _ _
  exact uC rfl rfl Um.out.1 Um.out.2 PJ.out
 case true =>
  have Ee:c.av < 1000:=by
   by_cases h:c.av < 1000
   ·exact h
   ·exact absurd ⟨rfl,h⟩ PF
  have hdp:decide (c.av < 1000)=true:=decide_eq_true Ee;go_wp2_with fail;refine (uy 92 _).mono ?_;rintro e w9 ⟨rfl,rfl⟩;go_wp2_with fail;refine CH.out.mono ?_;rintro e PI ⟨⟨Aq,nq,cq⟩,rfl,wN,DJ⟩;obtain rfl:nq=(cJ d).length:=mq DJ;clear q0 q1 q2 q3 q4 q5 q6 qz;have Cp:=wN.size;have Co:=vZ.out.size;have h11:=HVW.out;have TW:=Ht.out;have ND:=NC.out;have q:=HQ.out.aA wN;have m0:=q.cell (j:=1) rfl;have m6:=q.cell (j:=6) rfl;have n1:=q.2.2 1 (by simp);have n6:=q.2.2 6 (by simp);have mz:=q.1;obtain ⟨Z,hZ⟩:∃ Z,Z=(PI.setCell ⟨w.heap.size+1+1,6,none⟩ (.slice Aq (cJ d).length cq)).setCell ⟨w.heap.size+1+1,1,none⟩ (.int .i64 (d.version+1)):=⟨_,rfl⟩
  have kZ:Kb (fun g=>g=w.heap.size+1+1) PI Z:=by rw [hZ];exact (Kb.set _ _ _ _).trans (Kb.set _ _ _ _)
  have zZ:Z.heap.size=PI.heap.size:=by rw [hZ];simp
  have RZ:=gH (show ai Z (w.heap.size+1+1) [.int .i64 d.av,.int .i64 (d.version+1),.slice Es d.aj.ae.length sY,.slice Et d.aj.tables.length sZ,.slice En d.ar.names.length s9,.slice Em d.ar.members.length td,.slice Aq (cJ d).length cq] from by rw [hZ];exact (q.set 6 _ (by simp)).set 1 _ (by simp));have a3:=vZ.out.trans wN;have Yo:=gH (kZ.row (RQ.out.aA a3) (by omega));have p1:=kZ.row (R1.out.aA a3) (by omega)
  have Yp:=fun g' h=>(DI.out.lt (g:=g') h)
  have DZ:=gH (show er Z w8.heap.size (kN d true) ⟨Es,Ui,sY⟩ ⟨Et,Uj,sZ⟩ ⟨En,Uk,s9⟩ ⟨Em,Ul,td⟩ ⟨Aq,(cJ d).length,cq⟩ M from by
   have c1:=((DI.out.aA vZ.out).TM (yq:=⟨Aq,(cJ d).length,cq⟩) (l:=cJ d) (Kb.aO (P:=fun _=>False) wN) (fun _ _ h=>h) (bM DJ (by omega)) (fun g' h=>.inr (by have:=(DJ.lt g' (Hd.bj.1 h)).1;omega)));have c2:=c1.kb kZ (fun g' h1 e=>by have:=(c1.lt h1).1;have e:g'=w.heap.size+1+1:=e;omega)
   exact ⟨c2.obj,c2.Nt,c2.GF,c2.qr,c2.za,c2.zS⟩)
  have Ub:=gH (show ag w Z from kZ.aJ (vw.out.trans a3) (fun g hg e=>by have e:g=w.heap.size+1+1:=e;omega));have w9:IntKind.i64.wrap (d.version+1)=d.version+1:=IntWalk.i64_in _ (by have:=Hq.out;omega);have SZ:=gH (show w.heap.size+1+1+1 < w8.heap.size∧w8.heap.size≤Z.heap.size from ⟨by omega,by omega⟩);have z1:=p1.1;obtain ⟨y0,y1,y2,y3,y4,y5,y6,y7,y8,y9,pG,pH,pI,pJ,pK,pL,pM⟩:=j0 p1;rw [hZ] at z1 y0 y1 y2 y3 y4 y5 y6 y7 y8 y9 pG pH pI pJ pK pL pM;clear q kZ zZ a3 p1 Yp DJ Cp Co h11 TW ND wN;simp only [Hd.v];go_wp2_with fail;rw [← hZ];clear hZ z1 y0 y1 y2 y3 y4 y5 y6 y7 y8 y9 pG pH pI pJ pK pL pM m0 m6 n1 n6 mz w9;refine (C7.out _).mono ?_;rintro e NH ⟨rfl,wO⟩;have Yq:=gH wO;have w9:IntKind.i64.wrap (d.av+1)=d.av+1:=IntWalk.i64_in _ (by have:=Hq.out;omega);have q0:=RZ.out.aA wO;have m0:=q0.cell (j:=0) rfl;have n0:=q0.2.2 0 (by simp);have mz:=q0.1;obtain ⟨T,hT⟩:∃ T,T=NH.setCell ⟨w.heap.size+1+1,0,none⟩ (.int .i64 (d.av+1)):=⟨_,rfl⟩
  have kT:Kb (fun g=>g=w.heap.size+1+1) NH T:=by rw [hT];exact Kb.set _ _ _ _
  have q:ai T (w.heap.size+1+1) [.int .i64 (d.av+1),.int .i64 (d.version+1),.slice Es d.aj.ae.length sY,.slice Et d.aj.tables.length sZ,.slice En d.ar.names.length s9,.slice Em d.ar.members.length td,.slice Aq (cJ d).length cq]:=by rw [hT];exact q0.set 0 _ (by simp)
  have s0:=q.cell (j:=0) rfl;have r0:=q.2.2 0 (by simp);have s1:=q.cell (j:=1) rfl;have r1:=q.2.2 1 (by simp);have s2:=q.cell (j:=2) rfl;have r2:=q.2.2 2 (by simp);have s3:=q.cell (j:=3) rfl;have r3:=q.2.2 3 (by simp);have s4:=q.cell (j:=4) rfl;have r4:=q.2.2 4 (by simp);have s5:=q.cell (j:=5) rfl;have r5:=q.2.2 5 (by simp);have s6:=q.cell (j:=6) rfl;have r6:=q.2.2 6 (by simp);have sz:=q.1;have qq:=kT.row (Yo.out.aA wO) (by omega);have t0:=qq.cell (j:=0) rfl;have tf:=qq.2.2 0 (by simp);have tz:=qq.1;have ne:w.heap.size+1+1+1≠w.heap.size+1+1:=(by omega);have QR:=gH (And.intro q qq);have KT:=gH ((Kb.aO (P:=fun g=>g=w.heap.size+1+1) wO).trans kT);rw [hT] at s0 r0 s1 r1 s2 r2 s3 r3 s4 r4 s5 r5 s6 r6 sz t0 tf tz;clear q qq kT wO q0;go_wp2_with fail;rw [← hT];clear hT;have ND:=SZ.out;obtain ⟨S,hS⟩:∃ S,S=((((((T.setCell ⟨w.heap.size+1+1,0,none⟩ (.int .i64 (d.av+1))).setCell ⟨w.heap.size+1+1,1,none⟩ (.int .i64 (d.version+1))).setCell ⟨w.heap.size+1+1,2,none⟩ (.slice Es d.aj.ae.length sY)).setCell ⟨w.heap.size+1+1,3,none⟩ (.slice Et d.aj.tables.length sZ)).setCell ⟨w.heap.size+1+1,4,none⟩ (.slice En d.ar.names.length s9)).setCell ⟨w.heap.size+1+1,5,none⟩ (.slice Em d.ar.members.length td)).setCell ⟨w.heap.size+1+1,6,none⟩ (.slice Aq (cJ d).length cq):=⟨_,rfl⟩
  have k7:Kb (fun g=>g=w.heap.size+1+1) T S:=by rw [hS];exact nQ T (w.heap.size+1+1) (.int .i64 (d.av+1)) (.int .i64 (d.version+1)) (.slice Es d.aj.ae.length sY) (.slice Et d.aj.tables.length sZ) (.slice En d.ar.names.length s9) (.slice Em d.ar.members.length td) (.slice Aq (cJ d).length cq)
  have r7:ai S (w.heap.size+1+1) [.int .i64 (d.av+1),.int .i64 (d.version+1),.slice Es d.aj.ae.length sY,.slice Et d.aj.tables.length sZ,.slice En d.ar.names.length s9,.slice Em d.ar.members.length td,.slice Aq (cJ d).length cq]:=by rw [hS];exact lw QR.out.1 rfl (.int .i64 (d.av+1)) (.int .i64 (d.version+1)) (.slice Es d.aj.ae.length sY) (.slice Et d.aj.tables.length sZ) (.slice En d.ar.names.length s9) (.slice Em d.ar.members.length td) (.slice Aq (cJ d).length cq)
  obtain ⟨Vf,Ir⟩:∃ Vf,Vf=S.setCell ⟨w.heap.size+1+1+1,0,none⟩ (.int .i64 0):=⟨_,rfl⟩
  have k8:Kb (fun g=>g=w.heap.size+1+1+1) S Vf:=by rw [Ir];exact Kb.set S (w.heap.size+1+1+1) 0 (.int .i64 0)
  have rp:ai Vf (w.heap.size+1+1) [.int .i64 (d.av+1),.int .i64 (d.version+1),.slice Es d.aj.ae.length sY,.slice Et d.aj.tables.length sZ,.slice En d.ar.names.length s9,.slice Em d.ar.members.length td,.slice Aq (cJ d).length cq]:=by rw [Ir];exact r7.Py (show w.heap.size+1+1+1≠w.heap.size+1+1 by omega) 0 (.int .i64 0)
  have rq:ai Vf (w.heap.size+1+1+1) [.int .i64 0]:=by
   have e:=k7.row QR.out.2 (fun e=>by have e:w.heap.size+1+1+1=w.heap.size+1+1:=e;omega);rw [Ir];exact e.set 0 (.int .i64 0) (by simp)
  have PJ:=gH (show ED w (dB c x) (.returned (.tuple #[.agg #[.int .i64 (d.av+1),.int .i64 (d.version+1),.slice Es d.aj.ae.length sY,.slice Et d.aj.tables.length sZ,.slice En d.ar.names.length s9,.slice Em d.ar.members.length td,.slice Aq (cJ d).length cq],.int .i64 0])) Vf from by
   rw [HFE.out];refine ⟨⟨Es,Ui,sY⟩,⟨Et,Uj,sZ⟩,⟨En,Uk,s9⟩,⟨Em,Ul,td⟩,⟨Aq,(cJ d).length,cq⟩,M,rfl,?_,?_⟩
   ·exact k8.aJ (k7.aJ (KT.out.aJ Ub.out (fun g hg e=>by have e:g=w.heap.size+1+1:=e;omega)) (fun g hg e=>by have e:g=w.heap.size+1+1:=e;omega)) (fun g hg e=>by have e:g=w.heap.size+1+1+1:=e;omega)
   ·have c3:=((DZ.out.kb KT.out (fun g' h1 e=>by have:=(DZ.out.lt h1).1;have e:g'=w.heap.size+1+1:=e;omega)).kb k7 (fun g' h1 e=>by have:=(DZ.out.lt h1).1;have e:g'=w.heap.size+1+1:=e;omega)).kb k8 (fun g' h1 e=>by have:=(DZ.out.lt h1).1;have e:g'=w.heap.size+1+1+1:=e;omega)
    exact c3.down (by have:=vw.out.size;have:=cu.out.size;have:=HA.out.size;omega))
  rw [← hS,← Ir];clear hS Ir;have Um:=gH (And.intro rp rq)
  show Leaves _ _ _ _ _ _ _
  exact uC rfl rfl Um.out.1 Um.out.2 PJ.out
end Go.Proofs.YtakddkhipelmjaaGreat
