import Derived.Test.YtakddkhipelmjaaGreatPartH5
set_option maxRecDepth 100000
set_option linter.unusedVariables false
set_option maxHeartbeats 64000000
namespace Go.Proofs.YtakddkhipelmjaaGreat
open Go.Deep Go.RowKit
def TX (t:bW):Prop:=t.au.length≤1000000∧t.rules.length≤1000000∧∀ r∈t.rules,r.au.length≤1000000
theorem iZ {W:World} {b:Nat} {a c d e f:Value} (h:ai W b [a,c,d,e,f]):(loadVar 80 ⟨b,0,none⟩).run Tryz.prog W=.ok (.agg #[a,c,d,e,f]) W:=by
 obtain ⟨e0,e1,e2,e3,e4⟩:=pW h;have h1:=DD W b 0 (by rw [e0];rfl) (by rw [e1];rfl) (by rw [e2];rfl) (by rw [e3];rfl) (by rw [e4];rfl);rw [e0,e1,e2,e3,e4] at h1;exact h1
theorem aN {w W:World} {c:List Value} {t:TypeId} (h:ag (w.alloc (.cells c.toArray t)) W):ai W w.heap.size c:=by
 obtain ⟨hb,hf,hz,_,_⟩:=cT h;exact ⟨hz.1,fun j hj=>by rw [hb];simp,fun j _=>hf j⟩
theorem ai.Py {w:World} {b:Nat} {xs:List Value} (h:ai w b xs) {g:Nat} (hne:g≠b) (j:Nat) (v:Value):ai (w.setCell ⟨g,j,none⟩ v) b xs:=(Kb.set w g j v).row h (fun e=>hne e.symm)
structure sL (w wr:World) (t:bW) (hc hr:Hd) (L0 L:List fu) (k:Nat):Prop where
 aA:ag w wr
 box:ai wr w.heap.size [.string t.af,.string t.name,.string t.owner,.slice hc.a t.au.length hc.c,.slice hr.a t.rules.length hr.c]
 out:ai wr (w.heap.size+1) [.string ⟨#[]⟩,.string ⟨#[]⟩,.string ⟨#[]⟩,.slice none 0 0,.slice none 0 0]
 zt:wr.ownsRow (w.heap.size+2) 169 3 hc.v t.au.length (t.au.flatMap DO)
 wQ:wr.ownsRow (w.heap.size+2) 42 8 hr.v t.rules.length ((L++L0.drop k).flatMap fu.cells)
 len:L.length=k
 is:L.map (·.r)=t.rules.take k
 each:∀ x∈L,lI wr (w.heap.size+2) x
 nd:(hc.blk++(hr.blk++L.flatMap (·.h.blk))).Nodup
theorem sL.lt {w wr:World} {t:bW} {hc hr:Hd} {L0 L:List fu} {k:Nat} (s:sL w wr t hc hr L0 L k):∀ g∈hc.blk++(hr.blk++L.flatMap (·.h.blk)),w.heap.size+2≤g∧g < wr.heap.size:=by
 intro g hg;simp only [List.mem_append,List.mem_flatMap] at hg
 rcases hg with hg | hg | ⟨r,hr,hg⟩
 ·exact fG s.zt g hg
 ·exact fG s.wQ g hg
 ·exact fG (s.each r hr).kw g hg
theorem sL.step {w wr w4:World} {t:bW} {hc hr h4:Hd} {L0 L:List fu} {k gr:Nat} (s:sL w wr t hc hr L0 L k) (h0:L0.map (·.r)=t.rules) (hk:k < t.rules.length) (hgr:hr.a=some ⟨gr,0,none⟩)
  (a4:ag wr w4) (od:w4.ownsRow wr.heap.size 9 1 h4.v t.rules[k].au.length (t.rules[k].au.flatMap cB)):sL w (w4.setCell ⟨gr,k*8+2,none⟩ h4.v) t hc hr L0 (L++[⟨t.rules[k],h4⟩]) (k+1):=by
 have PA:L0.length=t.rules.length:=by rw [← h0];simp
 have hgb:gr∈hr.blk:=by rw [Hd.bj];unfold Hd.v;rw [hgr];rfl
 have hlt:=s.lt;have hg:=hlt gr (by simp [hgb]);have kb:=Kb.set w4 gr (k*8+2) h4.v;have ka:Kb (fun x=>x=gr) wr (w4.setCell ⟨gr,k*8+2,none⟩ h4.v):=(Kb.aO a4).trans kb;have Li:=s.nd
 have hz:wr.heap.size≤w.heap.size+2∨w.heap.size+2≤wr.heap.size:=by omega
 have XP:∀ g∈hc.blk,¬ g=gr:=fun g JR e=>by
  subst e;exact (List.nodup_append.1 Li).2.2 g JR g (by simp [hgb]) rfl
 have XQ:∀ x∈L,∀ g∈x.h.blk,¬ g=gr:=fun x hx g JR e=>by
  subst e;exact (List.nodup_append.1 (List.nodup_append.1 Li).2.1).2.2 g hgb g (by simp only [List.mem_flatMap];exact ⟨x,hx,JR⟩) rfl
 refine ⟨ka.aJ s.aA (fun x hx e=>by omega),ka.row s.box (by omega),ka.row s.out (by omega),br s.zt ka fun g hgo=>XP g (Hd.bj.2 hgo),?_,by simp [s.len],?_,?_,?_⟩
 ·have h1:=ku (cA s.wQ a4) (Hd.bj.1 hgb) (k*8+2) h4.v
  have pY:k < (L++L0.drop k).length:=by simp [s.len];omega
  have vW:(L++L0.drop k)[k]=L0[k]'(by omega):=by
   rw [List.getElem_append_right (by rw [s.len];exact Nat.le_refl _)];simp [s.len]
  have sS:(L0[k]'(by omega)).r=t.rules[k]:=by
   have:(L0.map (·.r))[k]'(by simpa using (by omega:k < L0.length))=t.rules[k]:=by simp only [h0]
   simpa using this
  rw [iy (size:=8) (fun _=>rfl) (L++L0.drop k) k 2 pY (by decide) h4.v ⟨t.rules[k],h4⟩ (by rw [vW];unfold fu.cells DR;rw [sS];rfl)] at h1
  have tF:(L++L0.drop k).set k ⟨t.rules[k],h4⟩=(L++[⟨t.rules[k],h4⟩])++L0.drop (k+1):=by
   have hd:L0.drop k=L0[k]'(by omega)::L0.drop (k+1):=List.drop_eq_getElem_cons (by omega:k < L0.length);rw [List.set_append_right _ _ (by rw [s.len];exact Nat.le_refl _),s.len,Nat.sub_self,hd];simp only [List.set_cons_zero,List.append_assoc,List.cons_append,List.nil_append]
  rw [tF] at h1;exact h1
 ·rw [List.map_append,s.is,List.take_succ_eq_append_getElem hk];rfl
 ·intro x hx
  simp only [List.mem_append,List.mem_singleton] at hx
  rcases hx with hx | rfl
  ·exact (s.each x hx).kb ka fun g hgo=>XQ x hx g hgo
  ·exact ⟨bM (br od kb fun g hgo e=>by have:=(od.lt g hgo).1;omega) (by have:=s.out.1;omega)⟩
 ·have e:hc.blk++(hr.blk++(L++[fu.mk t.rules[k] h4]).flatMap (·.h.blk))=(hc.blk++(hr.blk++L.flatMap (·.h.blk)))++h4.blk:=by simp [List.append_assoc]
  rw [e];exact jf Li (eV h4) (fun g hg=>(hlt g hg).2) (fun g hg=>(fG od g hg).1)
theorem vn (t:bW) (A:Option Addr) (cap:Nat) (A2:Option Addr) (bJ:Nat) (w:World) (h:az w 3 fL A cap t.au) (h2:az w 8 eG A2 bJ t.rules) (hm:TX t) :
  Calls Tryz.prog 113 #[.agg #[.string t.af,.string t.name,.string t.owner,.slice A t.au.length cap,.slice A2 t.rules.length bJ]] w (UD w t):=by
 have hlen:=h.len;have iG:=h2.len;have C1:=gH (show ∀ w',ag w w'→_ from fun w' a=>uF A cap t.au w w' a h hm.1);have C2:=gH (show ∀ w',ag w w'→_ from fun w' a=>uG A2 bJ t.rules w w' a h2 hm.2.1)
 have l1:w.heap.size < w.heap.size+1:=by omega
 have l2:w.heap.size < w.heap.size+1+1:=by omega
 go_in
 go_wp2_with fail;refine (C1.out _ (((ag.refl w).alloc _).alloc _)).mono ?_;rintro e w1 ⟨v1,TV,rfl,a1,jP,NB⟩;have r1:ai w1 w.heap.size [.string t.af,.string t.name,.string t.owner,.slice A t.au.length cap,.slice A2 t.rules.length bJ]:=(aN (ag.refl _)).aA (((ag.refl _).alloc _).trans a1)
 have r2:ai w1 (w.heap.size+1) [.string ⟨#[]⟩,.string ⟨#[]⟩,.string ⟨#[]⟩,.slice none 0 0,.slice none 0 0]:=by
  have:=(aN (w:=w.alloc (.cells #[.string t.af,.string t.name,.string t.owner,.slice A t.au.length cap,.slice A2 t.rules.length bJ] 80)) (c:=[.string ⟨#[]⟩,.string ⟨#[]⟩,.string ⟨#[]⟩,.slice none 0 0,.slice none 0 0]) (t:=80) (ag.refl _)).aA a1
  simpa using this
 have dc:=gH ((((ag.refl w).alloc _).alloc _).trans a1);obtain ⟨Ac,cc,nC⟩:=dV jP;subst nC;rw [uH NB] at jP;have jP:w1.ownsRow (w.heap.size+2) 169 3 (Hd.mk Ac t.au.length cc).v t.au.length (t.au.flatMap DO):=bM jP (by simp)
 have hz1:w.heap.size+2≤w1.heap.size:=by have:=a1.size;simp at this;omega
 obtain ⟨W1,hW1⟩:∃ W1,W1=w1.setCell ⟨w.heap.size,3,none⟩ (.slice Ac t.au.length cc):=⟨_,rfl⟩
 have Y3:Kb (fun x=>x=w.heap.size) w1 W1:=by rw [hW1];exact Kb.set _ _ _ _
 have s1:ai W1 w.heap.size [.string t.af,.string t.name,.string t.owner,.slice Ac t.au.length cc,.slice A2 t.rules.length bJ]:=by rw [hW1];exact r1.set 3 _ (by simp)
 have s2:=Y3.row r2 (by omega)
 have JY:ag w W1:=by rw [hW1];exact dc.out.setCell _ _ (Nat.le_refl _)
 have zW1:W1.heap.size=w1.heap.size:=by rw [hW1];simp
 have Dz:=br jP Y3 (fun g hg e=>by have:=(jP.lt g hg).1;omega);have b0:=r1.cell (j:=3) rfl;have b1:=r1.cell (j:=4) rfl;have f3:=r1.2.2 3 (by simp);have z0:=r1.1;have q4:=s1.cell (j:=4) rfl;have qz:=s1.1;have JT:=gH Dz;have ze:=gH s1;have vK:=gH s2;clear r1 r2 a1 jP NB C1 Y3 Dz s1 s2;go_wp2_with fail;rw [← hW1];refine (C2.out W1 JY).mono ?_;rintro e w2 ⟨v2,aan,rfl,a2,Jk,ch2⟩;clear C2 hW1 b0 b1 f3 q4 qz;obtain ⟨Ar,cr,hv2⟩:=dV Jk;subst hv2;obtain ⟨L0,PA,Ii,Bo⟩:=uI ch2;rw [Ii,← List.flatMap_def] at Jk;have Rm:=ze.out.aA a2;have s2':=vK.out.aA a2;have b0:=Rm.cell (j:=3) rfl;have b1:=Rm.cell (j:=4) rfl;have f4:=Rm.2.2 4 (by simp);have z0:=Rm.1;obtain ⟨W2,hW2⟩:∃ W2,W2=w2.setCell ⟨w.heap.size,4,none⟩ (.slice Ar t.rules.length cr):=⟨_,rfl⟩
 have U6:Kb (fun x=>x=w.heap.size) w2 W2:=by rw [hW2];exact Kb.set _ _ _ _
 have u1:ai W2 w.heap.size [.string t.af,.string t.name,.string t.owner,.slice Ac t.au.length cc,.slice Ar t.rules.length cr]:=by rw [hW2];exact Rm.set 4 _ (by simp)
 have U8:sL w W2 t ⟨Ac,t.au.length,cc⟩ ⟨Ar,t.rules.length,cr⟩ L0 [] 0:=by
  have hz2:w.heap.size+2≤W1.heap.size:=by omega
  have Jl:=cA JT.out a2;have NT:w2.ownsRow W1.heap.size 42 8 (Hd.mk Ar t.rules.length cr).v t.rules.length (L0.flatMap fu.cells):=Jk
  refine ⟨U6.aJ (JY.trans a2) (fun x hx e=>by omega),u1,U6.row s2' (by omega),br Jl U6 (fun g hg e=>by have:=(Jl.lt g hg).1;omega),
   bM (br NT U6 (fun g hg e=>by have:=(Jk.lt g hg).1;omega)) hz2,rfl,rfl,fun x hx=>by simp at hx,?_⟩
  simp only [List.flatMap_nil,List.append_nil];exact jf (eV _) (eV _) (fun g hg=>(fG JT.out g hg).2) (fun g hg=>(fG NT g hg).1)
 have Lj:=gH U8;have Lk:=gH PA;have PB:=gH (show ∀ x∈L0,∀ w',ag w w'→x.h.n=x.r.au.length∧az w' 1 dC x.h.a x.h.c x.r.au from fun x hx w' a=>⟨(Bo x hx).1,aU a (Bo x hx).2⟩);have HM:=gH hm;have x3:=u1.cell (j:=4) rfl;have xz:=u1.1;clear Rm s2' Jk ch2 U8 PA Bo hm U6 u1 JY Ii;go_wp2_with fail;rw [← hW2];clear hW2 b0 b1 f4 z0
 go_loopw [15] (fun i wr=>∃ (k:Nat) (L:List fu),k≤t.rules.length∧i=.int .i64 k∧sL w wr t ⟨Ac,t.au.length,cc⟩ ⟨Ar,t.rules.length,cr⟩ L0 L k) (fun i _=>t.rules.length - (intOf i).toNat)
 case atStart=>exact ⟨0,[],Nat.zero_le _,rfl,Lj.out⟩
 case round =>
  clear Lj x3 xz;obtain ⟨k,L,hk,rfl,hs⟩:=hrel;have b4:=hs.box.cell (j:=4) rfl;have bz:=hs.box.1;have HS:=gH hs;by_cases hlt:k < t.rules.length
  ·have Ib:L0.length=t.rules.length:=by rw [← Lk.out];simp
   obtain ⟨gr,TZ,XZ,rg⟩:=uJ hs.wQ (by omega);have PC:Ar=some ⟨gr,0,none⟩:=TZ;subst PC
   have pY:k < L0.length:=by omega
   have vW:(L++L0.drop k)[k]'(by simp [hs.len];omega)=L0[k]:=by
    rw [List.getElem_append_right (by rw [hs.len];exact Nat.le_refl _)];simp [hs.len]
   have sS:L0[k].r=t.rules[k]:=by
    have:(L0.map (·.r))[k]'(by simpa using pY)=t.rules[k]:=by simp only [Lk.out]
    simpa using this
   obtain ⟨hn,hD⟩:=PB.out L0[k] (List.getElem_mem pY) wr hs.aA;obtain ⟨p,jY⟩:∃ p,t.rules[k]=p:=⟨_,rfl⟩;obtain ⟨D,nD,Uy⟩:Hd:=L0[k].h
   have x2:wr.cell? ⟨gr,k*8+2,none⟩=some (.slice L0[k].h.a p.au.length L0[k].h.c):=by
    refine rg.cell ?_;rw [js fu.cells 8 (fun _=>rfl) _ k 2 (by simp [hs.len];omega) (by decide),vW];unfold fu.cells DR Hd.v;rw [hn,sS,jY];rfl
   rw [sS,jY] at hD;obtain ⟨D2,hD2⟩:∃ D,L0[k].h.a=D:=⟨_,rfl⟩;obtain ⟨c2,hc2⟩:∃ c,L0[k].h.c=c:=⟨_,rfl⟩;rw [hD2,hc2] at x2 hD;have FJ:=gH jY;have f2:=rg.2.2 (k*8+2) (by rw [cp (size:=8) (fun _=>rfl)];simp [hs.len];omega);have gz:=rg.1;have X0:p.au.length≤1000000:=HM.out.2.2 p (by rw [← jY];exact List.getElem_mem hlt);have hpl:=hD.len;have C3:=gH (show ∀ w',ag wr w'→_ from fun w' a=>ko D2 c2 p.au wr w' a hD X0)
   have VU:gr≠w.heap.size:=by omega
   clear jY vW sS hn hD hD2 hc2 hs rg TZ Ib;go_wp2_with fail
   go_region_with ((go_at_call 121;refine (C3.out _ (ag.refl _).drew).mono ?_;rintro e w4 ⟨v4,TY,rfl,a4,od,ch4⟩;have x4:=a4.cell_kept x2;have b44:=a4.cell_kept b4;have f4:=(Below.frozen a4 (p:=⟨gr,k*8+2,none⟩) gz).trans f2;obtain ⟨Dn,cn,hv4⟩:=dV od;subst hv4))
   all_goals
    have VK:ag wr w4:=(ag.refl _).drew.trans a4;have vX:=gH (HS.out.step (h4:=⟨Dn,p.au.length,cn⟩) Lk.out hlt rfl VK (by rw [jg ch4] at od;rw [FJ.out];exact od));rw [FJ.out] at vX;clear od ch4 a4 VK x4 b44 f4;go_wp2
    go_roundw
    case rel=>exact ⟨k+1,_,by omega,by go_num,vX.out⟩
    case measure=>simp [intOf];omega
  ·have c0:=hs.box.cell (j:=0) rfl
   have c1:=hs.box.cell (j:=1) rfl;have c2:=hs.box.cell (j:=2) rfl;have c3:=hs.box.cell (j:=3) rfl;obtain ⟨d0,d1,d2,d3,d4⟩:=pW hs.out;obtain ⟨e0,e1,e2,e3,e4⟩:=zo hs.out;have dz:=hs.out.1;clear hs;go_wp2_with fail
   (try simp only [Exit.inBlock,Exit.then])
   have hs:=HS.out;obtain ⟨F,hF⟩:∃ F,F=((((wr.setCell ⟨w.heap.size+1,0,none⟩ (.string t.af)).setCell ⟨w.heap.size+1,1,none⟩ (.string t.name)).setCell ⟨w.heap.size+1,2,none⟩ (.string t.owner)).setCell ⟨w.heap.size+1,3,none⟩ (.slice Ac t.au.length cc)).setCell ⟨w.heap.size+1,4,none⟩ (.slice Ar t.rules.length cr):=⟨_,rfl⟩
   have kF:Kb (fun x=>x=w.heap.size+1) wr F:=by
    rw [hF];exact ((((Kb.set _ _ _ _).trans (Kb.set _ _ _ _)).trans (Kb.set _ _ _ _)).trans (Kb.set _ _ _ _)).trans (Kb.set _ _ _ _)
   have rF:ai F (w.heap.size+1) [.string t.af,.string t.name,.string t.owner,.slice Ac t.au.length cc,.slice Ar t.rules.length cr]:=by
    rw [hF];exact ((((hs.out.set 0 _ (by simp)).set 1 _ (by simp)).set 2 _ (by simp)).set 3 _ (by simp)).set 4 _ (by simp)
   rw [← hF];refine bodyPost_ret (bB (v:=.agg #[.string t.af,.string t.name,.string t.owner,.slice Ac t.au.length cc,.slice Ar t.rules.length cr]) rfl _ rfl ?hl) rfl ?_
   case hl=>exact iZ rF
   have Lm:k=t.rules.length:=by omega
   subst Lm;have xi:=hs.is;rw [List.take_of_length_le (Nat.le_refl _)] at xi
   have Ib:L0.length=t.rules.length:=by rw [← Lk.out];simp
   have Ic:=hs.wQ;rw [List.drop_of_length_le (by omega),List.append_nil] at Ic;have Ie:L.length=t.rules.length:=hs.len;refine ⟨⟨t.af,t.name,t.owner,t.au,L,⟨Ac,t.au.length,cc⟩,⟨Ar,t.rules.length,cr⟩⟩,by unfold bA.t;rw [xi],rfl,kF.aJ hs.aA (fun x hx e=>by omega),?_,hs.nd⟩;have eH:=hs.lt;refine ey.down (ey.kb (w:=wr) (B:=w.heap.size+2) ⟨hs.zt,by show wr.ownsRow _ _ 8 _ L.length _;rw [Ie];exact Ic,hs.each⟩ kF fun g hg e=>?_) (by omega);have:=eH g hg;omega
theorem eP {l m:List Nat} (h:(l++m).Nodup) {g:Nat} (h1:g∈l) (h2:g∈m):False:=(List.nodup_append.1 h).2.2 g h1 g h2 rfl
theorem dw.push {wr w4 w5:World} {B:Nat} {hs ht kq:Hd} {ss:List fK} {L:List bA} {x:bA} (h:dw wr B hs ht ss L) (a4:ag wr w4) (hx:ey w4 wr.heap.size x) (nx:x.gu.Nodup) (hB:B≤wr.heap.size)
  (hg:w4.grownBy w5 ht.v.ownBlock) (ho:w5.ownsRow B 80 5 kq.v (L.length+1) (L.flatMap bA.cells++x.cells)) (hb:∀ g∈kq.blk,g∈ht.blk∨w4.heap.size≤g) (hn:∀ g∈kq.blk,g∉x.gu):dw w5 B hs kq ss (L++[x]):=by
 have k1:Kb (fun g=>ht.v.ownBlock=some g) w4 w5:=Kb.cZ hg;have k2:Kb (fun g=>ht.v.ownBlock=some g) wr w5:=(Kb.aO a4).trans k1;have hlt:=h.lt;have nd:=h.nd;have Y4:=(List.nodup_append.1 nd).2.1
 have dv:∀ g∈hs.blk,g < wr.heap.size:=fun g hg=>(hlt g (by simp [hg])).2
 have Wh:∀ g∈ht.blk,g < wr.heap.size:=fun g hg=>(hlt g (by simp [hg])).2
 have hLl:∀ g∈L.flatMap bA.gu,g < wr.heap.size:=fun g hg=>(hlt g (by simp only [List.mem_append];exact .inr (.inr hg))).2
 have NP:=hx.lt;have hz:=a4.size;refine ⟨br h.fS k2 fun g hg1 hg2=>eP nd (Hd.bj.2 hg1) (by simp [Hd.bj.2 hg2]),?_,?_,?_⟩
 ·rw [List.length_append,List.flatMap_append]
  simpa using ho
 ·intro y hy
  simp only [List.mem_append,List.mem_singleton] at hy
  rcases hy with hy | rfl
  ·exact (h.each y hy).kb k2 fun g hg1 hg2=>eP Y4 (Hd.bj.2 hg2) (List.mem_flatMap.2 ⟨y,hy,hg1⟩)
  ·exact (hx.kb k1 fun g hg1 hg2=>by have:=(NP g hg1).1;have:=Wh g (Hd.bj.2 hg2);omega).down hB
 ·rw [List.flatMap_append]
  have hz2:wr.heap.size≤w4.heap.size:=a4.size
  have e:[x].flatMap bA.gu=x.gu:=by simp
  rw [e];refine List.nodup_append.2 ⟨(List.nodup_append.1 nd).1,List.nodup_append.2 ⟨eV _,jf (List.nodup_append.1 Y4).2.1 nx hLl (fun g hg=>(NP g hg).1),?_⟩,?_⟩
  ·intro a ha b hb2 e
   subst e
   rcases List.mem_append.1 hb2 with h1 | h1
   ·rcases hb a ha with h2 | h2
    ·exact eP Y4 h2 h1
    ·have:=hLl a h1;omega
   ·exact hn a ha h1
  ·intro a ha b hb2 e
   subst e;have:=dv a ha
   rcases List.mem_append.1 hb2 with h1 | h1
   ·rcases hb a h1 with h2 | h2
    ·exact eP nd ha (by simp [h2])
    ·omega
   ·rcases List.mem_append.1 h1 with h1 | h1
    ·exact eP nd ha (List.mem_append.2 (.inr h1))
    ·have:=(NP a h1).1;omega
theorem bA.Jm {w:World} {B:Nat} {x:bA} {p:bW} (h:ey w B x) (ht:x.t=p):x.cells=[.string p.af,.string p.name,.string p.owner,.slice x.hc.a p.au.length x.hc.c,.slice x.hr.a p.rules.length x.hr.c]:=by
 subst ht;unfold bA.cells;rw [dm h.zt,dm h.wQ];simp [bA.t]
theorem gY {W:World} {b:Nat} {a c:Value} (h:ai W b [a,c]):(loadVar 25 ⟨b,0,none⟩).run Tryz.prog W=.ok (.agg #[a,c]) W:=by
 have e0:=h.cell (j:=0) rfl;have e1:=h.cell (j:=1) rfl;have h1:=DF W b 0 (by rw [e0];rfl) (by rw [e1];rfl);rw [e0,e1] at h1;exact h1
structure Jn (w wr:World) (o:bE) (n3:Nat) (hs ht:Hd) (L:List bA) (k:Nat):Prop where
 aA:ag w wr
 out:ai wr (w.heap.size+1) [.slice none 0 0,.slice none 0 0]
 box:ai wr n3 [.slice hs.a o.ae.length hs.c,.slice ht.a k ht.c]
 obj:dw wr (w.heap.size+2) hs ht o.ae L
 ne:∀ g∈hs.blk++(ht.blk++L.flatMap bA.gu),g≠n3
 is:L.map bA.t=o.tables.take k
 n3:w.heap.size+2≤n3
 len:L.length=k
theorem Jn.step {w wr w4 w5:World} {o:bE} {n3:Nat} {hs ht kq:Hd} {L:List bA} {x:bA} {k:Nat} (s:Jn w wr o n3 hs ht L k) (hk:k < o.tables.length) (Ih:x.t=o.tables[k]) (a4:ag wr w4) (hx:ey w4 wr.heap.size x) (nx:x.gu.Nodup)
  (hg:w4.grownBy w5 ht.v.ownBlock) (ho:w5.ownsRow (w.heap.size+2) 80 5 kq.v (k+1) (L.flatMap bA.cells++x.cells)) (hb:∀ g∈kq.blk,g∈ht.blk∨w4.heap.size≤g) (hn:∀ g∈kq.blk,g∉x.gu) :
  Jn w (w5.setCell ⟨n3,1,none⟩ (.slice kq.a (k+1) kq.c)) o n3 hs kq (L++[x]) (k+1):=by
 have hz:=a4.size;have hz5:=hg.size;have zi:=s.n3;have hb3:=s.box.1
 have hzz:w.heap.size+2≤wr.heap.size:=by omega
 have ob:=s.obj.push a4 hx nx hzz hg (by rw [s.len];exact ho) hb hn
 have hne:∀ g∈hs.blk++(kq.blk++(L++[x]).flatMap bA.gu),g≠n3:=by
  intro g Rc e;subst e;simp only [List.mem_append,List.flatMap_append] at Rc
  rcases Rc with h1 | h1 | h1 | h1
  ·exact s.ne g (by simp [h1]) rfl
  ·rcases hb g h1 with h2 | h2
   ·exact s.ne g (by simp [h2]) rfl
   ·omega
  ·exact s.ne g (by simp only [List.mem_append];exact .inr (.inr h1)) rfl
  ·have:=(hx.lt g (by simpa using h1)).1;omega
 have k5:Kb (fun g=>g=n3) w5 (w5.setCell ⟨n3,1,none⟩ (.slice kq.a (k+1) kq.c)):=Kb.set _ _ _ _;have kg:Kb (fun g=>ht.v.ownBlock=some g) w4 w5:=Kb.cZ hg
 have EK:∀ g,ht.v.ownBlock=some g→w.heap.size+2≤g:=fun g h1=>(s.obj.tab.lt g h1).1
 refine ⟨k5.aJ (kg.aJ (s.aA.trans a4) (fun g Ep h1=>by have:=EK g h1;omega)) (fun g Ep e=>by omega),k5.row (kg.row (s.out.aA a4) (fun h1=>by have:=EK _ h1;omega)) (by omega),?_,ob.kb k5 (fun g Rc e=>hne g Rc e),hne,?_,zi,by simp [s.len]⟩
 ·have:=(kg.row (s.box.aA a4) (fun h1=>s.ne n3 (by simp [Hd.bj.2 h1]) rfl)).set 1 (.slice kq.a (k+1) kq.c) (by simp)
  exact this
 ·rw [List.map_append,s.is,List.take_succ_eq_append_getElem hk,← Ih];rfl
theorem Qq (o:bE) (As:Option Addr) (ax:Nat) (At:Option Addr) (aD:Nat) (w:World) (eJ:az w 2 eE As ax o.ae) (dH:az w 5 dE At aD o.tables) (hm:OW o) :
  Calls Tryz.prog 329 #[.agg #[.slice As o.ae.length ax,.slice At o.tables.length aD]] w (YG w o):=by
 obtain ⟨i0,hi,hz0,hz1,hz2⟩:=info_parts xH;have HI:=gH hi;have jG:=gH hz0;have jt:=gH hz1;have jX:=gH hz2;clear hi hz0 hz1 hz2;have hlen:=eJ.len;have iG:=dH.len;have C1:=gH (show ∀ w',ag w w'→_ from fun w' a=>uD As ax o.ae w w' a eJ hm.1)
 have l1:w.heap.size < w.heap.size+1:=by omega
 have l2:w.heap.size < w.heap.size+1+1:=by omega
 go_in
 go_wp2_with fail;refine (C1.out _ (((ag.refl w).alloc _).alloc _)).mono ?_;rintro e w1 ⟨v1,TV,rfl,a1,jP,NB⟩;have r1:ai w1 w.heap.size [.slice As o.ae.length ax,.slice At o.tables.length aD]:=(aN (ag.refl _)).aA (((ag.refl _).alloc _).trans a1)
 have r2:ai w1 (w.heap.size+1) [.slice none 0 0,.slice none 0 0]:=by
  have:=(aN (w:=w.alloc (.cells #[.slice As o.ae.length ax,.slice At o.tables.length aD] 25)) (c:=[.slice none 0 0,.slice none 0 0]) (t:=25) (ag.refl _)).aA a1
  simpa using this
 have dc:=gH ((((ag.refl w).alloc _).alloc _).trans a1);obtain ⟨Ac,cc,nC⟩:=dV jP;subst nC;rw [uE NB] at jP;have jP:w1.ownsRow (w.heap.size+2) 109 2 (Hd.mk Ac o.ae.length cc).v o.ae.length (o.ae.flatMap iO):=bM jP (by simp)
 have hz1:w.heap.size+2≤w1.heap.size:=by have:=a1.size;simp at this;omega
 have z0:w.heap.size < w1.heap.size+1:=by omega
 have b1:=r1.cell (j:=1) rfl;have zz:=r1.1;obtain ⟨W1,hW1⟩:∃ W1,W1=w1.alloc (.cells #[.slice Ac o.ae.length cc,.slice none 0 0] 25):=⟨_,rfl⟩
 have JY:ag w1 W1:=by rw [hW1];exact (ag.refl _).alloc _
 have U8:Jn w W1 o w1.heap.size ⟨Ac,o.ae.length,cc⟩ ⟨none,0,0⟩ [] 0:=by
  have Dz:=cA jP JY;refine ⟨dc.out.trans JY,r2.aA JY,?_,⟨Dz,cO _ _ _ _,fun x hx=>by simp at hx,by simpa [im] using eV _⟩,fun g hg=>?_,rfl,hz1,rfl⟩
  ·rw [hW1];exact aN (c:=[.slice Ac o.ae.length cc,.slice none 0 0]) (ag.refl _)
  ·have yq:g∈(Hd.mk Ac o.ae.length cc).blk:=by simpa [im] using hg
   have:=(fG jP g yq).2;omega
 have Lj:=gH U8;have HT:=gH dH;have HM:=gH hm;have q1:=JY.cell_kept b1;have qz:w.heap.size < W1.heap.size:=Nat.lt_of_lt_of_le zz JY.size;clear jP NB a1 r1 r2 U8 dH eJ hm C1;go_wp2_with fail;rw [← hW1];obtain ⟨n3,zi⟩:∃ n,n=w1.heap.size:=⟨_,rfl⟩;rw [← zi] at Lj ⊢;clear hW1 zi b1 zz z0 hz1 q1 qz JY dc
 go_loopw [13] (fun i wr=>∃ (k:Nat) (ht:Hd) (L:List bA),k≤o.tables.length∧i=.int .i64 k∧Jn w wr o n3 ⟨Ac,o.ae.length,cc⟩ ht L k) (fun i _=>o.tables.length - (intOf i).toNat)
 case atStart=>exact ⟨0,_,[],Nat.zero_le _,rfl,Lj.out⟩
 case round =>
  clear Lj;obtain ⟨k,ht,L,hk,rfl,hs⟩:=hrel;have HS:=gH hs;have z3:=hs.box.1;have k1:=hs.box.cell (j:=1) rfl;have f1:=hs.box.2.2 1 (by simp);by_cases hlt:k < o.tables.length
  ·obtain ⟨b,off,A2,bJ,A3,fC,rfl,hb,t0,t1,t2,t3,t4,d9,kK,tv⟩:=iB (bC hs.aA HT.out) hlt
   obtain ⟨p,jY⟩:∃ p,o.tables[k]=p:=⟨_,rfl⟩;rw [jY] at t0 t1 t2 t3 t4 d9 kK tv;have FJ:=gH jY;have C:=gH (show ∀ w',ag wr w'→_ from fun w' a=>vn p A2 bJ A3 fC w' (dF a d9) (fM a kK) (by have:=HM.out.2.2 p (by rw [← jY];exact List.getElem_mem hlt);exact this))
   have zh:w.heap.size+2≤wr.heap.size:=by have:=hs.n3;omega
   obtain ⟨JV,nt,ct⟩:=ht;have dH:=hs.obj.tab;rw [hs.len] at dH;have hnt:nt=k:=mq dH;subst hnt;have hown:wr.ownsRow (w.heap.size+2) 80 5 (.slice JV nt ct) nt (L.flatMap bA.cells):=dH;have Bp:=gH hown
   have Qr:(Value.slice JV nt ct).ownBlock≠some n3:=fun e=>hs.ne n3 (by simp only [List.mem_append];exact .inr (.inl (Hd.bj.2 e))) rfl
   have HB:=gH hs.box;clear hs dH hown jY d9 kK;obtain ⟨W,hW⟩:∃ W,W=wr.alloc (.cells #[.string p.af,.string p.name,.string p.owner,.slice A2 p.au.length bJ,.slice A3 p.rules.length fC] 80):=⟨_,rfl⟩
   have zr3:n3 < wr.heap.size+1:=by omega
   have aW:ag wr W:=by rw [hW];exact (ag.refl _).alloc _
   have rW:ai W wr.heap.size [.string p.af,.string p.name,.string p.owner,.slice A2 p.au.length bJ,.slice A3 p.rules.length fC]:=by rw [hW];exact aN (ag.refl _)
   have KF:=gH (show ∀ w',Kb (fun g=>(Value.slice JV nt ct).ownBlock=some g) W w'→(w'.cell? ⟨n3,1,none⟩=some (.slice JV nt ct)∧w'.cell? ⟨wr.heap.size,0,none⟩=some (.string p.af)∧w'.cell? ⟨wr.heap.size,1,none⟩=some (.string p.name)∧w'.cell? ⟨wr.heap.size,2,none⟩=some (.string p.owner)∧w'.cell? ⟨wr.heap.size,3,none⟩=some (.slice A2 p.au.length bJ)∧w'.cell? ⟨wr.heap.size,4,none⟩=some (.slice A3 p.rules.length fC)∧w'.frozen? ⟨n3,1,none⟩=false∧n3 < w'.heap.size) from fun w' kb=>by
    have Y5:¬ (Value.slice JV nt ct).ownBlock=some wr.heap.size:=fun e=>by have:=(Bp.out.lt _ e).2;omega
    have r':=kb.row rW Y5;have r3:=kb.row (HB.out.aA aW) Qr
    exact ⟨kb.cell (aW.cell_kept k1) Qr,r'.cell (j:=0) rfl,r'.cell (j:=1) rfl,r'.cell (j:=2) rfl,r'.cell (j:=3) rfl,r'.cell (j:=4) rfl,r3.2.2 1 (by simp),r3.1⟩)
   have cu:=gH aW
   have h63:nt+1≤maxLen:=by unfold maxLen;omega
   have hby:(nt+1)*96≤140737488355328:=by have:=HM.out.2.1;omega
   have wz:n3 < W.heap.size:=Nat.lt_of_lt_of_le z3 aW.size;clear Qr rW aW;go_wp2_with fail;rw [← hW];clear hW;obtain ⟨q1,q2,q3,q4,q5,q6,q7,q8⟩:=KF.out _ (Kb.refl _ _)
   go_region_law ((first | (go_simp;go_at_call 113;refine (C.out _ cu.out.drew).mono ?_;rintro e w4 ⟨x,Ih,rfl,a4,Ik,Ll⟩;have a5:ag W w4:=(ag.refl _).drew.trans a4;obtain ⟨p1,p2,p3,p4,p5,p6,p7,p8⟩:=KF.out w4 (Kb.aO a5);dsimp only) | (refine step_append_lies _ (by rfl) _ _ _ (by rfl) (w.heap.size+2) 80 i0 _ 5 96 Tryz.underlying23 HI.out jG.out jt.out jX.out rfl (by omega) (.slice JV nt ct) nt (L.flatMap bA.cells) (by rfl) ((cA Bp.out (cu.out.trans a5)).alloc _) ⟨w4.heap.size,0,none⟩ 1 1 [.string p.af,.string p.name,.string p.owner,.slice x.hc.a p.au.length x.hc.c,.slice x.hr.a p.rules.length x.hr.c] (by rfl) (by rfl) (World.news_of_block (cs:=#[.string p.af,.string p.name,.string p.owner,.slice x.hc.a p.au.length x.hc.c,.slice x.hr.a p.rules.length x.hr.c]) (t:=80) (fr:=(0,0)) (heap_alloc_new w4 _)) (by simp [Value.oneCell']) (by omega) h63 hby (by simp;have:=(cu.out.trans a5).size;omega) (w4.heap.size+1) (by simp) ?_;intro gg cap' w5 jz hgrow hat Ep;obtain ⟨s1,s2,s3,s4,s5,s6,s7,s8⟩:=KF.out _ ((Kb.aO (a5.alloc _)).trans (Kb.cZ hgrow)))))
   all_goals
    have vX:=gH (HS.out.step (kq:=⟨some ⟨gg,0,none⟩,nt+1,cap'⟩) (x:=x) hlt (by rw [Ih,FJ.out]) ((cu.out.trans a5).alloc _) ((Ik.down (by show wr.heap.size≤W.heap.size;exact cu.out.size)).aA ((ag.refl _).alloc _)) Ll hgrow (by rw [bA.Jm Ik Ih];exact jz)
     (fun g hg=>by
      rw [fP,List.mem_singleton] at hg;subst hg
      rcases hat with h1 | h1
      ·exact .inl (Hd.bj.2 h1)
      ·refine .inr ?_
       simp
       omega)
     (fun g hg hx=>by
      rw [fP,List.mem_singleton] at hg;subst hg;have h2:=Ik.lt _ hx;have h3:=cu.out.size;have h4:W.heap.size≤g:=h2.1
      rcases hat with h1 | h1
      ·have:=(Bp.out.lt _ h1).2
       omega
      ·omega))
    clear Ik Ll jz hgrow hat Ep a5 a4 Ih q1 q2 q3 q4 q5 q6 q7 q8 p1 p2 p3 p4 p5 p6 p7 p8 s1 s2 s3 s4 s5 s6 s7 s8;go_wp2
    go_roundw
    case rel=>exact ⟨nt+1,_,_,by omega,by go_num,vX.out⟩
    case measure=>simp [intOf];omega
  ·have c0:=hs.box.cell (j:=0) rfl
   have d0:=hs.out.cell (j:=0) rfl;have d1:=hs.out.cell (j:=1) rfl;have e0:=hs.out.2.2 0 (by simp);have e1:=hs.out.2.2 1 (by simp);have dz:=hs.out.1;clear hs;go_wp2_with fail
   (try simp only [Exit.inBlock,Exit.then])
   have hs:=HS.out;obtain ⟨F,hF⟩:∃ F,F=(wr.setCell ⟨w.heap.size+1,0,none⟩ (.slice Ac o.ae.length cc)).setCell ⟨w.heap.size+1,1,none⟩ (.slice ht.a k ht.c):=⟨_,rfl⟩
   have kF:Kb (fun x=>x=w.heap.size+1) wr F:=by
    rw [hF];exact (Kb.set _ _ _ _).trans (Kb.set _ _ _ _)
   have rF:ai F (w.heap.size+1) [.slice Ac o.ae.length cc,.slice ht.a k ht.c]:=by
    rw [hF];exact (hs.out.set 0 _ (by simp)).set 1 _ (by simp)
   rw [← hF];refine bodyPost_ret (bB (v:=.agg #[.slice Ac o.ae.length cc,.slice ht.a k ht.c]) rfl _ rfl ?hl) rfl ?_
   case hl=>exact gY rF
   have Lm:k=o.tables.length:=by omega
   subst Lm;have xi:=hs.is;rw [List.take_of_length_le (Nat.le_refl _)] at xi;refine ⟨⟨Ac,o.ae.length,cc⟩,ht,L,xi,rfl,kF.aJ hs.aA (fun x hx e=>by omega),?_⟩;refine dw.down (hs.obj.kb kF fun g hg e=>?_) (by omega);have:=(hs.obj.lt g hg).1;omega
def BW (_:World) (cs:List Value) (n:Int):Prop:=cs=[.int .i64 n]
theorem yQ {w w':World} {A:Option Addr} {cap:Nat} {l:List Int} (hw:ag w w') (h:az w 1 BW A cap l):az w' 1 BW A cap l:=h.aA hw fun _ _ h=>h
theorem Jo {w:World} {A:Option Addr} {cap:Nat} {l:List Int} (h:az w 1 BW A cap l) {k:Nat} (hk:k < l.length) :
  ∃ b off,A=some ⟨b,off,none⟩∧b < w.heap.size∧w.cell? ⟨b,off+k,none⟩=some (.int .i64 l[k]):=by
 obtain ⟨b,off,cs,hA,hb,hl,rfl,hc⟩:=h.2.2 k hk;refine ⟨b,off,hA,hb,?_⟩;have:=hc 0 (by omega)
 simpa using this
theorem yR {w:World} {base:Nat} {e:TypeId} {v:Value} {l:List Int} (h:w.ownsRow base e 1 v l.length (l.map (Value.int .i64))) (hs:Small (l.length*16)):∃ A cap,v=.slice A l.length cap∧az w 1 BW A cap l:=by
 refine wM (base:=base) (e:=e) (fun n=>[Value.int .i64 n]) BW (fun _=>rfl) ?_ (fun _ _=>rfl) hs
 have e1:l.flatMap (fun n=>[Value.int .i64 n])=l.map (Value.int .i64):=by
  clear h hs
  induction l with
  | nil=>rfl
  | cons x l ih=>simp [List.flatMap_cons,ih]
 rw [e1];exact h
theorem Jp {α:Type} (l l2:List α) (k:Nat) (h:k < l.length) (h2:k < l2.length) (hn:¬ l[k]=l2[k]):¬ l=l2:=by
 intro e;subst e;exact hn rfl
theorem Fo {α:Type} (l l2:List α) (hl:l.length=l2.length) (hp:∀ k (h:k < l.length) (h2:k < l2.length),l[k]=l2[k]):l=l2:=List.ext_getElem hl hp
theorem Mo (A:Option Addr) (cap:Nat) (l:List Int) (A2:Option Addr) (bJ:Nat) (l2:List Int) (w:World) (h:az w 1 BW A cap l) (h2:az w 1 BW A2 bJ l2) :
  Calls Tryz.prog 328 #[.slice A l.length cap,.slice A2 l2.length bJ] w fun e w'=>e=.returned (.bool (decide (l=l2)))∧ag w w':=by
 have hlen:=h.len;have iG:=h2.len;by_cases hl:l.length=l2.length
 ·have e1:((l.length:Int) != (l2.length:Int))=false:=by simp [hl]
  go_in
  go_wp2_with fail
  go_loopw [13] (fun i wr=>∃ k:Nat,k≤l.length∧i=.int .i64 k∧ag w wr∧∀ j,j < k→∀ (hj:j < l.length) (qp:j < l2.length),l[j]=l2[j]) (fun i _=>l.length - (intOf i).toNat)
  case atStart=>exact ⟨0,Nat.zero_le _,rfl,ag.refl _,fun j hj=>absurd hj (Nat.not_lt_zero j)⟩
  case round =>
   obtain ⟨k,hk,rfl,ha,hp⟩:=hrel;have HA:=gH ha;have HP:=gH hp;clear hp;by_cases hlt:k < l.length
   ·have mg:k < l2.length:=by omega
    obtain ⟨b,off,rfl,hb,c0⟩:=Jo (yQ ha h) hlt;obtain ⟨b2,Jh,rfl,hb2,d0⟩:=Jo (yQ ha h2) mg;clear ha
    cases heq:(l[k] != l2[k])
    ·have HN:=gH (dG (p:=fun j=>∀ (hj:j < l.length) (qp:j < l2.length),l[j]=l2[j]) HP.out (fun _ _=>by simpa using heq))
     go_wp2_with fail;refine ay (by kernel_rfl) (by kernel_rfl) ?_
     repeat (go_big_quiet_step (fail))
     refine wpQuiet_nil ?_;intro _ hw';obtain ⟨x,hw''⟩:=hw';subst hw'';go_wp2
     go_roundw
     case rel=>exact ⟨k+1,by omega,by go_num,HA.out.bV x,HN.out⟩
     case measure=>simp [intOf];omega
    ·have HN:=gH (show ¬ l=l2 from Jp l l2 k hlt mg (by simpa using heq))
     go_wp2_with fail;refine ay (by kernel_rfl) (by kernel_rfl) ?_
     repeat (go_big_quiet_step (fail))
     refine wpQuiet_nil ?_;intro _ hw';obtain ⟨x,hw''⟩:=hw';subst hw'';go_wp2;go_ret;exact ⟨by rw [decide_eq_false HN.out];rfl,HA.out.bV x⟩
   ·have HN:=gH (show l=l2 from Fo l l2 hl fun j hj qp=>HP.out j (by omega) hj qp)
    clear ha;go_wp2;go_ret;exact ⟨by rw [decide_eq_true HN.out];rfl,HA.out⟩
 ·have e1:((l.length:Int) != (l2.length:Int))=true:=by simp;omega
  have HN:=gH (show ¬ l=l2 from fun e=>hl (by rw [e]))
  go_in
  go_wp2;go_ret;exact ⟨by rw [decide_eq_false HN.out];rfl,ag.refl _⟩
theorem Small.mono {m n:Nat} (h:Small n) (hm:m≤n):Small m:=Nat.le_trans hm h
theorem pP {l:List dY} {cs:List ByteArray} (h:Small (cs.length*16)):Small ((bX l cs).length*16):=h.mono (Nat.mul_le_mul_right _ (jk l cs))
theorem Fp {ts:List bW} {l:List dY} {r:fh} (h:bt ts r.af r.table < 0):mn ts l r=61:=by
 unfold mn;split<;>simp [h]
theorem Fq {ts:List bW} {l:List dY} {r:fh} {q:Nat} (h:bt ts r.af r.table=q) (hq:q < ts.length):mn ts l r=nU ts[q] l r:=by
 unfold mn;rw [h];simp [List.getElem?_eq_getElem hq];omega
theorem Fr {t:bW} {l:List dY} {r:fh} (h:fz t.rules r.key < 0):nU t l r=61:=by
 unfold nU;split<;>simp [h]
theorem Fs {t:bW} {l:List dY} {r:fh} {q:Nat} (h:fz t.rules r.key=q) (hq:q < t.rules.length):nU t l r=if t.rules[q].kind==2 then (if en l t.au r.au t.rules[q].au then 0 else 63) else 61:=by
 have h0:¬ ((q:Int) < 0):=by omega
 unfold nU;rw [h];simp [List.getElem?_eq_getElem hq,h0]
theorem ag.pu {w w':World} (h:ag w w') {a:Addr} {v:Value} (hc:w.cell? a=some v):w'.cell? a=some v:=(Below.cell h (World.block_lt_of_cell? w a hc)).trans hc
theorem Jq {W w w':World} {a b:Addr} {u v:Value} (hS:ag W w∧w.cell? a=some u∧w.cell? b=some v) (h:ag w w'):ag W w'∧w'.cell? a=some u∧w'.cell? b=some v :=
 ⟨hS.1.trans h,h.pu hS.2.1,h.pu hS.2.2⟩
theorem Mp (vs:Value) (At:Option Addr) (aD:Nat) (ts:List bW) (A:Option Addr) (cap:Nat) (l:List dY) (r:fh) (A2:Option Addr) (bJ:Nat) (w:World) (ht:az w 5 dE At aD ts) (h:az w 3 fL A cap l) (h2:az w 1 dC A2 bJ r.au) :
  Calls Tryz.prog 250 #[.agg #[vs,.slice At ts.length aD],.slice A l.length cap,.agg #[.string r.name,.int .i64 r.kind,.slice A2 r.au.length bJ,.int .i64 r.low,.int .i64 r.high,.string r.af,.string r.table,.string r.key]] w
   fun e w'=>e=.returned (.int .i64 (mn ts l r))∧ag w w':=by
 obtain ⟨i,hi⟩:∃ i,bt ts r.af r.table=i:=⟨_,rfl⟩;have hlen:=ht.len;have iG:=h2.len
 have Cw:=gH (show ∀ w',ag w w'→Calls Tryz.prog 112 #[.agg #[vs,.slice At ts.length aD],.string r.af,.string r.table] w' fun e w''=>e=.returned (.tuple #[.int .i64 i,.bool (decide (0≤i))])∧ag w' w'' from
  fun w' a=>(vk vs At aD ts r.af r.table w' (bC a ht)).mono fun e w'' ⟨he,hw⟩=>⟨he.trans (by rw [← hi]),hw⟩)
 by_cases mL:0≤i
 ·obtain ⟨q,rfl⟩:=Int.eq_ofNat_of_zero_le mL
  have pC:q < ts.length:=by have:=(aT (fun t=>aS t.af r.af&&aS t.name r.table) ts).2;unfold bt at hi;omega
  have HE:=gH (Fq (l:=l) hi pC);have dq:decide (0≤(q:Int))=true:=decide_eq_true mL;rw [HE.out];clear HE hi
  go_in
  go_wp2_with fail;refine (Cw.out _ (((ag.refl w).alloc _).alloc _)).mono ?_;rintro e w1 ⟨rfl,a1⟩;obtain ⟨NU,hbr,hz,HA⟩:=i6 a1;have ht1:=bC HA.out ht;clear a1 Cw;obtain ⟨b,off,B2,tW,B3,tX,rfl,hb,c0,c1,c2,c3,c4,d9,gX,tv⟩:=iB ht1 pC;obtain ⟨t,OZ⟩:∃ t,ts[q]=t:=⟨_,rfl⟩;rw [OZ] at c0 c1 c2 c3 c4 d9 gX tv;have HT:=gH OZ;clear OZ;have Te:=gX.len;obtain ⟨k,hk⟩:∃ k,fz t.rules r.key=k:=⟨_,rfl⟩
  have Cb:=gH (show ∀ w',ag w1 w'→Calls Tryz.prog 293 #[.slice B3 t.rules.length tX,.string r.key,.func (.func 294) #[] #[]] w' fun e w''=>e=.returned (.int .i64 k)∧ag w' w'' from
   fun w' a=>(U1 B3 tX t.rules r.key w' (fM a gX)).mono fun e w'' ⟨he,hw⟩=>⟨he.trans (by rw [← hk];rfl),hw⟩)
  clear ht1;go_wp2_with fail;refine (Cb.out _ ((ag.refl w1).alloc _)).mono ?_;rintro e w2 ⟨rfl,a2⟩;obtain ⟨NV,hft,hzt,aao,i5⟩:=cT a2;have Jr:=gH (HA.out.trans i5.out)
  have Y6:∀ o,w2.cell? ⟨w.heap.size+1,o,none⟩=_:=fun o=>(Below.cell i5.out (p:=⟨w.heap.size+1,o,none⟩) hz.2).trans (hbr o)
  have hz2:w.heap.size+1 < w2.heap.size:=Nat.lt_of_lt_of_le hz.2 i5.out.size;have DA:=fM i5.out gX;have Y7:=dF i5.out d9;have h02:=dF Jr.out h;have Y8:=aU Jr.out h2;clear a2 Cb NU hbr c0 c1 c2 c3 c4 gX d9;by_cases Ho:0≤k
  ·obtain ⟨m,rfl⟩:=Int.eq_ofNat_of_zero_le Ho
   have JS:m < t.rules.length:=by have:=(aT (fun c=>aS c.name r.key) t.rules).2;unfold fz at hk;omega
   have HE:=gH (Fs (l:=l) hk JS);clear hk;obtain ⟨b3,Xh,D2,tY,rfl,hb3,e0,e1,e2,e3,e4,e5,e6,e7,hcs,Tg⟩:=mQ DA JS;obtain ⟨p,hp⟩:∃ p,t.rules[m]=p:=⟨_,rfl⟩;rw [hp] at e0 e1 e2 e3 e4 e5 e6 e7 hcs Tg;have HP:=gH hp;clear hp DA
   cases hk2:(p.kind != 2)
   ·have HV:=gH (show nU ts[q] l r=if en l t.au r.au p.au then 0 else 63 by
     have hk3:(p.kind==2)=true:=by simpa using hk2
     rw [HT.out,HE.out,HP.out,if_pos hk3])
    clear HE HT HP;have Tf:=hcs.len;go_wp2_with fail;have q1:w2.cell? ⟨w.heap.size+1,2,none⟩=some (.slice A2 r.au.length bJ):=Y6 2;have q2:w2.cell? ⟨w1.heap.size,3,none⟩=some (.slice B2 t.au.length tW):=NV 3
    go_region_held3 (fun w'=>ag w2 w'∧w'.cell? ⟨w.heap.size+1,2,none⟩=some (.slice A2 r.au.length bJ)∧w'.cell? ⟨w1.heap.size,3,none⟩=some (.slice B2 t.au.length tW))
     (first | exact ⟨(ag.refl _).drew,q1,q2⟩ | exact Jq (by assumption) (by assumption))
     ((go_at_call 327;refine (Fk _ _ _ _ _ _ _ (dF (And.left (by assumption:ag w2 _∧_)) (by assumption)) (aU (And.left (by assumption:ag w2 _∧_)) (by assumption))).mono ?_;rintro e w4 ⟨v4,rfl,od,a4⟩;try have Y9:=cA (by assumption) a4))
    all_goals
     have zk:=gH (Jr.out.trans (And.left (by assumption:ag w2 w4∧_)));have aap:w4.cell? ⟨w.heap.size+1,2,none⟩=some (.slice A2 r.au.length bJ):=(And.left (by assumption:ag w2 w4∧_)).pu q1;obtain ⟨G3,fC,e3,hs3⟩:=yR (w:=w4) (l:=bX l r.au) (by assumption) (pP Y8.2.1);obtain ⟨G4,PY,e4,hs4⟩:=yR (w:=w4) (l:=bX t.au p.au) (by assumption) (pP hcs.2.1);subst e3;subst e4;have Ce:=gH (Mo G3 fC (bX l r.au) G4 PY (bX t.au p.au) w4 hs3 hs4);have HC:=gH (oA l t.au r.au p.au);have pY:=jk t.au p.au;obtain ⟨bq,hbq⟩:∃ b,decide (bX l r.au=bX t.au p.au)=b:=⟨_,rfl⟩;rw [hbq] at Ce HC;clear Y9 od a4 hs3 hs4 hbq;by_cases d1:p.au.length=r.au.length
     ·have f1:((p.au.length:Int) != (r.au.length:Int))=false:=by simp [d1]
      by_cases d2:(bX t.au p.au).length=p.au.length
      ·have f2:(((bX t.au p.au).length:Int) != (p.au.length:Int))=false:=by simp [d2]
       have HR:=gH (show nU ts[q] l r=if bq then 0 else 63 by rw [HV.out,HC.out];simp [d1,d2]);clear HV HC d1 d2
       cases bq
       all_goals
        go_wp2_with fail;refine Ce.out.mono ?_;rintro e w5 ⟨rfl,a5⟩;have PG:=gH (zk.out.trans a5);clear a5;go_wp2;go_ret;exact ⟨by rw [HR.out];rfl,PG.out⟩
      ·have f2:(((bX t.au p.au).length:Int) != (p.au.length:Int))=true:=by simp;omega
       have HR:=gH (show nU ts[q] l r=63 by rw [HV.out,HC.out];simp [d2]);clear HV HC d1 d2;go_wp2;go_ret;exact ⟨by rw [HR.out];rfl,zk.out⟩
     ·have f1:((p.au.length:Int) != (r.au.length:Int))=true:=by simp;omega
      have HR:=gH (show nU ts[q] l r=63 by rw [HV.out,HC.out];simp [d1]);clear HV HC d1;go_wp2;go_ret;exact ⟨by rw [HR.out];rfl,zk.out⟩
   ·have HV:=gH (show nU ts[q] l r=61 by
     have hk3:¬ ((p.kind==2)=true):=by simpa using hk2
     rw [HT.out,HE.out,HP.out,if_neg hk3])
    go_wp2;go_ret;exact ⟨by rw [HV.out];rfl,Jr.out⟩
  ·have mS:k < 0:=by omega
   have HE:=gH (Fr (l:=l) (by rw [hk];exact mS):nU t l r=61);clear hk;go_wp2;go_ret;exact ⟨by rw [HT.out,HE.out];rfl,Jr.out⟩
 ·have sU:i < 0:=by omega
  have dq:decide (0≤i)=false:=decide_eq_false mL;have HE:=gH (Fp (l:=l) (by rw [hi];exact sU):mn ts l r=61);rw [HE.out];clear HE hi
  go_in
  go_wp2_with fail;refine (Cw.out _ (((ag.refl w).alloc _).alloc _)).mono ?_;rintro e w1 ⟨rfl,a1⟩;have HA:=gH ((((ag.refl w).alloc _).alloc _).trans a1);clear a1;go_wp2;go_ret;exact ⟨rfl,HA.out⟩
theorem BX (n1:ByteArray) (k1:Int) (A1:Option Addr) (m1 c1:Nat) (lo1 sU:Int) (s1 t1 y1:ByteArray) (n2:ByteArray) (k2:Int) (A2:Option Addr) (m2 c2:Nat) (lo2 qs:Int) (s2 t2 y2:ByteArray) (w:World) :
  Calls Tryz.prog 252 #[.agg #[.string n1,.int .i64 k1,.slice A1 m1 c1,.int .i64 lo1,.int .i64 sU,.string s1,.string t1,.string y1],.agg #[.string n2,.int .i64 k2,.slice A2 m2 c2,.int .i64 lo2,.int .i64 qs,.string s2,.string t2,.string y2]] w fun e w'=>e=.returned (.int .i64 (bv n1 n2))∧ag w w':=by
 go_in
 go_wp2_with fail;refine (iu _ _ _).mono ?_;rintro e w1 ⟨rfl,rfl⟩;go_wp2;go_ret;exact ⟨rfl,((ag.refl w).alloc _).alloc _⟩
theorem BZ (n1 o1 n2 o2:ByteArray) (w:World) :
  Calls Tryz.prog 181 #[.agg #[.string n1,.string o1],.agg #[.string n2,.string o2]] w fun e w'=>e=.returned (.int .i64 (bv n1 n2))∧ag w w':=by
 go_in
 go_wp2_with fail;refine (iu _ _ _).mono ?_;rintro e w1 ⟨rfl,rfl⟩;go_wp2;go_ret;exact ⟨rfl,((ag.refl w).alloc _).alloc _⟩
theorem Fu (A:Option Addr) (cap:Nat) (l:List fh) (w:World) (h:az w 8 eG A cap l) :
  Calls Tryz.prog 251 #[.slice A l.length cap,.func (.func 252) #[] #[]] w fun e w'=>e=.returned (.bool (aM (fun a b=>bv a.name b.name) l))∧ag w w' :=
 I8 A cap l 252 #[] (fun a b=>bv a.name b.name) w h (enters (P:=Tryz.prog) Tryz.func252 (by kernel_rfl) rfl) fun w' ha i hi e1 e2 h1 h2=>by
  obtain ⟨A1,c1,rfl,_⟩:=h1;obtain ⟨A2,c2,rfl,_⟩:=h2;exact BX _ _ _ _ _ _ _ _ _ _ _ _ _ _ _ _ _ _ _ _ w'
theorem Js (A:Option Addr) (cap:Nat) (l:List fK) (w:World) (h:az w 2 eE A cap l) :
  Calls Tryz.prog 180 #[.slice A l.length cap,.func (.func 181) #[] #[]] w fun e w'=>e=.returned (.bool (aM (fun a b=>bv a.name b.name) l))∧ag w w' :=
 I6 A cap l 181 #[] (fun a b=>bv a.name b.name) w h (enters (P:=Tryz.prog) Tryz.func181 (by kernel_rfl) rfl) fun w' ha i hi=>BZ _ _ _ _ w'
theorem Jt (A:Option Addr) (cap:Nat) (l:List bW) (w:World) (h:az w 5 dE A cap l) :
  Calls Tryz.prog 178 #[.slice A l.length cap,.func (.func 179) #[] #[]] w fun e w'=>e=.returned (.bool (aM (fun a b=>iR (bv a.af b.af) (bv a.name b.name)) l))∧ag w w' :=
 Ja A cap l 179 #[] (fun a b=>iR (bv a.af b.af) (bv a.name b.name)) w h (enters (P:=Tryz.prog) Tryz.func179 (by kernel_rfl) rfl) fun w' ha i hi e1 e2 h1 h2=>by
  obtain ⟨A1,c1,B1,d1,rfl,_⟩:=h1;obtain ⟨A2,c2,B2,d2,rfl,_⟩:=h2;exact Fa _ _ _ _ _ _ _ _ _ _ w'
theorem Fv (o:bE) (t:bW) (As:Option Addr) (ax:Nat) (At:Option Addr) (aD:Nat) (A:Option Addr) (cap:Nat) (A2:Option Addr) (bJ:Nat) (w:World) (eJ:az w 2 eE As ax o.ae) (dH:az w 5 dE At aD o.tables)
  (h:az w 3 fL A cap t.au) (h2:az w 8 eG A2 bJ t.rules) (hn:Small t.name.size) (ho:Small t.owner.size) :
  Calls Tryz.prog 184 #[.agg #[.slice As o.ae.length ax,.slice At o.tables.length aD],.agg #[.string t.af,.string t.name,.string t.owner,.slice A t.au.length cap,.slice A2 t.rules.length bJ]] w
   fun e w'=>e=.returned (.bool (cU o t))∧ag w w':=by
 have iG:=h2.len
 cases hN:bG t.name
 ·have HF:=gH (show cU o t=false by simp [cU,hN])
  go_in
  go_wp2_with (go_at_call 107;refine (bZ _ _ (by first | exact hn.max | exact ho.max)).mono ?_;rintro e w' ⟨rfl,rfl⟩)
  go_ret;exact ⟨by rw [HF.out];rfl,((ag.refl _).alloc _).alloc _⟩
 cases hO:bG t.owner
 ·have HF:=gH (show cU o t=false by simp [cU,hO])
  go_in
  go_wp2_with (go_at_call 107;refine (bZ _ _ (by first | exact hn.max | exact ho.max)).mono ?_;rintro e w' ⟨rfl,rfl⟩)
  go_ret;exact ⟨by rw [HF.out];rfl,((ag.refl _).alloc _).alloc _⟩
 have kJ:=gH (show cU o t=(fl t.au&&decide (t.rules.length≤8)&&decide (0≤bY o.ae t.af)&&(t.rules.all (gZ o.tables t.au)&&aM (fun a b=>bv a.name b.name) t.rules)) by simp [cU,hN,hO]);obtain ⟨m,hm⟩:∃ m,fl t.au=m:=⟨_,rfl⟩;rw [hm] at kJ
 have Cm:=gH (show ∀ w',ag w w'→Calls Tryz.prog 246 #[.slice A t.au.length cap] w' fun e w''=>e=.returned (.bool m)∧ag w' w'' from
  fun w' a=>(yN A cap t.au w' (dF a h)).mono fun e w'' ⟨he,hw⟩=>⟨he.trans (by rw [← hm]),hw⟩)
 clear hm
 go_in
 go_wp2_with (go_at_call 107;refine (bZ _ _ (by first | exact hn.max | exact ho.max)).mono ?_;rintro e w' ⟨rfl,rfl⟩)
 refine (Cm.out _ (((ag.refl w).alloc _).alloc _)).mono ?_;rintro e w1 ⟨rfl,a1⟩;obtain ⟨NU,NV,hz,HA⟩:=i6 a1;have mJ:=gH a1;clear a1 Cm
 cases m
 ·have HF:=gH (show cU o t=false by rw [kJ.out];rfl)
  go_wp2;go_ret;exact ⟨by rw [HF.out];rfl,HA.out⟩
 by_cases h8:8 < t.rules.length
 ·have HF:=gH (show cU o t=false by rw [kJ.out,decide_eq_false (by omega)];rfl)
  have Wm:(8:Int) < (t.rules.length:Int):=by omega
  go_wp2;go_ret;exact ⟨by rw [HF.out];rfl,HA.out⟩
 have Wm:(t.rules.length:Int)≤8:=by omega
 have d8:decide ((8:Int) < (t.rules.length:Int))=false:=decide_eq_false (by omega);have ze:=gH (show cU o t=(decide (0≤bY o.ae t.af)&&(t.rules.all (gZ o.tables t.au)&&aM (fun a b=>bv a.name b.name) t.rules)) by rw [kJ.out,decide_eq_true (show t.rules.length≤8 by omega)];rfl);clear kJ;obtain ⟨i,hi⟩:∃ i,bY o.ae t.af=i:=⟨_,rfl⟩;rw [hi] at ze
 have Cs:=gH (show ∀ w',ag w w'→Calls Tryz.prog 247 #[.slice As o.ae.length ax,.string t.af,.func (.func 248) #[] #[]] w' fun e w''=>e=.returned (.int .i64 i)∧ag w' w'' from
  fun w' a=>(GQ As ax o.ae t.af w' (bQ a eJ)).mono fun e w'' ⟨he,hw⟩=>⟨he.trans (by rw [← hi];rfl),hw⟩)
 clear hi;go_wp2_with fail;refine (Cs.out _ HA.out).mono ?_;rintro e w2 ⟨rfl,a2⟩;have yS:=gH (mJ.out.trans a2);clear a2 Cs HA mJ NU NV hz;obtain ⟨NU,NV,hz,HA⟩:=i6 yS.out;by_cases mL:i < 0
 ·have HF:=gH (show cU o t=false by rw [ze.out,decide_eq_false (by omega)];rfl)
  go_wp2;go_ret;exact ⟨by rw [HF.out];rfl,HA.out⟩
 have sU:0≤i:=by omega
 have vK:=gH (show cU o t=(t.rules.all (gZ o.tables t.au)&&aM (fun a b=>bv a.name b.name) t.rules) by rw [ze.out,decide_eq_true sU];rfl);clear ze;go_wp2_with fail
 go_loopw [40] (fun i wr=>∃ k:Nat,k≤t.rules.length∧i=.int .i64 k∧ag ((w.alloc (.cells #[.slice As o.ae.length ax,.slice At o.tables.length aD] 25)).alloc (.cells #[.string t.af,.string t.name,.string t.owner,.slice A t.au.length cap,.slice A2 t.rules.length bJ] 80)) wr∧∀ j,j < k→∀ (hj:j < t.rules.length),gZ o.tables t.au t.rules[j]=true) (fun i _=>t.rules.length - (intOf i).toNat)
 case atStart=>exact ⟨0,Nat.zero_le _,rfl,yS.out,fun j hj=>absurd hj (Nat.not_lt_zero j)⟩
 case round =>
  clear NU NV hz HA yS;obtain ⟨k,hk,rfl,ha,hp⟩:=hrel;obtain ⟨NU,NV,hz,HA⟩:=i6 ha;have mJ:=gH ha;have HP:=gH hp;clear hp ha;by_cases hlt:k < t.rules.length
  ·have hr:=fM HA.out h2
   obtain ⟨b,off,D2,tY,rfl,hb,c0,c1,c2,c3,c4,c5,c6,c7,hcs,s0,s1,s2,s3⟩:=mQ hr hlt;obtain ⟨p,jY⟩:∃ p,t.rules[k]=p:=⟨_,rfl⟩;rw [jY] at c0 c1 c2 c3 c4 c5 c6 c7 hcs s0 s1 s2 s3;have FJ:=gH jY;obtain ⟨f,hf⟩:∃ f,dK t.au p=f:=⟨_,rfl⟩;obtain ⟨z,hz'⟩:∃ z,mn o.tables t.au p=z:=⟨_,rfl⟩;have HO:=gH (show gZ o.tables t.au t.rules[k]=(f&&!(p.kind==4&&z != 0)) by rw [jY];unfold gZ;rw [hf,hz'])
   have Cf:=gH (show ∀ w',ag wr w'→Calls Tryz.prog 249 #[.slice A t.au.length cap,.agg #[.string p.name,.int .i64 p.kind,.slice D2 p.au.length tY,.int .i64 p.low,.int .i64 p.high,.string p.af,.string p.table,.string p.key]] w' fun e w''=>e=.returned (.bool f)∧ag w' w'' from
    fun w' a=>(Jj A cap t.au p D2 tY w' (dF (HA.out.trans a) h) (aU a hcs) s0 s1 s2 s3).mono fun e w'' ⟨he,hw⟩=>⟨he.trans (by rw [← hf]),hw⟩)
   have Ck:=gH (show ∀ w',ag wr w'→Calls Tryz.prog 250 #[.agg #[.slice As o.ae.length ax,.slice At o.tables.length aD],.slice A t.au.length cap,.agg #[.string p.name,.int .i64 p.kind,.slice D2 p.au.length tY,.int .i64 p.low,.int .i64 p.high,.string p.af,.string p.table,.string p.key]] w' fun e w''=>e=.returned (.int .i64 z)∧ag w' w'' from
    fun w' a=>(Mp _ At aD o.tables A cap t.au p D2 tY w' (bC (HA.out.trans a) dH) (dF (HA.out.trans a) h) (aU a hcs)).mono fun e w'' ⟨he,hw⟩=>⟨he.trans (by rw [← hz']),hw⟩)
   clear hf hz' jY hr hcs FJ;go_wp2_with fail;refine (Cf.out _ ((ag.refl wr).alloc _)).mono ?_;rintro e w3 ⟨rfl,a3⟩;obtain ⟨hbr,p9,zh,aaq,qf⟩:=cT a3
   have Za:∀ o',w3.cell? ⟨w.heap.size,o',none⟩=_:=fun o'=>(Below.cell qf.out (p:=⟨w.heap.size,o',none⟩) hz.1).trans (NU o')
   have Zb:∀ o',w3.cell? ⟨w.heap.size+1,o',none⟩=_:=fun o'=>(Below.cell qf.out (p:=⟨w.heap.size+1,o',none⟩) hz.2).trans (NV o')
   have hz3:w.heap.size < w3.heap.size∧w.heap.size+1 < w3.heap.size:=⟨Nat.lt_of_lt_of_le hz.1 qf.out.size,Nat.lt_of_lt_of_le hz.2 qf.out.size⟩;clear a3 Cf NU NV c0 c1 c2 c3 c4 c5 c6 c7
   cases f
   ·have HF:=gH (show cU o t=false by rw [vK.out,all_false _ _ k hlt (by rw [HO.out];rfl)];rfl)
    go_wp2;go_ret;exact ⟨by rw [HF.out];rfl,HA.out.trans qf.out⟩
   cases h4:(p.kind==4)
   ·have HN:=gH (dG (p:=fun j=>∀ (hj:j < t.rules.length),gZ o.tables t.au t.rules[j]=true) HP.out (fun _=>by rw [HO.out,h4];rfl))
    go_wp2
    go_roundw
    case rel=>exact ⟨k+1,by omega,by go_num,mJ.out.trans qf.out,HN.out⟩
    case measure=>simp [intOf];omega
   ·go_wp2_with fail
    refine (Ck.out _ qf.out).mono ?_;rintro e w4 ⟨rfl,a4⟩;have zk:=gH (qf.out.trans a4);clear a4 Ck Za Zb hbr
    cases z0:(z != 0)
    ·have HN:=gH (dG (p:=fun j=>∀ (hj:j < t.rules.length),gZ o.tables t.au t.rules[j]=true) HP.out (fun _=>by rw [HO.out,h4,z0];rfl))
     go_wp2
     go_roundw
     case rel=>exact ⟨k+1,by omega,by go_num,mJ.out.trans zk.out,HN.out⟩
     case measure=>simp [intOf];omega
    ·have HF:=gH (show cU o t=false by rw [vK.out,all_false _ _ k hlt (by rw [HO.out,h4,z0];rfl)];rfl)
     go_wp2;go_ret;exact ⟨by rw [HF.out];rfl,HA.out.trans zk.out⟩
  ·have HF:=gH (show cU o t=aM (fun a b=>bv a.name b.name) t.rules by rw [vK.out,all_true _ _ fun j hj=>HP.out j (by omega) hj];rfl)
   have Cr:=gH (Fu A2 bJ t.rules wr (fM HA.out h2));go_wp2_with fail;refine Cr.out.mono ?_;rintro e w3 ⟨rfl,a3⟩;have qf:=gH (HA.out.trans a3);clear a3;go_wp2;go_ret;exact ⟨by rw [HF.out];rfl,qf.out⟩
def eC (o:bE):Int:=if bD o then 0 else 63
theorem oN (o:bE) (As:Option Addr) (ax:Nat) (At:Option Addr) (aD:Nat) (w:World) (eJ:az w 2 eE As ax o.ae) (dH:az w 5 dE At aD o.tables) :
  Calls Tryz.prog 111 #[.agg #[.slice As o.ae.length ax,.slice At o.tables.length aD]] w
   fun e w'=>e=.returned (.int .i64 (eC o))∧ag w w':=by
 have hlen:=eJ.len;have iG:=dH.len;by_cases d1:8 < o.ae.length
 ·have HF:=gH (show eC o=63 by simp [eC,bD,mY,show ¬ o.ae.length≤8 by omega])
  have e1:¬ ((o.ae.length:Int)≤8):=by omega
  have OA:decide ((o.ae.length:Int)≤8)=false:=decide_eq_false e1
  go_in
  go_wp2_with fail
  go_loopw [3,4] (fun ok i wr=>ok=.bool false∧i=.int .i64 0∧ag (w.alloc (.cells #[.slice As o.ae.length ax,.slice At o.tables.length aD] 25)) wr) (fun _ _ _=>0)
  case atStart=>exact ⟨rfl,rfl,ag.refl _⟩
  case round =>
   obtain ⟨rfl,rfl,ha⟩:=hrel;have vw:=gH ha;clear ha;go_wp2_with fail
   go_loopw [3,6] (fun ok i wr=>ok=.bool false∧i=.int .i64 0∧ag (w.alloc (.cells #[.slice As o.ae.length ax,.slice At o.tables.length aD] 25)) wr) (fun _ _ _=>0)
   case atStart=>exact ⟨rfl,rfl,vw.out⟩
   case round =>
    obtain ⟨rfl,rfl,ha⟩:=hrel;have Mq:=gH ha;clear ha;go_wp2;go_ret;exact ⟨by rw [HF.out];rfl,((ag.refl w).alloc _).trans Mq.out⟩
 have e1:(o.ae.length:Int)≤8:=by omega
 have OA:decide ((o.ae.length:Int)≤8)=true:=decide_eq_true e1;by_cases d2:64 < o.tables.length
 ·have HF:=gH (show eC o=63 by simp [eC,bD,mY,show ¬ o.tables.length≤64 by omega])
  have e2:¬ ((o.tables.length:Int)≤64):=by omega
  have JM:decide ((o.tables.length:Int)≤64)=false:=decide_eq_false e2
  go_in
  go_wp2_with fail
  go_loopw [3,4] (fun ok i wr=>ok=.bool false∧i=.int .i64 0∧ag (w.alloc (.cells #[.slice As o.ae.length ax,.slice At o.tables.length aD] 25)) wr) (fun _ _ _=>0)
  case atStart=>exact ⟨rfl,rfl,ag.refl _⟩
  case round =>
   obtain ⟨rfl,rfl,ha⟩:=hrel;have vw:=gH ha;clear ha;go_wp2_with fail
   go_loopw [3,6] (fun ok i wr=>ok=.bool false∧i=.int .i64 0∧ag (w.alloc (.cells #[.slice As o.ae.length ax,.slice At o.tables.length aD] 25)) wr) (fun _ _ _=>0)
   case atStart=>exact ⟨rfl,rfl,vw.out⟩
   case round =>
    obtain ⟨rfl,rfl,ha⟩:=hrel;have Mq:=gH ha;clear ha;go_wp2;go_ret;exact ⟨by rw [HF.out];rfl,((ag.refl w).alloc _).trans Mq.out⟩
 have e2:(o.tables.length:Int)≤64:=by omega
 have JM:decide ((o.tables.length:Int)≤64)=true:=decide_eq_true e2;obtain ⟨g1,hg1⟩:∃ g,aM (fun a b=>iR (bv a.af b.af) (bv a.name b.name)) o.tables=g:=⟨_,rfl⟩;obtain ⟨g2,hg2⟩:∃ g,aM (fun a b=>bv a.name b.name) o.ae=g:=⟨_,rfl⟩;have HR:=gH (show eC o=if (g1&&g2&&(o.ae.all (nV o)&&o.tables.all (cU o))) then 0 else 63 by simp [eC,bD,mY,hg1,hg2,show o.ae.length≤8 by omega,show o.tables.length≤64 by omega])
 have C1:=gH (show ∀ w',ag w w'→Calls Tryz.prog 178 #[.slice At o.tables.length aD,.func (.func 179) #[] #[]] w' fun e w''=>e=.returned (.bool g1)∧ag w' w'' from
  fun w' a=>(Jt At aD o.tables w' (bC a dH)).mono fun e w'' ⟨he,hw⟩=>⟨he.trans (by rw [← hg1]),hw⟩)
 have C2:=gH (show ∀ w',ag w w'→Calls Tryz.prog 180 #[.slice As o.ae.length ax,.func (.func 181) #[] #[]] w' fun e w''=>e=.returned (.bool g2)∧ag w' w'' from
  fun w' a=>(Js As ax o.ae w' (bQ a eJ)).mono fun e w'' ⟨he,hw⟩=>⟨he.trans (by rw [← hg2]),hw⟩)
 clear hg1 hg2
 go_in
 go_wp2_with fail;refine (C1.out _ ((ag.refl w).alloc _)).mono ?_;rintro e w1 ⟨rfl,a1⟩;obtain ⟨jr,p9,hz,sW,HA⟩:=cT a1;have mJ:=gH a1;clear a1 C1
 cases g1
 ·have HF:=gH (show eC o=63 by rw [HR.out];rfl)
  go_wp2_with fail
  go_loopw [3,4] (fun ok i wr=>ok=.bool false∧i=.int .i64 0∧ag (w.alloc (.cells #[.slice As o.ae.length ax,.slice At o.tables.length aD] 25)) wr) (fun _ _ _=>0)
  case atStart=>exact ⟨rfl,rfl,mJ.out⟩
  case round =>
   obtain ⟨rfl,rfl,ha⟩:=hrel;have vw:=gH ha;clear ha;go_wp2_with fail
   go_loopw [3,6] (fun ok i wr=>ok=.bool false∧i=.int .i64 0∧ag (w.alloc (.cells #[.slice As o.ae.length ax,.slice At o.tables.length aD] 25)) wr) (fun _ _ _=>0)
   case atStart=>exact ⟨rfl,rfl,vw.out⟩
   case round =>
    obtain ⟨rfl,rfl,ha⟩:=hrel;have Mq:=gH ha;clear ha;go_wp2;go_ret;exact ⟨by rw [HF.out];rfl,((ag.refl w).alloc _).trans Mq.out⟩
 go_wp2_with fail;refine (C2.out _ HA.out).mono ?_;rintro e w2 ⟨rfl,a2⟩;have yS:=gH (mJ.out.trans a2);clear a2 C2 mJ HA jr p9 hz sW;obtain ⟨jr,p9,hz,sW,HA⟩:=cT yS.out
 cases g2
 ·have HF:=gH (show eC o=63 by rw [HR.out];rfl)
  go_wp2_with fail
  go_loopw [3,4] (fun ok i wr=>ok=.bool false∧i=.int .i64 0∧ag (w.alloc (.cells #[.slice As o.ae.length ax,.slice At o.tables.length aD] 25)) wr) (fun _ _ _=>0)
  case atStart=>exact ⟨rfl,rfl,yS.out⟩
  case round =>
   obtain ⟨rfl,rfl,ha⟩:=hrel;have vw:=gH ha;clear ha;go_wp2_with fail
   go_loopw [3,6] (fun ok i wr=>ok=.bool false∧i=.int .i64 0∧ag (w.alloc (.cells #[.slice As o.ae.length ax,.slice At o.tables.length aD] 25)) wr) (fun _ _ _=>0)
   case atStart=>exact ⟨rfl,rfl,vw.out⟩
   case round =>
    obtain ⟨rfl,rfl,ha⟩:=hrel;have Mq:=gH ha;clear ha;go_wp2;go_ret;exact ⟨by rw [HF.out];rfl,((ag.refl w).alloc _).trans Mq.out⟩
 have vK:=gH (show eC o=if (o.ae.all (nV o)&&o.tables.all (cU o)) then 0 else 63 by rw [HR.out];rfl);clear HR;go_wp2_with fail
 go_loopw [3,4] (fun ok i wr=>∃ (k:Nat) (b:Bool),k≤o.ae.length∧i=.int .i64 k∧ok=.bool b∧ag (w.alloc (.cells #[.slice As o.ae.length ax,.slice At o.tables.length aD] 25)) wr∧(b=true→∀ j,j < k→∀ (hj:j < o.ae.length),nV o o.ae[j]=true)∧(b=false→eC o=63)) (fun ok i _=>o.ae.length - (intOf i).toNat)
 case atStart=>exact ⟨0,true,Nat.zero_le _,rfl,rfl,yS.out,fun _ j hj=>absurd hj (Nat.not_lt_zero j),fun h=>by cases h⟩
 case round =>
  clear jr p9 hz sW HA yS;obtain ⟨k,b,hk,rfl,rfl,ha,hp,hq⟩:=hrel;obtain ⟨jr,p9,hz,sW,HA⟩:=cT ha;have mJ:=gH ha;clear ha
  cases b
  ·have HF:=gH (hq rfl)
   clear hp hq;go_wp2_with fail
   go_loopw [3,6] (fun ok i wr=>ok=.bool false∧i=.int .i64 0∧ag (w.alloc (.cells #[.slice As o.ae.length ax,.slice At o.tables.length aD] 25)) wr) (fun _ _ _=>0)
   case atStart=>exact ⟨rfl,rfl,mJ.out⟩
   case round =>
    obtain ⟨rfl,rfl,ha⟩:=hrel;have Mq:=gH ha;clear ha;go_wp2;go_ret;exact ⟨by rw [HF.out];rfl,((ag.refl w).alloc _).trans Mq.out⟩
  have HP:=gH (hp rfl);clear hp hq;by_cases hlt:k < o.ae.length
  ·have tv:=bQ HA.out eJ
   obtain ⟨b,off,rfl,hb,c0,c1,s0,s1⟩:=lh tv hlt;obtain ⟨p,jY⟩:∃ p,o.ae[k]=p:=⟨_,rfl⟩;rw [jY] at c0 c1 s0 s1;have HO:=gH (show nV o o.ae[k]=(bG p.name&&bG p.owner&&decide (within o.tables p.name≤8)) by rw [jY];rfl);clear jY tv
   cases hN:bG p.name
   ·have HF:=gH (show eC o=63 by rw [vK.out,all_false _ _ k hlt (by rw [HO.out,hN];rfl)];rfl)
    go_wp2_with (go_at_call 107;refine (bZ _ _ (by first | exact s0.max | exact s1.max)).mono ?_;rintro e w' ⟨rfl,rfl⟩)
    go_roundw
    case rel=>exact ⟨k+1,false,by omega,by go_num,rfl,mJ.out.alloc _,(fun h=>by cases h),fun _=>HF.out⟩
    case measure=>simp [intOf];omega
   cases hO:bG p.owner
   ·have HF:=gH (show eC o=63 by rw [vK.out,all_false _ _ k hlt (by rw [HO.out,hN,hO];rfl)];rfl)
    go_wp2_with (go_at_call 107;refine (bZ _ _ (by first | exact s0.max | exact s1.max)).mono ?_;rintro e w' ⟨rfl,rfl⟩)
    go_roundw
    case rel=>exact ⟨k+1,false,by omega,by go_num,rfl,mJ.out.alloc _,(fun h=>by cases h),fun _=>HF.out⟩
    case measure=>simp [intOf];omega
   obtain ⟨n,hn⟩:∃ n,within o.tables p.name=n:=⟨_,rfl⟩
   have Cw:=gH (show ∀ w',ag w w'→Calls Tryz.prog 183 #[.agg #[.slice (some ⟨b,off,none⟩) o.ae.length ax,.slice At o.tables.length aD],.string p.name] w' fun e w''=>e=.returned (.int .i64 n)∧ag w' w'' from
    fun w' a=>(ry _ At aD o.tables p.name w' (bC a dH)).mono fun e w'' ⟨he,hw⟩=>⟨he.trans (by rw [← hn]),hw⟩)
   have Wl:=gH (show nV o o.ae[k]=decide (n≤8) by rw [HO.out,hN,hO,hn];rfl);clear HO hn
   go_wp2_with (go_at_call 107;refine (bZ _ _ (by first | exact s0.max | exact s1.max)).mono ?_;rintro e w' ⟨rfl,rfl⟩)
   refine (Cw.out _ (HA.out.alloc _)).mono ?_;rintro e w3 ⟨rfl,a3⟩;have U9:=gH ((mJ.out.alloc _).trans a3);clear a3 Cw;by_cases h8:n≤8
   ·have Wm:(n:Int)≤8:=by omega
    have HN:=gH (dG (p:=fun j=>∀ (hj:j < o.ae.length),nV o o.ae[j]=true) HP.out (fun _=>by rw [Wl.out];exact decide_eq_true h8));go_wp2
    go_roundw
    case rel=>exact ⟨k+1,true,by omega,by go_num,by simp,U9.out,fun _=>HN.out,fun h=>by cases h⟩
    case measure=>simp [intOf];omega
   ·have Wm:¬ (n:Int)≤8:=by omega
    have HF:=gH (show eC o=63 by rw [vK.out,all_false _ _ k hlt (by rw [Wl.out];exact decide_eq_false h8)];rfl);go_wp2
    go_roundw
    case rel=>exact ⟨k+1,false,by omega,by go_num,by simp [Wm],U9.out,(fun h=>by cases h),fun _=>HF.out⟩
    case measure=>simp [intOf];omega
  have Kf:=gH (show eC o=if o.tables.all (cU o) then 0 else 63 by rw [vK.out,all_true _ _ fun j hj=>HP.out j (by omega) hj];rfl);clear HP vK;go_wp2_with fail
  go_loopw [3,6] (fun ok i wr=>∃ (k:Nat) (b:Bool),k≤o.tables.length∧i=.int .i64 k∧ok=.bool b∧ag (w.alloc (.cells #[.slice As o.ae.length ax,.slice At o.tables.length aD] 25)) wr∧(b=true→∀ j,j < k→∀ (hj:j < o.tables.length),cU o o.tables[j]=true)∧(b=false→eC o=63)) (fun ok i _=>o.tables.length - (intOf i).toNat)
  case atStart=>exact ⟨0,true,Nat.zero_le _,rfl,rfl,mJ.out,fun _ j hj=>absurd hj (Nat.not_lt_zero j),fun h=>by cases h⟩
  case round =>
   clear jr p9 hz sW HA mJ;obtain ⟨k2,b,hk2,rfl,rfl,ha,hp,hq⟩:=hrel;obtain ⟨jr,p9,hz,sW,HA⟩:=cT ha;have mJ:=gH ha;clear ha
   cases b
   ·have HF:=gH (hq rfl)
    clear hp hq;go_wp2;go_ret;exact ⟨by rw [HF.out];rfl,HA.out⟩
   have HP:=gH (hp rfl);clear hp hq;by_cases mg:k2 < o.tables.length
   ·have Zc:=bC HA.out dH
    have tv:=bQ HA.out eJ;obtain ⟨b,off,B2,tW,B3,tX,rfl,hb,c0,c1,c2,c3,c4,d9,gX,s0,s1,s2⟩:=iB Zc mg;obtain ⟨p,jY⟩:∃ p,o.tables[k2]=p:=⟨_,rfl⟩;rw [jY] at c0 c1 c2 c3 c4 d9 gX s0 s1 s2;obtain ⟨f,hf⟩:∃ f,cU o p=f:=⟨_,rfl⟩;have HO:=gH (show cU o o.tables[k2]=f by rw [jY];exact hf)
    have Cr:=gH (show ∀ x:iM wr,Calls Tryz.prog 184 #[.agg #[.slice As o.ae.length ax,.slice (some ⟨b,off,none⟩) o.tables.length aD],.agg #[.string p.af,.string p.name,.string p.owner,.slice B2 p.au.length tW,.slice B3 p.rules.length tX]] (bV wr x) fun e w'=>e=.returned (.bool f)∧ag (bV wr x) w' from
     fun x=>(Fv o p As ax _ aD B2 tW B3 tX (bV wr x) (bQ ((ag.refl wr).bV x) tv) (bC ((ag.refl wr).bV x) Zc) (dF ((ag.refl wr).bV x) d9) (fM ((ag.refl wr).bV x) gX) s1 s2).mono fun e w'' ⟨he,hw⟩=>⟨he.trans (by rw [← hf]),hw⟩)
    clear hf jY Zc tv d9 gX;go_wp2_with fail;refine ay (by kernel_rfl) (by kernel_rfl) ?_
    repeat (go_big_quiet_step ((first | (go_at_call 184;exact Calls.bk (Cr.out _)))))
    refine wpQuiet_nil ?_;intro _ hw';obtain ⟨x,hw''⟩:=hw';subst hw''
    cases f
    ·have HF:=gH (show eC o=63 by rw [Kf.out,all_false _ _ k2 mg HO.out];rfl)
     go_wp2
     go_roundw
     case rel=>exact ⟨k2+1,false,by omega,by go_num,rfl,mJ.out.bV x,(fun h=>by cases h),fun _=>HF.out⟩
     case measure=>simp [intOf];omega
    ·have HN:=gH (dG (p:=fun j=>∀ (hj:j < o.tables.length),cU o o.tables[j]=true) HP.out (fun _=>HO.out))
     go_wp2
     go_roundw
     case rel=>exact ⟨k2+1,true,by omega,by go_num,rfl,mJ.out.bV x,fun _=>HN.out,fun h=>by cases h⟩
     case measure=>simp [intOf];omega
   ·have HF:=gH (show eC o=0 by rw [Kf.out,all_true _ _ fun j hj=>HP.out j (by omega) hj];rfl)
    go_wp2;go_ret;exact ⟨by rw [HF.out];rfl,HA.out⟩
def cX:bE:=⟨[],[]⟩
theorem oZ {o:bE} (h:bD o=true):OW o:=by
 unfold bD mY at h;simp only [Bool.and_eq_true,decide_eq_true_eq,List.all_eq_true] at h;obtain ⟨⟨⟨⟨h1,h2⟩,_⟩,_⟩,_,h3⟩:=h;refine ⟨by omega,by omega,fun t ht=>?_⟩;have h4:=h3 t ht;unfold cU at h4;simp only [Bool.and_eq_true,decide_eq_true_eq,List.all_eq_true] at h4;obtain ⟨⟨⟨⟨_,h5⟩,h6⟩,_⟩,h7,_⟩:=h4
 have h8:t.au.length≤8:=by unfold fl at h5;simp only [Bool.and_eq_true,decide_eq_true_eq] at h5;exact h5.1.2
 refine ⟨by omega,by omega,fun r hr=>?_⟩;have h9:=h7 r hr;unfold gZ at h9;simp only [Bool.and_eq_true] at h9
 have h1:qg t.au r.au=true:=by have hf:=h9.1;unfold dK at hf;simp only [Bool.and_eq_true] at hf;exact hf.1.1.1
 have:=BD t.au r.au h1;omega
def KC (w:World) (B n3:Nat) (r:bE × Int) (e:Ending) (w':World):Prop :=
 e=.returned (.int .i64 r.2)∧Kb (fun g=>B≤g) w w'∧(r.2=0→∃ hs ht L,L.map bA.t=r.1.tables∧dw w' B hs ht r.1.ae L∧ai w' n3 [.slice hs.a r.1.ae.length hs.c,.slice ht.a r.1.tables.length ht.c])
def qa (w:World) (r:bE × Int) (e:Ending) (w':World):Prop :=
 ∃ hs ht L,L.map bA.t=r.1.tables∧e=.returned (.tuple #[.agg #[.slice hs.a r.1.ae.length hs.c,.slice ht.a r.1.tables.length ht.c],.int .i64 r.2])∧ag w w'∧dw w' w.heap.size hs ht r.1.ae L
def iU (o:bE) (r:bE × Int):bE × Int:=if bD o then r else (cX,63)
theorem B9 (w:World) (B:Nat):dw w B ⟨none,0,0⟩ ⟨none,0,0⟩ [] []:=⟨cO _ _ _ _,cO _ _ _ _,fun x hx=>by simp at hx,by simp [im]⟩
theorem vo {w w':World} {c:Int} (a:ag w w'):qa w (cX,c) (.returned (.tuple #[.agg #[.slice none 0 0,.slice none 0 0],.int .i64 c])) w':=⟨⟨none,0,0⟩,⟨none,0,0⟩,[],rfl,rfl,a,B9 _ _⟩
theorem rA (o:bE) (As:Option Addr) (ax:Nat) (At:Option Addr) (aD:Nat) (g:FuncId) (cs:Array Value) (r:bE × Int) (w:World) (eJ:az w 2 eE As ax o.ae) (dH:az w 5 dE At aD o.tables)
  (cM:∀ (args:Array Value) (w:World),(callFunc g args).run Tryz.prog w=.ok (.enter g args) w) (hr:r.2≠0→r.1=cX)
  (Rk:bD o=true→∀ (w':World) (hs ht:Hd) (L:List bA) (B n3:Nat),ag w w'→w.heap.size≤B→B≤n3→L.map bA.t=o.tables→dw w' B hs ht o.ae L→(∀ g∈hs.blk++(ht.blk++L.flatMap bA.gu),g≠n3) →
   ai w' n3 [.slice hs.a o.ae.length hs.c,.slice ht.a o.tables.length ht.c]→Calls Tryz.prog g (#[.pointer (some ⟨n3,0,none⟩)]++cs) w' (KC w' B n3 r)) :
  Calls Tryz.prog 253 #[.agg #[.slice As o.ae.length ax,.slice At o.tables.length aD],.func (.func g) #[] cs] w (qa w (iU o r)):=by
 have hlen:=eJ.len;have iG:=dH.len
 have l1:w.heap.size < w.heap.size+1:=by omega
 have l2:w.heap.size < w.heap.size+1+1:=by omega
 obtain ⟨W,hW⟩:∃ W,W=(w.alloc (.cells #[.slice As o.ae.length ax,.slice At o.tables.length aD] 25)).alloc (.cells #[.slice none 0 0,.slice none 0 0] 25):=⟨_,rfl⟩
 have aW:ag w W:=by rw [hW];exact ((ag.refl w).alloc _).alloc _
 have r1:ai W w.heap.size [.slice As o.ae.length ax,.slice At o.tables.length aD]:=by rw [hW];exact (aN (ag.refl _)).aA ((ag.refl _).alloc _)
 have r2:ai W (w.heap.size+1) [.slice none 0 0,.slice none 0 0]:=by
  rw [hW];have:=(aN (w:=w.alloc (.cells #[.slice As o.ae.length ax,.slice At o.tables.length aD] 25)) (c:=[.slice none 0 0,.slice none 0 0]) (t:=25) (ag.refl _))
  simpa using this
 have zW:W.heap.size=w.heap.size+2:=by rw [hW];simp
 obtain ⟨c,hc⟩:∃ c,bD o=c:=⟨_,rfl⟩
 have CK:=gH (show ∀ w',ag w w'→Calls Tryz.prog 111 #[.agg #[.slice As o.ae.length ax,.slice At o.tables.length aD]] w' fun e w''=>e=.returned (.int .i64 (if c=true then 0 else 63))∧ag w' w'' from
  fun w' a=>(oN o As ax At aD w' (bQ a eJ) (bC a dH)).mono fun e w'' ⟨he,hw⟩=>⟨he.trans (by unfold eC;rw [hc]),hw⟩)
 have CO:=gH (show c=true→∀ w',ag w w'→_ from fun h w' a=>Qq o As ax At aD w' (bQ a eJ) (bC a dH) (oZ (hc.trans h)));have VZ:=gH (fun h:c=true=>Rk (hc.trans h));have HE:=gH (show iU o r=if c=true then r else (cX,63) by unfold iU;rw [hc]);have cu:=gH aW;have HR:=gH hr;have ze:=gH r1;have vK:=gH r2;have HZ:=gH zW;clear hc Rk eJ dH r1 r2 aW zW hr
 go_in
 go_wp2_with fail;rw [← hW];refine (CK.out W cu.out).mono ?_;rintro e w1 ⟨rfl,a1⟩;have b2:=vK.out.aA a1;have d0:=b2.cell (j:=0) rfl;have d1:=b2.cell (j:=1) rfl;have f0:=b2.2.2 0 (by simp);have f1:=b2.2.2 1 (by simp);have z2:=b2.1;have dc:=gH (cu.out.trans a1);have Rn:=gH b2;clear hW
 cases c
 ·clear a1 b2
  go_wp2_with fail;obtain ⟨F,hF⟩:∃ F,F=(w1.setCell ⟨w.heap.size+1,0,none⟩ (.slice none 0 0)).setCell ⟨w.heap.size+1,1,none⟩ (.slice none 0 0):=⟨_,rfl⟩
  have rF:ai F (w.heap.size+1) [.slice none 0 0,.slice none 0 0]:=by rw [hF];exact (Rn.out.set 0 _ (by simp)).set 1 _ (by simp)
  have aF:ag w F:=by rw [hF];exact (dc.out.setCell _ _ (Nat.le_succ _)).setCell _ _ (Nat.le_succ _)
  rw [← hF];refine bodyPost_ret (results_cell_tmp (v:=.agg #[.slice none 0 0,.slice none 0 0]) rfl _ rfl ?hl) rfl ?_
  case hl=>exact gY rF
  rw [HE.out];exact vo aF
 ·have b1:=ze.out.aA a1
  have c0:=b1.cell (j:=0) rfl;have c1:=b1.cell (j:=1) rfl;have z1:=b1.1;have jt:=gH (show w.heap.size+2≤w1.heap.size by have:=a1.size;have:=HZ.out;omega);clear a1 b1 b2;go_wp2_with fail;refine (CO.out (by simp) w1 dc.out).mono ?_;rintro e w2 ⟨hs,ht,L,hL,rfl,a2,ob⟩;obtain ⟨W3,hW3⟩:∃ W3,W3=w2.alloc (.cells #[.slice hs.a o.ae.length hs.c,.slice ht.a o.tables.length ht.c] 25):=⟨_,rfl⟩
  have a3:ag w2 W3:=by rw [hW3];exact (ag.refl _).alloc _
  have r3:ai W3 w2.heap.size [.slice hs.a o.ae.length hs.c,.slice ht.a o.tables.length ht.c]:=by rw [hW3];exact aN (ag.refl _)
  have HD:=gH (VZ.out (by simp) W3 hs ht L w1.heap.size w2.heap.size (dc.out.trans (a2.trans a3)) dc.out.size a2.size hL (ob.aA a3) (fun g hg e=>by have:=(ob.lt g hg).2;omega) r3);have qf:=gH (dc.out.trans (a2.trans a3));have JL:=gH (Rn.out.aA (a2.trans a3));clear a2 a3 ob hL CO VZ r3 c0 c1 z1 d0 d1 f0 f1 z2 CK;obtain ⟨r0,rc⟩:=r;have jX:=gH (show w.heap.size+1 < w1.heap.size from Rn.out.1);go_wp2_with fail;rw [← hW3];clear hW3;refine HD.out.mono ?_;rintro e w4 ⟨rfl,k4,hz4⟩;have b4:=k4.row JL.out (by have:=jX.out;omega);have d0:=b4.cell (j:=0) rfl;have d1:=b4.cell (j:=1) rfl;have f0:=b4.2.2 0 (by simp);have f1:=b4.2.2 1 (by simp);have z2:=b4.1;have HB4:=gH b4;have zk:=gH (k4.aJ qf.out (fun g hg h1=>by have:=dc.out.size;omega));have Gj:=gH hz4;clear b4 k4 hz4;by_cases tx:rc=0
  ·subst tx
   obtain ⟨hs',kq,L',Va,ob',r4⟩:=Gj.out rfl;have c0:=r4.cell (j:=0) rfl;have c1:=r4.cell (j:=1) rfl;have z3:=r4.1;have HO:=gH ob';have HL':=gH Va;clear ob' Va r4;go_wp2_with fail;obtain ⟨F,hF⟩:∃ F,F=(w4.setCell ⟨w.heap.size+1,0,none⟩ (.slice hs'.a r0.ae.length hs'.c)).setCell ⟨w.heap.size+1,1,none⟩ (.slice kq.a r0.tables.length kq.c):=⟨_,rfl⟩
   have kF:Kb (fun g=>g=w.heap.size+1) w4 F:=by rw [hF];exact (Kb.set _ _ _ _).trans (Kb.set _ _ _ _)
   have rF:ai F (w.heap.size+1) [.slice hs'.a r0.ae.length hs'.c,.slice kq.a r0.tables.length kq.c]:=by rw [hF];exact (HB4.out.set 0 _ (by simp)).set 1 _ (by simp)
   rw [← hF];refine bodyPost_ret (results_cell_tmp (v:=.agg #[.slice hs'.a r0.ae.length hs'.c,.slice kq.a r0.tables.length kq.c]) rfl _ rfl ?hl2) rfl ?_
   case hl2=>exact gY rF
   rw [HE.out];refine ⟨hs',kq,L',HL'.out,rfl,kF.aJ zk.out (fun g hg e=>by omega),?_⟩;refine dw.down (HO.out.kb kF fun g hg e=>?_) (by have:=dc.out.size;omega);have:=(HO.out.lt g hg).1;have:=jX.out;omega
  ·have t1:(rc != 0)=true:=by simpa using tx
   have Au:r0=cX:=HR.out tx;have kJ:=gH Au;have Iq:=gH tx;clear tx Au;go_wp2_with fail;obtain ⟨F,hF⟩:∃ F,F=(w4.setCell ⟨w.heap.size+1,0,none⟩ (.slice none 0 0)).setCell ⟨w.heap.size+1,1,none⟩ (.slice none 0 0):=⟨_,rfl⟩
   have rF:ai F (w.heap.size+1) [.slice none 0 0,.slice none 0 0]:=by rw [hF];exact (HB4.out.set 0 _ (by simp)).set 1 _ (by simp)
   have aF:ag w F:=by rw [hF];exact (zk.out.setCell _ _ (Nat.le_succ _)).setCell _ _ (Nat.le_succ _)
   rw [← hF];refine bodyPost_ret (results_cell_tmp (v:=.agg #[.slice none 0 0,.slice none 0 0]) rfl _ rfl ?VR) rfl ?_
   case VR=>exact gY rF
   rw [HE.out,kJ.out];exact vo aF
def fD (o:bE) (s n:ByteArray) (f:bW→bW × Int):bE × Int :=
 match o.tables[(bt o.tables s n).toNat]? with
 | some t=>if bt o.tables s n < 0 then (cX,61) else if (f t).2=0 then (⟨o.ae,o.tables.set (bt o.tables s n).toNat (f t).1⟩,0) else (cX,(f t).2)
 | none=>(cX,61)
theorem ul {o:bE} {s n:ByteArray} {f:bW→bW × Int} (h:bt o.tables s n < 0):fD o s n f=(cX,61):=by
 unfold fD;split
 ·rw [if_pos h]
 ·rfl
theorem um {o:bE} {s n:ByteArray} {f:bW→bW × Int} {q:Nat} (h:bt o.tables s n=q) (hq:q < o.tables.length):fD o s n f=if (f o.tables[q]).2=0 then (⟨o.ae,o.tables.set q (f o.tables[q]).1⟩,0) else (cX,(f o.tables[q]).2):=by
 unfold fD;rw [h];simp only [Int.toNat_natCast,List.getElem?_eq_getElem hq];rw [if_neg (by omega)]
theorem tB {α:Type} {L:List α} {q:Nat} {x y:α} (hq:q < L.length) (h:x∈L.set q y):x=y∨∃ i,∃ hi:i < L.length,i≠q∧x=L[i]:=by
 obtain ⟨i,hi,rfl⟩:=List.getElem_of_mem h;rw [List.length_set] at hi;by_cases e:i=q
 ·subst e;exact .inl (by simp)
 ·exact .inr ⟨i,hi,e,by rw [List.getElem_set_ne (fun h=>e h.symm)]⟩
theorem zL {α:Type} (c:α→α→Int) (l:List α) (h:∀ k,1≤k→∀ (hk:k < l.length),c (l[k - 1]'(by omega)) l[k] < 0):aM c l=true :=
 (cL c l).2 fun k hk=>h (k+1) (by omega) hk
def nO:bW:=⟨⟨#[]⟩,⟨#[]⟩,⟨#[]⟩,[],[]⟩
def pN (o:bE) (s n:ByteArray):bW × Int :=
 if bD o then (match o.tables[(bt o.tables s n).toNat]? with | some t=>if bt o.tables s n < 0 then (nO,61) else (t,0) | none=>(nO,61)) else (nO,63)
theorem Ju {o:bE} {s n:ByteArray} (h:bD o=false):pN o s n=(nO,63):=by unfold pN;rw [h];rfl
theorem rX {o:bE} {s n:ByteArray} (h:bD o=true) (hi:bt o.tables s n < 0):pN o s n=(nO,61):=by
 unfold pN;rw [h,if_pos rfl];split
 ·rw [if_pos hi]
 ·rfl
theorem rY {o:bE} {s n:ByteArray} {q:Nat} (h:bD o=true) (hi:bt o.tables s n=q) (hq:q < o.tables.length):pN o s n=(o.tables[q],0):=by
 unfold pN;rw [h,if_pos rfl,hi];simp only [Int.toNat_natCast,List.getElem?_eq_getElem hq];rw [if_neg (by omega)]
def Ip (w:World) (r:bW × Int) (e:Ending) (w':World):Prop :=
 ∃ x:bA,x.t=r.1∧e=.returned (.tuple #[.agg #[.string r.1.af,.string r.1.name,.string r.1.owner,.slice x.hc.a r.1.au.length x.hc.c,.slice x.hr.a r.1.rules.length x.hr.c],.int .i64 r.2])∧ag w w'∧ey w' w.heap.size x∧x.gu.Nodup
theorem sM {w w':World} {c:Int} (a:ag w w'):Ip w (nO,c) (.returned (.tuple #[.agg #[.string ⟨#[]⟩,.string ⟨#[]⟩,.string ⟨#[]⟩,.slice none 0 0,.slice none 0 0],.int .i64 c])) w' :=
 ⟨⟨⟨#[]⟩,⟨#[]⟩,⟨#[]⟩,[],[],⟨none,0,0⟩,⟨none,0,0⟩⟩,rfl,rfl,a,⟨cO _ _ _ _,cO _ _ _ _,fun x hx=>by simp at hx⟩,by simp [bA.gu,im]⟩
theorem jb {w:World} {b:Nat} {xs:List Value} (h:ai w b xs) (hl:xs.length=5) (v0 v1 v2 v3 v4:Value):ai (((((w.setCell ⟨b,0,none⟩ v0).setCell ⟨b,1,none⟩ v1).setCell ⟨b,2,none⟩ v2).setCell ⟨b,3,none⟩ v3).setCell ⟨b,4,none⟩ v4) b [v0,v1,v2,v3,v4]:=by
 match xs,hl with
 | [a,b,c,d,e],_=>exact ((((h.set 0 _ (by simp)).set 1 _ (by simp)).set 2 _ (by simp)).set 3 _ (by simp)).set 4 _ (by simp)
theorem ie (w:World) (b:Nat) (v0 v1 v2 v3 v4:Value):Kb (fun g=>g=b) w (((((w.setCell ⟨b,0,none⟩ v0).setCell ⟨b,1,none⟩ v1).setCell ⟨b,2,none⟩ v2).setCell ⟨b,3,none⟩ v3).setCell ⟨b,4,none⟩ v4) :=
 ((((Kb.set _ _ _ _).trans (Kb.set _ _ _ _)).trans (Kb.set _ _ _ _)).trans (Kb.set _ _ _ _)).trans (Kb.set _ _ _ _)
theorem Lv (o:bE) (As:Option Addr) (ax:Nat) (At:Option Addr) (aD:Nat) (s n:ByteArray) (w:World) (eJ:az w 2 eE As ax o.ae) (dH:az w 5 dE At aD o.tables) :
  Calls Tryz.prog 72 #[.agg #[.slice As o.ae.length ax,.slice At o.tables.length aD],.string s,.string n] w (Ip w (pN o s n)):=by
 have hlen:=eJ.len;have iG:=dH.len
 have l1:w.heap.size < w.heap.size+1:=by omega
 have l2:w.heap.size < w.heap.size+1+1:=by omega
 obtain ⟨W,hW⟩:∃ W,W=(w.alloc (.cells #[.slice As o.ae.length ax,.slice At o.tables.length aD] 25)).alloc (.cells #[.string ⟨#[]⟩,.string ⟨#[]⟩,.string ⟨#[]⟩,.slice none 0 0,.slice none 0 0] 80):=⟨_,rfl⟩
 have aW:ag w W:=by rw [hW];exact ((ag.refl w).alloc _).alloc _
 have r1:ai W w.heap.size [.slice As o.ae.length ax,.slice At o.tables.length aD]:=by rw [hW];exact (aN (ag.refl _)).aA ((ag.refl _).alloc _)
 have r2:ai W (w.heap.size+1) [.string ⟨#[]⟩,.string ⟨#[]⟩,.string ⟨#[]⟩,.slice none 0 0,.slice none 0 0]:=by
  rw [hW];have:=(aN (w:=w.alloc (.cells #[.slice As o.ae.length ax,.slice At o.tables.length aD] 25)) (c:=[.string ⟨#[]⟩,.string ⟨#[]⟩,.string ⟨#[]⟩,.slice none 0 0,.slice none 0 0]) (t:=80) (ag.refl _))
  simpa using this
 have zW:W.heap.size=w.heap.size+2:=by rw [hW];simp
 obtain ⟨c,hc⟩:∃ c,bD o=c:=⟨_,rfl⟩;obtain ⟨i,hi⟩:∃ i,bt o.tables s n=i:=⟨_,rfl⟩
 have Ke : -1≤i∧i < o.tables.length:=by rw [← hi];exact aT _ _
 have CK:=gH (show ∀ w',ag w w'→Calls Tryz.prog 111 #[.agg #[.slice As o.ae.length ax,.slice At o.tables.length aD]] w' fun e w''=>e=.returned (.int .i64 (if c=true then 0 else 63))∧ag w' w'' from
  fun w' a=>(oN o As ax At aD w' (bQ a eJ) (bC a dH)).mono fun e w'' ⟨he,hw⟩=>⟨he.trans (by unfold eC;rw [hc]),hw⟩)
 have CW:=gH (show ∀ w',ag w w'→Calls Tryz.prog 112 #[.agg #[.slice As o.ae.length ax,.slice At o.tables.length aD],.string s,.string n] w' fun e w''=>e=.returned (.tuple #[.int .i64 i,.bool (decide (0≤i))])∧ag w' w'' from
  fun w' a=>(vk (.slice As o.ae.length ax) At aD o.tables s n w' (bC a dH)).mono fun e w'' ⟨he,hw⟩=>⟨he.trans (by rw [hi]),hw⟩)
 have HC:=gH hc;have HI:=gH hi;have HT:=gH dH;have cu:=gH aW;have ze:=gH r1;have vK:=gH r2;have HZ:=gH zW;clear hc hi eJ dH r1 r2 aW zW
 go_in
 go_wp2_with fail;rw [← hW];clear hW;refine (CK.out W cu.out).mono ?_;rintro e w1 ⟨rfl,a1⟩;have b2:=vK.out.aA a1;obtain ⟨d0,d1,d2,d3,d4⟩:=pW b2;obtain ⟨f0,f1,f2,f3,f4⟩:=zo b2;have z2:=b2.1;have dc:=gH (cu.out.trans a1);have Rn:=gH b2;have b1:=ze.out.aA a1;have c0:=b1.cell (j:=0) rfl;have c1:=b1.cell (j:=1) rfl;have z1:=b1.1;have HB1:=gH b1;have jt:=gH (show w.heap.size+2≤w1.heap.size by have:=a1.size;have:=HZ.out;omega);clear a1 b2 b1
 cases c
 ·go_wp2
  refine bodyPost_ret (results_cell_tmp (v:=.agg #[.string ⟨#[]⟩,.string ⟨#[]⟩,.string ⟨#[]⟩,.slice none 0 0,.slice none 0 0]) rfl _ rfl ?hl) rfl ?_
  case hl=>exact iZ (jb Rn.out rfl _ _ _ _ _)
  rw [Ju HC.out];exact sM ((ie _ _ _ _ _ _ _).aJ dc.out (fun g hg e=>by omega))
 ·go_wp2_with fail
  refine (CW.out w1 dc.out).mono ?_;rintro e w2 ⟨rfl,a2⟩;have b2:=Rn.out.aA a2;obtain ⟨d0,d1,d2,d3,d4⟩:=pW b2;obtain ⟨f0,f1,f2,f3,f4⟩:=zo b2;have z2:=b2.1;have i5:=gH (dc.out.trans a2);have Vb:=gH b2;have b1:=HB1.out.aA a2;have c1:=b1.cell (j:=1) rfl;have z1:=b1.1;have jX:=gH (show w.heap.size+2≤w2.heap.size by have:=a2.size;have:=jt.out;omega);clear a2 b2 b1;by_cases h0:0≤i
  ·obtain ⟨q,rfl⟩:=Int.eq_ofNat_of_zero_le h0
   have hq:q < o.tables.length:=by omega
   obtain ⟨b,off,A2,bJ,A3,fC,rfl,hb,t0,t1,t2,t3,t4,d9,kK,tv⟩:=iB (bC i5.out HT.out) hq
   have hd:decide (0≤(q:Int))=true:=by simp
   have CP:=gH (vn o.tables[q] A2 bJ A3 fC w2 d9 kK (by have:=(oZ HC.out).2.2 o.tables[q] (List.getElem_mem hq);exact this));have HE:=gH (rY HC.out HI.out hq);obtain ⟨p,hp⟩:∃ p,o.tables[q]=p:=⟨_,rfl⟩;rw [hp] at t0 t1 t2 t3 t4 CP HE;clear hp d9 kK tv h0 Ke;go_wp2_with fail;refine CP.out.mono ?_;rintro e w3 ⟨x,hx,rfl,a3,Ik,Ll⟩;have b2:=Vb.out.aA a3;obtain ⟨d0,d1,d2,d3,d4⟩:=pW b2;obtain ⟨f0,f1,f2,f3,f4⟩:=zo b2;have z2:=b2.1;have qf:=gH (i5.out.trans a3);have JL:=gH b2;have HTI:=gH Ik;have HX:=gH hx;have HN:=gH Ll;clear a3 b2 Ik hx Ll;go_wp2;refine bodyPost_ret (results_cell_tmp (v:=.agg #[.string p.af,.string p.name,.string p.owner,.slice x.hc.a p.au.length x.hc.c,.slice x.hr.a p.rules.length x.hr.c]) rfl _ rfl ?hl) rfl ?_
   case hl=>exact iZ (jb JL.out rfl _ _ _ _ _)
   rw [HE.out];refine ⟨x,HX.out,rfl,(ie _ _ _ _ _ _ _).aJ qf.out (fun g hg e=>by omega),?_,HN.out⟩;have hz2:=jX.out;refine ey.down (HTI.out.kb (ie _ _ _ _ _ _ _) fun g hg e=>?_) (show w.heap.size≤w2.heap.size by omega);have:=(HTI.out.lt g hg).1;omega
  ·have hd:decide (0≤i)=false:=by simpa using h0
   go_wp2;refine bodyPost_ret (results_cell_tmp (v:=.agg #[.string ⟨#[]⟩,.string ⟨#[]⟩,.string ⟨#[]⟩,.slice none 0 0,.slice none 0 0]) rfl _ rfl ?VR) rfl ?_
   case VR=>exact iZ (jb Vb.out rfl _ _ _ _ _)
   rw [rX HC.out (by rw [HI.out];omega)];exact sM ((ie _ _ _ _ _ _ _).aJ i5.out (fun g hg e=>by omega))
end Go.Proofs.YtakddkhipelmjaaGreat
