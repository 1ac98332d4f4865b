import Derived.Recover
import Derived.Defers
import Derived.RegionDies
import Derived.Test.YtmflccbnoeaafaaGreatPartC18
namespace Go.Proofs.YtmflccbnoeaafaaGreat
open Go.RowKit Go.Deep
set_option maxRecDepth 100000
set_option linter.unusedVariables false
set_option maxHeartbeats 64000000
theorem bsG (A:Option Addr) (cap:Nat) (l:List cB) (x:cB) (w:World) (h:aL w 6 mr A cap l) (hr:aN cS l=true) :
  Calls Tryz.prog 141 #[.slice A l.length cap,.agg #[.string x.aa,.string x.table,.int .i64 x.right,.string x.aC,.string x.to,.bool x.opt],.func (.func 65) #[] #[]] w fun e w'=>e=.returned (.tuple #[.int .i64 (cN cS l x),.bool (b8 cS l x)])∧ag w w':=by
 have hlen:=h.len;have HR:=gH hr;have HH:=gH h;clear hr h
 go_enter Tryz.func141,Tryz.ntmps141
 go_wp2_with fail
 go_loopw [9,10] (fun u7 u8 wr=>∃ lo hi:Nat,u7=.int .i64 lo∧u8=.int .i64 hi∧II cS l x lo hi∧ag (w.alloc (.cells #[.string x.aa,.string x.table,.int .i64 x.right,.string x.aC,.string x.to,.bool x.opt] 106)) wr) (fun u7 u8 _=>(intOf u8).toNat - (intOf u7).toNat)
 case atStart=>exact ⟨0,l.length,rfl,rfl,⟨Nat.zero_le _,Nat.le_refl _,fun t _ h=>absurd h (Nat.not_lt_zero t),fun t h1 h2=>by omega⟩,ag.refl _⟩
 case round =>
  obtain ⟨lo,hi,rfl,rfl,hI,ha⟩:=hrel;have HI:=gH hI;have hle:=hI.le;have Zf:=hI.hl;obtain ⟨gv,mC,hz,qu,HA⟩:=cJ ha;have mg:=gH ha;have y0:=gv 0;have y1:=gv 1;have y2:=gv 2;have y3:=gv 3;have y4:=gv 4;have y5:=gv 5;simp only [List.getElem?_toArray,List.getElem?_cons_succ,List.getElem?_cons_zero] at y0 y1 y2 y3 y4 y5;have yz:=hz.1;clear hI ha gv mC hz qu;by_cases hlt:lo < hi
  ·have hm:(lo+hi) / 2 < l.length:=by omega
   obtain ⟨b,off,rfl,hb,c0,c1,c2,c3,c4,c5,hs⟩:=mL (eZ HA.out HH.out) hm;obtain ⟨y,hy⟩:∃ y,l[(lo+hi) / 2]=y:=⟨_,rfl⟩;rw [hy] at c0 c1 c2 c3 c4 c5 hs;obtain ⟨q,hq⟩:∃ q,cS y x=q:=⟨_,rfl⟩;have C:=gH (show ∀ z:ii wr,_ from fun z=>hq▸Bb y x (bH wr z));have HY:=gH (show cS (l[(lo+hi) / 2]'hm) x=q by rw [hy];exact hq);clear hy hq;have w1:IntKind.i64.wrap ((lo:Int)+(hi:Int))=(lo:Int)+(hi:Int):=IntWalk.i64_in _ (by omega);by_cases LG:q < 0
   ·have HN:=gH (HI.out.right mK.lt HR.out (m:=(lo+hi) / 2) (by omega) (by rw [HY.out];exact LG))
    have Q9:decide (q < 0)=true:=decide_eq_true LG;go_wp2_with fail;refine av (by kernel_rfl) (by kernel_rfl) ?_
    repeat (go_big_quiet_step ((exact Calls.bD (C.out _))))
    refine wpQuiet_nil ?_;intro _ hw';obtain ⟨z,hw''⟩:=hw';subst hw'';go_wp2_with fail
    go_roundw
    case rel=>exact ⟨(lo+hi) / 2+1,hi,by rw [show ((lo:Int)+(hi:Int)) / 2+1=(((lo+hi) / 2+1:Nat):Int) by omega],rfl,HN.out,mg.out.bH z⟩
    case measure=>simp [intOf];omega
   ·have HN:=gH (HI.out.left mK.lt HR.out (m:=(lo+hi) / 2) (by omega) (by omega) (by rw [HY.out];exact LG))
    have Q9:decide (q < 0)=false:=decide_eq_false LG;go_wp2_with fail;refine av (by kernel_rfl) (by kernel_rfl) ?_
    repeat (go_big_quiet_step ((exact Calls.bD (C.out _))))
    refine wpQuiet_nil ?_;intro _ hw';obtain ⟨z,hw''⟩:=hw';subst hw'';go_wp2_with fail
    go_roundw
    case rel=>exact ⟨lo,(lo+hi) / 2,rfl,by rw [show ((lo:Int)+(hi:Int)) / 2=(((lo+hi) / 2:Nat):Int) by omega],HN.out,mg.out.bH z⟩
    case measure=>simp [intOf];omega
  ·have Tt:hi=lo:=by omega
   subst Tt;have HP:=gH (HI.out.pos);by_cases hn:hi < l.length
   ·have xJ:decide ((hi:Int) < (l.length:Int))=true:=decide_eq_true (by omega)
    obtain ⟨b,off,rfl,hb,c0,c1,c2,c3,c4,c5,hs⟩:=mL (eZ HA.out HH.out) hn;obtain ⟨y,hy⟩:∃ y,l[hi]=y:=⟨_,rfl⟩;rw [hy] at c0 c1 c2 c3 c4 c5 hs;obtain ⟨q,hq⟩:∃ q,cS y x=q:=⟨_,rfl⟩;have C:=gH (show ∀ z:ii wr,_ from fun z=>hq▸Bb y x (bH wr z))
    have HT:=gH (show b8 cS l x=(q==0) by
     unfold b8;rw [HP.out,List.getElem?_eq_getElem hn,hy]
     show decide (cS y x=0)=_
     rw [hq];rfl)
    clear hy hq;go_wp2_with fail;refine av (by kernel_rfl) (by kernel_rfl) ?_
    repeat (go_big_quiet_step ((exact Calls.bD (C.out _))))
    refine wpQuiet_nil ?_;intro _ hw';obtain ⟨z,hw''⟩:=hw';subst hw'';go_wp2_with fail
    go_ret2
    exact ⟨by rw [HP.out,HT.out];rfl,HA.out.bH z⟩
   ·have xJ:decide ((hi:Int) < (l.length:Int))=false:=decide_eq_false (by omega)
    have HT:=gH (show b8 cS l x=false by
     unfold b8
     rw [HP.out,List.getElem?_eq_none (by omega)])
    go_wp2_with fail;refine av (by kernel_rfl) (by kernel_rfl) ?_
    repeat (go_big_quiet_step (fail))
    refine wpQuiet_nil ?_;intro _ hw';obtain ⟨z,hw''⟩:=hw';subst hw'';go_wp2_with fail
    go_ret2
    exact ⟨by rw [HP.out,HT.out];rfl,HA.out.bH z⟩
def pg (w:World) (r:bW × Int) (e:Ending) (w':World):Prop:=∃ hs ht hn hm hg L,e=.returned (.tuple #[lq r.1 hs ht hn hm hg,.int .i64 r.2])∧ag w w'∧dc w' w.heap.size r.1 hs ht hn hm hg L
theorem IJ (w:World) (B:Nat):dc w B lH ⟨none,0,0⟩ ⟨none,0,0⟩ ⟨none,0,0⟩ ⟨none,0,0⟩ ⟨none,0,0⟩ [] :=
 ⟨⟨dl _ _ _ _,dl _ _ _ _,fun x hx=>by simp at hx,by simp [i6]⟩,rfl,⟨dl _ _ _ _,dl _ _ _ _,fun g hg=>by simp [i6] at hg⟩,dl _ _ _ _,fun g hg=>by simp [i6] at hg,fun g hg=>by simp [i6] at hg⟩
theorem iG {w w':World} {k:Int} (a:ag w w'):pg w (lH,k) (.returned (.tuple #[.agg #[.int .i64 0,.int .i64 0,.slice none 0 0,.slice none 0 0,.slice none 0 0,.slice none 0 0,.slice none 0 0],.int .i64 k])) w' :=
 ⟨⟨none,0,0⟩,⟨none,0,0⟩,⟨none,0,0⟩,⟨none,0,0⟩,⟨none,0,0⟩,[],rfl,a,IJ _ _⟩
def iZ (hs ht hn hm:Hd) (L:List ay) (g:Nat):Prop:=g∈hs.blk++(ht.blk++L.flatMap ay.bI)∨(g∈hn.blk∨g∈hm.blk)
theorem dc.lt {w:World} {B:Nat} {c:bW} {hs ht hn hm hg:Hd} {L:List ay} (h:dc w B c hs ht hn hm hg L) {g:Nat} (gl:iZ hs ht hn hm L g∨g∈hg.blk):B≤g∧g < w.heap.size:=by
 rcases gl with (h1 | h1) | h1
 ·exact h.obj.lt g h1
 ·exact h.Hs.lt g h1
 ·exact h.kv.lt g (Hd.au.1 h1)
theorem dc.Fp {P:Nat→Prop} {w w':World} {B:Nat} {c:bW} {hs ht hn hm hg gl:Hd} {L:List ay} {l:List cB} (h:dc w B c hs ht hn hm hg L) (kb:Kb P w w') (hP:∀ g,iZ hs ht hn hm L g→¬ P g)
  (ho:w'.ownsRow B 106 6 gl.v l.length (l.flatMap cC)) (hb:∀ g∈gl.blk,g∈hg.blk∨w.heap.size≤g):dc w' B { c with af:=l } hs ht hn hm gl L :=
 ⟨h.obj.kb kb (fun g hg=>hP g (.inl hg)),h.Lc,h.Hs.kb kb (fun g hg=>hP g (.inr hg)),ho,
 fun g hg=>⟨(h.mU g hg).1,fun h2=>by
  rcases hb g h2 with h3 | h3
  ·exact (h.mU g hg).2 h3
  ·have:=(h.obj.lt g hg).2;omega⟩,
 fun g hg h2=>by
  rcases hb g h2 with h3 | h3
  ·exact h.th g hg h3
  ·have:=(h.Hs.lt g hg).2;omega⟩
theorem dc.kb {P:Nat→Prop} {w w':World} {B:Nat} {c:bW} {hs ht hn hm hg:Hd} {L:List ay} (h:dc w B c hs ht hn hm hg L) (kb:Kb P w w') (hP:∀ g,iZ hs ht hn hm L g∨g∈hg.blk→¬ P g):dc w' B c hs ht hn hm hg L :=
 ⟨h.obj.kb kb (fun g hg=>hP g (.inl (.inl hg))),h.Lc,h.Hs.kb kb (fun g hg=>hP g (.inl (.inr hg))),aP h.kv kb (fun g hg=>hP g (.inr (Hd.au.2 hg))),h.mU,h.th⟩
theorem dc.down {w:World} {B B':Nat} {c:bW} {hs ht hn hm hg:Hd} {L:List ay} (h:dc w B c hs ht hn hm hg L) (hb:B'≤B):dc w B' c hs ht hn hm hg L:=⟨h.obj.down hb,h.Lc,h.Hs.down hb,bV h.kv hb,h.mU,h.th⟩
theorem zn (c:bW) (l:List cB) (hs ht hn hm hg:Hd):lq { c with af:=l } hs ht hn hm hg=.agg #[.int .i64 c.aA,.int .i64 c.version,.slice hs.a c.ai.ae.length hs.c,.slice ht.a c.ai.tables.length ht.c,.slice hn.a c.aj.names.length hn.c,.slice hm.a c.aj.members.length hm.c,.slice hg.a l.length hg.c]:=rfl
end Go.Proofs.YtmflccbnoeaafaaGreat
namespace Go.Proofs.YtmflccbnoeaafaaGreat
open Go.RowKit
set_option maxRecDepth 100000
set_option linter.unusedVariables false
set_option maxHeartbeats 64000000
def js (k:Int):Ending:=.panicked [{ v:=.iface 55 (.agg #[.int .i64 k]),recovered:=false }]
theorem fH (w:World):Calls Tryz.prog 15 #[.int .i64 0] w fun e w'=>e=.returned (.tuple #[])∧w=w':=by
 go_enter Tryz.func15,Tryz.ntmps15
 go_wp2_with fail
 go_end0
 exact ⟨rfl,rfl⟩
theorem ja (k:Int) (h:k≠0) (w:World):Calls Tryz.prog 15 #[.int .i64 k] w fun e w'=>e=js k∧w=w':=by
 go_enter Tryz.func15,Tryz.ntmps15
 go_wp2_with fail;exact ⟨rfl,rfl,rfl⟩
theorem ou (k:Int) (w:World):Calls Tryz.prog 16 #[.bool true,.int .i64 k] w fun e w'=>e=.returned (.tuple #[])∧w=w':=by
 go_enter Tryz.func16,Tryz.ntmps16
 go_wp2_with fail
 go_end0
 exact ⟨rfl,rfl⟩
theorem lv (k:Int) (w:World):Calls Tryz.prog 16 #[.bool false,.int .i64 k] w fun e w'=>e=js k∧w=w':=by
 go_enter Tryz.func16,Tryz.ntmps16
 go_wp2_with fail;exact ⟨rfl,rfl,rfl⟩
end Go.Proofs.YtmflccbnoeaafaaGreat
namespace Go.Proofs.YtmflccbnoeaafaaGreat
open Go.RowKit Go.Deep
set_option maxRecDepth 100000
set_option linter.unusedVariables false
set_option maxHeartbeats 64000000
def cK (c:bW) (hs ht hn hm hg:Hd):List Value:=[.int .i64 c.aA,.int .i64 c.version,.slice hs.a c.ai.ae.length hs.c,.slice ht.a c.ai.tables.length ht.c,.slice hn.a c.aj.names.length hn.c,.slice hm.a c.aj.members.length hm.c,.slice hg.a c.af.length hg.c]
def bU (w:World) (B b:Nat) (r:bW × Int) (e:Ending) (w':World):Prop :=
 Kb (fun g=>g=b∨B≤g) w w'∧(r.2≠0→e=js r.2∧∃ vs,vs.length=7∧ap w' b vs)∧(r.2=0→e=.returned (.tuple #[])∧∃ hs ht hn hm hg L,dc w' B r.1 hs ht hn hm hg L∧ap w' b (cK r.1 hs ht hn hm hg))
theorem bU.no {w w':World} {B b:Nat} {r:bW × Int} {k:Int} {vs:List Value} (k0:Kb (fun g=>g=b∨B≤g) w w') (rw0:ap w' b vs) (hl:vs.length=7) (h:r.2=k) (hk:k≠0):bU w B b r (js k) w':=⟨k0,fun _=>⟨by rw [h],vs,hl,rw0⟩,fun h0=>absurd (h.symm.trans h0) hk⟩
theorem bU.NB {w w':World} {B b:Nat} {r:bW × Int} {k:Int} {c:bW} {hs ht hn hm hg:Hd} (a:ag w w') (R0:ap w b (cK c hs ht hn hm hg)) (h:r.2=k) (hk:k≠0):bU w B b r (js k) w':=bU.no (Kb.aH a) (R0.az a) rfl h hk
theorem dc.ai {w w':World} {B D:Nat} {c:bW} {hs ht hn hm hg hs' ju:Hd} {L L':List ay} {o:bE} (h:dc w B c hs ht hn hm hg L) (a:ag w w') (hD:w.heap.size≤D) (hBD:B≤w.heap.size) (ob:bC w' D hs' ju o.ae L') (hL:L'.map ay.t=o.tables):dc w' B { c with ai:=o } hs' ju hn hm hg L':=by
 have h2:=h.az a;refine ⟨ob.down (by omega),hL,h2.Hs,h2.kv,fun g gl=>?_,h2.th⟩;have h3:=(ob.lt g gl).1;refine ⟨fun h4=>?_,fun h4=>?_⟩
 ·have:g < w.heap.size:=by rcases h4 with h4 | h4<;>exact (h.lt (.inl (by unfold iZ;simp [h4]))).2
  omega
 ·have:=(h.lt (.inr h4)).2
  omega
theorem IK {w V:World} {B b D:Nat} {c:bW} {hs ht hn hm hg:Hd} {L L2:List ay} {F0:List gj} {F1:List cu} {A1 A2:Option Addr} {n1 c1 n2 c2:Nat} (hb:b < B) (tK:B≤w.heap.size) (h:dc w B c hs ht hn hm hg L) (R0:ap w b (cK c hs ht hn hm hg)) (aV:ag w V) (hD:w.heap.size≤D) (ob:bC V D ⟨A1,n1,c1⟩ ⟨A2,n2,c2⟩ F0 L2) (hL:L2.map ay.t=F1) :
  bU w B b ({ c with ai:=⟨F0,F1⟩ },0) (.returned (.tuple #[])) ((V.setCell ⟨b,2,none⟩ (.slice A1 F0.length c1)).setCell ⟨b,3,none⟩ (.slice A2 F1.length c2)):=by
 have h2:=h.ai (o:=⟨F0,F1⟩) aV hD tK ob hL;have k:=(Kb.set V b 2 (.slice A1 F0.length c1)).trans (Kb.set _ b 3 (.slice A2 F1.length c2));refine ⟨(Kb.aH aV).trans (k.mono fun g _ e=>.inl e),fun h=>absurd rfl h,fun _=>⟨rfl,⟨A1,n1,c1⟩,⟨A2,n2,c2⟩,hn,hm,hg,L2,h2.kb k fun g gl e=>?_,?_⟩⟩
 ·have:=(h2.lt gl).1
  omega
 ·exact ((R0.az aV).set 2 _ (by simp [cK])).set 3 _ (by simp [cK])
theorem dc.aj {w w':World} {B D:Nat} {c:bW} {hs ht hn hm hg IL zo:Hd} {L:List ay} {r:fX} (h:dc w B c hs ht hn hm hg L) (a:ag w w') (hD:w.heap.size≤D) (hBD:B≤w.heap.size) (ob:dY w' D IL zo r):dc w' B { c with aj:=r } hs ht IL zo hg L:=by
 have h2:=h.az a
 have Tf:∀ g,g∈IL.blk∨g∈zo.blk→D≤g:=fun g h4=>by
  rcases h4 with h4 | h4
  ·exact (ob.fK.lt g (Hd.au.1 h4)).1
  ·exact (ob.mem.lt g (Hd.au.1 h4)).1
 refine ⟨h2.obj,h2.Lc,ob.down (by omega),h2.kv,fun g gl=>⟨fun h4=>?_,(h2.mU g gl).2⟩,fun g gl h4=>?_⟩
 ·have h3:=Tf g h4
  have:=(h.lt (.inl (.inl gl))).2;omega
 ·have h3:=Tf g gl
  have:=(h.lt (.inr h4)).2;omega
theorem DR {w V:World} {B b D:Nat} {c:bW} {hs ht hn hm hg:Hd} {L:List ay} {r:fX} {A1 A2:Option Addr} {n1 c1 n2 c2:Nat} (hb:b < B) (tK:B≤w.heap.size) (h:dc w B c hs ht hn hm hg L) (R0:ap w b (cK c hs ht hn hm hg)) (aV:ag w V) (hD:w.heap.size≤D) (ob:dY V D ⟨A1,n1,c1⟩ ⟨A2,n2,c2⟩ r) (e1:n1=r.names.length) (e2:n2=r.members.length) :
  bU w B b ({ c with aj:=r },0) (.returned (.tuple #[])) ((V.setCell ⟨b,4,none⟩ (.slice A1 n1 c1)).setCell ⟨b,5,none⟩ (.slice A2 n2 c2)):=by
 subst e1 e2;have h2:=h.aj (r:=r) aV hD tK ob;have k:=(Kb.set V b 4 (.slice A1 r.names.length c1)).trans (Kb.set _ b 5 (.slice A2 r.members.length c2));refine ⟨(Kb.aH aV).trans (k.mono fun g _ e=>.inl e),fun h=>absurd rfl h,fun _=>⟨rfl,hs,ht,⟨A1,r.names.length,c1⟩,⟨A2,r.members.length,c2⟩,hg,L,h2.kb k fun g gl e=>?_,?_⟩⟩
 ·have:=(h2.lt gl).1
  omega
 ·exact ((R0.az aV).set 4 _ (by simp [cK])).set 5 _ (by simp [cK])
theorem NC {w V:World} {B b D:Nat} {c:bW} {hs ht hn hm hg:Hd} {L:List ay} {l:List cB} {A:Option Addr} {cp:Nat} (hb:b < B) (tK:B≤w.heap.size) (h:dc w B c hs ht hn hm hg L) (R0:ap w b (cK c hs ht hn hm hg)) (aV:ag w V) (hD:w.heap.size≤D) (ho:V.ownsRow D 106 6 (Hd.mk A l.length cp).v l.length (l.flatMap cC)) :
  bU w B b ({ c with af:=l },0) (.returned (.tuple #[])) (V.setCell ⟨b,6,none⟩ (.slice A l.length cp)):=by
 have h2:dc V B { c with af:=l } hs ht hn hm ⟨A,l.length,cp⟩ L:=h.Fp (P:=fun _=>False) (Kb.aH aV) (fun _ _ e=>e) (bV ho (by omega)) (fun g gl=>.inr (by have:=(ho.lt g (Hd.au.1 gl)).1;omega));have k:=Kb.set V b 6 (.slice A l.length cp);refine ⟨(Kb.aH aV).trans (k.mono fun g _ e=>.inl e),fun h=>absurd rfl h,fun _=>⟨rfl,hs,ht,hn,hm,⟨A,l.length,cp⟩,L,h2.kb k fun g gl e=>?_,?_⟩⟩
 ·have:=(h2.lt gl).1
  omega
 ·exact (R0.az aV).set 6 _ (by simp [cK])
end Go.Proofs.YtmflccbnoeaafaaGreat
namespace Go.Proofs.YtmflccbnoeaafaaGreat
open Go.RowKit
set_option maxRecDepth 100000
set_option linter.unusedVariables false
set_option maxHeartbeats 64000000
theorem zq (p q:Nat) (k:Int) (v0 v1 v2 v3 v4 v5 v6 x:Value) (w:World) (rp:ap w p [v0,v1,v2,v3,v4,v5,v6]) (rq:ap w q [x]) (WY:p≠q) :
  CallsD Tryz.prog 14 #[.pointer (some ⟨p,0,none⟩),.pointer (some ⟨q,0,none⟩)] (.panicking [{ v:=.iface 55 (.agg #[.int .i64 k]),recovered:=false }]) w fun e u' w' =>
   e=.returned (.tuple #[])∧u'=.panicking [{ v:=.iface 55 (.agg #[.int .i64 k]),recovered:=true }]∧Kb (fun g=>g=p∨g=q) w w'∧ap w' p [.int .i64 0,.int .i64 0,.slice none 0 0,.slice none 0 0,.slice none 0 0,.slice none 0 0,.slice none 0 0]∧ap w' q [.int .i64 k]:=by
 have Zg:q≠p:=fun e=>WY e.symm
 refine callsD_of_wpS Tryz.func14 rfl fun Tu cs hu=>?_
 apply wpS_seq;apply wpS_region;simp [wpOpsS,go_sem,recoverD,hu,Tryz.ntmps14,Exit.thenS];have e:(#[Value.pointer (some ⟨p,0,none⟩),Value.pointer (some ⟨q,0,none⟩)]++((Array.replicate 8 undef).setIfInBounds 1 (Value.iface 55 (Value.agg #[Value.int IntKind.i64 k]))).setIfInBounds 0 (Value.iface 55 (Value.agg #[Value.int IntKind.i64 k])))=#[Value.pointer (some ⟨p,0,none⟩),Value.pointer (some ⟨q,0,none⟩),Value.iface 55 (Value.agg #[Value.int IntKind.i64 k]),Value.iface 55 (Value.agg #[Value.int IntKind.i64 k]),undef,undef,undef,undef,undef,undef]:=rfl;rw [e];clear e;have HP:=gH rp;have HQ:=gH rq;have x0:=rp.cell (j:=0) rfl;have f0:=rp.2.2 0 (by simp);have x1:=rp.cell (j:=1) rfl;have f1:=rp.2.2 1 (by simp);have x2:=rp.cell (j:=2) rfl;have f2:=rp.2.2 2 (by simp);have x3:=rp.cell (j:=3) rfl;have f3:=rp.2.2 3 (by simp);have x4:=rp.cell (j:=4) rfl;have f4:=rp.2.2 4 (by simp);have x5:=rp.cell (j:=5) rfl;have f5:=rp.2.2 5 (by simp);have x6:=rp.cell (j:=6) rfl;have f6:=rp.2.2 6 (by simp);have xz:=rp.1;have y0:=rq.cell (j:=0) rfl;have g0:=rq.2.2 0 (by simp);have yz:=rq.1;clear rp rq
 have hta:∀ V:World,(Instr.typeAssert (Value.iface 55 (Value.agg #[Value.int IntKind.i64 k])) 20 55 false).run Tryz.prog V=.ok (.agg #[.int .i64 k]) V:=fun V=>by first | rfl | kernel_rfl
 have SH:∀ V:World,(Instr.field 55 (Value.agg #[Value.int IntKind.i64 k]) 0).run Tryz.prog V=.ok (.int .i64 k) V:=fun V=>by first | rfl | kernel_rfl
 refine wpS_of_wp ?_;go_wp2_with fail
 go_region
 go_wp2_with fail;have k1:=dG w p (.int .i64 0) (.int .i64 0) (.slice none 0 0) (.slice none 0 0) (.slice none 0 0) (.slice none 0 0) (.slice none 0 0);have r1:=cO HP.out rfl (.int .i64 0) (.int .i64 0) (.slice none 0 0) (.slice none 0 0) (.slice none 0 0) (.slice none 0 0) (.slice none 0 0);have q1:=k1.row HQ.out Zg;obtain ⟨V,hV⟩:∃ V,V=((((((w.setCell ⟨p,0,none⟩ (.int .i64 0)).setCell ⟨p,1,none⟩ (.int .i64 0)).setCell ⟨p,2,none⟩ (.slice none 0 0)).setCell ⟨p,3,none⟩ (.slice none 0 0)).setCell ⟨p,4,none⟩ (.slice none 0 0)).setCell ⟨p,5,none⟩ (.slice none 0 0)).setCell ⟨p,6,none⟩ (.slice none 0 0):=⟨_,rfl⟩;rw [← hV] at k1 r1 q1 ⊢;refine ⟨rfl,_,rfl,.tuple #[],?_,rfl,rfl,?_,?_,?_⟩
 ·exact results_none rfl _ _ _
 ·exact ((k1.mono fun g _ e=>.inl e).trans ((Kb.set V q 0 _).mono fun g _ e=>.inr e)).trans (Kb.aH (ag.refl _).drew)
 ·exact (r1.O6 Zg 0 _).az (ag.refl _).drew
 ·exact (q1.set 0 _ (by simp)).az (ag.refl _).drew
theorem xa (p q:Addr) (w:World) :
  CallsD Tryz.prog 14 #[.pointer (some p),.pointer (some q)] .returning w fun e u' w'=>e=.returned (.tuple #[])∧u'=.returning∧w'=w:=by
 refine callsD_of_wpS Tryz.func14 rfl fun Tu cs hu=>?_
 apply wpS_seq;apply wpS_region;simp [wpOpsS,go_sem,recoverD,hu,Tryz.ntmps14,Exit.thenS];have e:(#[Value.pointer (some p),Value.pointer (some q)]++((Array.replicate 8 undef).setIfInBounds 1 Value.nilIface).setIfInBounds 0 Value.nilIface)=#[Value.pointer (some p),Value.pointer (some q),Value.nilIface,Value.nilIface,undef,undef,undef,undef,undef,undef]:=rfl;rw [e];clear e;refine wpS_of_wp ?_;go_wp2_with fail
 cases Tu
 refine ⟨rfl,_,?_,.tuple #[],?_,rfl,rfl,rfl⟩
 ·simp only at hu
  subst hu;rfl
 ·exact results_none rfl _ _ _
theorem mY {fn:Func} {a u:Tmp} {t s:TypeId} (h:fn.results=#[.cell a t,.cell u s]) (tmps:Array Value) {P:Program} {w:World} {p q:Addr} {v x:Value} (ha:tmps.getD a undef=.pointer (some p)) (hu:tmps.getD u undef=.pointer (some q)) (hl:(loadVar t p).run P w=.ok v w) (hm:(loadVar s q).run P w=.ok x w) :
  (results fn tmps).run P w=.ok (.tuple #[v,x]) w:=by
 rw [Array.getD_eq_getD_getElem?] at ha hu;simp [results,h,ha,hu,asAddr,hl,hm]
theorem vE {V:World} {q:Nat} {k:Int} (h:ap V q [.int .i64 k]):(loadVar 43 ⟨q,0,none⟩).run Tryz.prog V=.ok (.int .i64 k) V:=by
 have y0:=h.cell (j:=0) rfl;simp [go_sem,y0]
theorem vF {tmps:Array Value} {R:Ending→World→Prop} {p q:Nat} {k:Int} {vs:List Value} {x:Value} {V:World} (h4:tmps.getD 4 undef=.pointer (some ⟨p,0,none⟩)) (h5:tmps.getD 5 undef=.pointer (some ⟨q,0,none⟩)) (rp:ap V p vs) (hl:vs.length=7) (rq:ap V q [x]) (WY:p≠q)
  (hR:∀ w',Kb (fun g=>g=p∨g=q) V w'→R (.returned (.tuple #[.agg #[.int .i64 0,.int .i64 0,.slice none 0 0,.slice none 0 0,.slice none 0 0,.slice none 0 0,.slice none 0 0],.int .i64 k])) w') :
  Leaves Tryz.prog Tryz.f7 tmps R [{ target:=Target.fn (Fn.func 14) #[.pointer (some ⟨p,0,none⟩),.pointer (some ⟨q,0,none⟩)],args:=#[] }] (.panicking [{ v:=.iface 55 (.agg #[.int .i64 k]),recovered:=false }]) V:=by
 obtain ⟨v0,v1,v2,v3,v4,v5,v6,rfl⟩:∃ v0 v1 v2 v3 v4 v5 v6,vs=[v0,v1,v2,v3,v4,v5,v6]:=by
  match vs,hl with
  | [a0,a1,a2,a3,a4,a5,a6],_=>exact ⟨a0,a1,a2,a3,a4,a5,a6,rfl⟩
 refine leaves_cons (f:=14) (args:=#[.pointer (some ⟨p,0,none⟩),.pointer (some ⟨q,0,none⟩)]) (by simp) (by simp [go_sem]) ?_;refine (zq p q k v0 v1 v2 v3 v4 v5 v6 x V rp rq WY).mono ?_;rintro e u' w'' ⟨rfl,rfl,kb,r1,r2⟩;exact ⟨_,mY rfl tmps h4 h5 (dr r1) (vE r2),hR _ kb⟩
theorem vG {tmps:Array Value} {R:Ending→World→Prop} {p q:Nat} {k:Int} {v0 v1 v2 v3 v4 v5 v6:Value} {V:World} (h4:tmps.getD 4 undef=.pointer (some ⟨p,0,none⟩)) (h5:tmps.getD 5 undef=.pointer (some ⟨q,0,none⟩)) (rp:ap V p [v0,v1,v2,v3,v4,v5,v6]) (rq:ap V q [.int .i64 k])
  (hR:R (.returned (.tuple #[.agg #[v0,v1,v2,v3,v4,v5,v6],.int .i64 k])) V) :
  Leaves Tryz.prog Tryz.f7 tmps R [{ target:=Target.fn (Fn.func 14) #[.pointer (some ⟨p,0,none⟩),.pointer (some ⟨q,0,none⟩)],args:=#[] }] .returning V:=by
 refine leaves_cons (f:=14) (args:=#[.pointer (some ⟨p,0,none⟩),.pointer (some ⟨q,0,none⟩)]) (by simp) (by simp [go_sem]) ?_;refine (xa ⟨p,0,none⟩ ⟨q,0,none⟩ V).mono ?_;rintro e u' w'' ⟨rfl,rfl,rfl⟩;exact ⟨_,mY rfl tmps h4 h5 (dr rp) (vE rq),hR⟩
theorem Fq {nm ow:ByteArray} {o:bE}:(dp nm ow o).2=0→dp nm ow o=(⟨bQ o.ae (cN jB o.ae ⟨nm,ow⟩) ⟨nm,ow⟩,o.tables⟩,0):=by
 unfold dp
 repeat' split
 all_goals first | exact fun h=>absurd h (by decide) | exact fun _=>rfl
theorem BP {nm:ByteArray} {o:bE}:(cP nm o).2=0→cP nm o=(⟨o.ae.eraseIdx (cE o.ae nm).toNat,o.tables⟩,0):=by
 unfold cP
 repeat' split
 all_goals first | exact fun h=>absurd h (by decide) | exact fun _=>rfl
theorem Fr {t:cu} {o:bE}:(dy t o).2=0→dy t o=(⟨o.ae,bQ o.tables (cN eG o.tables t) t⟩,0):=by
 unfold dy
 repeat' split
 all_goals first | exact fun h=>absurd h (by decide) | exact fun _=>rfl
theorem BQ {s n:ByteArray} {o:bE}:(cv s n o).2=0→cv s n o=(⟨o.ae,o.tables.eraseIdx (bj o.tables s n).toNat⟩,0)∧0≤bj o.tables s n:=by
 unfold cv;by_cases h1:bj o.tables s n < 0
 ·rw [if_pos h1];exact fun h=>absurd h (by decide)
 ·rw [if_neg h1]
  split
  ·exact fun h=>absurd h (by decide)
  ·exact fun _=>⟨rfl,by omega⟩
structure Tv (c:bW) (x:eW) (o:bE):Prop where
 chk:bF o=true
 gQ:∀ s∈o.ae,s∈c.ai.ae∨s.owner=x.aJ
 tab:∀ t∈o.tables,(∃ u∈c.ai.tables,t.owner=u.owner)∨t.owner=x.aJ∨dQ c.aj.names t.owner=true
 keep:∀ t∈c.ai.tables,¬ (x.kind=4∧t.aa=x.aa∧t.name=x.table)→∃ u∈o.tables,u.aa=t.aa∧u.name=t.name∧(x.kind≠9→u.owner=t.owner)
 Tw:x.kind≠2→∀ z∈c.ai.ae,z∈o.ae
theorem mZ {c:bW} {x:eW} {f:cu→cu × Int} (hz:(cY c.ai x.aa x.table f).2=0) (gA:bF (cY c.ai x.aa x.table f).1=true)
  (hf:∀ t,(f t).2=0→(f t).1.aa=t.aa∧(f t).1.name=t.name∧((f t).1.owner=t.owner∨(x.kind=9∧dQ c.aj.names (f t).1.owner=true))):Tv c x (cY c.ai x.aa x.table f).1:=by
 obtain ⟨q,hq,h1,h2,h3⟩:=zm hz;rw [h3] at gA ⊢;obtain ⟨e1,e2,e3⟩:=hf _ h2;refine ⟨gA,fun s hs=>.inl hs,fun t ht=>?_,fun t ht hn=>?_,fun _ z hz=>hz⟩
 ·rcases oT ht with rfl | ht
  ·rcases e3 with e3 | e3
   ·exact .inl ⟨_,List.getElem_mem hq,e3⟩
   ·exact .inr (.inr e3.2)
  ·exact .inl ⟨t,ht,rfl⟩
 ·obtain ⟨i,hi,rfl⟩:=List.getElem_of_mem ht
  by_cases e:i=q
  ·subst e
   exact ⟨_,List.mem_set hi _,e1,e2,fun h9=>e3.resolve_right fun h=>h9 h.1⟩
  ·exact ⟨c.ai.tables[i],List.mem_iff_getElem.2 ⟨i,by simpa using hi,by rw [List.getElem_set_ne (Ne.symm e)]⟩,rfl,rfl,fun _=>rfl⟩
theorem IM {c:bW} {x:eW} (gA:bF c.ai=true) (oF:1≤x.kind) (hk9:x.kind≤9) (hz:(dt c x).2=0):Tv c x (dt c x).1:=by
 have hk:x.kind=1∨x.kind=2∨x.kind=3∨x.kind=4∨x.kind=5∨x.kind=6∨x.kind=7∨x.kind=8∨x.kind=9:=by omega
 rcases hk with hk | hk | hk | hk | hk | hk | hk | hk | hk
 ·have e:dt c x=dp x.aa x.aJ c.ai:=by unfold dt;rw [if_pos hk,iE gA]
  rw [e] at hz ⊢;have h1:=Fq hz;have h2:=BG gA hz;rw [h1] at h2 ⊢;exact ⟨h2,fun s hs=>(cj.1 hs).elim (fun h=>.inr (by rw [h])) .inl,fun t ht=>.inl ⟨t,ht,rfl⟩,fun t ht _=>⟨t,ht,rfl,rfl,fun _=>rfl⟩,fun _ z hz=>cj.2 (.inr hz)⟩
 ·have e:dt c x=cP x.aa c.ai:=by unfold dt;rw [if_neg (by omega),if_pos hk,iE gA]
  rw [e] at hz ⊢;have h1:=BP hz;have h2:=zl gA hz;rw [h1] at h2 ⊢;exact ⟨h2,fun s hs=>.inl (List.mem_of_mem_eraseIdx hs),fun t ht=>.inl ⟨t,ht,rfl⟩,fun t ht _=>⟨t,ht,rfl,rfl,fun _=>rfl⟩,fun h=>absurd hk h⟩
 ·have e:dt c x=dy ⟨x.aa,x.table,x.aJ,x.ak,[]⟩ c.ai:=by unfold dt;rw [if_neg (by omega),if_neg (by omega),if_pos hk,iE gA]
  rw [e] at hz ⊢;have h1:=Fr hz;have h2:=BH gA hz;rw [h1] at h2 ⊢;exact ⟨h2,fun s hs=>.inl hs,fun t ht=>(cj.1 ht).elim (fun h=>.inr (.inl (by rw [h]))) (fun h=>.inl ⟨t,h,rfl⟩),fun t ht _=>⟨t,cj.2 (.inr ht),rfl,rfl,fun _=>rfl⟩,fun _ z hz=>hz⟩
 ·have e:dt c x=cv x.aa x.table c.ai:=by unfold dt;rw [if_neg (by omega),if_neg (by omega),if_neg (by omega),if_pos hk,iE gA]
  rw [e] at hz ⊢;obtain ⟨h1,h0⟩:=BQ hz;have h2:=ze gA hz;obtain ⟨p,hp⟩:∃ p:Nat,bj c.ai.tables x.aa x.table=p:=⟨_,(Int.toNat_of_nonneg h0).symm⟩;have hr:=(bg (fun t:cu=>bk t.aa x.aa&&bk t.name x.table) c.ai.tables).2
  have hpl:p < c.ai.tables.length:=by unfold bj at hp;omega
  obtain ⟨e1,e2⟩:=pU hp hpl;rw [h1] at h2 ⊢;rw [hp,Int.toNat_natCast] at h2 ⊢;exact ⟨h2,fun s hs=>.inl hs,fun t ht=>.inl ⟨t,List.mem_of_mem_eraseIdx ht,rfl⟩,fun t ht hn=>⟨t,fE ht fun h e=>hn ⟨hk,by rw [e];exact e1,by rw [e];exact e2⟩,rfl,rfl,fun _=>rfl⟩,fun _ z hz=>hz⟩
 ·have e:dt c x=cY c.ai x.aa x.table (eF (dP x)):=by unfold dt;rw [if_neg (by omega),if_neg (by omega),if_neg (by omega),if_neg (by omega),if_pos hk,iE gA]
  rw [e] at hz ⊢
  exact mZ hz (BI gA hz) fun t h=>by
   revert h
   unfold eF
   repeat' split
   all_goals exact fun _=>⟨rfl,rfl,.inl rfl⟩
 ·have e:dt c x=cY c.ai x.aa x.table (eB x.name):=by unfold dt;rw [if_neg (by omega),if_neg (by omega),if_neg (by omega),if_neg (by omega),if_neg (by omega),if_pos hk,iE gA]
  rw [e] at hz ⊢
  exact mZ hz (zh gA hz) fun t h=>by
   revert h
   unfold eB
   repeat' split
   all_goals exact fun _=>⟨rfl,rfl,.inl rfl⟩
 ·have e:dt c x=cY c.ai x.aa x.table (eo c.ai.tables x.rule):=by unfold dt;rw [if_neg (by omega),if_neg (by omega),if_neg (by omega),if_neg (by omega),if_neg (by omega),if_neg (by omega),if_pos hk,iE gA]
  rw [e] at hz ⊢
  exact mZ hz (BD gA hz) fun t h=>by
   revert h
   unfold eo
   repeat' split
   all_goals exact fun _=>⟨rfl,rfl,.inl rfl⟩
 ·have e:dt c x=cY c.ai x.aa x.table (dN c.ai.tables x.aa x.table x.name):=by unfold dt;rw [if_neg (by omega),if_neg (by omega),if_neg (by omega),if_neg (by omega),if_neg (by omega),if_neg (by omega),if_neg (by omega),if_pos hk,iE gA]
  rw [e] at hz ⊢
  exact mZ hz (yU gA hz) fun t h=>by
   revert h
   unfold dN
   repeat' split
   all_goals exact fun _=>⟨rfl,rfl,.inl rfl⟩
 ·by_cases hi:dQ c.aj.names x.role=true
  ·have e:dt c x=eE c.ai x.aa x.table x.role:=by unfold dt;rw [if_neg (by omega),if_neg (by omega),if_neg (by omega),if_neg (by omega),if_neg (by omega),if_neg (by omega),if_neg (by omega),if_neg (by omega),if_pos hi]
   rw [e] at hz ⊢;obtain ⟨h1,h2,h3⟩:=BM gA hz;rw [h3] at hz h1 ⊢
   exact mZ hz h1 fun t _=>⟨rfl,rfl,.inr ⟨hk,hi⟩⟩
  ·have e:dt c x=(cx,71):=by unfold dt;rw [if_neg (by omega),if_neg (by omega),if_neg (by omega),if_neg (by omega),if_neg (by omega),if_neg (by omega),if_neg (by omega),if_neg (by omega),if_neg hi]
   rw [e] at hz;exact absurd hz (by decide)
theorem kK {α:Type} {c:α→α→Int} (tr:∀ a b d,c a b < 0→c b d < 0→c a d < 0) {l:List α}:aN c l=true↔l.Pairwise fun a b=>c a b < 0:=by
 constructor
 ·exact fun h=>List.pairwise_iff_getElem.2 fun i j hi hj px=>eh tr h i j hi hj px
 ·exact fun h=>(dh _ _).2 fun k hk=>List.pairwise_iff_getElem.1 h k (k+1) (by omega) hk (by omega)
theorem zr {α:Type} {c:α→α→Int} (o:uu c) {l:List α} {x:α} (h:b8 c l x=true):l[cN c l x]'(fQ h)=x:=by
 have hl:=fQ h;unfold b8 at h;rw [List.getElem?_eq_getElem hl] at h;exact o.Og _ _ (of_decide_eq_true h)
theorem Fs {r:fX} {nm:ByteArray} (h:bN r=true) (h1:bP nm=true) (h2:b8 bw r.names nm=false) (h3:¬ 16≤r.names.length):bN { r with names:=bQ r.names (cN bw r.names nm) nm }=true:=by
 obtain ⟨p1,p2,p3,p4,p5,p6⟩:=cQ.1 h;refine cQ.2 ⟨?_,p2,vH rX p3 h2,p4,fun s hs=>?_,fun m hm=>?_⟩
 ·show (bQ r.names (cN bw r.names nm) nm).length≤16
  rw [eI _ _ _ (fD _ _ _)];omega
 ·rcases cj.1 hs with e | e
  ·rw [e];exact h1
  ·exact p5 s e
 ·have:=p6 m hm
  exact ⟨cj.2 (.inr this.1),cj.2 (.inr this.2.1),this.2.2⟩
theorem zt {r:fX} {nm:ByteArray} (h:bN r=true) (h2:b8 bw r.names nm=true) (h3:r.members.any (oz nm)=false):bN { r with names:=r.names.eraseIdx (cN bw r.names nm) }=true:=by
 obtain ⟨p1,p2,p3,p4,p5,p6⟩:=cQ.1 h;have he:=zr rX h2;refine cQ.2 ⟨Nat.le_trans (List.length_eraseIdx_le _ _) p1,p2,(kK rX.tr).2 (((kK rX.tr).1 p3).sublist (List.eraseIdx_sublist _ _)),p4,fun s hs=>p5 s (List.mem_of_mem_eraseIdx hs),fun m hm=>?_⟩
 have hu:oz nm m=false:=by
  rw [List.any_eq_false] at h3
  simpa using h3 m hm
 unfold oz at hu;rw [Bool.or_eq_false_iff] at hu;have:=p6 m hm;exact ⟨fE this.1 fun h9 e=>(by have:=hu.1;rw [e,he,df] at this;cases this),fE this.2.1 fun h9 e=>(by have:=hu.2;rw [e,he,df] at this;cases this),this.2.2⟩
theorem zv {r:fX} {m:em} (h:bN r=true):bN { r with members:=r.members.eraseIdx (cN eV r.members m) }=true:=by
 obtain ⟨p1,p2,p3,p4,p5,p6⟩:=cQ.1 h;refine cQ.2 ⟨p1,Nat.le_trans (List.length_eraseIdx_le _ _) p2,p3,(kK LH.tr).2 (((kK LH.tr).1 p4).sublist (List.eraseIdx_sublist _ _)),p5,fun m hm=>?_⟩;have:=p6 m (List.mem_of_mem_eraseIdx hm);exact ⟨this.1,this.2.1,fun hr=>this.2.2 (hr.mono fun x hx=>List.mem_of_mem_eraseIdx hx)⟩
structure WZ (c:bW) (x:eW) (r:fX):Prop where
 right:bN r=true
 need:∀ a,dQ c.aj.names a=true→io c a=true→dQ r.names a=true
 fK:x.kind≠11→∀ a,dQ c.aj.names a=true→dQ r.names a=true
 mem:x.kind≠13→∀ m∈c.aj.members,m∈r.members
theorem sy {r:fX} {f:fX × Int} (h:bN r=true) (hz:(eC r f).2=0):f.2=0∧eC r f=(f.1,0):=by
 unfold eC at hz ⊢;rw [if_pos h] at hz ⊢;by_cases h2:f.2=0
 ·rw [if_pos h2];exact ⟨h2,rfl⟩
 ·rw [if_neg h2] at hz;exact absurd hz h2
theorem IP {c:bW} {x:eW} (hr:bN c.aj=true) (oF:10≤x.kind) (hk9:x.kind≤13) (hz:(gC c x).2=0):WZ c x (gC c x).1:=by
 have hk:x.kind=10∨x.kind=11∨x.kind=12∨x.kind=13:=by omega
 rcases hk with hk | hk | hk | hk
 ·have e:gC c x=eC c.aj (lR x.role c.aj):=by unfold gC;rw [if_pos hk]
  rw [e] at hz ⊢;obtain ⟨h1,h2⟩:=sy hr hz;rw [h2];unfold lR at h1 ⊢;by_cases c1:bP x.role=true
  ·rw [if_pos c1] at h1 ⊢
   by_cases c2:b8 bw c.aj.names x.role=true
   ·rw [if_pos c2] at h1;exact absurd h1 (by simp)
   ·rw [if_neg c2] at h1 ⊢
    by_cases c3:16≤c.aj.names.length
    ·rw [if_pos c3] at h1;exact absurd h1 (by simp)
    ·rw [if_neg c3]
     rw [Bool.not_eq_true] at c2
     have hn:∀ a,dQ c.aj.names a=true→dQ (bQ c.aj.names (cN bw c.aj.names x.role) x.role) a=true:=fun a ha=>(iB _ _).2 (cj.2 (.inr ((iB _ _).1 ha)))
     exact ⟨Fs hr c1 c2 c3,fun a ha _=>hn a ha,fun _=>hn,fun _ m hm=>hm⟩
  ·rw [if_neg c1] at h1;exact absurd h1 (by simp)
 ·have e:gC c x=if dQ c.aj.names x.role&&io c x.role then (DN,73) else eC c.aj (fO x.role c.aj):=by unfold gC;rw [if_neg (by omega),if_pos hk]
  rw [e] at hz ⊢;by_cases c0:(dQ c.aj.names x.role&&io c x.role)=true
  ·rw [if_pos c0] at hz;exact absurd hz (by simp)
  rw [if_neg c0] at hz ⊢;obtain ⟨h1,h2⟩:=sy hr hz;rw [h2];unfold fO at h1 ⊢;by_cases c2:b8 bw c.aj.names x.role=true
  ·rw [if_pos c2] at h1 ⊢
   by_cases c3:c.aj.members.any (oz x.role)=true
   ·rw [if_pos c3] at h1;exact absurd h1 (by simp)
   ·rw [if_neg c3]
    rw [Bool.not_eq_true] at c3
    have mb:dQ c.aj.names x.role=true:=by rw [vI (cQ.1 hr).2.2.1];exact c2
    rw [mb] at c0;refine ⟨zt hr c2 c3,fun a ha hn=>(iB _ _).2 (fE ((iB _ _).1 ha) fun h9 e=>?_),fun h=>absurd hk h,fun _ m hm=>hm⟩;rw [zr rX c2] at e;rw [e] at hn;rw [hn] at c0;exact c0 rfl
  ·rw [if_neg c2] at h1;exact absurd h1 (by simp)
 ·have e:gC c x=eC c.aj (iD ⟨x.role,x.name⟩ c.aj):=by unfold gC;rw [if_neg (by omega),if_neg (by omega),if_pos hk]
  rw [e] at hz ⊢;obtain ⟨h1,h2⟩:=sy hr hz;rw [h2];unfold iD at h1 ⊢;by_cases c1:(dQ c.aj.names x.role&&dQ c.aj.names x.name)=true
  ·rw [if_pos c1] at h1 ⊢
   rw [Bool.and_eq_true] at c1;by_cases c2:b8 eV c.aj.members ⟨x.role,x.name⟩=true
   ·rw [if_pos c2] at h1;exact absurd h1 (by simp)
   ·rw [if_neg c2] at h1 ⊢
    rw [Bool.not_eq_true] at c2;by_cases c3:dI c.aj.members x.name x.role=true
    ·rw [if_pos c3] at h1;exact absurd h1 (by simp)
    ·rw [if_neg c3] at h1 ⊢
     rw [Bool.not_eq_true] at c3;exact ⟨BR hr c1.1 c1.2 c2 c3,fun a ha _=>ha,fun _ a ha=>ha,fun _ m hm=>cj.2 (.inr hm)⟩
  ·rw [if_neg c1] at h1;exact absurd h1 (by simp)
 ·have e:gC c x=eC c.aj (gD ⟨x.role,x.name⟩ c.aj):=by unfold gC;rw [if_neg (by omega),if_neg (by omega),if_neg (by omega)]
  rw [e] at hz ⊢;obtain ⟨h1,h2⟩:=sy hr hz;rw [h2];unfold gD at h1 ⊢;by_cases c2:b8 eV c.aj.members ⟨x.role,x.name⟩=true
  ·rw [if_pos c2]
   exact ⟨zv hr,fun a ha _=>ha,fun _ a ha=>ha,fun h=>absurd hk h⟩
  ·rw [if_neg c2] at h1;exact absurd h1 (by simp)
theorem tL {x:eW} (h:fF x=true):1≤x.kind∧x.kind≤15:=by
 unfold fF at h;rw [DC] at h;simp only [Bool.and_eq_true] at h;have h1:=h.1.1.1.1.1.1;unfold Hx at h1;simp only [Bool.and_eq_true,decide_eq_true_eq] at h1;exact h1
theorem kj {c:bW} {x:eW} (h:x.kind≤9):bZ c x=({ c with ai:=(dt c x).1,af:=if x.kind=4 then ml c.af x.aa x.table else c.af },(dt c x).2):=by unfold bZ;rw [if_pos h]
theorem pX {c:bW} {x:eW} (h:10≤x.kind) (h2:x.kind≤13):bZ c x=({ c with aj:=(gC c x).1 },(gC c x).2):=by unfold bZ;rw [if_neg (by omega),if_pos h2]
theorem nK {c:bW} {x:eW} (h:x.kind=14):bZ c x=dX c ⟨x.aa,x.table,x.right,x.aJ,x.role,x.opt⟩:=by unfold bZ;rw [if_neg (by omega),if_neg (by omega),if_pos h]
theorem tM {c:bW} {x:eW} (h:15≤x.kind):bZ c x=({ c with af:=oX c.af (ji c x.aJ x.aa x.table) x },if (oX c.af (ji c x.aJ x.aa x.table) x).length=c.af.length then 80 else 0):=by unfold bZ;rw [if_neg (by omega),if_neg (by omega),if_neg (by omega)]
theorem rM {c:bW} {x:eW} (hs:bM c=true) (ha:dQ c.aj.names x.aJ=true) (hk:1≤x.kind) (hz:(bZ c x).2=0):bM (bZ c x).1=true:=by
 obtain ⟨h1,h2,h3,h4⟩:=bO.1 hs;obtain ⟨uG,WP⟩:=pc.1 h2.2.2.2;by_cases k9:x.kind≤9
 ·rw [kj k9] at hz ⊢
  have D:=IM h2.1 hk k9 hz;refine zj hs D.chk (fun s hx=>(D.gQ s hx).elim (uG s) (fun e=>by rw [e];exact ha)) (fun t ht=>?_) (l:=if x.kind=4 then ml c.af x.aa x.table else c.af) ?_ (fun g hg=>?_)
  ·rcases D.tab t ht with ⟨u,hu,e⟩ | e | e
   ·rw [e];exact WP u hu
   ·rw [e];exact ha
   ·exact e
  ·split
   ·exact List.filter_sublist
   ·exact List.Sublist.refl _
  ·have ot:g∈c.af∧¬ (x.kind=4∧g.aa=x.aa∧g.table=x.table):=by
    split at hg
    ·have:=List.mem_filter.1 (show g∈c.af.filter _ from hg)
     refine ⟨this.1,fun h=>?_⟩;have h5:=this.2;rw [h.2.1,h.2.2,df,df] at h5
     cases h5
    ·rename_i h4
     exact ⟨hg,fun h=>h4 h.1⟩
   obtain ⟨t,ht,e1,e2⟩:=(jR _ _ _).1 (ll (h3 g ot.1)).1;obtain ⟨u,hu,e3,e4,_⟩:=D.keep t ht (fun h=>ot.2 ⟨h.1,by rw [← e1];exact h.2.1,by rw [← e2];exact h.2.2⟩);exact (jR _ _ _).2 ⟨u,hu,e3.trans e1,e4.trans e2⟩
 by_cases LI:x.kind≤13
 ·rw [pX (by omega) LI] at hz ⊢
  have D:=IP h2.2.1 (by omega) LI hz;exact zk hs D.right D.need
 by_cases O7:x.kind=14
 ·rw [nK O7] at hz ⊢
  exact (cZ.1 (sr hz).s9).1
 ·rw [tM (by omega)] at hz ⊢
  exact sZ hs List.filter_sublist
theorem qO {c:bW} {x:eW} (hz:(bZ c x).2=0):(bZ c x).1.aA=c.aA∧(bZ c x).1.version=c.version:=by
 by_cases k9:x.kind≤9
 ·rw [kj k9];exact ⟨rfl,rfl⟩
 by_cases LI:x.kind≤13
 ·rw [pX (by omega) LI];exact ⟨rfl,rfl⟩
 by_cases O7:x.kind=14
 ·rw [nK O7] at hz ⊢
  rw [(sr hz).is];exact ⟨rfl,rfl⟩
 ·rw [tM (by omega)];exact ⟨rfl,rfl⟩
structure ND (c:bW) (x:eW):Prop where
 right:eu c=true
 may:fF x=true
 who:dQ c.aj.names x.aJ=true
 gQ:emp x.aa=false→x.kind≠1→0≤cE c.ai.ae x.aa
 tab:emp x.table=false→x.kind≠3→0≤bj c.ai.tables x.aa x.table
 allow:gB c x=true
theorem IQ {c:bW} {x:eW} (h:dC c x=0):ND c x:=by
 unfold dC at h;by_cases h1:eu c=false
 ·rw [if_pos h1] at h;exact absurd h (by decide)
 rw [if_neg h1] at h;by_cases h2:fF x=false
 ·rw [if_pos h2] at h;exact absurd h (by decide)
 rw [if_neg h2] at h;by_cases h3:dQ c.aj.names x.aJ=false
 ·rw [if_pos h3] at h;exact absurd h (by decide)
 rw [if_neg h3] at h;by_cases h4:emp x.aa=false∧x.kind≠1∧cE c.ai.ae x.aa < 0
 ·rw [if_pos h4] at h;exact absurd h (by decide)
 rw [if_neg h4] at h;by_cases h5:emp x.table=false∧x.kind≠3∧bj c.ai.tables x.aa x.table < 0
 ·rw [if_pos h5] at h;exact absurd h (by decide)
 rw [if_neg h5] at h;by_cases h6:gB c x=false
 ·rw [if_pos h6] at h;exact absurd h (by decide)
 rw [Bool.not_eq_false] at h1 h2 h3 h6;exact ⟨h1,h2,h3,fun a b=>Int.not_lt.1 fun d=>h4 ⟨a,b,d⟩,fun a b=>Int.not_lt.1 fun d=>h5 ⟨a,b,d⟩,h6⟩
structure Done (c:bW) (x:eW):Prop where
 begun:ND c x
 done:(bZ c x).2=0
 Tx:c.version < 1000000000
 W6:cD x=true→c.aA < 1000
 is:cV c x=(ki (bZ c x).1 (cD x),0)
theorem tN {c:bW} {x:eW} (h:(cV c x).2=0):Done c x:=by
 unfold cV at h;by_cases h1:dC c x≠0
 ·rw [if_pos h1] at h;exact absurd h h1
 rw [if_neg h1] at h;by_cases h2:(bZ c x).2≠0
 ·rw [if_pos h2] at h;exact absurd h h2
 rw [if_neg h2] at h;by_cases h3:1000000000≤c.version∨(cD x=true∧1000≤c.aA)
 ·rw [if_pos h3] at h;exact absurd h (by decide)
 refine ⟨IQ (by simpa using h1),by simpa using h2,by omega,fun hf=>Int.not_le.1 fun h=>h3 (.inr ⟨hf,h⟩),?_⟩;unfold cV;rw [if_neg h1,if_neg h2,if_neg h3]
theorem Done.IR {c:bW} {x:eW} (h:Done c x):eu (ki (bZ c x).1 (cD x))=true:=by
 obtain ⟨⟨e1,e2⟩,⟨v1,v2⟩,hw⟩:=ic.1 h.begun.right;obtain ⟨d1,d2⟩:=qO h.done;have hs:=rM (cZ.1 hw).1 h.begun.who (tL h.begun.may).1 h.done;refine ic.2 ⟨?_,?_,oZ hs _⟩
 ·show 0≤(if cD x then (bZ c x).1.aA+1 else (bZ c x).1.aA)∧(if cD x then (bZ c x).1.aA+1 else (bZ c x).1.aA)≤1000
  have:=h.W6;rw [d1]
  split
  ·rename_i hf;have:=this hf;omega
  ·omega
 ·show 0≤(bZ c x).1.version+1∧(bZ c x).1.version+1≤1000000000
  have:=h.Tx;omega
structure pY (c d:bW):Prop where
 fK:∀ a,dQ c.aj.names a=true→dQ d.aj.names a=true
 mem:∀ m∈c.aj.members,m∈d.aj.members
 tab:∀ t∈c.ai.tables,∃ u∈d.ai.tables,u.aa=t.aa∧u.name=t.name∧u.owner=t.owner
 gQ:∀ z∈c.ai.ae,z∈d.ai.ae
 kv:∀ g∈c.af,g∈d.af
section
variable {c d : bW}
theorem pY.all (m:pY c d) (hd:bM d=true) {role a:ByteArray} (h:dQ (cT c.aj role) a=true):dQ (cT d.aj role) a=true:=by
 have hr:=(bO.1 hd).2.1.2.1;unfold cT at h ⊢;by_cases h1:(bN c.aj&&dQ c.aj.names role)=true
 ·rw [if_pos h1] at h
  rw [Bool.and_eq_true] at h1;rw [hr,m.fK _ h1.2]
  show dQ (d.aj.names.filter (dI d.aj.members role)) a=true
  rw [tO,Bool.and_eq_true] at h ⊢;exact ⟨(lV _ _ _).2 (((lV _ _ _).1 h.1).mono m.mem),m.fK _ h.2⟩
 ·rw [if_neg h1] at h;cases h
theorem pY.bj (m:pY c d) {s n:ByteArray} (h:0≤bj c.ai.tables s n):0≤bj d.ai.tables s n:=by
 obtain ⟨t,ht,e1,e2⟩:=(jR _ _ _).1 h;obtain ⟨u,hu,e3,e4,_⟩:=m.tab t ht;exact (jR _ _ _).2 ⟨u,hu,e3.trans e1,e4.trans e2⟩
theorem pY.Ty (m:pY c d) (hc:bM c=true) (hd:bM d=true) {role s n:ByteArray} (h0:0≤Go.Proofs.YtmflccbnoeaafaaGreat.bj c.ai.tables s n) (h:jA c.ai (cT c.aj role) (iK c.ai s n)=true):jA d.ai (cT d.aj role) (iK d.ai s n)=true:=by
 have gc:=(ek _).1 (bO.1 hc).2.1.1;have gd:=(ek _).1 (bO.1 hd).2.1.1;obtain ⟨t,ht,e1,e2⟩:=(jR _ _ _).1 h0;obtain ⟨u,hu,e3,e4,e5⟩:=m.tab t ht;obtain ⟨z,hz,e6⟩:=(gc.tab t ht).gQ
 have f1:iK c.ai s n=t:=by rw [← e1,← e2];exact zi gc.rt ht
 have f2:iK d.ai s n=u:=by rw [← e1,← e2,← e3,← e4];exact zi gd.rt hu
 have f3:oa c.ai t.aa=z.owner:=by rw [← e6];exact vD gc.rs hz
 have f4:oa d.ai u.aa=z.owner:=by rw [e3,← e6];exact vD gd.rs (m.gQ z hz)
 unfold jA at h ⊢;rw [f1,f3] at h;rw [f2,f4,e5];rw [List.any_eq_true] at h ⊢;obtain ⟨a,ha,hb⟩:=h;exact ⟨a,(iB _ _).1 (m.all hd ((iB _ _).2 ha)),hb⟩
theorem pY.gives (m:pY c d) (hd:bM d=true) {l l':List cB} (hl:∀ g∈l,g∈l') {role s n:ByteArray} {r:Int} {o:Bool} (h:fC l (cT c.aj role) s n r o=true):fC l' (cT d.aj role) s n r o=true:=by
 unfold fC at h ⊢;rw [List.any_eq_true] at h ⊢;obtain ⟨g,hg,hb⟩:=h;rw [Bool.and_eq_true] at hb;exact ⟨g,hl g hg,by rw [Bool.and_eq_true];exact ⟨hb.1,m.all hd hb.2⟩⟩
theorem pY.held (m:pY c d) (hc:bM c=true) (hd:bM d=true) {g:cB} (h:Held c g):Held d g:=by
 induction h with
 | mk g l hg hl hj ih =>
  refine .mk g l (m.kv g hg) ih ?_;have h0:=(ll ((bO.1 hc).2.2.1 g hg)).1;unfold fM at hj ⊢;rw [Bool.or_eq_true] at hj ⊢;exact hj.imp (m.Ty hc hd h0) (m.gives hd fun _ h=>h)
theorem pY.may (m:pY c d) (hc:dH c=true) (hd:bM d=true) (f:Bool) {role s n:ByteArray} {r:Int} (h:pM c role s n r=true):pM (ki d f) role s n r=true:=by
 obtain ⟨hs,hh⟩:=cZ.1 hc
 have Tz:∀ g∈c.af,g∈cH d:=fun g hg=>by
  unfold cH;rw [if_pos hd];exact List.mem_filter.2 ⟨m.kv g hg,iU.2 (m.held hs hd (hh g hg))⟩
 unfold pM at h ⊢;rw [oZ hd f]
 show (true&&(decide (0≤Go.Proofs.YtmflccbnoeaafaaGreat.bj d.ai.tables s n)&&dQ d.aj.names role)&&lh r&&(jA d.ai (cT d.aj role) (iK d.ai s n) || fC (cH d) (cT d.aj role) s n r false))=true
 simp only [Bool.and_eq_true,Bool.or_eq_true,decide_eq_true_eq] at h ⊢;exact ⟨⟨⟨trivial,m.bj h.1.1.2.1,m.fK _ h.1.1.2.2⟩,h.1.2⟩,h.2.imp (m.Ty hs hd h.1.1.2.1) (m.gives hd Tz)⟩
end
end Go.Proofs.YtmflccbnoeaafaaGreat
namespace Go.Proofs.YtmflccbnoeaafaaGreat
open Go.RowKit Go.Deep
set_option maxRecDepth 100000
set_option linter.unusedVariables false
set_option maxHeartbeats 64000000
noncomputable def lW (c:bW) (x:eW):bW × Int:=if dQ c.aj.names x.role then (if (eE c.ai x.aa x.table x.role).2=0 then ({ c with ai:=(eE c.ai x.aa x.table x.role).1 },0) else (c,(eE c.ai x.aa x.table x.role).2)) else (c,71)
theorem BS (c:bW) (hs ht hn hm hg:Hd) (L:List ay) (B b:Nat) (x:eW) (A6:Option Addr) (n6 c6:Nat) (A9:Option Addr) (n9 c9:Nat) (w:World) (hb:b < B) (tK:B≤w.heap.size) (C:dc w B c hs ht hn hm hg L) (sm:xK c) (R:ap w b (cK c hs ht hn hm hg)) (s1:x.role.size≤maxLen) :
  Calls Tryz.prog 56 #[.pointer (some ⟨b,0,none⟩),.agg #[.int .i64 x.kind,.string x.aJ,.string x.aa,.string x.table,.string x.name,.string x.role,.slice A6 n6 c6,.string x.rule.name,.int .i64 x.rule.kind,.slice A9 n9 c9,.int .i64 x.rule.low,.int .i64 x.rule.high,.string x.rule.aa,.string x.rule.table,.string x.rule.key,.int .i64 x.right,.bool x.opt]] w (bU w B b (lW c x)):=by
 have l1:w.heap.size < w.heap.size+1:=by omega
 obtain ⟨W,hW⟩:∃ W,W=w.alloc (.cells #[.int .i64 x.kind,.string x.aJ,.string x.aa,.string x.table,.string x.name,.string x.role,.slice A6 n6 c6,.string x.rule.name,.int .i64 x.rule.kind,.slice A9 n9 c9,.int .i64 x.rule.low,.int .i64 x.rule.high,.string x.rule.aa,.string x.rule.table,.string x.rule.key,.int .i64 x.right,.bool x.opt] 40):=⟨_,rfl⟩
 have aW:ag w W:=by rw [hW];exact (ag.refl w).alloc _
 have r1:ap W w.heap.size [.int .i64 x.kind,.string x.aJ,.string x.aa,.string x.table,.string x.name,.string x.role,.slice A6 n6 c6,.string x.rule.name,.int .i64 x.rule.kind,.slice A9 n9 c9,.int .i64 x.rule.low,.int .i64 x.rule.high,.string x.rule.aa,.string x.rule.table,.string x.rule.key,.int .i64 x.right,.bool x.opt]:=by rw [hW];exact bv (ag.refl _) (by simp)
 have r0:=R.az aW;have pZ:=gH (C.at sm);obtain ⟨b1,hb1⟩:∃ b,dQ c.aj.names x.role=b:=⟨_,rfl⟩;have C1:=gH (show ∀ V,ag W V→Calls Tryz.prog 18 #[.slice hn.a c.aj.names.length hn.c,.string x.role] V fun e w''=>e=.returned (.bool b1)∧V=w'' from fun V a=>hb1▸fY hn.a hn.c c.aj.names x.role V (aM (aW.trans a) pZ.out.fK));obtain ⟨F,hF⟩:∃ F,eE c.ai x.aa x.table x.role=F:=⟨_,rfl⟩;have C2:=gH (show ∀ V,ag W V→Calls Tryz.prog 90 #[.agg #[.slice hs.a c.ai.ae.length hs.c,.slice ht.a c.ai.tables.length ht.c],.string x.aa,.string x.table,.string x.role] V (ix V F) from fun V a=>hF▸yJ c.ai hs.a hs.c ht.a ht.c x.aa x.table x.role V (bm (aW.trans a) pZ.out.gQ) (aQ (aW.trans a) pZ.out.tab) s1);have ej:=gH (show lW c x=if b1 then (if F.2=0 then ({ c with ai:=F.1 },0) else (c,F.2)) else (c,71) by unfold lW;rw [hb1,hF]);have HC:=gH C;have m8:=gH R;have br:=gH aW;have je:=gH r0;have qs:=gH r1;have z0:=r0.1;have z1:=r1.1;have x2:=r0.cell (j:=2) rfl;have x3:=r0.cell (j:=3) rfl;have x4:=r0.cell (j:=4) rfl;have y2:=r1.cell (j:=2) rfl;have y3:=r1.cell (j:=3) rfl;have y5:=r1.cell (j:=5) rfl;clear C sm R s1 aW r0 r1 hb1 hF pZ
 go_enter Tryz.func56,Tryz.ntmps56
 go_wp2_with fail;rw [← hW];clear hW;have KS:=gH (show ∀ V,ag W V→(V.cell? ⟨b,4,none⟩=some (.slice hn.a c.aj.names.length hn.c)∧V.cell? ⟨w.heap.size,5,none⟩=some (.string x.role)) from fun V a=>⟨a.cell_kept x4,a.cell_kept y5⟩)
 cases b1
 ·have KB:=gH (show ∀ V,ag W V→bU w B b (lW c x) (js 71) V from fun V a=>bU.NB (br.out.trans a) m8.out (by rw [ej.out];rfl) (by decide))
  go_region_dies
  all_goals
   rename_i K hK;refine (C1.out _ (ag.refl _).drew).mono ?_;rintro e w2 ⟨rfl,rfl⟩
   dsimp only
   refine hK _ _ ?_;clear hK K;refine wpAny_ready (rs:=[8]) (by kernel_rfl) (by simp) ?_;refine AllReady.cons rfl (fun K hK=>?_) AllReady.nil;go_simp;refine (lv 71 _).mono ?_;rintro e w2 ⟨he,rfl⟩;unfold js at he;subst he;exact ⟨rfl,KB.out _ (ag.refl _).drew⟩
 ·go_region_held3 (fun V=>V.cell? ⟨b,4,none⟩=some (.slice hn.a c.aj.names.length hn.c)∧V.cell? ⟨w.heap.size,5,none⟩=some (.string x.role))
   ((refine KS.out _ ?_;first | with_reducible exact (ag.refl _).drew | fail))
   ((first | (go_at_call 18;refine (C1.out _ (ag.refl _).drew).mono ?_;rintro e w2 ⟨rfl,rfl⟩) | (go_at_call 16;refine (ou 71 _).mono ?_;rintro e w2 ⟨rfl,rfl⟩)))
  obtain ⟨X,hX⟩:∃ X,X=W.drew:=⟨_,rfl⟩
  have aX:ag W X:=by rw [hX];exact (ag.refl W).drew
  rw [← hX];clear hX;have KX:=gH (show ∀ V,ag X V→(V.cell? ⟨b,2,none⟩=some (.slice hs.a c.ai.ae.length hs.c)∧V.cell? ⟨b,3,none⟩=some (.slice ht.a c.ai.tables.length ht.c)∧V.cell? ⟨w.heap.size,2,none⟩=some (.string x.aa)∧V.cell? ⟨w.heap.size,3,none⟩=some (.string x.table)∧V.cell? ⟨w.heap.size,5,none⟩=some (.string x.role)) from fun V a=>⟨(aX.trans a).cell_kept x2,(aX.trans a).cell_kept x3,(aX.trans a).cell_kept y2,(aX.trans a).cell_kept y3,(aX.trans a).cell_kept y5⟩);have gN:=gH aX;clear x2 x3 x4 y2 y3 y5 aX KS;obtain ⟨⟨F0,F1⟩,F2⟩:=F;go_wp2_with fail
  go_region_held3 (fun V=>V.cell? ⟨b,2,none⟩=some (.slice hs.a c.ai.ae.length hs.c)∧V.cell? ⟨b,3,none⟩=some (.slice ht.a c.ai.tables.length ht.c)∧V.cell? ⟨w.heap.size,2,none⟩=some (.string x.aa)∧V.cell? ⟨w.heap.size,3,none⟩=some (.string x.table)∧V.cell? ⟨w.heap.size,5,none⟩=some (.string x.role))
   ((refine KX.out _ ?_;first
    | with_reducible exact (ag.refl _).drew
    | with_reducible exact a4
    | with_reducible exact ((ag.refl _).alloc _).drew
    | with_reducible exact a4.alloc _
    | (with_reducible refine ag.setCell (ag.setCell a4 _ _ ?_) _ _ ?_)<;>exact Nat.le_refl _
    | (with_reducible refine ag.setCell (ag.setCell (a4.alloc _) _ _ ?_) _ _ ?_)<;>exact a4.size
    | fail))
   ((go_at_call 90;first
    | (refine (C2.out X.drew (gN.out.trans (ag.refl _).drew)).mono ?_;rintro e w3 ⟨⟨A1,n1,c1⟩,⟨A2,n2,c2⟩,L2,hL,rfl,a3,ob⟩;have a4:ag X w3:=(ag.refl _).drew.trans a3)
    | (refine (C2.out _ (gN.out.trans ((ag.refl _).alloc _).drew)).mono ?_;rintro e w3 ⟨⟨A1,n1,c1⟩,⟨A2,n2,c2⟩,L2,hL,rfl,a3,ob⟩;have a4:ag X w3:=((ag.refl _).alloc _).drew.trans a3;have rb:=(bv (w:=X) (c:=[.slice none 0 0,.slice none 0 0]) (t:=25) (((ag.refl _)).drew.trans a3) rfl);have LJ:=rb.cell (j:=0) rfl;have O8:=rb.cell (j:=1) rfl;have Fu:=rb.1;have LL:=rb.2.2 0 (by simp);have O9:=rb.2.2 1 (by simp))))
  focus
   obtain ⟨V,hV⟩:∃ V,V=w3.alloc (.cells #[.slice A1 F0.length c1,.slice A2 F1.length c2] 25):=⟨_,rfl⟩;obtain ⟨bx,lf⟩:∃ bx,bx=w3.heap.size:=⟨_,rfl⟩
   have rV:ap V bx [.slice A1 F0.length c1,.slice A2 F1.length c2]:=by rw [hV,lf];exact bv (ag.refl _) rfl
   have aV:ag X V:=by rw [hV];exact a4.alloc _
   have xb:bC V X.heap.size ⟨A1,n1,c1⟩ ⟨A2,n2,c2⟩ F0 L2:=by rw [hV];exact bC.down (ob.az ((ag.refl _).alloc _)) (Nat.le_refl X.heap.size)
  rotate_left
  focus
   obtain ⟨V,hV⟩:∃ V,V=(w3.setCell ⟨X.heap.size,0,none⟩ (.slice A1 F0.length c1)).setCell ⟨X.heap.size,1,none⟩ (.slice A2 F1.length c2):=⟨_,rfl⟩;obtain ⟨bx,lf⟩:∃ bx,bx=X.heap.size:=⟨_,rfl⟩
   have rV:ap V bx [.slice A1 F0.length c1,.slice A2 F1.length c2]:=by rw [hV,lf];exact dg rb rfl _ _
   have aV:ag X V:=by rw [hV];exact ag.setCell (ag.setCell a4 _ _ (Nat.le_refl _)) _ _ (Nat.le_refl _)
   have xb:bC V X.heap.size ⟨A1,n1,c1⟩ ⟨A2,n2,c2⟩ F0 L2:=by rw [hV];exact bC.down (ob.kb (lJ w3 X.heap.size (.slice A1 F0.length c1) (.slice A2 F1.length c2)) fun g hg e=>by have h1:=(ob.lt g hg).1;have h2:((X.alloc (.cells #[.slice none 0 0,.slice none 0 0] 25)).drew).heap.size=X.heap.size+1:=(by simp);have e2:g=X.heap.size:=e;omega) (by show X.heap.size≤((X.alloc (.cells #[.slice none 0 0,.slice none 0 0] 25)).drew).heap.size;simp)
  rotate_left
  all_goals
   rw [← hV,← lf];have HV:=gH (And.intro rV (And.intro aV (And.intro xb hL)));clear hV lf rV aV xb hL ob a3 a4
   (try clear rb LJ O8 Fu LL O9)
   have aT:=br.out.trans (gN.out.trans HV.out.2.1);have q:=m8.out.az aT;have u2:=q.cell (j:=2) rfl;have u3:=q.cell (j:=3) rfl;have g2:=q.2.2 2 (by simp [cK]);have g3:=q.2.2 3 (by simp [cK]);have qz:=q.1;have v0:=HV.out.1.cell (j:=0) rfl;have v1:=HV.out.1.cell (j:=1) rfl;have vz:=HV.out.1.1;have rN:=gH aT;clear aT q;by_cases h2:F2=0
   ·subst h2
    have HP:=gH (IK hb tK HC.out m8.out rN.out (br.out.trans gN.out).size HV.out.2.2.1 HV.out.2.2.2);go_wp2_with fail;refine (fH _).mono ?_;rintro e w5 ⟨rfl,rfl⟩;go_wp2_with fail
    go_end0
    rw [ej.out];exact HP.out
   ·have HP:=gH (show bU w B b (lW c x) (js F2) V from bU.NB rN.out m8.out (by rw [ej.out,if_pos (by first | trivial | rfl),if_neg h2]) h2)
    go_wp2_with fail;refine (ja F2 h2 _).mono ?_;rintro e w5 ⟨he,rfl⟩;unfold js at he;subst he
    dsimp only
    exact ⟨rfl,HP.out⟩
end Go.Proofs.YtmflccbnoeaafaaGreat
namespace Go.Proofs.YtmflccbnoeaafaaGreat
open Go.RowKit
set_option maxRecDepth 100000
set_option linter.unusedVariables false
set_option maxHeartbeats 64000000
noncomputable def qP (c:bW) (x:eW):bW × Int:=if (cR c.ai (cv x.aa x.table c.ai)).2=0 then ({ c with ai:=(cR c.ai (cv x.aa x.table c.ai)).1,af:=ml c.af x.aa x.table },0) else (c,(cR c.ai (cv x.aa x.table c.ai)).2)
noncomputable def ir (c:bW) (x:eW):bW × Int:=if dQ c.aj.names x.role then (if io c x.role then (c,73) else (if (eC c.aj (fO x.role c.aj)).2=0 then ({ c with aj:=(eC c.aj (fO x.role c.aj)).1 },0) else (c,(eC c.aj (fO x.role c.aj)).2))) else (c,71)
def p9 (x:eW):cB:=⟨x.aa,x.table,x.right,x.aJ,x.role,x.opt⟩
noncomputable def vJ (c:bW) (x:eW):bW × Int:=if (dX c (p9 x)).2=0 then ((dX c (p9 x)).1,0) else (c,(dX c (p9 x)).2)
noncomputable def BU (c:bW) (x:eW):bW × Int:=if (oX c.af (ji c x.aJ x.aa x.table) x).length < c.af.length then ({ c with af:=oX c.af (ji c x.aJ x.aa x.table) x },0) else (c,80)
def Pa (r s:bW × Int):Prop:=r.2=s.2∧(r.2=0→r.1=s.1)
theorem bU.agr {w w':World} {B b:Nat} {r s:bW × Int} {e:Ending} (h:bU w B b r e w') (a:Pa r s):bU w B b s e w':=by
 obtain ⟨h1,h2,h3⟩:=h;refine ⟨h1,fun h=>?_,fun h=>?_⟩
 ·rw [← a.1] at h ⊢;exact h2 h
 ·have h0:=a.1.trans h
  rw [← a.2 h0];exact h3 h0
theorem Pb {c:bW} {x:eW} (h:x.kind=4):Pa (qP c x) (bZ c x):=by
 have e:bZ c x=({ c with ai:=(cR c.ai (cv x.aa x.table c.ai)).1,af:=ml c.af x.aa x.table },(cR c.ai (cv x.aa x.table c.ai)).2):=by
  have e1:dt c x=cR c.ai (cv x.aa x.table c.ai):=by unfold dt;rw [if_neg (by omega),if_neg (by omega),if_neg (by omega),if_pos h]
  unfold bZ;rw [if_pos (by omega),if_pos h,e1]
 rw [e];unfold qP;by_cases h0:(cR c.ai (cv x.aa x.table c.ai)).2=0
 ·rw [if_pos h0];exact ⟨h0.symm,fun _=>rfl⟩
 ·rw [if_neg h0];exact ⟨rfl,fun h1=>absurd h1 h0⟩
theorem Pc {c:bW} {x:eW} (h:x.kind=9):Pa (lW c x) (bZ c x):=by
 have e:bZ c x=({ c with ai:=(if dQ c.aj.names x.role then eE c.ai x.aa x.table x.role else (cx,71)).1 },(if dQ c.aj.names x.role then eE c.ai x.aa x.table x.role else (cx,71)).2):=by
  have e1:dt c x=if dQ c.aj.names x.role then eE c.ai x.aa x.table x.role else (cx,71):=by unfold dt;rw [if_neg (by omega),if_neg (by omega),if_neg (by omega),if_neg (by omega),if_neg (by omega),if_neg (by omega),if_neg (by omega),if_neg (by omega)]
  unfold bZ;rw [if_pos (by omega),if_neg (by omega),e1]
 rw [e];unfold lW;by_cases hi:dQ c.aj.names x.role=true
 ·rw [if_pos hi,if_pos hi]
  by_cases h0:(eE c.ai x.aa x.table x.role).2=0
  ·rw [if_pos h0];exact ⟨h0.symm,fun _=>rfl⟩
  ·rw [if_neg h0];exact ⟨rfl,fun h1=>absurd h1 h0⟩
 ·rw [if_neg hi,if_neg hi];exact ⟨rfl,fun h1=>(by simp at h1)⟩
theorem Pd {c:bW} {x:eW} (hr:bN c.aj=true) (h:x.kind=11):Pa (ir c x) (bZ c x):=by
 have e:bZ c x=({ c with aj:=(if dQ c.aj.names x.role&&io c x.role then (DN,73) else eC c.aj (fO x.role c.aj)).1 },(if dQ c.aj.names x.role&&io c x.role then (DN,73) else eC c.aj (fO x.role c.aj)).2):=by
  have e1:gC c x=if dQ c.aj.names x.role&&io c x.role then (DN,73) else eC c.aj (fO x.role c.aj):=by unfold gC;rw [if_neg (by omega),if_pos h]
  unfold bZ;rw [if_neg (by omega),if_pos (by omega),e1]
 rw [e];unfold ir
 cases hi:dQ c.aj.names x.role with
 | false =>
  simp only [Bool.false_and,Bool.false_eq_true,if_false]
  have ht:b8 bw c.aj.names x.role=false:=by rw [← vI (cQ.1 hr).2.2.1];exact hi
  have e2:eC c.aj (fO x.role c.aj)=(DN,71):=by unfold eC fO;rw [if_pos hr,ht];rfl
  rw [e2];exact ⟨rfl,fun h1=>(by simp at h1)⟩
 | true =>
  cases hn:io c x.role with
  | true=>simp only [Bool.and_self,if_true];exact ⟨rfl,fun h1=>(by simp at h1)⟩
  | false =>
   simp only [Bool.and_false,Bool.false_eq_true,if_false,if_true];by_cases h0:(eC c.aj (fO x.role c.aj)).2=0
   ·rw [if_pos h0];exact ⟨h0.symm,fun _=>rfl⟩
   ·rw [if_neg h0];exact ⟨rfl,fun h1=>absurd h1 h0⟩
theorem Pe {c:bW} {x:eW} (h:x.kind=14):Pa (vJ c x) (bZ c x):=by
 have e:bZ c x=dX c (p9 x):=by unfold bZ;rw [if_neg (by omega),if_neg (by omega),if_pos h];rfl
 rw [e];unfold vJ;by_cases h0:(dX c (p9 x)).2=0
 ·rw [if_pos h0];exact ⟨h0.symm,fun _=>rfl⟩
 ·rw [if_neg h0];exact ⟨rfl,fun h1=>absurd h1 h0⟩
theorem Pf {c:bW} {x:eW} (h:x.kind=15):Pa (BU c x) (bZ c x):=by
 have e:bZ c x=({ c with af:=oX c.af (ji c x.aJ x.aa x.table) x },if (oX c.af (ji c x.aJ x.aa x.table) x).length=c.af.length then 80 else 0):=by unfold bZ;rw [if_neg (by omega),if_neg (by omega),if_neg (by omega)]
 have hl:(oX c.af (ji c x.aJ x.aa x.table) x).length≤c.af.length:=List.length_filter_le _ _;rw [e];unfold BU;by_cases h0:(oX c.af (ji c x.aJ x.aa x.table) x).length=c.af.length
 ·rw [if_neg (by omega),if_pos h0];exact ⟨rfl,fun h1=>(by simp at h1)⟩
 ·rw [if_pos (by omega),if_neg h0];exact ⟨rfl,fun _=>rfl⟩
theorem LM {c:bW} {x:eW} (h:x.kind≤9) (h4:x.kind≠4):bZ c x=({ c with ai:=(dt c x).1 },(dt c x).2):=by unfold bZ;rw [if_pos h,if_neg h4]
theorem LO {c:bW} {x:eW} (h:9 < x.kind) (h2:x.kind≤13):bZ c x=({ c with aj:=(gC c x).1 },(gC c x).2):=by unfold bZ;rw [if_neg (by omega),if_pos h2]
end Go.Proofs.YtmflccbnoeaafaaGreat
namespace Go.Proofs.YtmflccbnoeaafaaGreat
open Go.RowKit Go.Deep
set_option maxRecDepth 100000
set_option linter.unusedVariables false
set_option maxHeartbeats 64000000
def xN (k:Int):Int:=if k=2∨k=3 then 1 else if 4≤k∧k≤9 then 2 else if k=14∨k=15 then 3 else 0
theorem W7 (k:Int) (w:World):Calls Tryz.prog 46 #[.int .i64 k] w fun e w'=>e=.returned (.int .i64 (xN k))∧w=w':=by
 by_cases h2:k=2
 case pos =>
  subst h2
  go_enter Tryz.func46,Tryz.ntmps46
  go_wp2_with fail;go_ret;exact ⟨rfl,rfl⟩
 by_cases h3:k=3
 case pos =>
  subst h3
  go_enter Tryz.func46,Tryz.ntmps46
  go_wp2_with fail;go_ret;exact ⟨rfl,rfl⟩
 by_cases h4:k=4
 case pos =>
  subst h4
  go_enter Tryz.func46,Tryz.ntmps46
  go_wp2_with fail;go_ret;exact ⟨rfl,rfl⟩
 by_cases h5:k=5
 case pos =>
  subst h5
  go_enter Tryz.func46,Tryz.ntmps46
  go_wp2_with fail;go_ret;exact ⟨rfl,rfl⟩
 by_cases h6:k=6
 case pos =>
  subst h6
  go_enter Tryz.func46,Tryz.ntmps46
  go_wp2_with fail;go_ret;exact ⟨rfl,rfl⟩
 by_cases h7:k=7
 case pos =>
  subst h7
  go_enter Tryz.func46,Tryz.ntmps46
  go_wp2_with fail;go_ret;exact ⟨rfl,rfl⟩
 by_cases h8:k=8
 case pos =>
  subst h8
  go_enter Tryz.func46,Tryz.ntmps46
  go_wp2_with fail;go_ret;exact ⟨rfl,rfl⟩
 by_cases h9:k=9
 case pos =>
  subst h9
  go_enter Tryz.func46,Tryz.ntmps46
  go_wp2_with fail;go_ret;exact ⟨rfl,rfl⟩
 by_cases J6:k=14
 case pos =>
  subst J6
  go_enter Tryz.func46,Tryz.ntmps46
  go_wp2_with fail;go_ret;exact ⟨rfl,rfl⟩
 by_cases GA:k=15
 case pos =>
  subst GA
  go_enter Tryz.func46,Tryz.ntmps46
  go_wp2_with fail;go_ret;exact ⟨rfl,rfl⟩
 have HV:=gH (show xN k=0 by unfold xN;rw [if_neg (by omega),if_neg (by omega),if_neg (by omega)])
 go_enter Tryz.func46,Tryz.ntmps46
 go_wp2_with fail;go_ret;exact ⟨by rw [HV.out];rfl,rfl⟩
theorem LP (nm ow s:ByteArray) (bx:Nat) (w:World) (hz:bx < w.heap.size) (hc:w.cell? ⟨bx,2,none⟩=some (.string s)) :
  Calls Tryz.prog 20 (#[.agg #[.string nm,.string ow]]++#[.pointer (some ⟨bx,0,none⟩)]) w fun e w'=>e=.returned (.bool (bk nm s))∧ag w w':=by
 show Calls Tryz.prog 20 #[.agg #[.string nm,.string ow],.pointer (some ⟨bx,0,none⟩)] w _
 have hz2:bx < w.heap.size+1:=by omega
 go_enter Tryz.func20,Tryz.ntmps20
 go_wp2_with fail;go_ret;exact ⟨rfl,(ag.refl _).alloc _⟩
theorem LQ (nm ow s:ByteArray) (bx:Nat) (w:World) (hz:bx < w.heap.size) (hc:w.cell? ⟨bx,2,none⟩=some (.string s)) :
  Calls Tryz.prog 47 (#[.agg #[.string nm,.string ow]]++#[.pointer (some ⟨bx,0,none⟩)]) w fun e w'=>e=.returned (.bool (bk nm s))∧ag w w':=by
 show Calls Tryz.prog 47 #[.agg #[.string nm,.string ow],.pointer (some ⟨bx,0,none⟩)] w _
 have hz2:bx < w.heap.size+1:=by omega
 go_enter Tryz.func47,Tryz.ntmps47
 go_wp2_with fail;go_ret;exact ⟨rfl,(ag.refl _).alloc _⟩
theorem Pg (nm ow s:ByteArray) (bx:Nat) (w:World) (hz:bx < w.heap.size) (hc:w.cell? ⟨bx,5,none⟩=some (.string s)) :
  Calls Tryz.prog 91 (#[.agg #[.string nm,.string ow]]++#[.pointer (some ⟨bx,0,none⟩)]) w fun e w'=>e=.returned (.bool (bk ow s))∧ag w w':=by
 show Calls Tryz.prog 91 #[.agg #[.string nm,.string ow],.pointer (some ⟨bx,0,none⟩)] w _
 have hz2:bx < w.heap.size+1:=by omega
 go_enter Tryz.func91,Tryz.ntmps91
 go_wp2_with fail;go_ret;exact ⟨rfl,(ag.refl _).alloc _⟩
theorem Ph (sc nm ow:ByteArray) (A0:Option Addr) (n0 c0:Nat) (A1:Option Addr) (n1 c1:Nat) (s:ByteArray) (bx:Nat) (w:World) (hz:bx < w.heap.size) (hc:w.cell? ⟨bx,5,none⟩=some (.string s)) :
  Calls Tryz.prog 93 #[.agg #[.string sc,.string nm,.string ow,.slice A0 n0 c0,.slice A1 n1 c1],.pointer (some ⟨bx,0,none⟩)] w fun e w'=>e=.returned (.bool (bk ow s))∧ag w w':=by
 have hz2:bx < w.heap.size+1:=by omega
 go_enter Tryz.func93,Tryz.ntmps93
 go_wp2_with fail;go_ret;exact ⟨rfl,(ag.refl _).alloc _⟩
theorem Pj (g:cB) (s:ByteArray) (bx:Nat) (w:World) (hz:bx < w.heap.size) (hc:w.cell? ⟨bx,5,none⟩=some (.string s)) :
  Calls Tryz.prog 94 (#[.agg #[.string g.aa,.string g.table,.int .i64 g.right,.string g.aC,.string g.to,.bool g.opt]]++#[.pointer (some ⟨bx,0,none⟩)]) w fun e w'=>e=.returned (.bool (bk g.aC s || bk g.to s))∧ag w w':=by
 show Calls Tryz.prog 94 #[.agg #[.string g.aa,.string g.table,.int .i64 g.right,.string g.aC,.string g.to,.bool g.opt],.pointer (some ⟨bx,0,none⟩)] w _
 have hz2:bx < w.heap.size+1:=by omega
 cases h1:bk g.aC s
 all_goals
  have AZ:(g.aC.toList==s.toList)=_:=h1;clear h1
  go_enter Tryz.func94,Tryz.ntmps94
  go_wp2_with fail;go_ret;exact ⟨rfl,(ag.refl _).alloc _⟩
theorem Pk (g:cB) (s n:ByteArray) (bx:Nat) (w:World) (hz:bx < w.heap.size) (hc:w.cell? ⟨bx,2,none⟩=some (.string s)) (hc2:w.cell? ⟨bx,3,none⟩=some (.string n)) :
  Calls Tryz.prog 89 (#[.agg #[.string g.aa,.string g.table,.int .i64 g.right,.string g.aC,.string g.to,.bool g.opt]]++#[.pointer (some ⟨bx,0,none⟩)]) w fun e w'=>e=.returned (.bool (bk g.aa s&&bk g.table n))∧ag w w':=by
 show Calls Tryz.prog 89 #[.agg #[.string g.aa,.string g.table,.int .i64 g.right,.string g.aC,.string g.to,.bool g.opt],.pointer (some ⟨bx,0,none⟩)] w _
 have hz2:bx < w.heap.size+1:=by omega
 cases h1:bk g.aa s
 all_goals
  have AZ:(g.aa.toList==s.toList)=_:=h1;clear h1
  go_enter Tryz.func89,Tryz.ntmps89
  go_wp2_with fail;go_ret;exact ⟨rfl,(ag.refl _).alloc _⟩
theorem LR (g:cB) (x:eW) (b:Bool) (bx bb:Nat) (w:World) (hz:bx < w.heap.size) (hy:bb < w.heap.size) (h1:w.cell? ⟨bx,1,none⟩=some (.string x.aJ)) (h2:w.cell? ⟨bx,2,none⟩=some (.string x.aa)) (h3:w.cell? ⟨bx,3,none⟩=some (.string x.table)) (h5:w.cell? ⟨bx,5,none⟩=some (.string x.role)) (GA:w.cell? ⟨bx,15,none⟩=some (.int .i64 x.right)) (hb:w.cell? ⟨bb,0,none⟩=some (.bool b)) :
  Calls Tryz.prog 97 (#[.agg #[.string g.aa,.string g.table,.int .i64 g.right,.string g.aC,.string g.to,.bool g.opt]]++#[.pointer (some ⟨bx,0,none⟩),.pointer (some ⟨bb,0,none⟩)]) w fun e w'=>e=.returned (.bool (LC b x g))∧ag w w':=by
 show Calls Tryz.prog 97 #[.agg #[.string g.aa,.string g.table,.int .i64 g.right,.string g.aC,.string g.to,.bool g.opt],.pointer (some ⟨bx,0,none⟩),.pointer (some ⟨bb,0,none⟩)] w _
 have hz2:bx < w.heap.size+1:=by omega
 have Gt:bb < w.heap.size+1:=by omega
 unfold LC
 cases e5:bk g.aa x.aa
 case false =>
  have f5:(g.aa.toList==x.aa.toList)=false:=e5;clear e5
  go_enter Tryz.func97,Tryz.ntmps97
  go_wp2_with fail;go_ret;exact ⟨rfl,(ag.refl _).alloc _⟩
 case true =>
  have f5:(g.aa.toList==x.aa.toList)=true:=e5;clear e5
  cases e4:bk g.table x.table
  case false =>
   have f4:(g.table.toList==x.table.toList)=false:=e4;clear e4
   go_enter Tryz.func97,Tryz.ntmps97
   go_wp2_with fail;go_ret;exact ⟨rfl,(ag.refl _).alloc _⟩
  case true =>
   have f4:(g.table.toList==x.table.toList)=true:=e4;clear e4
   cases e3:(g.right==x.right)
   case false =>
    go_enter Tryz.func97,Tryz.ntmps97
    go_wp2_with fail;go_ret;exact ⟨rfl,(ag.refl _).alloc _⟩
   case true =>
    cases e2:bk g.to x.role
    case false =>
     have f2:(g.to.toList==x.role.toList)=false:=e2;clear e2
     go_enter Tryz.func97,Tryz.ntmps97
     go_wp2_with fail;go_ret;exact ⟨rfl,(ag.refl _).alloc _⟩
    case true =>
     have f2:(g.to.toList==x.role.toList)=true:=e2;clear e2
     cases b
     case false =>
      go_enter Tryz.func97,Tryz.ntmps97
      go_wp2_with fail;go_ret;exact ⟨rfl,(ag.refl _).alloc _⟩
     case true =>
      go_enter Tryz.func97,Tryz.ntmps97
      go_wp2_with fail;go_ret;exact ⟨rfl,(ag.refl _).alloc _⟩
theorem DT (A:Option Addr) (cap:Nat) (l:List gj) (g:FuncId) (ar:Array Value) (p:gj→Bool) (w:World) (h:aL w 2 fk A cap l) (bR:∀ (args:Array Value) (w:World),(callFunc g args).run Tryz.prog w=.ok (.enter g args) w)
  (hp:∀ w',ag w w'→∀ i (hi:i < l.length),Calls Tryz.prog g (#[.agg #[.string l[i].name,.string l[i].owner]]++ar) w' fun e w''=>e=.returned (.bool (p l[i]))∧ag w' w'') :
  Calls Tryz.prog 19 #[.slice A l.length cap,.func (.func g) #[] ar] w fun e w'=>e=.returned (.bool (l.any p))∧ag w w':=by
 have C:=gH (wE A cap l g ar p w h bR hp);have HE:=gH (iV p l);obtain ⟨i,hi⟩:∃ i,bK p l=i:=⟨_,rfl⟩;rw [hi] at C HE;clear hi h hp
 go_enter Tryz.func19,Tryz.ntmps19
 go_wp2_with fail;refine C.out.mono ?_;rintro e w1 ⟨rfl,a1⟩;have HA:=gH a1;clear a1;go_wp2_with fail;go_ret;exact ⟨by rw [← HE.out];rfl,HA.out⟩
end Go.Proofs.YtmflccbnoeaafaaGreat
