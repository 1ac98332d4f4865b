import Derived.Lib.Walk
import Derived.Deep.DeepMust
import Derived.Test.YtakddkhipelmjaaGreatPartH3
set_option maxRecDepth 100000
set_option linter.unusedVariables false
set_option maxHeartbeats 64000000
namespace Go.Proofs.YtakddkhipelmjaaGreat
open Go.Deep Go.RowKit
def lQ {α:Type} (q:α→α→Bool) (l:List α):Prop:=∀ k (h:k+1 < l.length),q l[k+1] (l[k]'(by omega))=false
def NR {α:Type} (q:α→α→Bool) (l:List α) (v:Value) (w:World) (e:Ending) (w':World):Prop :=
 ∃ A m c,e=.returned (.slice A m c)∧(m=l.length↔lQ q l)∧Kb (jZ v) w w'
structure eD {α:Type} (ty:TypeId) (size:Nat) (cells:α→List Value) (sm:α→Prop) (w wr:World) (B g cap n:Nat) (l:List α):Prop where
 own:wr.ownsRow B ty size (.slice (some ⟨g,0,none⟩) n cap) n (l.flatMap cells)
 len:l.length=n
 sm:∀ x∈l,sm x
 kb:Kb (fun k=>k=g) w wr
theorem eD.aA {α:Type} {ty:TypeId} {size:Nat} {cells:α→List Value} {sm:α→Prop} {w wr wr':World} {B g cap n:Nat} {l:List α} (h:eD ty size cells sm w wr B g cap n l) (a:ag wr wr'):eD ty size cells sm w wr' B g cap n l:=⟨cA h.own a,h.len,h.sm,h.kb.trans (Kb.aO a)⟩
theorem uX {w wr:World} {B g cap n m i:Nat} {l:List ByteArray} (h:eD 9 1 cB (fun x:ByteArray=>Small x.size) w wr B g cap n l) (hm:m < l.length) (hi:i < l.length):eD 9 1 cB (fun x:ByteArray=>Small x.size) w (wr.setCell ⟨g,m*1,none⟩ (.string (l[i]))) B g cap n (l.set m l[i]):=by
 refine ⟨?_,by rw [List.length_set];exact h.len,fun x hx=>?_,?_⟩
 ·have h1:=ku h.own (g:=g) rfl (m*1) (.string l[i])
  rwa [← Nat.add_zero (m*1),iy (f:=cB) (fun _=>rfl) l m 0 hm (by decide) (.string l[i]) l[i] rfl,Nat.add_zero] at h1
 ·rcases List.mem_or_eq_of_mem_set hx with h1 | h1
  ·exact h.sm x h1
  ·subst h1;exact h.sm _ (List.getElem_mem hi)
 ·exact h.kb.trans (Kb.set _ _ _ _)
theorem sB {w wr:World} {B g cap n:Nat} {l:List ByteArray} (h:eD 9 1 cB (fun x:ByteArray=>Small x.size) w wr B g cap n l) (hs:Small (n*16)):az wr 1 dC (some ⟨g,0,none⟩) cap l:=by
 have ho:=h.own;have hl:=h.len;subst hl;exact dS (h:=⟨some ⟨g,0,none⟩,l.length,cap⟩) cB ho (fun x hx=>⟨rfl,rfl,h.sm x hx⟩) hs
theorem UO (v:Value) (l:List ByteArray) (g:FuncId) (ax:Array Value) (q:ByteArray→ByteArray→Bool) (B:Nat) (w:World) (ho:w.ownsRow B 9 1 v l.length (l.flatMap cB)) (hs:Small (l.length*16)) (iN:∀ A n c,v=.slice A n c→c≤9223372036854775807) (sm:∀ x∈l,(fun x:ByteArray=>Small x.size) x) (cM:∀ (args:Array Value) (w:World),(callFunc g args).run Tryz.prog w=.ok (.enter g args) w)
  (hq:∀ w',Kb (jZ v) w w'→∀ x y:ByteArray,Calls Tryz.prog g (#[.string (x),.string (y)]++ax) w' fun e w''=>e=.returned (.bool (q x y))∧ag w' w'') :
  Calls Tryz.prog 350 #[v,.func (.func g) #[] ax] w (NR q l v w):=by
 have hlen:l.length*16≤140737488351232:=hs;by_cases h2:l.length < 2
 ·obtain ⟨A,cap,hv⟩:=dV ho
  subst hv;have HT:=gH (show lQ q l from fun k h=>by omega)
  have qs:(l.length:Int) < 2:=by omega
  go_in
  go_wp2;go_ret;exact ⟨_,_,_,rfl,⟨fun _=>HT.out,fun _=>rfl⟩,Kb.refl _ _⟩
 ·obtain ⟨g0,cap,hv,O6,pV,hr⟩:=bU ho (by omega)
  subst hv;have iN:=iN _ _ _ rfl;have hI:eD 9 1 cB (fun x:ByteArray=>Small x.size) w w B g0 cap l.length l:=⟨ho,rfl,sm,Kb.refl _ _⟩
  have Bc:∀ w1 w2:World,Kb (fun k=>k=g0) w1 w2→Kb (jZ (.slice (some ⟨g0,0,none⟩) l.length cap)) w1 w2:=fun w1 w2 k=>k.mono fun g _ e=>by subst e;rfl
  have HQ:=gH (show ∀ w',Kb (fun k=>k=g0) w w'→_ from fun w' k=>hq w' (Bc _ _ k));have HI:=gH hI;have dv:=sB hI hs
  have qs:¬ (l.length:Int) < 2:=by omega
  have wH:=gH dv;clear hq hI ho hr sm
  go_in
  go_wp2_with fail
  go_loopw [5] (fun i wr=>∃ k:Nat,0 < k∧k≤l.length∧i=.int .i64 k∧ag w wr∧∀ j,j+1 < k→∀ (hj:j+1 < l.length),q l[j+1] (l[j]'(by omega))=false) (fun i _=>l.length - (intOf i).toNat)
  case atStart=>exact ⟨1,by omega,by omega,rfl,ag.refl _,fun j hj h=>by omega⟩
  case round =>
   obtain ⟨k,Ho,hk,rfl,ha,hp⟩:=hrel;have HA:=gH ha;have HP:=gH hp;clear hp;by_cases hlt:k < l.length
   ·obtain ⟨k,rfl⟩:∃ k',k=k'+1:=⟨k - 1,by omega⟩
    have jT:=wH.out.aA ha fun _ _ h=>h
    have mS:k < l.length:=by omega
    obtain ⟨b,off,yl,hb,c0,hs⟩:=fB jT mS;obtain ⟨b',off',hA',hb',d0,hs'⟩:=fB jT hlt;simp only [Option.some.injEq,Addr.mk.injEq,and_true] at yl hA';obtain ⟨rfl,rfl⟩:=yl;obtain ⟨rfl,rfl⟩:=hA';simp only [Nat.zero_add] at c0 d0;obtain ⟨r,hr⟩:∃ r,q l[k+1] (l[k]'(by omega))=r:=⟨_,rfl⟩;have Cc:=gH (show ∀ x:iM wr,_ from fun x=>hr▸HQ.out (bV wr x) (Kb.aO (HA.out.bV x)) l[k+1] (l[k]'(by omega)));have HR:=gH hr;clear ha dv jT hr
    have w1:IntKind.i64.wrap (((k+1:Nat):Int) - 1)=(k:Int):=by rw [show ((k+1:Nat):Int) - 1=(k:Int) from by omega];exact IntWalk.i64_in _ (by omega)
    have w5:IntKind.i64.wrap ((k:Int)+1 - 1)=(k:Int):=by rw [show (k:Int)+1 - 1=(k:Int) from by omega];exact IntWalk.i64_in _ (by omega)
    have w2:(0:Int)≤(k:Int)+1:=by omega
    have w3:((k:Int)+1).toNat=k+1:=by omega
    have w4:(k:Int)+1 < (l.length:Int):=by omega
    cases r
    ·go_wp2_with fail
     refine ay (by kernel_rfl) (by kernel_rfl) ?_
     repeat (go_big_quiet_step ((exact Calls.bk (Cc.out _))))
     refine wpQuiet_nil ?_;intro _ hw';obtain ⟨x,hw''⟩:=hw';subst hw'';clear w1 w2 w3 w4 w5;go_wp2
     go_roundw
     case rel =>
      refine ⟨k+1+1,by omega,by omega,by go_num,HA.out.bV x,fun j hj qp=>?_⟩
      rcases Nat.lt_or_ge j k with h1 | h1
      ·exact HP.out j (by omega) qp
      ·have:j=k:=by omega
       subst this;exact HR.out
     case measure=>simp [intOf];omega
    ·have jL:¬ cap=k+1:=by omega
     go_wp2_with fail;refine ay (by kernel_rfl) (by kernel_rfl) ?_
     repeat (go_big_quiet_step ((exact Calls.bk (Cc.out _))))
     refine wpQuiet_nil ?_;intro _ hw';obtain ⟨x,hw''⟩:=hw';subst hw'';clear w1 w2 w3 w4 w5;go_wp2_with fail;obtain ⟨n2,Fb⟩:∃ n2,l.length - (k+1)=n2:=⟨_,rfl⟩;rw [Fb];have HN:=gH (And.intro Fb (And.intro hlt (And.intro pV iN)));have YL:=gH (HI.out.aA (HA.out.bV x));clear Fb c0 d0 hs hs'
     go_loopw [5,7] (fun u5 u7 wr2=>∃ (m k2:Nat) (l':List ByteArray),0 < k2∧k2≤n2∧m < k+1+k2∧u5=.int .i64 m∧u7=.int .i64 k2∧eD 9 1 cB (fun x:ByteArray=>Small x.size) w wr2 B g0 cap l.length l') (fun _ u7 _=>n2 - (intOf u7).toNat)
     case atStart=>exact ⟨k+1,1,l,by omega,by have:=HN.out.1;omega,by omega,rfl,rfl,YL.out⟩
     case round =>
      obtain ⟨m,k2,l',YM,hk2,hm,rfl,rfl,hI⟩:=hrel;have Fb:=HN.out.1
      have JS:m < l.length:=by omega
      have HJ:=gH hI;have pU:=hI.len;by_cases mg:k2 < n2
      ·obtain ⟨k3,rfl⟩:∃ k',k2=k'+1:=⟨k2 - 1,by omega⟩
       have BP:=sB hI hs
       have sU:k+1+(k3+1) < l'.length:=by omega
       have mL:k+1+k3 < l'.length:=by omega
       obtain ⟨b,off,yl,hb0,c0,hs⟩:=fB BP mL;obtain ⟨b',off',hA',hb1,d0,hs'⟩:=fB BP sU;simp only [Option.some.injEq,Addr.mk.injEq,and_true] at yl hA';obtain ⟨rfl,rfl⟩:=yl;obtain ⟨rfl,rfl⟩:=hA';simp only [Nat.zero_add] at c0 d0;obtain ⟨x1,hx1⟩:∃ x1,l'[k+1+(k3+1)]=x1:=⟨_,rfl⟩;obtain ⟨x0,hx0⟩:∃ x0,l'[k+1+k3]=x0:=⟨_,rfl⟩;rw [hx0] at c0 hs;rw [hx1] at d0 hs';obtain ⟨r,hr⟩:∃ r,q x1 x0=r:=⟨_,rfl⟩;have YN:=gH (show ∀ y:iM wr,_ from fun y=>hr▸HQ.out (bV wr y) (hI.kb.trans (Kb.aO ((ag.refl wr).bV y))) x1 x0);have HX:=gH hx1
       have w1:IntKind.i64.wrap (((k3+1:Nat):Int) - 1)=(k3:Int):=by rw [show ((k3+1:Nat):Int) - 1=(k3:Int) from by omega];exact IntWalk.i64_in _ (by omega)
       have w5:IntKind.i64.wrap ((k3:Int)+1 - 1)=(k3:Int):=by rw [show (k3:Int)+1 - 1=(k3:Int) from by omega];exact IntWalk.i64_in _ (by omega)
       have w2:(0:Int)≤(k3:Int)+1:=by omega
       have w3:((k3:Int)+1).toNat=k3+1:=by omega
       have w4:(k3:Int)+1 < (n2:Int):=by omega
       have w6:(k3:Int) < (n2:Int):=by omega
       clear hI BP hr hx0 hx1 Fb;go_wp2_with fail;refine ay (by kernel_rfl) (by kernel_rfl) ?_
       repeat (go_big_quiet_step ((exact Calls.bk (YN.out _))))
       refine wpQuiet_nil ?_;intro _ hw';obtain ⟨y,hw''⟩:=hw';subst hw'';clear w1 w5
       cases r
       ·obtain ⟨F,hF⟩:∃ F,F=bV wr y:=⟨_,rfl⟩
        have Hp:=gH (show eD 9 1 cB (fun x:ByteArray=>Small x.size) w F B g0 cap l.length l' from hF▸HJ.out.aA ((ag.refl wr).bV y));obtain ⟨_,_,nC,_,_,jO⟩:=bU Hp.out.own (by omega);simp only [Value.slice.injEq,true_and,Option.some.injEq,Addr.mk.injEq,and_true] at nC;obtain ⟨rfl,rfl⟩:=nC
        have iD:(l'.flatMap cB).length=l.length*1:=by rw [cp (size:=1) (fun _=>rfl),pU]
        obtain ⟨u0,z0⟩:∃ u,F.cell? ⟨g0,m,none⟩=some u:=⟨_,by rw [jO.2.1 m (by rw [iD];omega),List.getElem?_eq_getElem (by rw [iD];omega)]⟩;have z1:F.frozen? ⟨g0,m,none⟩=false:=jO.2.2 m (by rw [iD];omega);have z2:g0 < F.heap.size:=jO.1
        have z3:F.cell? ⟨g0,k+1+(k3+1),none⟩=some (.string x1):=by rw [hF];exact ((ag.refl wr).bV y).cell_kept d0
        rw [← hF];clear hF;clear jO iD
        have Bd:=gH (show eD 9 1 cB (fun x:ByteArray=>Small x.size) w (F.setCell ⟨g0,m,none⟩ (.string (x1))) B g0 cap l.length (l'.set m l'[k+1+(k3+1)]) from by
         have:=uX Hp.out (m:=m) (i:=k+1+(k3+1)) (by omega) sU;rw [HX.out] at this ⊢
         simpa using this)
        clear w2 w3 w4 w6;go_wp2
        go_roundw
        case rel=>exact ⟨m+1,k3+1+1,_,by omega,by omega,by omega,by go_num,by go_num,Bd.out⟩
        case measure=>simp [intOf];omega
       ·clear w2 w3 w4 w6
        go_wp2
        go_roundw
        case rel=>exact ⟨m,k3+1+1,l',by omega,by omega,by omega,rfl,by go_num,HJ.out.aA ((ag.refl wr).bV y)⟩
        case measure=>simp [intOf];omega
      ·have hcm:¬ cap=m:=by omega
       obtain ⟨_,_,nC,_,_,jO⟩:=bU hI.own (by omega);simp only [Value.slice.injEq,true_and,Option.some.injEq,Addr.mk.injEq,and_true] at nC;obtain ⟨rfl,rfl⟩:=nC
       have iD:(l'.flatMap cB).length=l.length*1:=by rw [cp (size:=1) (fun _=>rfl),pU]
       have zh:∀ w:World,(zeroValue 9).run Tryz.prog w=.ok (.string ByteArray.empty) w:=fun w=>by kernel_rfl
       obtain ⟨n3,zi⟩:∃ n3,l.length - m=n3:=⟨_,rfl⟩
       have pT:∀ ty,(Builtin.clear_ #[26] ty #[.slice (some ⟨g0,m*1,none⟩) n3 (cap - m)]).run Tryz.prog wr=.ok (.tuple #[]) (wr.setCells g0 (m*1) (Builtin.zeroCells (.string ByteArray.empty:Value).cells n3).toList):=fun ty=>by
        refine jD wr _ _ ty _ Tryz.underlying26 zh (by intro u hu;have hu:u∈([.string ByteArray.empty]:List Value):=hu;simp only [List.mem_cons,List.not_mem_nil,or_false] at hu;subst hu;rfl) g0 (m*1) (cap - m) n3 (by omega) (fun j hj=>?_) (fun j hj=>?_)
        ·have hj':j < n3*1:=hj
         have hl:m*1+j < (l'.flatMap cB).length:=by rw [iD];omega
         rw [jO.2.1 _ hl,List.getElem?_eq_getElem hl];rfl
        ·have hj':j < n3*1:=hj
         exact jO.2.2 _ (by rw [iD];omega)
       obtain ⟨Z,hZ⟩:∃ Z,Z=wr.setCells g0 (m*1) (Builtin.zeroCells (.string ByteArray.empty:Value).cells n3).toList:=⟨_,rfl⟩;have HZ:=gH (show Kb (fun k=>k=g0) w Z from hZ▸hI.kb.trans (dL g0 _ _ _));rw [← hZ,← zi] at pT;simp only [Nat.mul_one] at pT;have HF:=gH (show ¬ m=l.length∧¬ lQ q l from ⟨by omega,fun h=>by have:=h k HN.out.2.1;rw [HR.out] at this;cases this⟩);have Qi:=gH Bc
       have k3:(m:Int)≤(l.length:Int):=by omega
       have k5:(l.length:Int)≤(cap:Int):=by omega
       have k6:(m:Int)≤(cap:Int):=by omega
       clear hI jO iD zh hZ zi Fb Bc;go_wp2;go_ret;exact ⟨_,_,_,rfl,⟨fun h=>absurd h HF.out.1,fun h=>absurd h HF.out.2⟩,Qi.out _ _ HZ.out⟩
   ·have HT:=gH (show lQ q l from fun j hj=>HP.out j (by omega) hj)
    clear ha;go_wp2;go_ret;exact ⟨_,_,_,rfl,⟨fun _=>HT.out,fun _=>rfl⟩,Kb.aO HA.out⟩
theorem Fc {w wr:World} {B g cap n m i:Nat} {l:List dO} (h:eD 174 2 jQ (fun x:dO=>Small x.role.size∧Small x.of.size) w wr B g cap n l) (hm:m < l.length) (hi:i < l.length):eD 174 2 jQ (fun x:dO=>Small x.role.size∧Small x.of.size) w ((wr.setCell ⟨g,m*2,none⟩ (.string (l[i]).role)).setCell ⟨g,m*2+1,none⟩ (.string (l[i]).of)) B g cap n (l.set m l[i]):=by
 refine ⟨?_,by rw [List.length_set];exact h.len,fun x hx=>?_,?_⟩
 ·have h1:=ku (ku h.own (g:=g) rfl (m*2) (.string l[i].role)) (g:=g) rfl (m*2+1) (.string l[i].of)
  rw [show (l.flatMap jQ).set (m*2) (.string l[i].role)=(l.set m ⟨l[i].role,l[m].of⟩).flatMap jQ from iy (f:=jQ) (size:=2) (fun _=>rfl) l m 0 hm (by decide) (.string l[i].role) ⟨l[i].role,l[m].of⟩ rfl,
   iy (f:=jQ) (size:=2) (fun _=>rfl) (l.set m ⟨l[i].role,l[m].of⟩) m 1 (by simpa using hm) (by decide) (.string l[i].of) l[i] (by simp [jQ])] at h1
  simpa using h1
 ·rcases List.mem_or_eq_of_mem_set hx with h1 | h1
  ·exact h.sm x h1
  ·subst h1;exact h.sm _ (List.getElem_mem hi)
 ·exact h.kb.trans ((Kb.set _ _ _ _).trans (Kb.set _ _ _ _))
theorem yH {w wr:World} {B g cap n:Nat} {l:List dO} (h:eD 174 2 jQ (fun x:dO=>Small x.role.size∧Small x.of.size) w wr B g cap n l) (hs:Small (n*16)):az wr 2 fg (some ⟨g,0,none⟩) cap l:=by
 have ho:=h.own;have hl:=h.len;subst hl;exact dS (h:=⟨some ⟨g,0,none⟩,l.length,cap⟩) jQ ho (fun x hx=>⟨rfl,rfl,h.sm x hx⟩) hs
theorem UQ (v:Value) (l:List dO) (g:FuncId) (ax:Array Value) (q:dO→dO→Bool) (B:Nat) (w:World) (ho:w.ownsRow B 174 2 v l.length (l.flatMap jQ)) (hs:Small (l.length*16)) (iN:∀ A n c,v=.slice A n c→c≤9223372036854775807) (sm:∀ x∈l,(fun x:dO=>Small x.role.size∧Small x.of.size) x) (cM:∀ (args:Array Value) (w:World),(callFunc g args).run Tryz.prog w=.ok (.enter g args) w)
  (hq:∀ w',Kb (jZ v) w w'→∀ x y:dO,Calls Tryz.prog g (#[.agg #[.string (x).role,.string (x).of],.agg #[.string (y).role,.string (y).of]]++ax) w' fun e w''=>e=.returned (.bool (q x y))∧ag w' w'') :
  Calls Tryz.prog 353 #[v,.func (.func g) #[] ax] w (NR q l v w):=by
 have hlen:l.length*16≤140737488351232:=hs;by_cases h2:l.length < 2
 ·obtain ⟨A,cap,hv⟩:=dV ho
  subst hv;have HT:=gH (show lQ q l from fun k h=>by omega)
  have qs:(l.length:Int) < 2:=by omega
  go_in
  go_wp2;go_ret;exact ⟨_,_,_,rfl,⟨fun _=>HT.out,fun _=>rfl⟩,Kb.refl _ _⟩
 ·obtain ⟨g0,cap,hv,O6,pV,hr⟩:=bU ho (by omega)
  subst hv;have iN:=iN _ _ _ rfl;have hI:eD 174 2 jQ (fun x:dO=>Small x.role.size∧Small x.of.size) w w B g0 cap l.length l:=⟨ho,rfl,sm,Kb.refl _ _⟩
  have Bc:∀ w1 w2:World,Kb (fun k=>k=g0) w1 w2→Kb (jZ (.slice (some ⟨g0,0,none⟩) l.length cap)) w1 w2:=fun w1 w2 k=>k.mono fun g _ e=>by subst e;rfl
  have HQ:=gH (show ∀ w',Kb (fun k=>k=g0) w w'→_ from fun w' k=>hq w' (Bc _ _ k));have HI:=gH hI;have dv:=yH hI hs
  have qs:¬ (l.length:Int) < 2:=by omega
  have wH:=gH dv;clear hq hI ho hr sm
  go_in
  go_wp2_with fail
  go_loopw [5] (fun i wr=>∃ k:Nat,0 < k∧k≤l.length∧i=.int .i64 k∧ag w wr∧∀ j,j+1 < k→∀ (hj:j+1 < l.length),q l[j+1] (l[j]'(by omega))=false) (fun i _=>l.length - (intOf i).toNat)
  case atStart=>exact ⟨1,by omega,by omega,rfl,ag.refl _,fun j hj h=>by omega⟩
  case round =>
   obtain ⟨k,Ho,hk,rfl,ha,hp⟩:=hrel;have HA:=gH ha;have HP:=gH hp;clear hp;by_cases hlt:k < l.length
   ·obtain ⟨k,rfl⟩:∃ k',k=k'+1:=⟨k - 1,by omega⟩
    have jT:=wH.out.aA ha fun _ _ h=>h
    have mS:k < l.length:=by omega
    obtain ⟨b,off,yl,hb,c0,c1,hs,hs2⟩:=lO jT mS;obtain ⟨b',off',hA',hb',d0,d1,hs',I7⟩:=lO jT hlt;simp only [Option.some.injEq,Addr.mk.injEq,and_true] at yl hA';obtain ⟨rfl,rfl⟩:=yl;obtain ⟨rfl,rfl⟩:=hA';simp only [Nat.zero_add] at c0 c1 d0 d1;obtain ⟨r,hr⟩:∃ r,q l[k+1] (l[k]'(by omega))=r:=⟨_,rfl⟩;have Cc:=gH (show ∀ x:iM wr,_ from fun x=>hr▸HQ.out (bV wr x) (Kb.aO (HA.out.bV x)) l[k+1] (l[k]'(by omega)));have HR:=gH hr;clear ha dv jT hr
    have w1:IntKind.i64.wrap (((k+1:Nat):Int) - 1)=(k:Int):=by rw [show ((k+1:Nat):Int) - 1=(k:Int) from by omega];exact IntWalk.i64_in _ (by omega)
    have w5:IntKind.i64.wrap ((k:Int)+1 - 1)=(k:Int):=by rw [show (k:Int)+1 - 1=(k:Int) from by omega];exact IntWalk.i64_in _ (by omega)
    have w2:(0:Int)≤(k:Int)+1:=by omega
    have w3:((k:Int)+1).toNat=k+1:=by omega
    have w4:(k:Int)+1 < (l.length:Int):=by omega
    cases r
    ·go_wp2_with fail
     refine ay (by kernel_rfl) (by kernel_rfl) ?_
     repeat (go_big_quiet_step ((exact Calls.bk (Cc.out _))))
     refine wpQuiet_nil ?_;intro _ hw';obtain ⟨x,hw''⟩:=hw';subst hw'';clear w1 w2 w3 w4 w5;go_wp2
     go_roundw
     case rel =>
      refine ⟨k+1+1,by omega,by omega,by go_num,HA.out.bV x,fun j hj qp=>?_⟩
      rcases Nat.lt_or_ge j k with h1 | h1
      ·exact HP.out j (by omega) qp
      ·have:j=k:=by omega
       subst this;exact HR.out
     case measure=>simp [intOf];omega
    ·have jL:¬ cap=k+1:=by omega
     go_wp2_with fail;refine ay (by kernel_rfl) (by kernel_rfl) ?_
     repeat (go_big_quiet_step ((exact Calls.bk (Cc.out _))))
     refine wpQuiet_nil ?_;intro _ hw';obtain ⟨x,hw''⟩:=hw';subst hw'';clear w1 w2 w3 w4 w5;go_wp2_with fail;obtain ⟨n2,Fb⟩:∃ n2,l.length - (k+1)=n2:=⟨_,rfl⟩;rw [Fb];have HN:=gH (And.intro Fb (And.intro hlt (And.intro pV iN)));have YL:=gH (HI.out.aA (HA.out.bV x));clear Fb c0 c1 d0 d1 hs hs2 hs' I7
     go_loopw [5,7] (fun u5 u7 wr2=>∃ (m k2:Nat) (l':List dO),0 < k2∧k2≤n2∧m < k+1+k2∧u5=.int .i64 m∧u7=.int .i64 k2∧eD 174 2 jQ (fun x:dO=>Small x.role.size∧Small x.of.size) w wr2 B g0 cap l.length l') (fun _ u7 _=>n2 - (intOf u7).toNat)
     case atStart=>exact ⟨k+1,1,l,by omega,by have:=HN.out.1;omega,by omega,rfl,rfl,YL.out⟩
     case round =>
      obtain ⟨m,k2,l',YM,hk2,hm,rfl,rfl,hI⟩:=hrel;have Fb:=HN.out.1
      have JS:m < l.length:=by omega
      have HJ:=gH hI;have pU:=hI.len;by_cases mg:k2 < n2
      ·obtain ⟨k3,rfl⟩:∃ k',k2=k'+1:=⟨k2 - 1,by omega⟩
       have BP:=yH hI hs
       have sU:k+1+(k3+1) < l'.length:=by omega
       have mL:k+1+k3 < l'.length:=by omega
       obtain ⟨b,off,yl,hb0,c0,c1,hs,hs2⟩:=lO BP mL;obtain ⟨b',off',hA',hb1,d0,d1,hs',I7⟩:=lO BP sU;simp only [Option.some.injEq,Addr.mk.injEq,and_true] at yl hA';obtain ⟨rfl,rfl⟩:=yl;obtain ⟨rfl,rfl⟩:=hA';rw [show 0+(k+1+k3)*2=(k+1)*2+k3*2 from by omega] at c0 c1;rw [show 0+(k+1+(k3+1))*2=(k+1)*2+(k3+1)*2 from by omega] at d0 d1;obtain ⟨x1,hx1⟩:∃ x1,l'[k+1+(k3+1)]=x1:=⟨_,rfl⟩;obtain ⟨x0,hx0⟩:∃ x0,l'[k+1+k3]=x0:=⟨_,rfl⟩;rw [hx0] at c0 c1 hs hs2;rw [hx1] at d0 d1 hs' I7;obtain ⟨r,hr⟩:∃ r,q x1 x0=r:=⟨_,rfl⟩;have YN:=gH (show ∀ y:iM wr,_ from fun y=>hr▸HQ.out (bV wr y) (hI.kb.trans (Kb.aO ((ag.refl wr).bV y))) x1 x0);have HX:=gH hx1
       have w1:IntKind.i64.wrap (((k3+1:Nat):Int) - 1)=(k3:Int):=by rw [show ((k3+1:Nat):Int) - 1=(k3:Int) from by omega];exact IntWalk.i64_in _ (by omega)
       have w5:IntKind.i64.wrap ((k3:Int)+1 - 1)=(k3:Int):=by rw [show (k3:Int)+1 - 1=(k3:Int) from by omega];exact IntWalk.i64_in _ (by omega)
       have w2:(0:Int)≤(k3:Int)+1:=by omega
       have w3:((k3:Int)+1).toNat=k3+1:=by omega
       have w4:(k3:Int)+1 < (n2:Int):=by omega
       have w6:(k3:Int) < (n2:Int):=by omega
       clear hI BP hr hx0 hx1 Fb;go_wp2_with fail;refine ay (by kernel_rfl) (by kernel_rfl) ?_
       repeat (go_big_quiet_step ((exact Calls.bk (YN.out _))))
       refine wpQuiet_nil ?_;intro _ hw';obtain ⟨y,hw''⟩:=hw';subst hw'';clear w1 w5
       cases r
       ·obtain ⟨F,hF⟩:∃ F,F=bV wr y:=⟨_,rfl⟩
        have Hp:=gH (show eD 174 2 jQ (fun x:dO=>Small x.role.size∧Small x.of.size) w F B g0 cap l.length l' from hF▸HJ.out.aA ((ag.refl wr).bV y));obtain ⟨_,_,nC,_,_,jO⟩:=bU Hp.out.own (by omega);simp only [Value.slice.injEq,true_and,Option.some.injEq,Addr.mk.injEq,and_true] at nC;obtain ⟨rfl,rfl⟩:=nC
        have iD:(l'.flatMap jQ).length=l.length*2:=by rw [cp (size:=2) (fun _=>rfl),pU]
        obtain ⟨u0,z0⟩:∃ u,F.cell? ⟨g0,m*2,none⟩=some u:=⟨_,by rw [jO.2.1 (m*2) (by rw [iD];omega),List.getElem?_eq_getElem (by rw [iD];omega)]⟩;obtain ⟨u1,y0⟩:∃ u,F.cell? ⟨g0,m*2+1,none⟩=some u:=⟨_,by rw [jO.2.1 (m*2+1) (by rw [iD];omega),List.getElem?_eq_getElem (by rw [iD];omega)]⟩;have z1:F.frozen? ⟨g0,m*2,none⟩=false:=jO.2.2 (m*2) (by rw [iD];omega);have y1:F.frozen? ⟨g0,m*2+1,none⟩=false:=jO.2.2 (m*2+1) (by rw [iD];omega);have z2:g0 < F.heap.size:=jO.1
        have z3:F.cell? ⟨g0,(k+1)*2+(k3+1)*2,none⟩=some (.string x1.role):=by rw [hF];exact ((ag.refl wr).bV y).cell_kept d0
        have y3:F.cell? ⟨g0,(k+1)*2+(k3+1)*2+1,none⟩=some (.string x1.of):=by rw [hF];exact ((ag.refl wr).bV y).cell_kept d1
        rw [← hF];clear hF;clear jO iD
        have Bd:=gH (show eD 174 2 jQ (fun x:dO=>Small x.role.size∧Small x.of.size) w ((F.setCell ⟨g0,m*2,none⟩ (.string (x1).role)).setCell ⟨g0,m*2+1,none⟩ (.string (x1).of)) B g0 cap l.length (l'.set m l'[k+1+(k3+1)]) from by
         have:=Fc Hp.out (m:=m) (i:=k+1+(k3+1)) (by omega) sU;rw [HX.out] at this ⊢
         simpa using this)
        clear w2 w3 w4 w6;go_wp2
        go_roundw
        case rel=>exact ⟨m+1,k3+1+1,_,by omega,by omega,by omega,by go_num,by go_num,Bd.out⟩
        case measure=>simp [intOf];omega
       ·clear w2 w3 w4 w6
        go_wp2
        go_roundw
        case rel=>exact ⟨m,k3+1+1,l',by omega,by omega,by omega,rfl,by go_num,HJ.out.aA ((ag.refl wr).bV y)⟩
        case measure=>simp [intOf];omega
      ·have hcm:¬ cap=m:=by omega
       obtain ⟨_,_,nC,_,_,jO⟩:=bU hI.own (by omega);simp only [Value.slice.injEq,true_and,Option.some.injEq,Addr.mk.injEq,and_true] at nC;obtain ⟨rfl,rfl⟩:=nC
       have iD:(l'.flatMap jQ).length=l.length*2:=by rw [cp (size:=2) (fun _=>rfl),pU]
       have zh:∀ w:World,(zeroValue 174).run Tryz.prog w=.ok (.agg #[.string ByteArray.empty,.string ByteArray.empty]) w:=fun w=>by kernel_rfl
       obtain ⟨n3,zi⟩:∃ n3,l.length - m=n3:=⟨_,rfl⟩
       have pT:∀ ty,(Builtin.clear_ #[27] ty #[.slice (some ⟨g0,m*2,none⟩) n3 (cap - m)]).run Tryz.prog wr=.ok (.tuple #[]) (wr.setCells g0 (m*2) (Builtin.zeroCells (.agg #[.string ByteArray.empty,.string ByteArray.empty]:Value).cells n3).toList):=fun ty=>by
        refine jD wr _ _ ty _ Tryz.underlying27 zh (by intro u hu;have hu:u∈([.string ByteArray.empty,.string ByteArray.empty]:List Value):=hu;simp only [List.mem_cons,List.not_mem_nil,or_false] at hu;rcases hu with rfl | rfl<;>rfl) g0 (m*2) (cap - m) n3 (by omega) (fun j hj=>?_) (fun j hj=>?_)
        ·have hj':j < n3*2:=hj
         have hl:m*2+j < (l'.flatMap jQ).length:=by rw [iD];omega
         rw [jO.2.1 _ hl,List.getElem?_eq_getElem hl];rfl
        ·have hj':j < n3*2:=hj
         exact jO.2.2 _ (by rw [iD];omega)
       obtain ⟨Z,hZ⟩:∃ Z,Z=wr.setCells g0 (m*2) (Builtin.zeroCells (.agg #[.string ByteArray.empty,.string ByteArray.empty]:Value).cells n3).toList:=⟨_,rfl⟩;have HZ:=gH (show Kb (fun k=>k=g0) w Z from hZ▸hI.kb.trans (dL g0 _ _ _));rw [← hZ,← zi] at pT
       skip
       have HF:=gH (show ¬ m=l.length∧¬ lQ q l from ⟨by omega,fun h=>by have:=h k HN.out.2.1;rw [HR.out] at this;cases this⟩);have Qi:=gH Bc
       have k3:(m:Int)≤(l.length:Int):=by omega
       have k5:(l.length:Int)≤(cap:Int):=by omega
       have k6:(m:Int)≤(cap:Int):=by omega
       clear hI jO iD zh hZ zi Fb Bc;go_wp2;go_ret;exact ⟨_,_,_,rfl,⟨fun h=>absurd h HF.out.1,fun h=>absurd h HF.out.2⟩,Qi.out _ _ HZ.out⟩
   ·have HT:=gH (show lQ q l from fun j hj=>HP.out j (by omega) hj)
    clear ha;go_wp2;go_ret;exact ⟨_,_,_,rfl,⟨fun _=>HT.out,fun _=>rfl⟩,Kb.aO HA.out⟩
theorem Jb:(Tryz.prog.info? 174).map (fun i=>(i.zero,i.size,i.bytes))=some (some (.agg #[.string ByteArray.empty,.string ByteArray.empty]),2,32):=by kernel_rfl
theorem uK (A:Option Addr) (cap:Nat) (l:List dO) (w0 w:World) (ha:ag w0 w) (h:az w0 2 fg A cap l) (hb:l.length≤1000000) :
  Calls Tryz.prog 122 #[.slice A l.length cap] w (lG 174 2 fg w0 w l):=by
 obtain ⟨i0,hi,hz0,hz1,hz2⟩:=info_parts Jb
 have Pm:∀ (w:World) (a:Option Addr) (n c n' c':Nat),(binOp .eql 27 (.slice a n c) (.slice none n' c')).run Tryz.prog w=.ok (.bool a.isNone) w:=fun w a n c n' c'=>Lib.run_eql_slice_nil w _ _ a n c n' c' Tryz.underlying27
 cases A with
 | none =>
  have hl0:l=[]:=by
   cases l with
   | nil=>rfl
   | cons x l=>obtain ⟨b,off,cs,hA,_⟩:=h.2.2 0 (by simp);cases hA
  subst hl0
  go_in
  go_wp2;go_ret;exact ⟨_,[],rfl,ag.refl _,cO _ _ _ _,bL.nil⟩
 | some ad =>
  have HC:∃ bw,bL w0 2 fg bw l∧∀ p u,bw.flatten[p]? = some u→w.cell? (ad.add p)=some u:=by
   by_cases h0:0 < l.length
   ·obtain ⟨b,off,bw,hA,hb',hch,hc⟩:=h.bw h0 (by decide)
    simp only [Option.some.injEq] at hA;subst hA;refine ⟨bw,hch,fun p u hp=>?_⟩
    have hlt:p < l.length*2:=by rw [← hch.len];exact (List.getElem?_eq_some_iff.1 hp).1
    rw [kt];exact ha.cell_kept ((hc p hlt).trans hp)
   ·have hl0:l=[]:=List.eq_nil_of_length_eq_zero (by omega)
    subst hl0;exact ⟨[],bL.nil,fun p u hp=>by simp at hp⟩
  obtain ⟨bw,hch,hcell⟩:=HC;have H1:=gH hcell
  have H2:Hid (∀ u∈bw.flatten,u.oneCell'=true):=gH (by
   intro u hu;obtain ⟨c,hc,hu⟩:=List.mem_flatten.1 hu;obtain ⟨i,hi,rfl⟩:=List.getElem_of_mem hc;have h3:=(hch.2 i hi (by rw [← hch.1];exact hi)).2;obtain ⟨hcs,_⟩:=h3;rw [hcs] at hu;simp only [List.mem_cons,List.not_mem_nil,or_false] at hu
   rcases hu with rfl | rfl<;>simp [Value.oneCell'])
  have H3:=gH hch;have HI:=gH hi;have jG:=gH hz0;have jt:=gH hz1;have jX:=gH hz2;clear hcell hch hi hz0 hz1 hz2 h ha
  go_in
  go_wp2_with (at_builtin;refine wpList_append_own _ rfl _ _ 27 rfl w.heap.size 174 i0 (.agg #[.string ByteArray.empty,.string ByteArray.empty]) 2 32 Tryz.underlying27 HI.out jG.out jt.out jX.out rfl (by decide) _ _ _ rfl (World.ownsRow_made w #[] 0 (Nat.le_refl _) (Nat.zero_le _) rfl) ad l.length cap bw.flatten rfl ?AP ?AQ ?AR ?AU ?AW ?Ba ?_)
  case AP=>exact H3.out.len
  case AQ =>
   intro j u hj;exact Lib.cell?_alloc_some _ (H1.out j u hj)
  case AR=>exact H2.out
  case AU=>unfold maxLen;omega
  case AW=>omega
  case Ba=>simp
  intro v' w1 hown hgrow hnil;have HO:=gH hown;have HA:=gH (show ag w w1 from ((Below.refl _ w).alloc (Nat.le_refl _) _).grown hgrow (by simp) (by intro k hk;simp [Value.ownBlock] at hk;omega));clear hown hgrow hnil;go_wp2;go_ret;refine ⟨v',bw,rfl,HA.out,?_,H3.out⟩
  simpa using HO.out
theorem uL {w:World} {bw:List (List Value)} {l:List dO} (h:bL w 2 fg bw l):bw.flatten=l.flatMap jQ:=ew (fun _ _ h=>h.1) h
theorem mb {α:Type} {c:α→α→Int} (dN:∀ a b,c a b = - c b a) (l:List α):aM c l=true↔pq c l∧lQ (fun a b=>decide (c a b=0)) l:=by
 rw [cL]
 constructor
 ·intro h
  refine ⟨fun k hk=>?_,fun k hk=>?_⟩
  ·have h1:=h k hk
   have h2:=dN l[k+1] (l[k]'(by omega));omega
  ·have h1:=h k hk
   have h2:=dN l[k+1] (l[k]'(by omega));simp only [decide_eq_false_iff_not];omega
 ·intro ⟨h1,h2⟩ k hk
  have h3:=h1 k hk;have h4:=h2 k hk;simp only [decide_eq_false_iff_not] at h4;have h5:=dN l[k+1] (l[k]'(by omega));omega
theorem qB {w:World} {B size n:Nat} {e:TypeId} {v:Value} {xs:List Value} (h:w.ownsRow B e size v n xs):∀ A n c,v=.slice A n c→c≤9223372036854775807:=by
 intro A n c hv
 rcases h.2 with ⟨rfl,_⟩ | ⟨g,cap,cur,rfl,_,_,_,hcm,_⟩
 ·simp only [Value.slice.injEq] at hv;omega
 ·simp only [Value.slice.injEq] at hv
  have:cap≤maxLen:=hcm;unfold maxLen at this;omega
theorem UR (x y:ByteArray) (bx:Nat) (g:FuncId) (ax:Array Value) (c:ByteArray→ByteArray→Int) (w:World) (hc:w.cell? ⟨bx,0,none⟩=some (.func (.func g) #[] ax)) (cM:∀ (args:Array Value) (w:World),(callFunc g args).run Tryz.prog w=.ok (.enter g args) w)
  (hp:∀ w',ag w w'→Calls Tryz.prog g (#[.string (x),.string (y)]++ax) w' fun e w''=>e=.returned (.int .i64 (c x y))∧ag w' w'') :
  Calls Tryz.prog 351 #[.string (x),.string (y),.pointer (some ⟨bx,0,none⟩)] w fun e w'=>e=.returned (.bool (decide (c x y=0)))∧ag w w':=by
 have HP:=gH hp;have hbx:bx < w.heap.size:=World.block_lt_of_cell? _ _ hc
 have YO:bx < w.heap.size+1:=by omega
 clear hp
 go_in
 go_wp2_with fail;refine (HP.out _ (ag.refl w)).mono ?_;rintro e w1 ⟨rfl,a1⟩;have HA:=gH ((ag.refl w).trans a1);clear a1;go_wp2;go_ret;exact ⟨Eq.trans (b:=.returned (.bool _)) rfl (dx (cz (by first | rfl | simp))),HA.out⟩
theorem Mj (A:Option Addr) (cap:Nat) (l:List ByteArray) (g:FuncId) (ax:Array Value) (c:ByteArray→ByteArray→Int) (w:World) (h:az w 1 dC A cap l) (hb:l.length≤1000000) (dN:∀ a b,c a b = - c b a) (cM:∀ (args:Array Value) (w:World),(callFunc g args).run Tryz.prog w=.ok (.enter g args) w)
  (hp:∀ w' (x y:ByteArray),ag w w'→Calls Tryz.prog g (#[.string (x),.string (y)]++ax) w' fun e w''=>e=.returned (.int .i64 (c x y))∧ag w' w'') :
  Calls Tryz.prog 299 #[.slice A l.length cap,.func (.func g) #[] ax] w fun e w'=>e=.returned (.bool (aM c l))∧ag w w':=by
 have hlen:=h.len;obtain ⟨W,hW⟩:∃ W,W=w.alloc (.cells #[.func (.func g) #[] ax] 249):=⟨_,rfl⟩
 have aW:ag w W:=by rw [hW];exact (ag.refl w).alloc _
 have zW:W.heap.size=w.heap.size+1:=by rw [hW];simp
 have cW:W.cell? ⟨w.heap.size,0,none⟩=some (.func (.func g) #[] ax):=by rw [hW];simp
 have C1:=gH (Mh A cap l g ax c W (aU aW h) cM fun w' a i hi=>hp w' _ _ (aW.trans a));have HH:=gH (And.intro h (And.intro hp (And.intro dN (And.intro aW cW))));have pB:=enters (P:=Tryz.prog) Tryz.func351 (by kernel_rfl) rfl;have hsm:=jM h (P:=fun x:ByteArray=>Small x.size) (fun _ _ h=>h.2);have yZ:=gH hsm;clear h hp dN aW hsm
 go_in
 go_wp2_with fail;rw [← hW];refine C1.out.mono ?_;rintro e w1 ⟨b,rfl,hb1,a1⟩;have HB:=gH hb1;have dc:=gH a1;have UT:=a1.cell_kept cW;clear hW hb1
 cases b
 ·clear a1 UT cW
  go_wp2;go_ret;refine ⟨Eq.trans (b:=.returned (.bool _)) rfl (dx (cz ?_)),HH.out.2.2.2.1.trans dc.out⟩;have:=mb HH.out.2.2.1 l;have h2:=HB.out
  simp_all
 ·have C2:=gH (ko A cap l w1 w1 (ag.refl _) (aU (HH.out.2.2.2.1.trans a1) HH.out.1) hb)
  clear a1;go_wp2_with fail;refine C2.out.mono ?_;rintro e w2 ⟨v,bw,rfl,a2,ho,hch⟩;rw [jg hch] at ho;obtain ⟨A2,bJ,hv⟩:=dV ho;subst hv;have YP:=a2.cell_kept UT
  have C3:=gH (UO (.slice A2 l.length bJ) l 351 #[.pointer (some ⟨w.heap.size,0,none⟩)] (fun a b=>decide (c a b=0)) w1.heap.size w2 ho yZ.out.1 (qB ho) yZ.out.2 pB (fun w' kb x y=>by
   have K0:¬ jZ (.slice A2 l.length bJ) w.heap.size:=gh ho (by have:=dc.out.size;omega);have ha:ag w w':=kb.aJ ((HH.out.2.2.2.1.trans dc.out).trans a2) (fun g hg=>gh ho (by have:=dc.out.size;omega))
   exact UR x y w.heap.size g ax c w' (kb.cell YP K0) cM (fun w'' a=>HH.out.2.1 w'' x y (ha.trans a))))
  have HK:=gH (show ∀ w',Kb (jZ (.slice A2 l.length bJ)) w2 w'→ag w w' from fun w' kb=>kb.aJ ((HH.out.2.2.2.1.trans dc.out).trans a2) (fun g hg=>gh ho (by have:=dc.out.size;omega)));clear a2 ho hch;go_wp2_with fail;refine C3.out.mono ?_;rintro e w3 ⟨A3,m,c3,rfl,hm,kb⟩;have HM:=gH hm;have qf:=gH (HK.out w3 kb);clear hm kb;go_wp2;go_ret;refine ⟨Eq.trans (b:=.returned (.bool _)) rfl (dx (cz ?_)),qf.out⟩;have h1:=mb HH.out.2.2.1 l;have h2:=HB.out.1 (by first | trivial | rfl);have h3:=HM.out;by_cases e:m=l.length
  ·rw [h1.2 ⟨h2,h3.1 e⟩]
   simp [e]
  ·have:aM c l=false:=by
    rw [Bool.eq_false_iff];intro h;exact e (h3.2 (h1.1 h).2)
   rw [this];simp;omega
theorem UU (x y:dO) (bx:Nat) (g:FuncId) (ax:Array Value) (c:dO→dO→Int) (w:World) (hc:w.cell? ⟨bx,0,none⟩=some (.func (.func g) #[] ax)) (cM:∀ (args:Array Value) (w:World),(callFunc g args).run Tryz.prog w=.ok (.enter g args) w)
  (hp:∀ w',ag w w'→Calls Tryz.prog g (#[.agg #[.string (x).role,.string (x).of],.agg #[.string (y).role,.string (y).of]]++ax) w' fun e w''=>e=.returned (.int .i64 (c x y))∧ag w' w'') :
  Calls Tryz.prog 354 #[.agg #[.string (x).role,.string (x).of],.agg #[.string (y).role,.string (y).of],.pointer (some ⟨bx,0,none⟩)] w fun e w'=>e=.returned (.bool (decide (c x y=0)))∧ag w w':=by
 have HP:=gH hp;have hbx:bx < w.heap.size:=World.block_lt_of_cell? _ _ hc
 have YO:bx < w.heap.size+1:=by omega
 clear hp
 go_in
 go_wp2_with fail;refine (HP.out _ (((ag.refl w).alloc _).alloc _)).mono ?_;rintro e w1 ⟨rfl,a1⟩;have HA:=gH ((((ag.refl w).alloc _).alloc _).trans a1);clear a1;go_wp2;go_ret;exact ⟨Eq.trans (b:=.returned (.bool _)) rfl (dx (cz (by first | rfl | simp))),HA.out⟩
theorem Mk (A:Option Addr) (cap:Nat) (l:List dO) (g:FuncId) (ax:Array Value) (c:dO→dO→Int) (w:World) (h:az w 2 fg A cap l) (hb:l.length≤1000000) (dN:∀ a b,c a b = - c b a) (cM:∀ (args:Array Value) (w:World),(callFunc g args).run Tryz.prog w=.ok (.enter g args) w)
  (hp:∀ w' (x y:dO),ag w w'→Calls Tryz.prog g (#[.agg #[.string (x).role,.string (x).of],.agg #[.string (y).role,.string (y).of]]++ax) w' fun e w''=>e=.returned (.int .i64 (c x y))∧ag w' w'') :
  Calls Tryz.prog 300 #[.slice A l.length cap,.func (.func g) #[] ax] w fun e w'=>e=.returned (.bool (aM c l))∧ag w w':=by
 have hlen:=h.len;obtain ⟨W,hW⟩:∃ W,W=w.alloc (.cells #[.func (.func g) #[] ax] 325):=⟨_,rfl⟩
 have aW:ag w W:=by rw [hW];exact (ag.refl w).alloc _
 have zW:W.heap.size=w.heap.size+1:=by rw [hW];simp
 have cW:W.cell? ⟨w.heap.size,0,none⟩=some (.func (.func g) #[] ax):=by rw [hW];simp
 have C1:=gH (Mi A cap l g ax c W (df aW h) cM fun w' a i hi=>hp w' _ _ (aW.trans a));have HH:=gH (And.intro h (And.intro hp (And.intro dN (And.intro aW cW))));have pB:=enters (P:=Tryz.prog) Tryz.func354 (by kernel_rfl) rfl;have hsm:=jM h (P:=fun x:dO=>Small x.role.size∧Small x.of.size) (fun _ _ h=>h.2);have yZ:=gH hsm;clear h hp dN aW hsm
 go_in
 go_wp2_with fail;rw [← hW];refine C1.out.mono ?_;rintro e w1 ⟨b,rfl,hb1,a1⟩;have HB:=gH hb1;have dc:=gH a1;have UT:=a1.cell_kept cW;clear hW hb1
 cases b
 ·clear a1 UT cW
  go_wp2;go_ret;refine ⟨Eq.trans (b:=.returned (.bool _)) rfl (dx (cz ?_)),HH.out.2.2.2.1.trans dc.out⟩;have:=mb HH.out.2.2.1 l;have h2:=HB.out
  simp_all
 ·have C2:=gH (uK A cap l w1 w1 (ag.refl _) (df (HH.out.2.2.2.1.trans a1) HH.out.1) hb)
  clear a1;go_wp2_with fail;refine C2.out.mono ?_;rintro e w2 ⟨v,bw,rfl,a2,ho,hch⟩;rw [uL hch] at ho;obtain ⟨A2,bJ,hv⟩:=dV ho;subst hv;have YP:=a2.cell_kept UT
  have C3:=gH (UQ (.slice A2 l.length bJ) l 354 #[.pointer (some ⟨w.heap.size,0,none⟩)] (fun a b=>decide (c a b=0)) w1.heap.size w2 ho yZ.out.1 (qB ho) yZ.out.2 pB (fun w' kb x y=>by
   have K0:¬ jZ (.slice A2 l.length bJ) w.heap.size:=gh ho (by have:=dc.out.size;omega);have ha:ag w w':=kb.aJ ((HH.out.2.2.2.1.trans dc.out).trans a2) (fun g hg=>gh ho (by have:=dc.out.size;omega))
   exact UU x y w.heap.size g ax c w' (kb.cell YP K0) cM (fun w'' a=>HH.out.2.1 w'' x y (ha.trans a))))
  have HK:=gH (show ∀ w',Kb (jZ (.slice A2 l.length bJ)) w2 w'→ag w w' from fun w' kb=>kb.aJ ((HH.out.2.2.2.1.trans dc.out).trans a2) (fun g hg=>gh ho (by have:=dc.out.size;omega)));clear a2 ho hch;go_wp2_with fail;refine C3.out.mono ?_;rintro e w3 ⟨A3,m,c3,rfl,hm,kb⟩;have HM:=gH hm;have qf:=gH (HK.out w3 kb);clear hm kb;go_wp2;go_ret;refine ⟨Eq.trans (b:=.returned (.bool _)) rfl (dx (cz ?_)),qf.out⟩;have h1:=mb HH.out.2.2.1 l;have h2:=HB.out.1 (by first | trivial | rfl);have h3:=HM.out;by_cases e:m=l.length
  ·rw [h1.2 ⟨h2,h3.1 e⟩]
   simp [e]
  ·have:aM c l=false:=by
    rw [Bool.eq_false_iff];intro h;exact e (h3.2 (h1.1 h).2)
   rw [this];simp;omega
theorem lB (a b:ByteArray):aS a b=aS b a:=by
 unfold aS;rw [Bool.eq_iff_iff];simp;exact eq_comm
theorem oV {a b c:ByteArray} (h:aS a b=true) (h2:aS b c=true):aS a c=true:=by
 unfold aS at *;simp at *;rw [h,h2]
theorem yI (A:Option Addr) (cap:Nat) (l:List ByteArray) (name:ByteArray) (w:World) (h:az w 1 dC A cap l) :
  Calls Tryz.prog 109 #[.slice A l.length cap,.string name] w fun e w'=>e=.returned (.int .i64 (bu (fun c=>aS c name) l))∧w=w':=by
 have hlen:=h.len
 go_in
 go_wp2_with fail
 go_loop [8] (fun i=>∃ k:Nat,k≤l.length∧i=.int .i64 k∧∀ j,j < k→∀ (hj:j < l.length),aS l[j] name=false) (fun i=>l.length - (intOf i).toNat)
 case atStart=>exact ⟨0,Nat.zero_le _,rfl,fun j hj=>absurd hj (Nat.not_lt_zero j)⟩
 case round =>
  obtain ⟨k,hk,rfl,hp⟩:=hrel;have HP:=gH hp;clear hp;by_cases hlt:k < l.length
  ·obtain ⟨b,off,rfl,hb,c0,hs⟩:=fB h hlt
   cases heq:aS l[k] name
   ·have h2:(name.toList==l[k].toList)=false:=(lB _ _).trans heq
    have HN:=gH (dG (p:=fun j=>∀ (hj:j < l.length),aS l[j] name=false) HP.out (fun _=>heq));clear heq;go_wp2
    go_round
    case rel=>exact ⟨k+1,by omega,by go_num,HN.out⟩
    case measure=>simp [intOf];omega
   ·have h2:(name.toList==l[k].toList)=true:=(lB _ _).trans heq
    have HQ:=gH heq;clear heq;go_wp2;go_ret;have heq:=HQ.out;exact ⟨by rw [eU (fun c=>aS c name) l k hlt heq (fun i hi=>HP.out i hi (by omega))];rfl,rfl⟩
  ·go_wp2
   go_ret;exact ⟨by rw [eT (fun c=>aS c name) l (fun i hi=>HP.out i (by omega) hi)];rfl,rfl⟩
theorem gF {α:Type} (p:α→Bool) (l:List α) (q:Nat) (hq:q < l.length) (h:bu p l=q):p l[q]=true:=by
 induction l generalizing q with
 | nil=>simp at hq
 | cons x l ih =>
  simp only [bu] at h;by_cases hx:p x=true
  ·rw [if_pos hx] at h
   have:q=0:=by omega
   subst this;simpa using hx
  ·rw [if_neg hx] at h
   by_cases hy:bu p l < 0
   ·rw [if_pos hy] at h;omega
   ·rw [if_neg hy] at h
    cases q with
    | zero=>omega
    | succ q=>simpa using ih q (by simpa using hq) (by omega)
theorem all_false {α:Type} (p:α→Bool) (l:List α) (k:Nat) (hk:k < l.length) (h:p l[k]=false):l.all p=false:=by
 rw [Bool.eq_false_iff];intro ha;have:=List.all_eq_true.1 ha l[k] (List.getElem_mem hk);rw [h] at this;cases this
theorem all_true {α:Type} (p:α→Bool) (l:List α) (h:∀ k (hk:k < l.length),p l[k]=true):l.all p=true:=by
 rw [List.all_eq_true];intro x hx;obtain ⟨i,hi,rfl⟩:=List.getElem_of_mem hx;exact h i hi
theorem nL:∀ (a b:List UInt8),(Lib.compareBytes a b=0)↔a=b
 | [],[]=>by simp [Lib.compareBytes]
 | [],_::_=>by simp [Lib.compareBytes]
 | _::_,[]=>by simp [Lib.compareBytes]
 | x::a,y::b=>by
  unfold Lib.compareBytes;by_cases h:x < y
  ·have h3:¬ x=y:=fun e=>by subst e;exact UInt8.lt_irrefl _ h
   simp [h,h3]
  ·by_cases h2:y < x
   ·have h3:¬ x=y:=fun e=>by subst e;exact UInt8.lt_irrefl _ h2
    simp [h,h2,h3]
   ·have h3:x=y:=UInt8.le_antisymm (UInt8.not_lt.1 h2) (UInt8.not_lt.1 h)
    subst h3;have:=nL a b;simp [UInt8.lt_irrefl,this]
theorem uY:∀ (a b:List UInt8),Lib.compareBytes a b = - Lib.compareBytes b a
 | [],[]=>rfl
 | [],_::_=>rfl
 | _::_,[]=>rfl
 | x::a,y::b=>by
  unfold Lib.compareBytes;by_cases h:x < y
  ·have h2:¬ y < x:=UInt8.lt_asymm h
   simp [h,h2]
  ·by_cases h2:y < x
   ·simp [h,h2]
   ·simp [h,h2];exact uY a b
theorem sD:∀ (a b c:List UInt8),Lib.compareBytes a b < 0→Lib.compareBytes b c < 0→Lib.compareBytes a c < 0
 | [],[],c=>fun h=>by simp [Lib.compareBytes] at h
 | [],_::_,[]=>fun _ h=>by simp [Lib.compareBytes] at h
 | [],_::_,_::_=>fun _ _=>by simp [Lib.compareBytes]
 | _::_,[],c=>fun h=>by simp [Lib.compareBytes] at h
 | _::_,_::_,[]=>fun _ h=>by simp [Lib.compareBytes] at h
 | x::a,y::b,z::c=>by
  unfold Lib.compareBytes;intro h1 h2;by_cases xy:x < y
  ·by_cases yz:y < z
   ·have:=UInt8.lt_trans xy yz;simp [this]
   ·simp only [yz,if_false] at h2
    by_cases zy:z < y
    ·simp [zy] at h2
    ·have e:y=z:=UInt8.le_antisymm (UInt8.not_lt.1 zy) (UInt8.not_lt.1 yz)
     subst e;simp [xy]
  ·simp only [xy,if_false] at h1
   by_cases yx:y < x
   ·simp [yx] at h1
   ·have e:x=y:=UInt8.le_antisymm (UInt8.not_lt.1 yx) (UInt8.not_lt.1 xy)
    subst e;simp only [yx,if_false] at h1;by_cases yz:x < z
    ·simp [yz]
    ·simp only [yz,if_false] at h2 ⊢
     by_cases zy:z < x
     ·simp [zy] at h2
     ·simp only [zy,if_false] at h2 ⊢
      exact sD a b c h1 h2
theorem fw (a b:ByteArray):(bv a b=0)↔aS a b=true:=by
 unfold bv aS;rw [Lib.toList_data,Lib.toList_data,nL];simp
theorem j6 (a b:ByteArray):bv a b = - bv b a:=uY _ _
theorem kA {a b c:ByteArray} (h1:bv a b < 0) (h2:bv b c < 0):bv a c < 0:=sD _ _ _ h1 h2
theorem gU {α:Type} (p:α→Bool) (l:List α):decide (0≤bu p l)=l.any p:=by
 induction l with
 | nil=>rfl
 | cons x l ih =>
  rw [List.any_cons,← ih]
  show decide (0≤(if p x then (0:Int) else if bu p l < 0 then -1 else bu p l+1))=_
  cases h:p x
  ·simp only [Bool.false_or]
   by_cases h2:bu p l < 0
   ·simp [h2]
   ·simp [h2];omega
  ·simp
theorem jc (A:Option Addr) (cap:Nat) (l:List ByteArray) (name:ByteArray) (w:World) (h:az w 1 dC A cap l) :
  Calls Tryz.prog 69 #[.slice A l.length cap,.string name] w fun e w'=>e=.returned (.bool (l.any fun c=>aS c name))∧w=w':=by
 have C:=gH (yI A cap l name w h);have HE:=gH (gU (fun c=>aS c name) l);obtain ⟨i,hi⟩:∃ i,bu (fun c=>aS c name) l=i:=⟨_,rfl⟩;rw [hi] at C HE;clear hi
 go_in
 go_wp2_with fail;refine C.out.mono ?_;rintro e w1 ⟨rfl,rfl⟩;go_wp2;go_ret;exact ⟨by rw [← HE.out];rfl,rfl⟩
open Classical in
noncomputable def dI (ms:List dO) (s t:ByteArray):Bool:=decide (Reach ms (txt s) (txt t))
def eu (l:List ByteArray) (s:ByteArray):Bool:=l.any fun c=>aS c s
noncomputable def lR (r:gW) (m:dO):Bool:=eu r.names m.role&&eu r.names m.of&&!dI r.members m.of m.role
noncomputable def bI (r:gW):Bool:=decide (r.names.length≤16)&&decide (r.members.length≤256)&&aM bv r.names&&aM gQ r.members&&(r.names.all bG&&r.members.all (lR r))
theorem uZ (a b:dO):gQ a b = - gQ b a:=by
 unfold gQ iR;have h1:=j6 a.role b.role;have h2:=j6 a.of b.of;by_cases e:bv a.role b.role=0
 ·have e2:bv b.role a.role=0:=by omega
  simp [e,e2];exact h2
 ·have e2:¬ bv b.role a.role=0:=by omega
  simp [e,e2];exact h1
theorem yJ {w w':World} {ms:List dO} {s':ByteArray} {bf:Nat} {c:dt→Nat} {n:Nat} (M:ee Tryz.prog 9 w bf n (.int .i64 0) (mo c)) (a:ag w w') (hc:∀ s,0 < c s↔Reach ms (txt s') s) (t:ByteArray) (ht:t.size≤maxLen) :
  (Instr.lookup 268 (.map (some bf)) (.string t) false).run Tryz.prog w'=.ok (.int .i64 (c (txt t))) w'∧decide ((0:Int) < c (txt t))=dI ms s' t :=
 ⟨(M.aA a).look Tryz.underlying9 Tryz.underlying268 (oq w') t ht,by
  unfold dI;have:=hc (txt t);by_cases h:Reach ms (txt s') (txt t)
  ·simp [h,this.2 h]
  ·have h2:¬ 0 < c (txt t):=fun h3=>h (this.1 h3)
   simp [h];omega⟩
theorem Jc (r:gW) (An:Option Addr) (aH:Nat) (Am:Option Addr) (aL:Nat) (w:World) (hn:az w 1 dC An aH r.names) (hm:az w 2 fg Am aL r.members) :
  Calls Tryz.prog 209 #[.agg #[.slice An r.names.length aH,.slice Am r.members.length aL]] w fun e w'=>e=.returned (.bool (bI r))∧ag w w':=by
 have hlen:=hn.len;have iG:=hm.len
 have l1:w.heap.size < w.heap.size+1:=by omega
 by_cases h1:r.names.length≤16
 case neg =>
  have HF:=gH (show bI r=false by unfold bI;simp [h1])
  have hi:(16:Int) < (r.names.length:Int):=by omega
  go_in
  go_wp2;go_ret;exact ⟨by rw [HF.out];rfl,(ag.refl _).alloc _⟩
 by_cases h2:r.members.length≤256
 case neg =>
  have HF:=gH (show bI r=false by unfold bI;simp [h2])
  have hi:¬ (16:Int) < (r.names.length:Int):=by omega
  have qs:(256:Int) < (r.members.length:Int):=by omega
  go_in
  go_wp2;go_ret;exact ⟨by rw [HF.out];rfl,(ag.refl _).alloc _⟩
 have hi:¬ (16:Int) < (r.names.length:Int):=by omega
 have qs:¬ (256:Int) < (r.members.length:Int):=by omega
 obtain ⟨W,hW⟩:∃ W,W=w.alloc (.cells #[.slice An r.names.length aH,.slice Am r.members.length aL] 29):=⟨_,rfl⟩
 have aW:ag w W:=by rw [hW];exact (ag.refl w).alloc _
 have r0:∀ w',ag W w'→(w'.cell? ⟨w.heap.size,0,none⟩=some (.slice An r.names.length aH)∧w'.cell? ⟨w.heap.size,1,none⟩=some (.slice Am r.members.length aL)∧w.heap.size < w'.heap.size):=fun w' a=>by
  rw [hW] at a;obtain ⟨hb,_,hz,_,_⟩:=cT a;exact ⟨by rw [hb];rfl,by rw [hb];rfl,hz.1⟩
 have UV:=enters (P:=Tryz.prog) Tryz.func182 (by kernel_rfl) rfl;have UW:=enters (P:=Tryz.prog) Tryz.func273 (by kernel_rfl) rfl;have C1:=gH (fun w' (a:ag w w')=>Mj An aH r.names 182 #[] bv w' (aU a hn) (by omega) j6 UV fun w'' x y _=>(iu x y w'').mono fun e w3 ⟨he,hw⟩=>⟨he,hw▸ag.refl _⟩);have C2:=gH (fun w' (a:ag w w')=>Mk Am aL r.members 273 #[] gQ w' (df a hm) (by omega) uZ UW fun w'' x y _=>Qh x y w'');obtain ⟨b1,hb1⟩:∃ b,aM bv r.names=b:=⟨_,rfl⟩;obtain ⟨b2,hb2⟩:∃ b,aM gQ r.members=b:=⟨_,rfl⟩;rw [hb1] at C1;rw [hb2] at C2;have EX:=gH (show bI r=(b1&&b2&&(r.names.all bG&&r.members.all (lR r))) by unfold bI;simp [h1,h2,hb1,hb2]);have kJ:=gH r0;have cu:=gH aW;have UX:=gH (And.intro hn hm);clear hb1 hb2 r0 aW hn hm
 go_in
 go_wp2_with fail;rw [← hW];clear hW;refine (C1.out W cu.out).mono ?_;rintro e w1 ⟨rfl,a1⟩;have dc:=gH a1;obtain ⟨e0,e1,e2⟩:=kJ.out w1 a1;clear a1
 cases b1
 ·have HF:=gH (show bI r=false by rw [EX.out];rfl)
  go_wp2;go_ret;exact ⟨by rw [HF.out];rfl,cu.out.trans dc.out⟩
 go_wp2_with fail;refine (C2.out w1 (cu.out.trans dc.out)).mono ?_;rintro e w2 ⟨rfl,a2⟩;have i5:=gH (dc.out.trans a2);clear a2 e0 e1 e2;obtain ⟨e0,e1,e2⟩:=kJ.out w2 i5.out
 cases b2
 ·have HF:=gH (show bI r=false by rw [EX.out];rfl)
  go_wp2;go_ret;exact ⟨by rw [HF.out];rfl,cu.out.trans i5.out⟩
 go_wp2_with fail
 go_loopw [32] (fun i wr=>∃ k:Nat,k≤r.names.length∧i=.int .i64 k∧ag W wr∧∀ j,j < k→∀ (hj:j < r.names.length),bG r.names[j]=true) (fun i _=>r.names.length - (intOf i).toNat)
 case atStart=>exact ⟨0,Nat.zero_le _,rfl,i5.out,fun j hj=>absurd hj (Nat.not_lt_zero j)⟩
 case round =>
  clear e0 e1 e2;obtain ⟨k,hk,rfl,ha,hp⟩:=hrel;have HA:=gH ha;have HP:=gH hp;obtain ⟨e0,e1,e2⟩:=kJ.out wr ha;clear ha hp;by_cases hlt:k < r.names.length
  ·obtain ⟨b,off,rfl,hb,c0,hs⟩:=fB (aU (cu.out.trans HA.out) UX.out.1) hlt
   obtain ⟨x,hx⟩:∃ x,r.names[k]=x:=⟨_,rfl⟩;rw [hx] at c0 hs;obtain ⟨q,hq⟩:∃ q,bG x=q:=⟨_,rfl⟩;have HQ:=gH (show bG r.names[k]=q by rw [hx];exact hq);have CN:=gH (hq▸bZ x wr hs.max);clear hx hq;go_wp2_with fail;refine CN.out.mono ?_;rintro e w3 ⟨rfl,rfl⟩
   cases q
   ·have HF:=gH (show bI r=false by rw [EX.out,all_false _ _ k hlt HQ.out];rfl)
    go_wp2;go_ret;exact ⟨by rw [HF.out];rfl,cu.out.trans HA.out⟩
   ·go_wp2
    go_roundw
    case rel=>exact ⟨k+1,by omega,by go_num,HA.out,dG (p:=fun j=>∀ (hj:j < r.names.length),bG r.names[j]=true) HP.out (fun _=>HQ.out)⟩
    case measure=>simp [intOf];omega
  ·have HN:=gH (show r.names.all bG=true from all_true _ _ fun j hj=>HP.out j (by omega) hj)
   go_wp2_with fail
   go_loopw [43] (fun i wr=>∃ k:Nat,k≤r.members.length∧i=.int .i64 k∧ag W wr∧∀ j,j < k→∀ (hj:j < r.members.length),lR r r.members[j]=true) (fun i _=>r.members.length - (intOf i).toNat)
   case atStart=>exact ⟨0,Nat.zero_le _,rfl,HA.out,fun j hj=>absurd hj (Nat.not_lt_zero j)⟩
   case round =>
    clear e0 e1 e2;obtain ⟨k,hk,rfl,ha,hp⟩:=hrel;have HA:=gH ha;have HP:=gH hp;obtain ⟨e0,e1,e2⟩:=kJ.out wr ha;clear ha hp;by_cases hlt:k < r.members.length
    ·obtain ⟨b,off,rfl,hb,t0,t1,hs1,hs2⟩:=lO (df (cu.out.trans HA.out) UX.out.2) hlt
     obtain ⟨m,Kn⟩:∃ m,r.members[k]=m:=⟨_,rfl⟩;rw [Kn] at t0 t1 hs1 hs2;obtain ⟨X,hX⟩:∃ X,X=wr.alloc (.cells #[.string m.role,.string m.of] 174):=⟨_,rfl⟩
     have aX:ag wr X:=by rw [hX];exact (ag.refl _).alloc _
     have x0:X.cell? ⟨wr.heap.size,0,none⟩=some (.string m.role):=by rw [hX];simp
     have x1:X.cell? ⟨wr.heap.size,1,none⟩=some (.string m.of):=by rw [hX];simp
     have x2:wr.heap.size < X.heap.size:=by rw [hX];simp
     have x3:w.heap.size < X.heap.size:=by omega
     have x4:=aX.cell_kept e0;have x5:=aX.cell_kept e1;have NS:=gH ((cu.out.trans HA.out).trans aX);have YQ:=gH (HA.out.trans aX);have HMM:=gH Kn;obtain ⟨i1,sU⟩:∃ i,eu r.names m.role=i:=⟨_,rfl⟩;obtain ⟨i2,Qj⟩:∃ i,eu r.names m.of=i:=⟨_,rfl⟩;have K1:=gH (show ∀ w',ag X w'→Calls Tryz.prog 69 #[.slice An r.names.length aH,.string m.role] w' fun e w''=>e=.returned (.bool i1)∧w'=w'' from fun w' a=>sU▸jc An aH r.names m.role w' (aU (NS.out.trans a) UX.out.1));have K2:=gH (show ∀ w',ag X w'→Calls Tryz.prog 69 #[.slice An r.names.length aH,.string m.of] w' fun e w''=>e=.returned (.bool i2)∧w'=w'' from fun w' a=>Qj▸jc An aH r.names m.of w' (aU (NS.out.trans a) UX.out.1));have K3:=gH (show ∀ w',ag X w'→Calls Tryz.prog 210 #[.agg #[.slice An r.names.length aH,.slice (some ⟨b,off,none⟩) r.members.length aL],.string m.of] w' (UK w' r.members m.of) from fun w' a=>Dw r An aH _ aL m.of w' (df (NS.out.trans a) UX.out.2) hs2);have fV:=gH (show lR r r.members[k]=(i1&&i2&&!dI r.members m.of m.role) by unfold lR;rw [Kn,sU,Qj]);have KS:=gH (show ∀ w',ag X w'→(ag X w'∧w'.cell? ⟨w.heap.size,0,none⟩=some (.slice An r.names.length aH)∧w'.cell? ⟨w.heap.size,1,none⟩=some (.slice (some ⟨b,off,none⟩) r.members.length aL)∧w'.cell? ⟨wr.heap.size,0,none⟩=some (.string m.role)∧w'.cell? ⟨wr.heap.size,1,none⟩=some (.string m.of)) from fun w' a=>⟨a,a.cell_kept x4,a.cell_kept x5,a.cell_kept x0,a.cell_kept x1⟩);clear Kn sU Qj aX
     cases i1
     ·have HF:=gH (show bI r=false by rw [EX.out,all_false (lR r) r.members k hlt (by rw [fV.out];rfl)];simp)
      go_wp2_with fail;rw [← hX];clear hX;refine ay (by kernel_rfl) (by kernel_rfl) ?_
      repeat (go_big_quiet_step ((go_at_call 69;exact Calls.bk ((K1.out _ ((ag.refl X).bV _)).mono fun e w'' ⟨he,hw⟩=>⟨he,hw▸ag.refl _⟩))))
      refine wpQuiet_nil ?_;intro _ hw';obtain ⟨y,hw''⟩:=hw';subst hw'';go_wp2;go_ret;exact ⟨by rw [HF.out];rfl,NS.out.bV y⟩
     cases i2
     ·have HF:=gH (show bI r=false by rw [EX.out,all_false (lR r) r.members k hlt (by rw [fV.out];rfl)];simp)
      go_wp2_with fail;rw [← hX];clear hX;refine ay (by kernel_rfl) (by kernel_rfl) ?_
      repeat (go_big_quiet_step ((go_at_call 69;first | exact Calls.bk ((K1.out _ ((ag.refl X).bV _)).mono fun e w'' ⟨he,hw⟩=>⟨he,hw▸ag.refl _⟩) | exact Calls.bk ((K2.out _ ((ag.refl X).bV _)).mono fun e w'' ⟨he,hw⟩=>⟨he,hw▸ag.refl _⟩))))
      refine wpQuiet_nil ?_;intro _ hw';obtain ⟨y,hw''⟩:=hw';subst hw'';go_wp2;go_ret;exact ⟨by rw [HF.out];rfl,NS.out.bV y⟩
     go_wp2_with fail;rw [← hX];clear hX
     go_region_held3 (fun w'=>ag X w'∧w'.cell? ⟨w.heap.size,0,none⟩=some (.slice An r.names.length aH)∧w'.cell? ⟨w.heap.size,1,none⟩=some (.slice (some ⟨b,off,none⟩) r.members.length aL)∧w'.cell? ⟨wr.heap.size,0,none⟩=some (.string m.role)∧w'.cell? ⟨wr.heap.size,1,none⟩=some (.string m.of))
      (first | exact KS.out _ (ag.refl _).drew | exact KS.out _ (And.left (by assumption)) | exact KS.out _ (ag.trans (And.left (by assumption:ag X _∧_)) (by assumption)))
      ((first | (go_at_call 69;first | (refine (K1.out _ (And.left (by assumption:ag X _∧_))).mono ?_;rintro e w4 ⟨rfl,rfl⟩) | (refine (K2.out _ (And.left (by assumption:ag X _∧_))).mono ?_;rintro e w4 ⟨rfl,rfl⟩)) | (go_at_call 210;refine (K3.out _ (And.left (by assumption:ag X _∧_))).mono ?_;rintro e w5 ⟨bf,rfl,a5,c5,n5,M5,bd5,YR⟩;have LK:=(yJ M5 (ag.refl _) YR m.role hs1.max).1;have RR:=gH (yJ M5 (ag.refl _) YR m.role hs1.max).2;have BB:=bd5 (txt m.role))))
     have vw:=gH (And.left (by assumption:ag X w5∧_));have PD:=RR;clear M5 bd5 YR LK RR a5;by_cases h5:0 < c5 (txt m.role)
     ·have h5i:(0:Int) < ((c5 (txt m.role):Nat):Int):=by omega
      have HF:=gH (show bI r=false by rw [EX.out,all_false (lR r) r.members k hlt (by rw [fV.out,← PD.out];simp [h5])];simp);go_wp2;go_ret;exact ⟨by rw [HF.out];rfl,NS.out.trans vw.out⟩
     ·have h5i:¬ (0:Int) < ((c5 (txt m.role):Nat):Int):=by omega
      have HT:=gH (show lR r r.members[k]=true by rw [fV.out,← PD.out];simp [h5]);go_wp2
      go_roundw
      case rel=>exact ⟨k+1,by omega,by go_num,YQ.out.trans vw.out,dG (p:=fun j=>∀ (hj:j < r.members.length),lR r r.members[j]=true) HP.out (fun _=>HT.out)⟩
      case measure=>simp [intOf];omega
    ·have HF:=gH (show bI r=true by rw [EX.out,HN.out,all_true _ _ fun j hj=>HP.out j (by omega) hj];rfl)
     go_wp2;go_ret;exact ⟨by rw [HF.out];rfl,cu.out.trans HA.out⟩
theorem OC (r:gW) (An:Option Addr) (aH:Nat) (Am:Option Addr) (aL:Nat) (w:World) (hn:az w 1 dC An aH r.names) (hm:az w 2 fg Am aL r.members) :
  Calls Tryz.prog 151 #[.agg #[.slice An r.names.length aH,.slice Am r.members.length aL]] w fun e w'=>e=.returned (.int .i64 (if bI r then 0 else 1))∧ag w w':=by
 obtain ⟨q,hq⟩:∃ q,bI r=q:=⟨_,rfl⟩;have C:=gH (fun w' (a:ag w w')=>hq▸Jc r An aH Am aL w' (aU a hn) (df a hm));rw [hq];clear hq
 go_in
 go_wp2_with fail;refine (C.out _ ((ag.refl w).alloc _)).mono ?_;rintro e w1 ⟨rfl,a1⟩;have HA:=gH (((ag.refl w).alloc _).trans a1);clear a1
 cases q
 all_goals
  go_wp2;go_ret;exact ⟨rfl,HA.out⟩
theorem ot (a b:ByteArray):aS a b=true↔txt a=txt b:=by
 unfold txt;rw [← fw];exact nL _ _
theorem sF {α:Type} [DecidableEq α]:∀ {l l':List α},l.Nodup→(∀ x∈l,x∈l')→l.length≤l'.length
 | [],l',_,_=>Nat.zero_le _
 | a::l,l',hn,hs=>by
  rw [List.nodup_cons] at hn;have h1:a∈l':=hs a (by simp)
  have h2:=sF (l:=l) (l':=l'.erase a) hn.2 fun x hx=>(List.mem_erase_of_ne (by intro e;subst e;exact hn.1 hx)).2 (hs x (by simp [hx]))
  have h3:=List.length_erase_of_mem h1;have h4:=List.length_pos_of_mem h1;simp only [List.length_cons];omega
structure iI (w:World) (B:Nat) (hn hm:Hd) (r:gW):Prop where
 kw:w.ownsRow B 9 1 hn.v r.names.length (r.names.flatMap cB)
 mem:w.ownsRow B 174 2 hm.v r.members.length (r.members.flatMap jQ)
 za:∀ g∈hn.blk,g∉hm.blk
def lx (r:gW):Prop:=(Small (r.names.length*16)∧∀ x∈r.names,Small x.size)∧(Small (r.members.length*16)∧∀ m∈r.members,Small m.role.size∧Small m.of.size)
theorem OT {w:World} {r:gW} {An Am:Option Addr} {aH aL:Nat} (hn:az w 1 dC An aH r.names) (hm:az w 2 fg Am aL r.members):lx r:=⟨iq hn,jM hm fun _ _ h=>h.2⟩
theorem iI.names {w:World} {B:Nat} {hn hm:Hd} {r:gW} (h:iI w B hn hm r) (sm:lx r):az w 1 dC hn.a hn.c r.names:=dS cB h.kw (fun x hx=>⟨rfl,rfl,sm.1.2 x hx⟩) sm.1.1
theorem iI.Xf {w:World} {B:Nat} {hn hm:Hd} {r:gW} (h:iI w B hn hm r) (sm:lx r):az w 2 fg hm.a hm.c r.members:=dS jQ h.mem (fun x hx=>⟨rfl,rfl,sm.2.2 x hx⟩) sm.2.1
theorem iI.aA {w w':World} {B:Nat} {hn hm:Hd} {r:gW} (h:iI w B hn hm r) (a:ag w w'):iI w' B hn hm r:=⟨cA h.kw a,cA h.mem a,h.za⟩
theorem iI.down {w:World} {B B':Nat} {hn hm:Hd} {r:gW} (h:iI w B hn hm r) (hb:B'≤B):iI w B' hn hm r:=⟨bM h.kw hb,bM h.mem hb,h.za⟩
theorem pE (ms:List dO) (s:ByteArray):dI ms s s=true:=by
 unfold dI;simp only [decide_eq_true_eq];exact .refl _
theorem Gp (A:Option Addr) (cap:Nat) (l:List ByteArray) (g:FuncId) (ax:Array Value) (p:ByteArray→Bool) (w:World) (h:az w 1 dC A cap l) (cM:∀ (args:Array Value) (w:World),(callFunc g args).run Tryz.prog w=.ok (.enter g args) w)
  (hp:∀ w',ag w w'→∀ i (hi:i < l.length),Calls Tryz.prog g (#[.string l[i]]++ax) w' fun e w''=>e=.returned (.bool (p l[i]))∧ag w' w'') :
  Calls Tryz.prog 302 #[.slice A l.length cap,.func (.func g) #[] ax] w fun e w'=>e=.returned (.int .i64 (bu p l))∧ag w w':=by
 have hlen:=h.len;have HC:=gH hp;clear hp
 go_in
 go_wp2_with fail
 go_loopw [8] (fun i wr=>∃ k:Nat,k≤l.length∧i=.int .i64 k∧ag w wr∧∀ j,j < k→∀ (hj:j < l.length),p l[j]=false) (fun i _=>l.length - (intOf i).toNat)
 case atStart=>exact ⟨0,Nat.zero_le _,rfl,ag.refl _,fun j hj=>absurd hj (Nat.not_lt_zero j)⟩
 case round =>
  obtain ⟨k,hk,rfl,ha,hp⟩:=hrel;have HA:=gH ha;have HP:=gH hp;clear hp;by_cases hlt:k < l.length
  ·have dv:=aU ha h
   clear ha;obtain ⟨b,off,rfl,hb,c0,hs⟩:=fB dv hlt;have HK:=gH (HC.out wr HA.out k hlt);clear dv;obtain ⟨q,hq⟩:∃ q,p l[k]=q:=⟨_,rfl⟩;rw [hq] at HK;have HQ:=gH hq;clear hq
   cases q
   ·go_wp2_with fail
    refine HK.out.mono ?_;rintro e w1 ⟨rfl,a1⟩;have dc:=gH (HA.out.trans a1);clear a1;go_wp2
    go_roundw
    case rel=>exact ⟨k+1,by omega,by go_num,dc.out,dG (p:=fun j=>∀ (hj:j < l.length),p l[j]=false) HP.out (fun _=>HQ.out)⟩
    case measure=>simp [intOf];omega
   ·go_wp2_with fail
    refine HK.out.mono ?_;rintro e w1 ⟨rfl,a1⟩;have dc:=gH (HA.out.trans a1);clear a1;go_wp2;go_ret;exact ⟨by rw [eU p l k hlt HQ.out (fun i hi=>HP.out i hi (by omega))];rfl,dc.out⟩
  ·clear ha
   go_wp2;go_ret;exact ⟨by rw [eT p l (fun i hi=>HP.out i (by omega) hi)];rfl,HA.out⟩
theorem BQ {α:Type} (p:α→Bool) (l:List α):decide (0≤bu p l)=l.any p:=by
 induction l with
 | nil=>rfl
 | cons x l ih =>
  rw [List.any_cons,← ih]
  show decide (0≤(if p x then (0:Int) else if bu p l < 0 then -1 else bu p l+1))=_
  cases h:p x
  ·simp only [Bool.false_or]
   by_cases h2:bu p l < 0
   ·simp [h2]
   ·simp [h2];omega
  ·simp
def Jd (l:List ByteArray) (q:ByteArray→Bool) (v:Value) (B:Nat) (w:World) (e:Ending) (w':World):Prop :=
 ∃ h:Hd,e=.returned h.v∧w'.ownsRow B 9 1 h.v (l.filter fun x=>!q x).length ((l.filter fun x=>!q x).flatMap cB)∧Kb (jZ v) w w'∧∀ g∈h.blk,v.ownBlock=some g
theorem fU {α:Type} (q:α→Bool) (l:List α) (h:∀ i (hi:i < l.length),q l[i]=false):(l.filter fun x=>!q x)=l:=by
 rw [List.filter_eq_self];intro x hx;obtain ⟨i,hi,rfl⟩:=List.getElem_of_mem hx;rw [h i hi];rfl
theorem yj {α:Type} (p:α→Bool) (l:List α) (h:bu p l < 0):∀ i (hi:i < l.length),p l[i]=false:=by
 intro i hi;have:=BQ p l;have h0:decide (0≤bu p l)=false:=decide_eq_false (by omega);rw [h0] at this;rw [Bool.eq_false_iff];intro hp;have h2:l.any p=true:=List.any_eq_true.2 ⟨l[i],List.getElem_mem hi,hp⟩;rw [h2] at this
 cases this
theorem nl {α:Type} (p:α→Bool):∀ (l:List α) (k:Nat),bu p l=k→∀ i (hi:i < l.length),i < k→p l[i]=false
 | [],k,h,i,hi,_=>by simp at hi
 | x::l,k,h,i,hi,hik=>by
  have e:bu p (x::l)=(if p x then (0:Int) else if bu p l < 0 then -1 else bu p l+1):=rfl;rw [e] at h
  cases hx:p x
  ·rw [hx] at h
   simp only [Bool.false_eq_true,if_false] at h;by_cases hn:bu p l < 0
   ·rw [if_pos hn] at h;omega
   ·rw [if_neg hn] at h
    cases i with
    | zero=>simpa using hx
    | succ i =>
     have:=nl p l (k - 1) (by omega) i (by simpa using hi) (by omega)
     simpa using this
  ·rw [hx] at h
   simp only [if_true] at h;omega
structure qi (q:ByteArray→Bool) (l l':List ByteArray) (i j:Nat):Prop where
 len:l'.length=l.length
 kept:l'.take i=(l.take j).filter fun x=>!q x
 rest:l'.drop j=l.drop j
 ij:i < j
 jl:j≤l.length
theorem qi.start {q:ByteArray→Bool} {l:List ByteArray} {i:Nat} (hi:i < l.length) (hq:q l[i]=true) (hf:∀ k (hk:k < l.length),k < i→q l[k]=false):qi q l l i (i+1):=by
 refine ⟨rfl,?_,rfl,by omega,by omega⟩;rw [List.take_succ_eq_append_getElem hi,List.filter_append,fU q (l.take i) (fun k hk=>by rw [List.getElem_take];exact hf k (by rw [List.length_take] at hk;omega) (by rw [List.length_take] at hk;omega))];simp [hq]
theorem qi.get {q:ByteArray→Bool} {l l':List ByteArray} {i j:Nat} (h:qi q l l' i j) (hj:j < l.length):l'[j]'(by rw [h.len];exact hj)=l[j]:=by
 have h1:=congrArg (fun x=>x[0]?) h.rest;simp only [List.getElem?_drop,Nat.add_zero] at h1;rw [List.getElem?_eq_getElem (by rw [h.len];exact hj),List.getElem?_eq_getElem hj] at h1;exact Option.some.inj h1
theorem qi.skip {q:ByteArray→Bool} {l l':List ByteArray} {i j:Nat} (h:qi q l l' i j) (hj:j < l.length) (hq:q l[j]=true):qi q l l' i (j+1):=by
 refine ⟨h.len,?_,?_,by have:=h.ij;omega,by omega⟩
 ·rw [List.take_succ_eq_append_getElem hj,List.filter_append,← h.kept]
  simp [hq]
 ·have:=congrArg (List.drop 1) h.rest
  simpa [List.drop_drop] using this
theorem qi.keep {q:ByteArray→Bool} {l l':List ByteArray} {i j:Nat} (h:qi q l l' i j) (hj:j < l.length) (hq:q l[j]=false):qi q l (l'.set i l[j]) (i+1) (j+1):=by
 have mU:=h.ij;have hl:=h.len;refine ⟨by rw [List.length_set];exact h.len,?_,?_,by omega,by omega⟩
 ·rw [List.take_succ_eq_append_getElem hj,List.filter_append,← h.kept,List.take_succ_eq_append_getElem (by rw [List.length_set];omega),List.take_set_of_le (Nat.le_refl _)]
  simp [hq]
 ·rw [List.drop_set_of_lt (by omega)]
  have:=congrArg (List.drop 1) h.rest
  simpa [List.drop_drop] using this
theorem UY (v:Value) (l:List ByteArray) (g:FuncId) (ax:Array Value) (q:ByteArray→Bool) (B:Nat) (w:World) (ho:w.ownsRow B 9 1 v l.length (l.flatMap cB)) (hs:Small (l.length*16)) (iN:∀ A n c,v=.slice A n c→c≤9223372036854775807) (sm:∀ x∈l,Small x.size) (cM:∀ (args:Array Value) (w:World),(callFunc g args).run Tryz.prog w=.ok (.enter g args) w)
  (hq:∀ w',Kb (jZ v) w w'→∀ x:ByteArray,Small x.size→Calls Tryz.prog g (#[.string x]++ax) w' fun e w''=>e=.returned (.bool (q x))∧ag w' w'') :
  Calls Tryz.prog 211 #[v,.func (.func g) #[] ax] w (Jd l q v B w):=by
 have hlen:l.length*16≤140737488351232:=hs;obtain ⟨hd,rfl,Hn⟩:=qO ho;obtain ⟨A,n,cap⟩:=hd;have Hn:n=l.length:=Hn;subst Hn
 show Calls Tryz.prog 211 #[.slice A l.length cap,.func (.func g) #[] ax] w (Jd l q (.slice A l.length cap) B w)
 have dv:az w 1 dC A cap l:=dS (h:=⟨A,l.length,cap⟩) cB ho (fun x hx=>⟨rfl,rfl,sm x hx⟩) hs;obtain ⟨k,hk⟩:∃ k,bu q l=k:=⟨_,rfl⟩;have C:=gH (hk▸Gp A cap l g ax q w dv cM (fun w' a i hi=>hq w' (Kb.aO a) l[i] (sm _ (List.getElem_mem hi))));have Po:=aT q l;rw [hk] at Po;by_cases Ho:k < 0
 ·have mS:k = -1:=by omega
  have HF:=gH (show (l.filter fun x=>!q x)=l from fU q l (yj q l (by rw [hk];exact Ho)));subst mS;have HO:=gH ho;clear hk Po dv hq sm ho iN Ho
  go_in
  go_wp2_with fail;refine C.out.mono ?_;rintro e w1 ⟨rfl,a1⟩;have HA:=gH a1;clear a1;go_wp2;go_ret;refine ⟨⟨A,l.length,cap⟩,rfl,?_,Kb.aO HA.out,fun g hg=>Hd.bj.1 hg⟩;rw [HF.out];exact cA HO.out HA.out
 obtain ⟨i,rfl⟩:∃ i:Nat,k=i:=⟨k.toNat,by omega⟩
 have Om:i < l.length:=by omega
 have TK:=gF q l i Om hk;have hst:=qi.start Om TK (fun j hj FQ=>nl q l i hk j hj FQ);obtain ⟨g0,cap',hv,O6,pV,hr⟩:=bU ho (by omega)
 have hv:A=some ⟨g0,0,none⟩∧cap=cap':=by
  have:Value.slice A l.length cap=Value.slice (some ⟨g0,0,none⟩) l.length cap':=hv;simp only [Value.slice.injEq,true_and] at this;exact this
 obtain ⟨rfl,rfl⟩:=hv;have iN:=iN _ _ _ rfl;have hI:eD 9 1 cB (fun x:ByteArray=>Small x.size) w w B g0 cap l.length l:=⟨ho,rfl,sm,Kb.refl _ _⟩
 have Bc:∀ w1 w2:World,Kb (fun k=>k=g0) w1 w2→Kb (jZ (.slice (some ⟨g0,0,none⟩) l.length cap)) w1 w2:=fun w1 w2 k=>k.mono fun g _ e=>by subst e;rfl
 have HQ:=gH (show ∀ w',Kb (fun k=>k=g0) w w'→_ from fun w' k=>hq w' (Bc _ _ k));have HI:=gH hI;have HST:=gH hst
 have XD:((i:Int) == -1)=false:=by rw [beq_eq_false_iff_ne];omega
 clear hq hI ho hr sm hk Po hst dv Ho TK
 go_in
 go_wp2_with fail;refine C.out.mono ?_;rintro e w1 ⟨rfl,a1⟩;have HA:=gH a1;clear a1;go_wp2_with fail
 go_loopw [5,6] (fun u5 u6 wr=>∃ (m j:Nat) (l':List ByteArray),u5=.int .i64 m∧u6=.int .i64 j∧qi q l l' m j∧eD 9 1 cB (fun x:ByteArray=>Small x.size) w wr B g0 cap l.length l') (fun _ u6 _=>l.length - (intOf u6).toNat)
 case atStart=>exact ⟨i,i+1,l,rfl,by go_num,HST.out,HI.out.aA HA.out⟩
 case round =>
  obtain ⟨m,j,l',rfl,rfl,hd,hI⟩:=hrel;have HD:=gH hd;have HJ:=gH hI;have pU:=hI.len;have hmj:=hd.ij;have Pp:=hd.jl;by_cases hlt:j < l.length
  ·have hj':j < l'.length:=by omega
   obtain ⟨b,off,yl,hb0,c0,hs0⟩:=fB (sB hI hs) hj';simp only [Option.some.injEq,Addr.mk.injEq,and_true] at yl;obtain ⟨rfl,rfl⟩:=yl;have hg:=hd.get hlt;rw [hg] at c0 hs0;obtain ⟨x,hx⟩:∃ x,l[j]=x:=⟨_,rfl⟩;rw [hx] at c0 hs0;obtain ⟨r,hr⟩:∃ r,q x=r:=⟨_,rfl⟩;have Cc:=gH (hr▸HQ.out wr hI.kb x hs0);have HX:=gH hx;have HR:=gH (show q l[j]=r by rw [hx];exact hr);clear hd hI hx hr hg;simp only [Nat.zero_add] at c0
   cases r
   ·go_wp2_with fail
    refine Cc.out.mono ?_;rintro e w2 ⟨rfl,a2⟩;obtain ⟨F,hF⟩:∃ F,F=w2:=⟨_,rfl⟩;have Hp:=gH (show eD 9 1 cB (fun x:ByteArray=>Small x.size) w F B g0 cap l.length l' from hF▸HJ.out.aA a2);subst hF;clear a2;obtain ⟨_,_,nC,_,_,jO⟩:=bU Hp.out.own (by omega);simp only [Value.slice.injEq,true_and,Option.some.injEq,Addr.mk.injEq,and_true] at nC;obtain ⟨rfl,rfl⟩:=nC
    have iD:(l'.flatMap cB).length=l.length*1:=by rw [cp (size:=1) (fun _=>rfl),pU]
    obtain ⟨u0,z0⟩:∃ u,F.cell? ⟨g0,m,none⟩=some u:=⟨_,by rw [jO.2.1 m (by rw [iD];omega),List.getElem?_eq_getElem (by rw [iD];omega)]⟩;have z1:F.frozen? ⟨g0,m,none⟩=false:=jO.2.2 m (by rw [iD];omega);have z2:g0 < F.heap.size:=jO.1;clear jO iD
    have Bd:=gH (show eD 9 1 cB (fun x:ByteArray=>Small x.size) w (F.setCell ⟨g0,m,none⟩ (.string x)) B g0 cap l.length (l'.set m l[j]) from by
     have:=uX Hp.out (m:=m) (i:=j) (by omega) hj';rw [HD.out.get hlt,HX.out] at this;rw [HX.out]
     simpa using this)
    have Hq:=gH (HD.out.keep hlt HR.out)
    have JS:(m:Int) < (l.length:Int):=by omega
    go_wp2
    go_roundw
    case rel=>exact ⟨m+1,j+1,_,by go_num,by go_num,Hq.out,Bd.out⟩
    case measure=>simp [intOf];omega
   ·have Hq:=gH (HD.out.skip hlt HR.out)
    go_wp2_with fail;refine Cc.out.mono ?_;rintro e w2 ⟨rfl,a2⟩;have XE:=gH (HJ.out.aA a2);clear a2;go_wp2
    go_roundw
    case rel=>exact ⟨m,j+1,l',rfl,by go_num,Hq.out,XE.out⟩
    case measure=>simp [intOf];omega
  ·have Pq:j=l.length:=by omega
   have hcm:¬ cap=m:=by omega
   obtain ⟨_,_,nC,_,_,jO⟩:=bU hI.own (by omega);simp only [Value.slice.injEq,true_and,Option.some.injEq,Addr.mk.injEq,and_true] at nC;obtain ⟨rfl,rfl⟩:=nC
   have iD:(l'.flatMap cB).length=l.length*1:=by rw [cp (size:=1) (fun _=>rfl),pU]
   have zh:∀ w:World,(zeroValue 9).run Tryz.prog w=.ok (.string ByteArray.empty) w:=fun w=>by kernel_rfl
   obtain ⟨n3,zi⟩:∃ n3,l.length - m=n3:=⟨_,rfl⟩
   have pT:∀ ty,(Builtin.clear_ #[26] ty #[.slice (some ⟨g0,m*1,none⟩) n3 (cap - m)]).run Tryz.prog wr=.ok (.tuple #[]) (wr.setCells g0 (m*1) (Builtin.zeroCells (.string ByteArray.empty:Value).cells n3).toList):=fun ty=>by
    refine jD wr _ _ ty _ Tryz.underlying26 zh (by intro u hu;have hu:u∈([.string ByteArray.empty]:List Value):=hu;simp only [List.mem_cons,List.not_mem_nil,or_false] at hu;subst hu;rfl) g0 (m*1) (cap - m) n3 (by omega) (fun j hj=>?_) (fun j hj=>?_)
    ·have hj':j < n3*1:=hj
     have hl:m*1+j < (l'.flatMap cB).length:=by rw [iD];omega
     rw [jO.2.1 _ hl,List.getElem?_eq_getElem hl];rfl
    ·have hj':j < n3*1:=hj
     exact jO.2.2 _ (by rw [iD];omega)
   obtain ⟨Z,hZ⟩:∃ Z,Z=wr.setCells g0 (m*1) (Builtin.zeroCells (.string ByteArray.empty:Value).cells n3).toList:=⟨_,rfl⟩;have HZ:=gH (show Kb (fun k=>k=g0) w Z from hZ▸hI.kb.trans (dL g0 _ _ _))
   have HP:=gH (show Jd l q (.slice (some ⟨g0,0,none⟩) l.length cap) B w (.returned (.slice (some ⟨g0,0,none⟩) m cap)) Z from by
    have hm:m=(l.filter fun x=>!q x).length:=by
     have:=congrArg List.length hd.kept;rw [List.length_take,Pq,List.take_length] at this;omega
    have hx:l'.take m=l.filter fun x=>!q x:=by
     have:=hd.kept;rw [Pq,List.take_length] at this;exact this
    refine ⟨⟨some ⟨g0,0,none⟩,m,cap⟩,rfl,?_,Bc _ _ HZ.out,fun g hg=>Hd.bj.1 hg⟩;have o1:=vN (dl (g:=g0) rfl (Builtin.zeroCells (.string ByteArray.empty:Value).cells n3).toList (m*1) hI.own) (m:=m) (by omega);rw [← hZ] at o1
    have e:(nk (l'.flatMap cB) (m*1) (Builtin.zeroCells (.string ByteArray.empty:Value).cells n3).toList).take (m*1)=(l.filter fun x=>!q x).flatMap cB:=by
     rw [iX _ _ _ (by rw [il,iD];show m*1+n3*1≤_;omega),List.append_assoc,List.take_append_of_le_length (by rw [List.length_take,iD];omega),List.take_take,Nat.min_self,kG (size:=1) (fun _=>rfl),hx]
    rw [e] at o1;rw [← hm]
    exact o1)
   rw [← hZ,← zi] at pT;simp only [Nat.mul_one] at pT
   have k3:(m:Int)≤(l.length:Int):=by omega
   have k5:(l.length:Int)≤(cap:Int):=by omega
   have k6:(m:Int)≤(cap:Int):=by omega
   clear hI jO iD zh hZ zi Bc hd HD HJ HI HST C Pq;go_wp2;go_ret;exact HP.out
noncomputable def Je (r:gW) (role:ByteArray):Int:=if bI r then (if eu r.names role then 0 else 71) else 1
noncomputable def ea (r:gW) (role:ByteArray):List ByteArray:=if bI r&&eu r.names role then r.names.filter (dI r.members role) else []
noncomputable def Aw (r:gW) (a b:ByteArray):Bool:=bI r&&eu r.names a&&eu (r.names.filter (dI r.members a)) b
def Eb (r:gW) (role:ByteArray) (w:World) (e:Ending) (w':World):Prop :=
 ∃ h:Hd,e=.returned (.tuple #[h.v,.int .i64 (Je r role)])∧ag w w'∧w'.ownsRow w.heap.size 9 1 h.v (ea r role).length ((ea r role).flatMap cB)
theorem BR {r:gW} (h:bI r=true):r.names.length≤16∧r.members.length≤256:=by
 unfold bI at h;simp only [Bool.and_eq_true,decide_eq_true_eq] at h;exact ⟨h.1.1.1.1,h.1.1.1.2⟩
theorem q9 {r:gW} {role x:ByteArray} (h:x∈ea r role):x∈r.names:=by
 unfold ea at h
 split at h
 ·exact (List.mem_filter.1 h).1
 ·simp at h
theorem ra (r:gW) (role:ByteArray):(ea r role).length≤r.names.length:=by
 unfold ea
 split
 ·exact List.length_filter_le _ _
 ·simp
theorem YS (x:ByteArray) (bx bf n:Nat) (c:dt→Nat) (w:World) (hx:x.size≤maxLen) (hc:w.cell? ⟨bx,0,none⟩=some (.map (some bf))) (M:ee Tryz.prog 9 w bf n (.int .i64 0) (mo c)) :
  Calls Tryz.prog 212 (#[.string x]++#[.pointer (some ⟨bx,0,none⟩)]) w fun e w'=>e=.returned (.bool (decide (c (txt x)=0)))∧ag w w':=by
 have Q5:=M.look Tryz.underlying9 Tryz.underlying268 (oq w) x hx;have hz:bx < w.heap.size:=World.block_lt_of_cell? w ⟨bx,0,none⟩ hc;obtain ⟨k,hk⟩:∃ k,c (txt x)=k:=⟨_,rfl⟩
 have LK:(Instr.lookup 268 (.map (some bf)) (.string x) false).run Tryz.prog w=.ok (.int .i64 k) w:=by rw [← hk];exact Q5
 rw [hk];clear M hk Q5
 show Calls Tryz.prog 212 #[.string x,.pointer (some ⟨bx,0,none⟩)] w _
 go_in
 go_wp2;go_ret;refine ⟨Eq.trans (b:=.returned (.bool _)) rfl (dx (cz ?_)),ag.refl _⟩;rw [Bool.eq_iff_iff];simp
theorem OJ (r:gW) (An:Option Addr) (aH:Nat) (Am:Option Addr) (aL:Nat) (role:ByteArray) (w:World) (hn:az w 1 dC An aH r.names) (hm:az w 2 fg Am aL r.members) (oG:Small role.size) :
  Calls Tryz.prog 131 #[.agg #[.slice An r.names.length aH,.slice Am r.members.length aL],.string role] w (Eb r role w):=by
 have hlen:=hn.len
 have l1:w.heap.size < w.heap.size+1:=by omega
 obtain ⟨W,hW⟩:∃ W,W=w.alloc (.cells #[.slice An r.names.length aH,.slice Am r.members.length aL] 29):=⟨_,rfl⟩
 have aW:ag w W:=by rw [hW];exact (ag.refl w).alloc _
 have r0:∀ w',ag W w'→(w'.cell? ⟨w.heap.size,0,none⟩=some (.slice An r.names.length aH)∧w'.cell? ⟨w.heap.size,1,none⟩=some (.slice Am r.members.length aL)∧w.heap.size < w'.heap.size):=fun w' a=>by
  rw [hW] at a;obtain ⟨hb,_,hz,_,_⟩:=cT a;exact ⟨by rw [hb];rfl,by rw [hb];rfl,hz.1⟩
 obtain ⟨q,hq⟩:∃ q,bI r=q:=⟨_,rfl⟩;obtain ⟨i,hi⟩:∃ i,eu r.names role=i:=⟨_,rfl⟩;have C1:=gH (fun w' (a:ag w w')=>hq▸Jc r An aH Am aL w' (aU a hn) (df a hm));have C2:=gH (show ∀ w',ag w w'→Calls Tryz.prog 69 #[.slice An r.names.length aH,.string role] w' fun e w''=>e=.returned (.bool i)∧w'=w'' from fun w' a=>hi▸jc An aH r.names role w' (aU a hn));have C3:=gH (fun w' (a:ag w w')=>Dw r An aH Am aL role w' (df a hm) oG);have HE:=gH (show Je r role=if q then (if i then 0 else 71) else 1 by unfold Je;rw [hq,hi]);have HL:=gH (show ea r role=if q&&i then r.names.filter (dI r.members role) else [] by unfold ea;rw [hq,hi]);have HB:=gH (show q=true→r.names.length≤16 from fun h=>(BR (by rw [hq];exact h)).1);have yZ:=gH (iq hn);have kJ:=gH r0;have cu:=gH aW;have HN:=gH hn;clear hq hi r0 aW hn hm
 go_in
 go_wp2_with fail;rw [← hW];clear hW;refine (C1.out W cu.out).mono ?_;rintro e w1 ⟨rfl,a1⟩;have dc:=gH a1;obtain ⟨e0,e1,e2⟩:=kJ.out w1 a1;clear a1
 cases q
 ·have HP:=gH (show Eb r role w (.returned (.tuple #[.slice none 0 0,.int .i64 1])) w1 from ⟨⟨none,0,0⟩,by rw [HE.out];rfl,cu.out.trans dc.out,by rw [HL.out];exact cO _ _ _ _⟩)
  go_wp2
  go_ret2
  exact HP.out
 go_wp2_with fail;refine (C2.out w1 (cu.out.trans dc.out)).mono ?_;rintro e w2 ⟨rfl,rfl⟩
 cases i
 ·have HP:=gH (show Eb r role w (.returned (.tuple #[.slice none 0 0,.int .i64 71])) w1 from ⟨⟨none,0,0⟩,by rw [HE.out];rfl,cu.out.trans dc.out,by rw [HL.out];exact cO _ _ _ _⟩)
  go_wp2
  go_ret2
  exact HP.out
 go_wp2_with fail;refine (C3.out w1 (cu.out.trans dc.out)).mono ?_;rintro e w3 ⟨bf,rfl,a3,c,nc,M,bd,hr⟩;obtain ⟨X,hX⟩:∃ X,X=w3.alloc (.cells #[.map (some bf)] 268):=⟨_,rfl⟩
 have aX:ag w3 X:=by rw [hX];exact (ag.refl w3).alloc _
 have xc:X.cell? ⟨w3.heap.size,0,none⟩=some (.map (some bf)):=by rw [hX];simp
 have Qk:=((cu.out.trans dc.out).trans a3).trans aX;clear e0 e1 e2;obtain ⟨e0,e1,e2⟩:=kJ.out w3 (dc.out.trans a3)
 have l3:w.heap.size < w3.heap.size+1:=by omega
 have C4:=gH (ko An aH r.names X X (ag.refl _) (aU Qk HN.out) (by have:=HB.out (by first | trivial | rfl);omega));have HM:=gH (And.intro (M.aA aX) (And.intro xc (And.intro Qk (And.intro hr (show w3.heap.size < X.heap.size by rw [hX];simp)))));clear M bd hr aX a3 Qk xc;go_wp2_with fail;rw [← hX];clear hX;refine C4.out.mono ?_;rintro e w4 ⟨v,bw,rfl,a4,ho,hch⟩;rw [jg hch] at ho;obtain ⟨A2,bJ,hv⟩:=dV ho;subst hv;obtain ⟨M,xc,Qk,hr,hXs⟩:=HM.out;have Dm:=Qk.size;have cM:=enters (P:=Tryz.prog) Tryz.func212 (by kernel_rfl) rfl
 have C5:=gH (UY (.slice A2 r.names.length bJ) r.names 212 #[.pointer (some ⟨w3.heap.size,0,none⟩)] (fun x=>decide (c (txt x)=0)) X.heap.size w4 ho yZ.out.1 (qB ho) yZ.out.2 cM (fun w' kb x hx=>by
  have h1:¬ jZ (.slice A2 r.names.length bJ) bf:=gh ho M.lt;have h2:¬ jZ (.slice A2 r.names.length bJ) w3.heap.size:=gh ho hXs
  exact YS x w3.heap.size bf nc c w' hx.max (kb.cell (a4.cell_kept xc) h2) ((M.aA a4).kb kb h1)))
 have HK:=gH (show ∀ w',Kb (jZ (.slice A2 r.names.length bJ)) w4 w'→ag w w' from fun w' kb=>kb.aJ (Qk.trans a4) (fun g hg=>gh ho (by omega)))
 have HF:=gH (show (r.names.filter fun x=>!decide (c (txt x)=0))=ea r role from by
  rw [HL.out];simp only [Bool.and_self,if_true]
  refine List.filter_congr fun x _=>?_
  unfold dI;have:=hr (txt x);by_cases h:Reach r.members (txt role) (txt x)
  ·have:=this.2 h
   simp [h];omega
  ·have:¬ 0 < c (txt x):=fun h2=>h (this.1 h2)
   simp [h];omega)
 have NS:=gH Dm;clear M xc Qk hr hXs Dm cM a4 ho hch;go_wp2_with fail;refine C5.out.mono ?_;rintro e w5 ⟨h,rfl,ho,kb,hblk⟩;rw [HF.out] at ho;have HP:=gH (show Eb r role w (.returned (.tuple #[h.v,.int .i64 0])) w5 from ⟨h,by rw [HE.out];rfl,HK.out w5 kb,bM ho NS.out⟩);clear ho kb hblk;go_wp2
 go_ret2
 exact HP.out
theorem is8 (r:gW) (An:Option Addr) (aH:Nat) (Am:Option Addr) (aL:Nat) (a b:ByteArray) (w:World) (hn:az w 1 dC An aH r.names) (hm:az w 2 fg Am aL r.members) (oG:Small a.size) :
  Calls Tryz.prog 114 #[.agg #[.slice An r.names.length aH,.slice Am r.members.length aL],.string a,.string b] w fun e w'=>e=.returned (.bool (Aw r a b))∧ag w w':=by
 have C1:=gH (fun w' (x:ag w w')=>OJ r An aH Am aL a w' (aU x hn) (df x hm) oG);have yZ:=gH (iq hn);obtain ⟨q,hq⟩:∃ q,bI r=q:=⟨_,rfl⟩;obtain ⟨i,hi⟩:∃ i,eu r.names a=i:=⟨_,rfl⟩;have HE:=gH (show Je r a=if q then (if i then 0 else 71) else 1 by unfold Je;rw [hq,hi]);have HI:=gH (show Aw r a b=(q&&i&&eu (ea r a) b) by unfold Aw ea;rw [hq,hi];cases q<;>cases i<;>rfl);clear hq hi hn hm
 go_in
 go_wp2_with fail;refine (C1.out _ ((ag.refl w).alloc _)).mono ?_;rintro e w1 ⟨h,rfl,a1,ho⟩;have HA:=gH (((ag.refl w).alloc _).trans a1);obtain ⟨bb,FK⟩:∃ bb,eu (ea r a) b=bb:=⟨_,rfl⟩
 have C2:=gH (show Calls Tryz.prog 69 #[h.v,.string b] w1 fun e w''=>e=.returned (.bool bb)∧w1=w'' from by
  rw [dm ho]
  refine (jc h.a h.c (ea r a) b w1 (dS cB ho (fun x hx=>⟨rfl,rfl,yZ.out.2 x (q9 hx)⟩) ?_)).mono fun e w'' ⟨he,hw⟩=>⟨he.trans (by rw [← FK];rfl),hw⟩
  have:=yZ.out.1;have:=ra r a
  unfold Small at *;omega)
 rw [HE.out];rw [FK] at HI;clear a1 ho FK
 cases q
 ·go_wp2
  go_ret;exact ⟨by rw [HI.out];rfl,HA.out⟩
 cases i
 ·go_wp2
  go_ret;exact ⟨by rw [HI.out];rfl,HA.out⟩
 go_wp2_with fail;refine C2.out.mono ?_;rintro e w2 ⟨rfl,rfl⟩;go_wp2;go_ret;exact ⟨by rw [HI.out];rfl,HA.out⟩
theorem Hu {w:World} {b:Nat} {xs:List Value} (h:ai w b xs) (hl:xs.length=2) (v0 v1:Value):ai ((w.setCell ⟨b,0,none⟩ v0).setCell ⟨b,1,none⟩ v1) b [v0,v1]:=by
 match xs,hl with
 | [x0,x1],_ =>
  have h1:=h.set 0 v0 (by simp);have h2:=h1.set 1 v1 (by simp)
  simpa using h2
def O9:gW:=⟨[],[]⟩
noncomputable def lC (r:gW) (f:gW × Int):gW × Int:=if bI r then (if f.2=0 then (f.1,0) else (O9,f.2)) else (O9,1)
def xY (name:ByteArray) (m:dO):Bool:=aS m.role name || aS m.of name
end Go.Proofs.YtakddkhipelmjaaGreat
