import Derived.Lib.Walk
import Derived.Deep.DeepMust
import Derived.Test.YtakddkhipelmjaaGreatPartF3
set_option maxRecDepth 100000
set_option linter.unusedVariables false
set_option maxHeartbeats 64000000
namespace Go.Proofs.YtakddkhipelmjaaGreat
open Go.Deep Go.RowKit
def ny {α:Type} (q:α→α→Bool) (l:List α):Prop:=∀ k (h:k+1 < l.length),q l[k+1] (l[k]'(by omega))=false
def PA {α:Type} (q:α→α→Bool) (l:List α) (v:Value) (w:World) (e:Ending) (w':World):Prop :=
 ∃ A m c,e=.returned (.slice A m c)∧(m=l.length↔ny q l)∧Kb (kR v) w w'
structure eZ {α:Type} (ty:TypeId) (size:Nat) (cells:α→List Value) (sm:α→Prop) (w wr:World) (B g cap n:Nat) (l:List α):Prop where
 own:wr.ownsRow B ty size (.slice (some ⟨g,0,none⟩) n cap) n (l.flatMap cells)
 len:l.length=n
 sm:∀ x∈l,sm x
 kb:Kb (fun k=>k=g) w wr
theorem eZ.aH {α:Type} {ty:TypeId} {size:Nat} {cells:α→List Value} {sm:α→Prop} {w wr wr':World} {B g cap n:Nat} {l:List α} (h:eZ ty size cells sm w wr B g cap n l) (a:ag wr wr'):eZ ty size cells sm w wr' B g cap n l:=⟨cj h.own a,h.len,h.sm,h.kb.trans (Kb.bl a)⟩
theorem wm {w wr:World} {B g cap n m i:Nat} {l:List ByteArray} (h:eZ 9 1 bT (fun x:ByteArray=>Small x.size) w wr B g cap n l) (hm:m < l.length) (hi:i < l.length):eZ 9 1 bT (fun x:ByteArray=>Small x.size) w (wr.setCell ⟨g,m*1,none⟩ (.string (l[i]))) B g cap n (l.set m l[i]):=by
 refine ⟨?_,by rw [List.length_set];exact h.len,fun x hx=>?_,?_⟩
 ·have h1:=lB h.own (g:=g) rfl (m*1) (.string l[i])
  rwa [← Nat.add_zero (m*1),i9 (f:=bT) (fun _=>rfl) l m 0 hm (by decide) (.string l[i]) l[i] rfl,Nat.add_zero] at h1
 ·rcases List.mem_or_eq_of_mem_set hx with h1 | h1
  ·exact h.sm x h1
  ·subst h1;exact h.sm _ (List.getElem_mem hi)
 ·exact h.kb.trans (Kb.set _ _ _ _)
theorem tX {w wr:World} {B g cap n:Nat} {l:List ByteArray} (h:eZ 9 1 bT (fun x:ByteArray=>Small x.size) w wr B g cap n l) (hs:Small (n*16)):aA wr 1 dg (some ⟨g,0,none⟩) cap l:=by
 have ho:=h.own;have hl:=h.len;subst hl;exact dC (h:=⟨some ⟨g,0,none⟩,l.length,cap⟩) bT ho (fun x hx=>⟨rfl,rfl,h.sm x hx⟩) hs
theorem WW (v:Value) (l:List ByteArray) (g:FuncId) (ay:Array Value) (q:ByteArray→ByteArray→Bool) (B:Nat) (w:World) (ho:w.ownsRow B 9 1 v l.length (l.flatMap bT)) (hs:Small (l.length*16)) (iR:∀ A n c,v=.slice A n c→c≤9223372036854775807) (sm:∀ x∈l,(fun x:ByteArray=>Small x.size) x) (dc:∀ (args:Array Value) (w:World),(callFunc g args).run Tryz.prog w=.ok (.enter g args) w)
  (hq:∀ w',Kb (kR v) w w'→∀ x y:ByteArray,Calls Tryz.prog g (#[.string (x),.string (y)]++ay) w' fun e w''=>e=.returned (.bool (q x y))∧ag w' w'') :
  Calls Tryz.prog 350 #[v,.func (.func g) #[] ay] w (PA q l v w):=by
 have hlen:l.length*16≤140737488351232:=hs;by_cases h2:l.length < 2
 ·obtain ⟨A,cap,hv⟩:=eA ho
  subst hv;have HT:=gH (show ny q l from fun k h=>by omega)
  have kQ:(l.length:Int) < 2:=by omega
  go_in
  go_wp2;go_ret;exact ⟨_,_,_,rfl,⟨fun _=>HT.out,fun _=>rfl⟩,Kb.refl _ _⟩
 ·obtain ⟨g0,cap,hv,QH,uW,hr⟩:=cB ho (by omega)
  subst hv;have iR:=iR _ _ _ rfl;have hI:eZ 9 1 bT (fun x:ByteArray=>Small x.size) w w B g0 cap l.length l:=⟨ho,rfl,sm,Kb.refl _ _⟩
  have C9:∀ w1 w2:World,Kb (fun k=>k=g0) w1 w2→Kb (kR (.slice (some ⟨g0,0,none⟩) l.length cap)) w1 w2:=fun w1 w2 k=>k.mono fun g _ e=>by subst e;rfl
  have HQ:=gH (show ∀ w',Kb (fun k=>k=g0) w w'→_ from fun w' k=>hq w' (C9 _ _ k));have HI:=gH hI;have cM:=tX hI hs
  have kQ:¬ (l.length:Int) < 2:=by omega
  have sI:=gH cM;clear hq hI ho hr sm
  go_in
  go_wp2_with fail
  go_loopw [5] (fun i wr=>∃ k:Nat,0 < k∧k≤l.length∧i=.int .i64 k∧ag w wr∧∀ j,j+1 < k→∀ (hj:j+1 < l.length),q l[j+1] (l[j]'(by omega))=false) (fun i _=>l.length - (intOf i).toNat)
  case atStart=>exact ⟨1,by omega,by omega,rfl,ag.refl _,fun j hj h=>by omega⟩
  case round =>
   obtain ⟨k,F5,hk,rfl,ha,hp⟩:=hrel;have HA:=gH ha;have HP:=gH hp;clear hp;by_cases hlt:k < l.length
   ·obtain ⟨k,rfl⟩:∃ k',k=k'+1:=⟨k - 1,by omega⟩
    have gK:=sI.out.aH ha fun _ _ h=>h
    have jd:k < l.length:=by omega
    obtain ⟨b,off,zP,hb,c0,hs⟩:=er gK jd;obtain ⟨b',off',hA',hb',d0,hs'⟩:=er gK hlt;simp only [Option.some.injEq,Addr.mk.injEq,and_true] at zP hA';obtain ⟨rfl,rfl⟩:=zP;obtain ⟨rfl,rfl⟩:=hA';simp only [Nat.zero_add] at c0 d0;obtain ⟨r,hr⟩:∃ r,q l[k+1] (l[k]'(by omega))=r:=⟨_,rfl⟩;have Cc:=gH (show ∀ x:gX wr,_ from fun x=>hr▸HQ.out (bt wr x) (Kb.bl (HA.out.bt x)) l[k+1] (l[k]'(by omega)));have HR:=gH hr;clear ha cM gK hr
    have w1:IntKind.i64.wrap (((k+1:Nat):Int) - 1)=(k:Int):=by rw [show ((k+1:Nat):Int) - 1=(k:Int) from by omega];exact IntWalk.i64_in _ (by omega)
    have w5:IntKind.i64.wrap ((k:Int)+1 - 1)=(k:Int):=by rw [show (k:Int)+1 - 1=(k:Int) from by omega];exact IntWalk.i64_in _ (by omega)
    have w2:(0:Int)≤(k:Int)+1:=by omega
    have w3:((k:Int)+1).toNat=k+1:=by omega
    have w4:(k:Int)+1 < (l.length:Int):=by omega
    cases r
    ·go_wp2_with fail
     refine aj (by kernel_rfl) (by kernel_rfl) ?_
     repeat (go_big_quiet_step ((exact Calls.aL (Cc.out _))))
     refine wpQuiet_nil ?_;intro _ hw';obtain ⟨x,hw''⟩:=hw';subst hw'';clear w1 w2 w3 w4 w5;go_wp2
     go_roundw
     case rel =>
      refine ⟨k+1+1,by omega,by omega,by go_num,HA.out.bt x,fun j hj mv=>?_⟩
      rcases Nat.lt_or_ge j k with h1 | h1
      ·exact HP.out j (by omega) mv
      ·have:j=k:=by omega
       subst this;exact HR.out
     case measure=>simp [intOf];omega
    ·have j7:¬ cap=k+1:=by omega
     go_wp2_with fail;refine aj (by kernel_rfl) (by kernel_rfl) ?_
     repeat (go_big_quiet_step ((exact Calls.aL (Cc.out _))))
     refine wpQuiet_nil ?_;intro _ hw';obtain ⟨x,hw''⟩:=hw';subst hw'';clear w1 w2 w3 w4 w5;go_wp2_with fail;obtain ⟨n2,Ez⟩:∃ n2,l.length - (k+1)=n2:=⟨_,rfl⟩;rw [Ez];have HN:=gH (And.intro Ez (And.intro hlt (And.intro uW iR)));have Tr:=gH (HI.out.aH (HA.out.bt x));clear Ez c0 d0 hs hs'
     go_loopw [5,7] (fun u5 u7 wr2=>∃ (m k2:Nat) (l':List ByteArray),0 < k2∧k2≤n2∧m < k+1+k2∧u5=.int .i64 m∧u7=.int .i64 k2∧eZ 9 1 bT (fun x:ByteArray=>Small x.size) w wr2 B g0 cap l.length l') (fun _ u7 _=>n2 - (intOf u7).toNat)
     case atStart=>exact ⟨k+1,1,l,by omega,by have:=HN.out.1;omega,by omega,rfl,rfl,Tr.out⟩
     case round =>
      obtain ⟨m,k2,l',aao,hk2,hm,rfl,rfl,hI⟩:=hrel;have Ez:=HN.out.1
      have F7:m < l.length:=by omega
      have HJ:=gH hI;have rS:=hI.len;by_cases fd:k2 < n2
      ·obtain ⟨k3,rfl⟩:∃ k',k2=k'+1:=⟨k2 - 1,by omega⟩
       have DB:=tX hI hs
       have kj:k+1+(k3+1) < l'.length:=by omega
       have kG:k+1+k3 < l'.length:=by omega
       obtain ⟨b,off,zP,hb0,c0,hs⟩:=er DB kG;obtain ⟨b',off',hA',hb1,d0,hs'⟩:=er DB kj;simp only [Option.some.injEq,Addr.mk.injEq,and_true] at zP hA';obtain ⟨rfl,rfl⟩:=zP;obtain ⟨rfl,rfl⟩:=hA';simp only [Nat.zero_add] at c0 d0;obtain ⟨x1,hx1⟩:∃ x1,l'[k+1+(k3+1)]=x1:=⟨_,rfl⟩;obtain ⟨x0,hx0⟩:∃ x0,l'[k+1+k3]=x0:=⟨_,rfl⟩;rw [hx0] at c0 hs;rw [hx1] at d0 hs';obtain ⟨r,hr⟩:∃ r,q x1 x0=r:=⟨_,rfl⟩;have Cc2:=gH (show ∀ y:gX wr,_ from fun y=>hr▸HQ.out (bt wr y) (hI.kb.trans (Kb.bl ((ag.refl wr).bt y))) x1 x0);have HX:=gH hx1
       have w1:IntKind.i64.wrap (((k3+1:Nat):Int) - 1)=(k3:Int):=by rw [show ((k3+1:Nat):Int) - 1=(k3:Int) from by omega];exact IntWalk.i64_in _ (by omega)
       have w5:IntKind.i64.wrap ((k3:Int)+1 - 1)=(k3:Int):=by rw [show (k3:Int)+1 - 1=(k3:Int) from by omega];exact IntWalk.i64_in _ (by omega)
       have w2:(0:Int)≤(k3:Int)+1:=by omega
       have w3:((k3:Int)+1).toNat=k3+1:=by omega
       have w4:(k3:Int)+1 < (n2:Int):=by omega
       have w6:(k3:Int) < (n2:Int):=by omega
       clear hI DB hr hx0 hx1 Ez;go_wp2_with fail;refine aj (by kernel_rfl) (by kernel_rfl) ?_
       repeat (go_big_quiet_step ((exact Calls.aL (Cc2.out _))))
       refine wpQuiet_nil ?_;intro _ hw';obtain ⟨y,hw''⟩:=hw';subst hw'';clear w1 w5
       cases r
       ·obtain ⟨F,hF⟩:∃ F,F=bt wr y:=⟨_,rfl⟩
        have JD:=gH (show eZ 9 1 bT (fun x:ByteArray=>Small x.size) w F B g0 cap l.length l' from hF▸HJ.out.aH ((ag.refl wr).bt y));obtain ⟨_,_,pj,_,_,kH⟩:=cB JD.out.own (by omega);simp only [Value.slice.injEq,true_and,Option.some.injEq,Addr.mk.injEq,and_true] at pj;obtain ⟨rfl,rfl⟩:=pj
        have iW:(l'.flatMap bT).length=l.length*1:=by rw [cJ (size:=1) (fun _=>rfl),rS]
        obtain ⟨u0,z0⟩:∃ u,F.cell? ⟨g0,m,none⟩=some u:=⟨_,by rw [kH.2.1 m (by rw [iW];omega),List.getElem?_eq_getElem (by rw [iW];omega)]⟩;have z1:F.frozen? ⟨g0,m,none⟩=false:=kH.2.2 m (by rw [iW];omega);have z2:g0 < F.heap.size:=kH.1
        have z3:F.cell? ⟨g0,k+1+(k3+1),none⟩=some (.string x1):=by rw [hF];exact ((ag.refl wr).bt y).cell_kept d0
        rw [← hF];clear hF;clear kH iW
        have Da:=gH (show eZ 9 1 bT (fun x:ByteArray=>Small x.size) w (F.setCell ⟨g0,m,none⟩ (.string (x1))) B g0 cap l.length (l'.set m l'[k+1+(k3+1)]) from by
         have:=wm JD.out (m:=m) (i:=k+1+(k3+1)) (by omega) kj;rw [HX.out] at this ⊢
         simpa using this)
        clear w2 w3 w4 w6;go_wp2
        go_roundw
        case rel=>exact ⟨m+1,k3+1+1,_,by omega,by omega,by omega,by go_num,by go_num,Da.out⟩
        case measure=>simp [intOf];omega
       ·clear w2 w3 w4 w6
        go_wp2
        go_roundw
        case rel=>exact ⟨m,k3+1+1,l',by omega,by omega,by omega,rfl,by go_num,HJ.out.aH ((ag.refl wr).bt y)⟩
        case measure=>simp [intOf];omega
      ·have hcm:¬ cap=m:=by omega
       obtain ⟨_,_,pj,_,_,kH⟩:=cB hI.own (by omega);simp only [Value.slice.injEq,true_and,Option.some.injEq,Addr.mk.injEq,and_true] at pj;obtain ⟨rfl,rfl⟩:=pj
       have iW:(l'.flatMap bT).length=l.length*1:=by rw [cJ (size:=1) (fun _=>rfl),rS]
       have zQ:∀ w:World,(zeroValue 9).run Tryz.prog w=.ok (.string ByteArray.empty) w:=fun w=>by kernel_rfl
       obtain ⟨n3,Bd⟩:∃ n3,l.length - m=n3:=⟨_,rfl⟩
       have pc:∀ ty,(Builtin.clear_ #[26] ty #[.slice (some ⟨g0,m*1,none⟩) n3 (cap - m)]).run Tryz.prog wr=.ok (.tuple #[]) (wr.setCells g0 (m*1) (Builtin.zeroCells (.string ByteArray.empty:Value).cells n3).toList):=fun ty=>by
        refine ku wr _ _ ty _ Tryz.underlying26 zQ (by intro u hu;have hu:u∈([.string ByteArray.empty]:List Value):=hu;simp only [List.mem_cons,List.not_mem_nil,or_false] at hu;subst hu;rfl) g0 (m*1) (cap - m) n3 (by omega) (fun j hj=>?_) (fun j hj=>?_)
        ·have hj':j < n3*1:=hj
         have hl:m*1+j < (l'.flatMap bT).length:=by rw [iW];omega
         rw [kH.2.1 _ hl,List.getElem?_eq_getElem hl];rfl
        ·have hj':j < n3*1:=hj
         exact kH.2.2 _ (by rw [iW];omega)
       obtain ⟨Z,hZ⟩:∃ Z,Z=wr.setCells g0 (m*1) (Builtin.zeroCells (.string ByteArray.empty:Value).cells n3).toList:=⟨_,rfl⟩;have HZ:=gH (show Kb (fun k=>k=g0) w Z from hZ▸hI.kb.trans (d9 g0 _ _ _));rw [← hZ,← Bd] at pc;simp only [Nat.mul_one] at pc;have HF:=gH (show ¬ m=l.length∧¬ ny q l from ⟨by omega,fun h=>by have:=h k HN.out.2.1;rw [HR.out] at this;cases this⟩);have Sg:=gH C9
       have k3:(m:Int)≤(l.length:Int):=by omega
       have k5:(l.length:Int)≤(cap:Int):=by omega
       have k6:(m:Int)≤(cap:Int):=by omega
       clear hI kH iW zQ hZ Bd Ez C9;go_wp2;go_ret;exact ⟨_,_,_,rfl,⟨fun h=>absurd h HF.out.1,fun h=>absurd h HF.out.2⟩,Sg.out _ _ HZ.out⟩
   ·have HT:=gH (show ny q l from fun j hj=>HP.out j (by omega) hj)
    clear ha;go_wp2;go_ret;exact ⟨_,_,_,rfl,⟨fun _=>HT.out,fun _=>rfl⟩,Kb.bl HA.out⟩
theorem Gz {w wr:World} {B g cap n m i:Nat} {l:List dP} (h:eZ 174 2 kJ (fun x:dP=>Small x.role.size∧Small x.of.size) w wr B g cap n l) (hm:m < l.length) (hi:i < l.length):eZ 174 2 kJ (fun x:dP=>Small x.role.size∧Small x.of.size) w ((wr.setCell ⟨g,m*2,none⟩ (.string (l[i]).role)).setCell ⟨g,m*2+1,none⟩ (.string (l[i]).of)) B g cap n (l.set m l[i]):=by
 refine ⟨?_,by rw [List.length_set];exact h.len,fun x hx=>?_,?_⟩
 ·have h1:=lB (lB h.own (g:=g) rfl (m*2) (.string l[i].role)) (g:=g) rfl (m*2+1) (.string l[i].of)
  rw [show (l.flatMap kJ).set (m*2) (.string l[i].role)=(l.set m ⟨l[i].role,l[m].of⟩).flatMap kJ from i9 (f:=kJ) (size:=2) (fun _=>rfl) l m 0 hm (by decide) (.string l[i].role) ⟨l[i].role,l[m].of⟩ rfl,
   i9 (f:=kJ) (size:=2) (fun _=>rfl) (l.set m ⟨l[i].role,l[m].of⟩) m 1 (by simpa using hm) (by decide) (.string l[i].of) l[i] (by simp [kJ])] at h1
  simpa using h1
 ·rcases List.mem_or_eq_of_mem_set hx with h1 | h1
  ·exact h.sm x h1
  ·subst h1;exact h.sm _ (List.getElem_mem hi)
 ·exact h.kb.trans ((Kb.set _ _ _ _).trans (Kb.set _ _ _ _))
theorem Av {w wr:World} {B g cap n:Nat} {l:List dP} (h:eZ 174 2 kJ (fun x:dP=>Small x.role.size∧Small x.of.size) w wr B g cap n l) (hs:Small (n*16)):aA wr 2 fw (some ⟨g,0,none⟩) cap l:=by
 have ho:=h.own;have hl:=h.len;subst hl;exact dC (h:=⟨some ⟨g,0,none⟩,l.length,cap⟩) kJ ho (fun x hx=>⟨rfl,rfl,h.sm x hx⟩) hs
theorem WX (v:Value) (l:List dP) (g:FuncId) (ay:Array Value) (q:dP→dP→Bool) (B:Nat) (w:World) (ho:w.ownsRow B 174 2 v l.length (l.flatMap kJ)) (hs:Small (l.length*16)) (iR:∀ A n c,v=.slice A n c→c≤9223372036854775807) (sm:∀ x∈l,(fun x:dP=>Small x.role.size∧Small x.of.size) x) (dc:∀ (args:Array Value) (w:World),(callFunc g args).run Tryz.prog w=.ok (.enter g args) w)
  (hq:∀ w',Kb (kR v) w w'→∀ x y:dP,Calls Tryz.prog g (#[.agg #[.string (x).role,.string (x).of],.agg #[.string (y).role,.string (y).of]]++ay) w' fun e w''=>e=.returned (.bool (q x y))∧ag w' w'') :
  Calls Tryz.prog 353 #[v,.func (.func g) #[] ay] w (PA q l v w):=by
 have hlen:l.length*16≤140737488351232:=hs;by_cases h2:l.length < 2
 ·obtain ⟨A,cap,hv⟩:=eA ho
  subst hv;have HT:=gH (show ny q l from fun k h=>by omega)
  have kQ:(l.length:Int) < 2:=by omega
  go_in
  go_wp2;go_ret;exact ⟨_,_,_,rfl,⟨fun _=>HT.out,fun _=>rfl⟩,Kb.refl _ _⟩
 ·obtain ⟨g0,cap,hv,QH,uW,hr⟩:=cB ho (by omega)
  subst hv;have iR:=iR _ _ _ rfl;have hI:eZ 174 2 kJ (fun x:dP=>Small x.role.size∧Small x.of.size) w w B g0 cap l.length l:=⟨ho,rfl,sm,Kb.refl _ _⟩
  have C9:∀ w1 w2:World,Kb (fun k=>k=g0) w1 w2→Kb (kR (.slice (some ⟨g0,0,none⟩) l.length cap)) w1 w2:=fun w1 w2 k=>k.mono fun g _ e=>by subst e;rfl
  have HQ:=gH (show ∀ w',Kb (fun k=>k=g0) w w'→_ from fun w' k=>hq w' (C9 _ _ k));have HI:=gH hI;have cM:=Av hI hs
  have kQ:¬ (l.length:Int) < 2:=by omega
  have sI:=gH cM;clear hq hI ho hr sm
  go_in
  go_wp2_with fail
  go_loopw [5] (fun i wr=>∃ k:Nat,0 < k∧k≤l.length∧i=.int .i64 k∧ag w wr∧∀ j,j+1 < k→∀ (hj:j+1 < l.length),q l[j+1] (l[j]'(by omega))=false) (fun i _=>l.length - (intOf i).toNat)
  case atStart=>exact ⟨1,by omega,by omega,rfl,ag.refl _,fun j hj h=>by omega⟩
  case round =>
   obtain ⟨k,F5,hk,rfl,ha,hp⟩:=hrel;have HA:=gH ha;have HP:=gH hp;clear hp;by_cases hlt:k < l.length
   ·obtain ⟨k,rfl⟩:∃ k',k=k'+1:=⟨k - 1,by omega⟩
    have gK:=sI.out.aH ha fun _ _ h=>h
    have jd:k < l.length:=by omega
    obtain ⟨b,off,zP,hb,c0,c1,hs,hs2⟩:=jf gK jd;obtain ⟨b',off',hA',hb',d0,d1,hs',Kr⟩:=jf gK hlt;simp only [Option.some.injEq,Addr.mk.injEq,and_true] at zP hA';obtain ⟨rfl,rfl⟩:=zP;obtain ⟨rfl,rfl⟩:=hA';simp only [Nat.zero_add] at c0 c1 d0 d1;obtain ⟨r,hr⟩:∃ r,q l[k+1] (l[k]'(by omega))=r:=⟨_,rfl⟩;have Cc:=gH (show ∀ x:gX wr,_ from fun x=>hr▸HQ.out (bt wr x) (Kb.bl (HA.out.bt x)) l[k+1] (l[k]'(by omega)));have HR:=gH hr;clear ha cM gK hr
    have w1:IntKind.i64.wrap (((k+1:Nat):Int) - 1)=(k:Int):=by rw [show ((k+1:Nat):Int) - 1=(k:Int) from by omega];exact IntWalk.i64_in _ (by omega)
    have w5:IntKind.i64.wrap ((k:Int)+1 - 1)=(k:Int):=by rw [show (k:Int)+1 - 1=(k:Int) from by omega];exact IntWalk.i64_in _ (by omega)
    have w2:(0:Int)≤(k:Int)+1:=by omega
    have w3:((k:Int)+1).toNat=k+1:=by omega
    have w4:(k:Int)+1 < (l.length:Int):=by omega
    cases r
    ·go_wp2_with fail
     refine aj (by kernel_rfl) (by kernel_rfl) ?_
     repeat (go_big_quiet_step ((exact Calls.aL (Cc.out _))))
     refine wpQuiet_nil ?_;intro _ hw';obtain ⟨x,hw''⟩:=hw';subst hw'';clear w1 w2 w3 w4 w5;go_wp2
     go_roundw
     case rel =>
      refine ⟨k+1+1,by omega,by omega,by go_num,HA.out.bt x,fun j hj mv=>?_⟩
      rcases Nat.lt_or_ge j k with h1 | h1
      ·exact HP.out j (by omega) mv
      ·have:j=k:=by omega
       subst this;exact HR.out
     case measure=>simp [intOf];omega
    ·have j7:¬ cap=k+1:=by omega
     go_wp2_with fail;refine aj (by kernel_rfl) (by kernel_rfl) ?_
     repeat (go_big_quiet_step ((exact Calls.aL (Cc.out _))))
     refine wpQuiet_nil ?_;intro _ hw';obtain ⟨x,hw''⟩:=hw';subst hw'';clear w1 w2 w3 w4 w5;go_wp2_with fail;obtain ⟨n2,Ez⟩:∃ n2,l.length - (k+1)=n2:=⟨_,rfl⟩;rw [Ez];have HN:=gH (And.intro Ez (And.intro hlt (And.intro uW iR)));have Tr:=gH (HI.out.aH (HA.out.bt x));clear Ez c0 c1 d0 d1 hs hs2 hs' Kr
     go_loopw [5,7] (fun u5 u7 wr2=>∃ (m k2:Nat) (l':List dP),0 < k2∧k2≤n2∧m < k+1+k2∧u5=.int .i64 m∧u7=.int .i64 k2∧eZ 174 2 kJ (fun x:dP=>Small x.role.size∧Small x.of.size) w wr2 B g0 cap l.length l') (fun _ u7 _=>n2 - (intOf u7).toNat)
     case atStart=>exact ⟨k+1,1,l,by omega,by have:=HN.out.1;omega,by omega,rfl,rfl,Tr.out⟩
     case round =>
      obtain ⟨m,k2,l',aao,hk2,hm,rfl,rfl,hI⟩:=hrel;have Ez:=HN.out.1
      have F7:m < l.length:=by omega
      have HJ:=gH hI;have rS:=hI.len;by_cases fd:k2 < n2
      ·obtain ⟨k3,rfl⟩:∃ k',k2=k'+1:=⟨k2 - 1,by omega⟩
       have DB:=Av hI hs
       have kj:k+1+(k3+1) < l'.length:=by omega
       have kG:k+1+k3 < l'.length:=by omega
       obtain ⟨b,off,zP,hb0,c0,c1,hs,hs2⟩:=jf DB kG;obtain ⟨b',off',hA',hb1,d0,d1,hs',Kr⟩:=jf DB kj;simp only [Option.some.injEq,Addr.mk.injEq,and_true] at zP hA';obtain ⟨rfl,rfl⟩:=zP;obtain ⟨rfl,rfl⟩:=hA';rw [show 0+(k+1+k3)*2=(k+1)*2+k3*2 from by omega] at c0 c1;rw [show 0+(k+1+(k3+1))*2=(k+1)*2+(k3+1)*2 from by omega] at d0 d1;obtain ⟨x1,hx1⟩:∃ x1,l'[k+1+(k3+1)]=x1:=⟨_,rfl⟩;obtain ⟨x0,hx0⟩:∃ x0,l'[k+1+k3]=x0:=⟨_,rfl⟩;rw [hx0] at c0 c1 hs hs2;rw [hx1] at d0 d1 hs' Kr;obtain ⟨r,hr⟩:∃ r,q x1 x0=r:=⟨_,rfl⟩;have Cc2:=gH (show ∀ y:gX wr,_ from fun y=>hr▸HQ.out (bt wr y) (hI.kb.trans (Kb.bl ((ag.refl wr).bt y))) x1 x0);have HX:=gH hx1
       have w1:IntKind.i64.wrap (((k3+1:Nat):Int) - 1)=(k3:Int):=by rw [show ((k3+1:Nat):Int) - 1=(k3:Int) from by omega];exact IntWalk.i64_in _ (by omega)
       have w5:IntKind.i64.wrap ((k3:Int)+1 - 1)=(k3:Int):=by rw [show (k3:Int)+1 - 1=(k3:Int) from by omega];exact IntWalk.i64_in _ (by omega)
       have w2:(0:Int)≤(k3:Int)+1:=by omega
       have w3:((k3:Int)+1).toNat=k3+1:=by omega
       have w4:(k3:Int)+1 < (n2:Int):=by omega
       have w6:(k3:Int) < (n2:Int):=by omega
       clear hI DB hr hx0 hx1 Ez;go_wp2_with fail;refine aj (by kernel_rfl) (by kernel_rfl) ?_
       repeat (go_big_quiet_step ((exact Calls.aL (Cc2.out _))))
       refine wpQuiet_nil ?_;intro _ hw';obtain ⟨y,hw''⟩:=hw';subst hw'';clear w1 w5
       cases r
       ·obtain ⟨F,hF⟩:∃ F,F=bt wr y:=⟨_,rfl⟩
        have JD:=gH (show eZ 174 2 kJ (fun x:dP=>Small x.role.size∧Small x.of.size) w F B g0 cap l.length l' from hF▸HJ.out.aH ((ag.refl wr).bt y));obtain ⟨_,_,pj,_,_,kH⟩:=cB JD.out.own (by omega);simp only [Value.slice.injEq,true_and,Option.some.injEq,Addr.mk.injEq,and_true] at pj;obtain ⟨rfl,rfl⟩:=pj
        have iW:(l'.flatMap kJ).length=l.length*2:=by rw [cJ (size:=2) (fun _=>rfl),rS]
        obtain ⟨u0,z0⟩:∃ u,F.cell? ⟨g0,m*2,none⟩=some u:=⟨_,by rw [kH.2.1 (m*2) (by rw [iW];omega),List.getElem?_eq_getElem (by rw [iW];omega)]⟩;obtain ⟨u1,y0⟩:∃ u,F.cell? ⟨g0,m*2+1,none⟩=some u:=⟨_,by rw [kH.2.1 (m*2+1) (by rw [iW];omega),List.getElem?_eq_getElem (by rw [iW];omega)]⟩;have z1:F.frozen? ⟨g0,m*2,none⟩=false:=kH.2.2 (m*2) (by rw [iW];omega);have y1:F.frozen? ⟨g0,m*2+1,none⟩=false:=kH.2.2 (m*2+1) (by rw [iW];omega);have z2:g0 < F.heap.size:=kH.1
        have z3:F.cell? ⟨g0,(k+1)*2+(k3+1)*2,none⟩=some (.string x1.role):=by rw [hF];exact ((ag.refl wr).bt y).cell_kept d0
        have y3:F.cell? ⟨g0,(k+1)*2+(k3+1)*2+1,none⟩=some (.string x1.of):=by rw [hF];exact ((ag.refl wr).bt y).cell_kept d1
        rw [← hF];clear hF;clear kH iW
        have Da:=gH (show eZ 174 2 kJ (fun x:dP=>Small x.role.size∧Small x.of.size) w ((F.setCell ⟨g0,m*2,none⟩ (.string (x1).role)).setCell ⟨g0,m*2+1,none⟩ (.string (x1).of)) B g0 cap l.length (l'.set m l'[k+1+(k3+1)]) from by
         have:=Gz JD.out (m:=m) (i:=k+1+(k3+1)) (by omega) kj;rw [HX.out] at this ⊢
         simpa using this)
        clear w2 w3 w4 w6;go_wp2
        go_roundw
        case rel=>exact ⟨m+1,k3+1+1,_,by omega,by omega,by omega,by go_num,by go_num,Da.out⟩
        case measure=>simp [intOf];omega
       ·clear w2 w3 w4 w6
        go_wp2
        go_roundw
        case rel=>exact ⟨m,k3+1+1,l',by omega,by omega,by omega,rfl,by go_num,HJ.out.aH ((ag.refl wr).bt y)⟩
        case measure=>simp [intOf];omega
      ·have hcm:¬ cap=m:=by omega
       obtain ⟨_,_,pj,_,_,kH⟩:=cB hI.own (by omega);simp only [Value.slice.injEq,true_and,Option.some.injEq,Addr.mk.injEq,and_true] at pj;obtain ⟨rfl,rfl⟩:=pj
       have iW:(l'.flatMap kJ).length=l.length*2:=by rw [cJ (size:=2) (fun _=>rfl),rS]
       have zQ:∀ w:World,(zeroValue 174).run Tryz.prog w=.ok (.agg #[.string ByteArray.empty,.string ByteArray.empty]) w:=fun w=>by kernel_rfl
       obtain ⟨n3,Bd⟩:∃ n3,l.length - m=n3:=⟨_,rfl⟩
       have pc:∀ ty,(Builtin.clear_ #[27] ty #[.slice (some ⟨g0,m*2,none⟩) n3 (cap - m)]).run Tryz.prog wr=.ok (.tuple #[]) (wr.setCells g0 (m*2) (Builtin.zeroCells (.agg #[.string ByteArray.empty,.string ByteArray.empty]:Value).cells n3).toList):=fun ty=>by
        refine ku wr _ _ ty _ Tryz.underlying27 zQ (by intro u hu;have hu:u∈([.string ByteArray.empty,.string ByteArray.empty]:List Value):=hu;simp only [List.mem_cons,List.not_mem_nil,or_false] at hu;rcases hu with rfl | rfl<;>rfl) g0 (m*2) (cap - m) n3 (by omega) (fun j hj=>?_) (fun j hj=>?_)
        ·have hj':j < n3*2:=hj
         have hl:m*2+j < (l'.flatMap kJ).length:=by rw [iW];omega
         rw [kH.2.1 _ hl,List.getElem?_eq_getElem hl];rfl
        ·have hj':j < n3*2:=hj
         exact kH.2.2 _ (by rw [iW];omega)
       obtain ⟨Z,hZ⟩:∃ Z,Z=wr.setCells g0 (m*2) (Builtin.zeroCells (.agg #[.string ByteArray.empty,.string ByteArray.empty]:Value).cells n3).toList:=⟨_,rfl⟩;have HZ:=gH (show Kb (fun k=>k=g0) w Z from hZ▸hI.kb.trans (d9 g0 _ _ _));rw [← hZ,← Bd] at pc
       skip
       have HF:=gH (show ¬ m=l.length∧¬ ny q l from ⟨by omega,fun h=>by have:=h k HN.out.2.1;rw [HR.out] at this;cases this⟩);have Sg:=gH C9
       have k3:(m:Int)≤(l.length:Int):=by omega
       have k5:(l.length:Int)≤(cap:Int):=by omega
       have k6:(m:Int)≤(cap:Int):=by omega
       clear hI kH iW zQ hZ Bd Ez C9;go_wp2;go_ret;exact ⟨_,_,_,rfl,⟨fun h=>absurd h HF.out.1,fun h=>absurd h HF.out.2⟩,Sg.out _ _ HZ.out⟩
   ·have HT:=gH (show ny q l from fun j hj=>HP.out j (by omega) hj)
    clear ha;go_wp2;go_ret;exact ⟨_,_,_,rfl,⟨fun _=>HT.out,fun _=>rfl⟩,Kb.bl HA.out⟩
theorem Kv:(Tryz.prog.info? 174).map (fun i=>(i.zero,i.size,i.bytes))=some (some (.agg #[.string ByteArray.empty,.string ByteArray.empty]),2,32):=by kernel_rfl
theorem vX (A:Option Addr) (cap:Nat) (l:List dP) (w0 w:World) (ha:ag w0 w) (h:aA w0 2 fw A cap l) (hb:l.length≤1000000) :
  Calls Tryz.prog 122 #[.slice A l.length cap] w (ni 174 2 fw w0 w l):=by
 obtain ⟨i0,hi,hz0,hz1,hz2⟩:=info_parts Kv
 have QV:∀ (w:World) (a:Option Addr) (n c n' c':Nat),(binOp .eql 27 (.slice a n c) (.slice none n' c')).run Tryz.prog w=.ok (.bool a.isNone) w:=fun w a n c n' c'=>Lib.run_eql_slice_nil w _ _ a n c n' c' Tryz.underlying27
 cases A with
 | none =>
  have hl0:l=[]:=by
   cases l with
   | nil=>rfl
   | cons x l=>obtain ⟨b,off,cs,hA,_⟩:=h.2.2 0 (by simp);cases hA
  subst hl0
  go_in
  go_wp2;go_ret;exact ⟨_,[],rfl,ag.refl _,cO _ _ _ _,bV.nil⟩
 | some ad =>
  have HC:∃ bH,bV w0 2 fw bH l∧∀ p u,bH.flatten[p]? = some u→w.cell? (ad.add p)=some u:=by
   by_cases h0:0 < l.length
   ·obtain ⟨b,off,bH,hA,hb',hch,hc⟩:=h.bH h0 (by decide)
    simp only [Option.some.injEq] at hA;subst hA;refine ⟨bH,hch,fun p u hp=>?_⟩
    have hlt:p < l.length*2:=by rw [← hch.len];exact (List.getElem?_eq_some_iff.1 hp).1
    rw [lA];exact ha.cell_kept ((hc p hlt).trans hp)
   ·have hl0:l=[]:=List.eq_nil_of_length_eq_zero (by omega)
    subst hl0;exact ⟨[],bV.nil,fun p u hp=>by simp at hp⟩
  obtain ⟨bH,hch,hcell⟩:=HC;have H1:=gH hcell
  have H2:Hid (∀ u∈bH.flatten,u.oneCell'=true):=gH (by
   intro u hu;obtain ⟨c,hc,hu⟩:=List.mem_flatten.1 hu;obtain ⟨i,hi,rfl⟩:=List.getElem_of_mem hc;have h3:=(hch.2 i hi (by rw [← hch.1];exact hi)).2;obtain ⟨hcs,_⟩:=h3;rw [hcs] at hu;simp only [List.mem_cons,List.not_mem_nil,or_false] at hu
   rcases hu with rfl | rfl<;>simp [Value.oneCell'])
  have H3:=gH hch;have HI:=gH hi;have kU:=gH hz0;have ki:=gH hz1;have kP:=gH hz2;clear hcell hch hi hz0 hz1 hz2 h ha
  go_in
  go_wp2_with (at_builtin;refine wpList_append_own _ rfl _ _ 27 rfl w.heap.size 174 i0 (.agg #[.string ByteArray.empty,.string ByteArray.empty]) 2 32 Tryz.underlying27 HI.out kU.out ki.out kP.out rfl (by decide) _ _ _ rfl (World.ownsRow_made w #[] 0 (Nat.le_refl _) (Nat.zero_le _) rfl) ad l.length cap bH.flatten rfl ?CF ?CJ ?CM ?CU ?CV ?CX ?_)
  case CF=>exact H3.out.len
  case CJ =>
   intro j u hj;exact Lib.cell?_alloc_some _ (H1.out j u hj)
  case CM=>exact H2.out
  case CU=>unfold maxLen;omega
  case CV=>omega
  case CX=>simp
  intro v' w1 hown hgrow hnil;have HO:=gH hown;have HA:=gH (show ag w w1 from ((Below.refl _ w).alloc (Nat.le_refl _) _).grown hgrow (by simp) (by intro k hk;simp [Value.ownBlock] at hk;omega));clear hown hgrow hnil;go_wp2;go_ret;refine ⟨v',bH,rfl,HA.out,?_,H3.out⟩
  simpa using HO.out
theorem vY {w:World} {bH:List (List Value)} {l:List dP} (h:bV w 2 fw bH l):bH.flatten=l.flatMap kJ:=eT (fun _ _ h=>h.1) h
theorem nO {α:Type} {c:α→α→Int} (dY:∀ a b,c a b = - c b a) (l:List α):aM c l=true↔qI c l∧ny (fun a b=>decide (c a b=0)) l:=by
 rw [cR]
 constructor
 ·intro h
  refine ⟨fun k hk=>?_,fun k hk=>?_⟩
  ·have h1:=h k hk
   have h2:=dY l[k+1] (l[k]'(by omega));omega
  ·have h1:=h k hk
   have h2:=dY l[k+1] (l[k]'(by omega));simp only [decide_eq_false_iff_not];omega
 ·intro ⟨h1,h2⟩ k hk
  have h3:=h1 k hk;have h4:=h2 k hk;simp only [decide_eq_false_iff_not] at h4;have h5:=dY l[k+1] (l[k]'(by omega));omega
theorem sj {w:World} {B size n:Nat} {e:TypeId} {v:Value} {xs:List Value} (h:w.ownsRow B e size v n xs):∀ A n c,v=.slice A n c→c≤9223372036854775807:=by
 intro A n c hv
 rcases h.2 with ⟨rfl,_⟩ | ⟨g,cap,cur,rfl,_,_,_,hcm,_⟩
 ·simp only [Value.slice.injEq] at hv;omega
 ·simp only [Value.slice.injEq] at hv
  have:cap≤maxLen:=hcm;unfold maxLen at this;omega
theorem WY (x y:ByteArray) (bx:Nat) (g:FuncId) (ay:Array Value) (c:ByteArray→ByteArray→Int) (w:World) (hc:w.cell? ⟨bx,0,none⟩=some (.func (.func g) #[] ay)) (dc:∀ (args:Array Value) (w:World),(callFunc g args).run Tryz.prog w=.ok (.enter g args) w)
  (hp:∀ w',ag w w'→Calls Tryz.prog g (#[.string (x),.string (y)]++ay) w' fun e w''=>e=.returned (.int .i64 (c x y))∧ag w' w'') :
  Calls Tryz.prog 351 #[.string (x),.string (y),.pointer (some ⟨bx,0,none⟩)] w fun e w'=>e=.returned (.bool (decide (c x y=0)))∧ag w w':=by
 have HP:=gH hp;have hbx:bx < w.heap.size:=World.block_lt_of_cell? _ _ hc
 have aap:bx < w.heap.size+1:=by omega
 clear hp
 go_in
 go_wp2_with fail;refine (HP.out _ (ag.refl w)).mono ?_;rintro e w1 ⟨rfl,a1⟩;have HA:=gH ((ag.refl w).trans a1);clear a1;go_wp2;go_ret;exact ⟨Eq.trans (b:=.returned (.bool _)) rfl (cP (bZ (by first | rfl | simp))),HA.out⟩
theorem NH (A:Option Addr) (cap:Nat) (l:List ByteArray) (g:FuncId) (ay:Array Value) (c:ByteArray→ByteArray→Int) (w:World) (h:aA w 1 dg A cap l) (hb:l.length≤1000000) (dY:∀ a b,c a b = - c b a) (dc:∀ (args:Array Value) (w:World),(callFunc g args).run Tryz.prog w=.ok (.enter g args) w)
  (hp:∀ w' (x y:ByteArray),ag w w'→Calls Tryz.prog g (#[.string (x),.string (y)]++ay) w' fun e w''=>e=.returned (.int .i64 (c x y))∧ag w' w'') :
  Calls Tryz.prog 299 #[.slice A l.length cap,.func (.func g) #[] ay] w fun e w'=>e=.returned (.bool (aM c l))∧ag w w':=by
 have hlen:=h.len;obtain ⟨W,hW⟩:∃ W,W=w.alloc (.cells #[.func (.func g) #[] ay] 249):=⟨_,rfl⟩
 have aW:ag w W:=by rw [hW];exact (ag.refl w).alloc _
 have zW:W.heap.size=w.heap.size+1:=by rw [hW];simp
 have cW:W.cell? ⟨w.heap.size,0,none⟩=some (.func (.func g) #[] ay):=by rw [hW];simp
 have C1:=gH (NF A cap l g ay c W (aO aW h) dc fun w' a i hi=>hp w' _ _ (aW.trans a));have HH:=gH (And.intro h (And.intro hp (And.intro dY (And.intro aW cW))));have qQ:=enters (P:=Tryz.prog) Tryz.func351 (by kernel_rfl) rfl;have hsm:=kE h (P:=fun x:ByteArray=>Small x.size) (fun _ _ h=>h.2);have wZ:=gH hsm;clear h hp dY aW hsm
 go_in
 go_wp2_with fail;rw [← hW];refine C1.out.mono ?_;rintro e w1 ⟨b,rfl,hb1,a1⟩;have HB:=gH hb1;have cT:=gH a1;have WZ:=a1.cell_kept cW;clear hW hb1
 cases b
 ·clear a1 WZ cW
  go_wp2;go_ret;refine ⟨Eq.trans (b:=.returned (.bool _)) rfl (cP (bZ ?_)),HH.out.2.2.2.1.trans cT.out⟩;have:=nO HH.out.2.2.1 l;have h2:=HB.out
  simp_all
 ·have C2:=gH (lr A cap l w1 w1 (ag.refl _) (aO (HH.out.2.2.2.1.trans a1) HH.out.1) hb)
  clear a1;go_wp2_with fail;refine C2.out.mono ?_;rintro e w2 ⟨v,bH,rfl,a2,ho,hch⟩;rw [jV hch] at ho;obtain ⟨A2,bJ,hv⟩:=eA ho;subst hv;have cW2:=a2.cell_kept WZ
  have C3:=gH (WW (.slice A2 l.length bJ) l 351 #[.pointer (some ⟨w.heap.size,0,none⟩)] (fun a b=>decide (c a b=0)) w1.heap.size w2 ho wZ.out.1 (sj ho) wZ.out.2 qQ (fun w' kb x y=>by
   have MD:¬ kR (.slice A2 l.length bJ) w.heap.size:=gW ho (by have:=cT.out.size;omega);have ha:ag w w':=kb.aN ((HH.out.2.2.2.1.trans cT.out).trans a2) (fun g hg=>gW ho (by have:=cT.out.size;omega))
   exact WY x y w.heap.size g ay c w' (kb.cell cW2 MD) dc (fun w'' a=>HH.out.2.1 w'' x y (ha.trans a))))
  have HK:=gH (show ∀ w',Kb (kR (.slice A2 l.length bJ)) w2 w'→ag w w' from fun w' kb=>kb.aN ((HH.out.2.2.2.1.trans cT.out).trans a2) (fun g hg=>gW ho (by have:=cT.out.size;omega)));clear a2 ho hch;go_wp2_with fail;refine C3.out.mono ?_;rintro e w3 ⟨A3,m,c3,rfl,hm,kb⟩;have HM:=gH hm;have nU:=gH (HK.out w3 kb);clear hm kb;go_wp2;go_ret;refine ⟨Eq.trans (b:=.returned (.bool _)) rfl (cP (bZ ?_)),nU.out⟩;have h1:=nO HH.out.2.2.1 l;have h2:=HB.out.1 (by first | trivial | rfl);have h3:=HM.out;by_cases e:m=l.length
  ·rw [h1.2 ⟨h2,h3.1 e⟩]
   simp [e]
  ·have:aM c l=false:=by
    rw [Bool.eq_false_iff];intro h;exact e (h3.2 (h1.1 h).2)
   rw [this];simp;omega
theorem W9 (x y:dP) (bx:Nat) (g:FuncId) (ay:Array Value) (c:dP→dP→Int) (w:World) (hc:w.cell? ⟨bx,0,none⟩=some (.func (.func g) #[] ay)) (dc:∀ (args:Array Value) (w:World),(callFunc g args).run Tryz.prog w=.ok (.enter g args) w)
  (hp:∀ w',ag w w'→Calls Tryz.prog g (#[.agg #[.string (x).role,.string (x).of],.agg #[.string (y).role,.string (y).of]]++ay) w' fun e w''=>e=.returned (.int .i64 (c x y))∧ag w' w'') :
  Calls Tryz.prog 354 #[.agg #[.string (x).role,.string (x).of],.agg #[.string (y).role,.string (y).of],.pointer (some ⟨bx,0,none⟩)] w fun e w'=>e=.returned (.bool (decide (c x y=0)))∧ag w w':=by
 have HP:=gH hp;have hbx:bx < w.heap.size:=World.block_lt_of_cell? _ _ hc
 have aap:bx < w.heap.size+1:=by omega
 clear hp
 go_in
 go_wp2_with fail;refine (HP.out _ (((ag.refl w).alloc _).alloc _)).mono ?_;rintro e w1 ⟨rfl,a1⟩;have HA:=gH ((((ag.refl w).alloc _).alloc _).trans a1);clear a1;go_wp2;go_ret;exact ⟨Eq.trans (b:=.returned (.bool _)) rfl (cP (bZ (by first | rfl | simp))),HA.out⟩
theorem NI (A:Option Addr) (cap:Nat) (l:List dP) (g:FuncId) (ay:Array Value) (c:dP→dP→Int) (w:World) (h:aA w 2 fw A cap l) (hb:l.length≤1000000) (dY:∀ a b,c a b = - c b a) (dc:∀ (args:Array Value) (w:World),(callFunc g args).run Tryz.prog w=.ok (.enter g args) w)
  (hp:∀ w' (x y:dP),ag w w'→Calls Tryz.prog g (#[.agg #[.string (x).role,.string (x).of],.agg #[.string (y).role,.string (y).of]]++ay) w' fun e w''=>e=.returned (.int .i64 (c x y))∧ag w' w'') :
  Calls Tryz.prog 300 #[.slice A l.length cap,.func (.func g) #[] ay] w fun e w'=>e=.returned (.bool (aM c l))∧ag w w':=by
 have hlen:=h.len;obtain ⟨W,hW⟩:∃ W,W=w.alloc (.cells #[.func (.func g) #[] ay] 325):=⟨_,rfl⟩
 have aW:ag w W:=by rw [hW];exact (ag.refl w).alloc _
 have zW:W.heap.size=w.heap.size+1:=by rw [hW];simp
 have cW:W.cell? ⟨w.heap.size,0,none⟩=some (.func (.func g) #[] ay):=by rw [hW];simp
 have C1:=gH (NG A cap l g ay c W (cu aW h) dc fun w' a i hi=>hp w' _ _ (aW.trans a));have HH:=gH (And.intro h (And.intro hp (And.intro dY (And.intro aW cW))));have qQ:=enters (P:=Tryz.prog) Tryz.func354 (by kernel_rfl) rfl;have hsm:=kE h (P:=fun x:dP=>Small x.role.size∧Small x.of.size) (fun _ _ h=>h.2);have wZ:=gH hsm;clear h hp dY aW hsm
 go_in
 go_wp2_with fail;rw [← hW];refine C1.out.mono ?_;rintro e w1 ⟨b,rfl,hb1,a1⟩;have HB:=gH hb1;have cT:=gH a1;have WZ:=a1.cell_kept cW;clear hW hb1
 cases b
 ·clear a1 WZ cW
  go_wp2;go_ret;refine ⟨Eq.trans (b:=.returned (.bool _)) rfl (cP (bZ ?_)),HH.out.2.2.2.1.trans cT.out⟩;have:=nO HH.out.2.2.1 l;have h2:=HB.out
  simp_all
 ·have C2:=gH (vX A cap l w1 w1 (ag.refl _) (cu (HH.out.2.2.2.1.trans a1) HH.out.1) hb)
  clear a1;go_wp2_with fail;refine C2.out.mono ?_;rintro e w2 ⟨v,bH,rfl,a2,ho,hch⟩;rw [vY hch] at ho;obtain ⟨A2,bJ,hv⟩:=eA ho;subst hv;have cW2:=a2.cell_kept WZ
  have C3:=gH (WX (.slice A2 l.length bJ) l 354 #[.pointer (some ⟨w.heap.size,0,none⟩)] (fun a b=>decide (c a b=0)) w1.heap.size w2 ho wZ.out.1 (sj ho) wZ.out.2 qQ (fun w' kb x y=>by
   have MD:¬ kR (.slice A2 l.length bJ) w.heap.size:=gW ho (by have:=cT.out.size;omega);have ha:ag w w':=kb.aN ((HH.out.2.2.2.1.trans cT.out).trans a2) (fun g hg=>gW ho (by have:=cT.out.size;omega))
   exact W9 x y w.heap.size g ay c w' (kb.cell cW2 MD) dc (fun w'' a=>HH.out.2.1 w'' x y (ha.trans a))))
  have HK:=gH (show ∀ w',Kb (kR (.slice A2 l.length bJ)) w2 w'→ag w w' from fun w' kb=>kb.aN ((HH.out.2.2.2.1.trans cT.out).trans a2) (fun g hg=>gW ho (by have:=cT.out.size;omega)));clear a2 ho hch;go_wp2_with fail;refine C3.out.mono ?_;rintro e w3 ⟨A3,m,c3,rfl,hm,kb⟩;have HM:=gH hm;have nU:=gH (HK.out w3 kb);clear hm kb;go_wp2;go_ret;refine ⟨Eq.trans (b:=.returned (.bool _)) rfl (cP (bZ ?_)),nU.out⟩;have h1:=nO HH.out.2.2.1 l;have h2:=HB.out.1 (by first | trivial | rfl);have h3:=HM.out;by_cases e:m=l.length
  ·rw [h1.2 ⟨h2,h3.1 e⟩]
   simp [e]
  ·have:aM c l=false:=by
    rw [Bool.eq_false_iff];intro h;exact e (h3.2 (h1.1 h).2)
   rw [this];simp;omega
theorem m9 (a b:ByteArray):aS a b=aS b a:=by
 unfold aS;rw [Bool.eq_iff_iff];simp;exact eq_comm
theorem qr {a b c:ByteArray} (h:aS a b=true) (h2:aS b c=true):aS a c=true:=by
 unfold aS at *;simp at *;rw [h,h2]
theorem Aw (A:Option Addr) (cap:Nat) (l:List ByteArray) (name:ByteArray) (w:World) (h:aA w 1 dg A cap l) :
  Calls Tryz.prog 109 #[.slice A l.length cap,.string name] w fun e w'=>e=.returned (.int .i64 (bD (fun c=>aS c name) l))∧w=w':=by
 have hlen:=h.len
 go_in
 go_wp2_with fail
 go_loop [8] (fun i=>∃ k:Nat,k≤l.length∧i=.int .i64 k∧∀ j,j < k→∀ (hj:j < l.length),aS l[j] name=false) (fun i=>l.length - (intOf i).toNat)
 case atStart=>exact ⟨0,Nat.zero_le _,rfl,fun j hj=>absurd hj (Nat.not_lt_zero j)⟩
 case round =>
  obtain ⟨k,hk,rfl,hp⟩:=hrel;have HP:=gH hp;clear hp;by_cases hlt:k < l.length
  ·obtain ⟨b,off,rfl,hb,c0,hs⟩:=er h hlt
   cases heq:aS l[k] name
   ·have h2:(name.toList==l[k].toList)=false:=(m9 _ _).trans heq
    have HN:=gH (bC (p:=fun j=>∀ (hj:j < l.length),aS l[j] name=false) HP.out (fun _=>heq));clear heq;go_wp2
    go_round
    case rel=>exact ⟨k+1,by omega,by go_num,HN.out⟩
    case measure=>simp [intOf];omega
   ·have h2:(name.toList==l[k].toList)=true:=(m9 _ _).trans heq
    have HQ:=gH heq;clear heq;go_wp2;go_ret;have heq:=HQ.out;exact ⟨by rw [dV (fun c=>aS c name) l k hlt heq (fun i hi=>HP.out i hi (by omega))];rfl,rfl⟩
  ·go_wp2
   go_ret;exact ⟨by rw [dU (fun c=>aS c name) l (fun i hi=>HP.out i (by omega) hi)];rfl,rfl⟩
theorem gN {α:Type} (p:α→Bool) (l:List α) (q:Nat) (hq:q < l.length) (h:bD p l=q):p l[q]=true:=by
 induction l generalizing q with
 | nil=>simp at hq
 | cons x l ih =>
  simp only [bD] at h;by_cases hx:p x=true
  ·rw [if_pos hx] at h
   have:q=0:=by omega
   subst this;simpa using hx
  ·rw [if_neg hx] at h
   by_cases hy:bD p l < 0
   ·rw [if_pos hy] at h;omega
   ·rw [if_neg hy] at h
    cases q with
    | zero=>omega
    | succ q=>simpa using ih q (by simpa using hq) (by omega)
theorem all_false {α:Type} (p:α→Bool) (l:List α) (k:Nat) (hk:k < l.length) (h:p l[k]=false):l.all p=false:=by
 rw [Bool.eq_false_iff];intro ha;have:=List.all_eq_true.1 ha l[k] (List.getElem_mem hk);rw [h] at this;cases this
theorem all_true {α:Type} (p:α→Bool) (l:List α) (h:∀ k (hk:k < l.length),p l[k]=true):l.all p=true:=by
 rw [List.all_eq_true];intro x hx;obtain ⟨i,hi,rfl⟩:=List.getElem_of_mem hx;exact h i hi
def nJ (a b:ByteArray):Bool:=Op.bytesLess a.toList b.toList
theorem E0:∀ (a b:List UInt8),decide (Lib.compareBytes a b < 0)=Op.bytesLess a b
 | [],[]=>rfl
 | [],_::_=>rfl
 | _::_,[]=>rfl
 | x::a,y::b=>by
  unfold Lib.compareBytes Op.bytesLess;by_cases h:x < y
  ·simp [h]
  ·by_cases h2:y < x
   ·have h3:¬ x=y:=fun e=>by subst e;exact UInt8.lt_irrefl _ h2
    simp [h,h2,h3]
   ·have h3:x=y:=UInt8.le_antisymm (UInt8.not_lt.1 h2) (UInt8.not_lt.1 h)
    subst h3;have:=E0 a b;simp [UInt8.lt_irrefl,this]
theorem py:∀ (a b:List UInt8),(Lib.compareBytes a b=0)↔a=b
 | [],[]=>by simp [Lib.compareBytes]
 | [],_::_=>by simp [Lib.compareBytes]
 | _::_,[]=>by simp [Lib.compareBytes]
 | x::a,y::b=>by
  unfold Lib.compareBytes;by_cases h:x < y
  ·have h3:¬ x=y:=fun e=>by subst e;exact UInt8.lt_irrefl _ h
   simp [h,h3]
  ·by_cases h2:y < x
   ·have h3:¬ x=y:=fun e=>by subst e;exact UInt8.lt_irrefl _ h2
    simp [h,h2,h3]
   ·have h3:x=y:=UInt8.le_antisymm (UInt8.not_lt.1 h2) (UInt8.not_lt.1 h)
    subst h3;have:=py a b;simp [UInt8.lt_irrefl,this]
theorem wn:∀ (a b:List UInt8),Lib.compareBytes a b = - Lib.compareBytes b a
 | [],[]=>rfl
 | [],_::_=>rfl
 | _::_,[]=>rfl
 | x::a,y::b=>by
  unfold Lib.compareBytes;by_cases h:x < y
  ·have h2:¬ y < x:=UInt8.lt_asymm h
   simp [h,h2]
  ·by_cases h2:y < x
   ·simp [h,h2]
   ·simp [h,h2];exact wn a b
theorem tY:∀ (a b c:List UInt8),Lib.compareBytes a b < 0→Lib.compareBytes b c < 0→Lib.compareBytes a c < 0
 | [],[],c=>fun h=>by simp [Lib.compareBytes] at h
 | [],_::_,[]=>fun _ h=>by simp [Lib.compareBytes] at h
 | [],_::_,_::_=>fun _ _=>by simp [Lib.compareBytes]
 | _::_,[],c=>fun h=>by simp [Lib.compareBytes] at h
 | _::_,_::_,[]=>fun _ h=>by simp [Lib.compareBytes] at h
 | x::a,y::b,z::c=>by
  unfold Lib.compareBytes;intro h1 h2;by_cases xy:x < y
  ·by_cases yz:y < z
   ·have:=UInt8.lt_trans xy yz;simp [this]
   ·simp only [yz,if_false] at h2
    by_cases zy:z < y
    ·simp [zy] at h2
    ·have e:y=z:=UInt8.le_antisymm (UInt8.not_lt.1 zy) (UInt8.not_lt.1 yz)
     subst e;simp [xy]
  ·simp only [xy,if_false] at h1
   by_cases yx:y < x
   ·simp [yx] at h1
   ·have e:x=y:=UInt8.le_antisymm (UInt8.not_lt.1 yx) (UInt8.not_lt.1 xy)
    subst e;simp only [yx,if_false] at h1;by_cases yz:x < z
    ·simp [yz]
    ·simp only [yz,if_false] at h2 ⊢
     by_cases zy:z < x
     ·simp [zy] at h2
     ·simp only [zy,if_false] at h2 ⊢
      exact tY a b c h1 h2
theorem io (a b:ByteArray):decide (aT a b < 0)=nJ a b:=by
 unfold aT nJ;rw [Lib.toList_data,Lib.toList_data];exact E0 _ _
theorem dl (a b:ByteArray):(aT a b=0)↔aS a b=true:=by
 unfold aT aS;rw [Lib.toList_data,Lib.toList_data,py];simp
theorem nz (a b:ByteArray):aT a b < 0↔nJ a b=true:=by rw [← io];simp
theorem jA (a b:ByteArray):aT a b = - aT b a:=wn _ _
theorem iF {a b c:ByteArray} (h1:aT a b < 0) (h2:aT b c < 0):aT a c < 0:=tY _ _ _ h1 h2
theorem Kw (a b c d:ByteArray):decide (eO (aT a b) (aT c d) < 0)=(!(!(nJ a b || aS a b))&&!(aS a b&&!(nJ c d))):=by
 unfold eO;by_cases h:aT a b=0
 ·have he:=(dl a b).1 h
  have hl:nJ a b=false:=by rw [← io,h];rfl
  simp only [h,beq_self_eq_true,if_true,he,hl];rw [← io c d];simp
 ·have he:aS a b=false:=by rw [Bool.eq_false_iff];intro e;exact h ((dl a b).2 e)
  have h':(aT a b==0)=false:=beq_eq_false_iff_ne.2 h;simp only [h',he];rw [← io a b];simp
theorem iE {α:Type} (p:α→Bool) (l:List α):decide (0≤bD p l)=l.any p:=by
 induction l with
 | nil=>rfl
 | cons x l ih =>
  rw [List.any_cons,← ih]
  show decide (0≤(if p x then (0:Int) else if bD p l < 0 then -1 else bD p l+1))=_
  cases h:p x
  ·simp only [Bool.false_or]
   by_cases h2:bD p l < 0
   ·simp [h2]
   ·simp [h2];omega
  ·simp
theorem jK (A:Option Addr) (cap:Nat) (l:List ByteArray) (name:ByteArray) (w:World) (h:aA w 1 dg A cap l) :
  Calls Tryz.prog 69 #[.slice A l.length cap,.string name] w fun e w'=>e=.returned (.bool (l.any fun c=>aS c name))∧w=w':=by
 have C:=gH (Aw A cap l name w h);have HE:=gH (iE (fun c=>aS c name) l);obtain ⟨i,hi⟩:∃ i,bD (fun c=>aS c name) l=i:=⟨_,rfl⟩;rw [hi] at C HE;clear hi
 go_in
 go_wp2_with fail;refine C.out.mono ?_;rintro e w1 ⟨rfl,rfl⟩;go_wp2;go_ret;exact ⟨by rw [← HE.out];rfl,rfl⟩
open Classical in
noncomputable def bM (ms:List dP) (s t:ByteArray):Bool:=decide (Reach ms (txt s) (txt t))
def cL (l:List ByteArray) (s:ByteArray):Bool:=l.any fun c=>aS c s
noncomputable def jX (r:fV) (m:dP):Bool:=cL r.names m.role&&cL r.names m.of&&!bM r.members m.of m.role
noncomputable def bG (r:fV):Bool:=decide (r.names.length≤16)&&decide (r.members.length≤256)&&aM aT r.names&&aM fz r.members&&(r.names.all bA&&r.members.all (jX r))
theorem wq (a b:dP):fz a b = - fz b a:=by
 unfold fz eO;have h1:=jA a.role b.role;have h2:=jA a.of b.of;by_cases e:aT a.role b.role=0
 ·have e2:aT b.role a.role=0:=by omega
  simp [e,e2];exact h2
 ·have e2:¬ aT b.role a.role=0:=by omega
  simp [e,e2];exact h1
theorem Ax {w w':World} {ms:List dP} {s':ByteArray} {bf:Nat} {c:dL→Nat} {n:Nat} (M:eH Tryz.prog 9 w bf n (.int .i64 0) (nW c)) (a:ag w w') (hc:∀ s,0 < c s↔Reach ms (txt s') s) (t:ByteArray) (ht:t.size≤maxLen) :
  (Instr.lookup 268 (.map (some bf)) (.string t) false).run Tryz.prog w'=.ok (.int .i64 (c (txt t))) w'∧decide ((0:Int) < c (txt t))=bM ms s' t :=
 ⟨(M.aH a).look Tryz.underlying9 Tryz.underlying268 (pU w') t ht,by
  unfold bM;have:=hc (txt t);by_cases h:Reach ms (txt s') (txt t)
  ·simp [h,this.2 h]
  ·have h2:¬ 0 < c (txt t):=fun h3=>h (this.1 h3)
   simp [h];omega⟩
theorem Ky (r:fV) (An:Option Addr) (aC:Nat) (Am:Option Addr) (aJ:Nat) (w:World) (hn:aA w 1 dg An aC r.names) (hm:aA w 2 fw Am aJ r.members) :
  Calls Tryz.prog 209 #[.agg #[.slice An r.names.length aC,.slice Am r.members.length aJ]] w fun e w'=>e=.returned (.bool (bG r))∧ag w w':=by
 have hlen:=hn.len;have fq:=hm.len
 have l1:w.heap.size < w.heap.size+1:=by omega
 by_cases h1:r.names.length≤16
 case neg =>
  have HF:=gH (show bG r=false by unfold bG;simp [h1])
  have hi:(16:Int) < (r.names.length:Int):=by omega
  go_in
  go_wp2;go_ret;exact ⟨by rw [HF.out];rfl,(ag.refl _).alloc _⟩
 by_cases h2:r.members.length≤256
 case neg =>
  have HF:=gH (show bG r=false by unfold bG;simp [h2])
  have hi:¬ (16:Int) < (r.names.length:Int):=by omega
  have kQ:(256:Int) < (r.members.length:Int):=by omega
  go_in
  go_wp2;go_ret;exact ⟨by rw [HF.out];rfl,(ag.refl _).alloc _⟩
 have hi:¬ (16:Int) < (r.names.length:Int):=by omega
 have kQ:¬ (256:Int) < (r.members.length:Int):=by omega
 obtain ⟨W,hW⟩:∃ W,W=w.alloc (.cells #[.slice An r.names.length aC,.slice Am r.members.length aJ] 29):=⟨_,rfl⟩
 have aW:ag w W:=by rw [hW];exact (ag.refl w).alloc _
 have r0:∀ w',ag W w'→(w'.cell? ⟨w.heap.size,0,none⟩=some (.slice An r.names.length aC)∧w'.cell? ⟨w.heap.size,1,none⟩=some (.slice Am r.members.length aJ)∧w.heap.size < w'.heap.size):=fun w' a=>by
  rw [hW] at a;obtain ⟨hb,_,hz,_,_⟩:=cz a;exact ⟨by rw [hb];rfl,by rw [hb];rfl,hz.1⟩
 have Xa:=enters (P:=Tryz.prog) Tryz.func182 (by kernel_rfl) rfl;have Xb:=enters (P:=Tryz.prog) Tryz.func273 (by kernel_rfl) rfl;have C1:=gH (fun w' (a:ag w w')=>NH An aC r.names 182 #[] aT w' (aO a hn) (by omega) jA Xa fun w'' x y _=>(iZ x y w'').mono fun e w3 ⟨he,hw⟩=>⟨he,hw▸ag.refl _⟩);have C2:=gH (fun w' (a:ag w w')=>NI Am aJ r.members 273 #[] fz w' (cu a hm) (by omega) wq Xb fun w'' x y _=>Sd x y w'');obtain ⟨b1,hb1⟩:∃ b,aM aT r.names=b:=⟨_,rfl⟩;obtain ⟨b2,hb2⟩:∃ b,aM fz r.members=b:=⟨_,rfl⟩;rw [hb1] at C1;rw [hb2] at C2;have IQ:=gH (show bG r=(b1&&b2&&(r.names.all bA&&r.members.all (jX r))) by unfold bG;simp [h1,h2,hb1,hb2]);have fO:=gH r0;have bQ:=gH aW;have FJ:=gH (And.intro hn hm);clear hb1 hb2 r0 aW hn hm
 go_in
 go_wp2_with fail;rw [← hW];clear hW;refine (C1.out W bQ.out).mono ?_;rintro e w1 ⟨rfl,a1⟩;have cT:=gH a1;obtain ⟨e0,e1,e2⟩:=fO.out w1 a1;clear a1
 cases b1
 ·have HF:=gH (show bG r=false by rw [IQ.out];rfl)
  go_wp2;go_ret;exact ⟨by rw [HF.out];rfl,bQ.out.trans cT.out⟩
 go_wp2_with fail;refine (C2.out w1 (bQ.out.trans cT.out)).mono ?_;rintro e w2 ⟨rfl,a2⟩;have iy:=gH (cT.out.trans a2);clear a2 e0 e1 e2;obtain ⟨e0,e1,e2⟩:=fO.out w2 iy.out
 cases b2
 ·have HF:=gH (show bG r=false by rw [IQ.out];rfl)
  go_wp2;go_ret;exact ⟨by rw [HF.out];rfl,bQ.out.trans iy.out⟩
 go_wp2_with fail
 go_loopw [32] (fun i wr=>∃ k:Nat,k≤r.names.length∧i=.int .i64 k∧ag W wr∧∀ j,j < k→∀ (hj:j < r.names.length),bA r.names[j]=true) (fun i _=>r.names.length - (intOf i).toNat)
 case atStart=>exact ⟨0,Nat.zero_le _,rfl,iy.out,fun j hj=>absurd hj (Nat.not_lt_zero j)⟩
 case round =>
  clear e0 e1 e2;obtain ⟨k,hk,rfl,ha,hp⟩:=hrel;have HA:=gH ha;have HP:=gH hp;obtain ⟨e0,e1,e2⟩:=fO.out wr ha;clear ha hp;by_cases hlt:k < r.names.length
  ·obtain ⟨b,off,rfl,hb,c0,hs⟩:=er (aO (bQ.out.trans HA.out) FJ.out.1) hlt
   obtain ⟨x,hx⟩:∃ x,r.names[k]=x:=⟨_,rfl⟩;rw [hx] at c0 hs;obtain ⟨q,hq⟩:∃ q,bA x=q:=⟨_,rfl⟩;have HQ:=gH (show bA r.names[k]=q by rw [hx];exact hq);have CN:=gH (hq▸cI x wr hs.max);clear hx hq;go_wp2_with fail;refine CN.out.mono ?_;rintro e w3 ⟨rfl,rfl⟩
   cases q
   ·have HF:=gH (show bG r=false by rw [IQ.out,all_false _ _ k hlt HQ.out];rfl)
    go_wp2;go_ret;exact ⟨by rw [HF.out];rfl,bQ.out.trans HA.out⟩
   ·go_wp2
    go_roundw
    case rel=>exact ⟨k+1,by omega,by go_num,HA.out,bC (p:=fun j=>∀ (hj:j < r.names.length),bA r.names[j]=true) HP.out (fun _=>HQ.out)⟩
    case measure=>simp [intOf];omega
  ·have HN:=gH (show r.names.all bA=true from all_true _ _ fun j hj=>HP.out j (by omega) hj)
   go_wp2_with fail
   go_loopw [43] (fun i wr=>∃ k:Nat,k≤r.members.length∧i=.int .i64 k∧ag W wr∧∀ j,j < k→∀ (hj:j < r.members.length),jX r r.members[j]=true) (fun i _=>r.members.length - (intOf i).toNat)
   case atStart=>exact ⟨0,Nat.zero_le _,rfl,HA.out,fun j hj=>absurd hj (Nat.not_lt_zero j)⟩
   case round =>
    clear e0 e1 e2;obtain ⟨k,hk,rfl,ha,hp⟩:=hrel;have HA:=gH ha;have HP:=gH hp;obtain ⟨e0,e1,e2⟩:=fO.out wr ha;clear ha hp;by_cases hlt:k < r.members.length
    ·obtain ⟨b,off,rfl,hb,t0,t1,hs1,hs2⟩:=jf (cu (bQ.out.trans HA.out) FJ.out.2) hlt
     obtain ⟨m,sP⟩:∃ m,r.members[k]=m:=⟨_,rfl⟩;rw [sP] at t0 t1 hs1 hs2;obtain ⟨X,hX⟩:∃ X,X=wr.alloc (.cells #[.string m.role,.string m.of] 174):=⟨_,rfl⟩
     have aX:ag wr X:=by rw [hX];exact (ag.refl _).alloc _
     have x0:X.cell? ⟨wr.heap.size,0,none⟩=some (.string m.role):=by rw [hX];simp
     have x1:X.cell? ⟨wr.heap.size,1,none⟩=some (.string m.of):=by rw [hX];simp
     have x2:wr.heap.size < X.heap.size:=by rw [hX];simp
     have x3:w.heap.size < X.heap.size:=by omega
     have x4:=aX.cell_kept e0;have x5:=aX.cell_kept e1;have PB:=gH ((bQ.out.trans HA.out).trans aX);have aaq:=gH (HA.out.trans aX);have Vo:=gH sP;obtain ⟨i1,kj⟩:∃ i,cL r.names m.role=i:=⟨_,rfl⟩;obtain ⟨i2,Sh⟩:∃ i,cL r.names m.of=i:=⟨_,rfl⟩;have K1:=gH (show ∀ w',ag X w'→Calls Tryz.prog 69 #[.slice An r.names.length aC,.string m.role] w' fun e w''=>e=.returned (.bool i1)∧w'=w'' from fun w' a=>kj▸jK An aC r.names m.role w' (aO (PB.out.trans a) FJ.out.1));have K2:=gH (show ∀ w',ag X w'→Calls Tryz.prog 69 #[.slice An r.names.length aC,.string m.of] w' fun e w''=>e=.returned (.bool i2)∧w'=w'' from fun w' a=>Sh▸jK An aC r.names m.of w' (aO (PB.out.trans a) FJ.out.1));have K3:=gH (show ∀ w',ag X w'→Calls Tryz.prog 210 #[.agg #[.slice An r.names.length aC,.slice (some ⟨b,off,none⟩) r.members.length aJ],.string m.of] w' (WS w' r.members m.of) from fun w' a=>EX r An aC _ aJ m.of w' (cu (PB.out.trans a) FJ.out.2) hs2);have gl:=gH (show jX r r.members[k]=(i1&&i2&&!bM r.members m.of m.role) by unfold jX;rw [sP,kj,Sh]);have KS:=gH (show ∀ w',ag X w'→(ag X w'∧w'.cell? ⟨w.heap.size,0,none⟩=some (.slice An r.names.length aC)∧w'.cell? ⟨w.heap.size,1,none⟩=some (.slice (some ⟨b,off,none⟩) r.members.length aJ)∧w'.cell? ⟨wr.heap.size,0,none⟩=some (.string m.role)∧w'.cell? ⟨wr.heap.size,1,none⟩=some (.string m.of)) from fun w' a=>⟨a,a.cell_kept x4,a.cell_kept x5,a.cell_kept x0,a.cell_kept x1⟩);clear sP kj Sh aX
     cases i1
     ·have HF:=gH (show bG r=false by rw [IQ.out,all_false (jX r) r.members k hlt (by rw [gl.out];rfl)];simp)
      go_wp2_with fail;rw [← hX];clear hX;refine aj (by kernel_rfl) (by kernel_rfl) ?_
      repeat (go_big_quiet_step ((go_at_call 69;exact Calls.aL ((K1.out _ ((ag.refl X).bt _)).mono fun e w'' ⟨he,hw⟩=>⟨he,hw▸ag.refl _⟩))))
      refine wpQuiet_nil ?_;intro _ hw';obtain ⟨y,hw''⟩:=hw';subst hw'';go_wp2;go_ret;exact ⟨by rw [HF.out];rfl,PB.out.bt y⟩
     cases i2
     ·have HF:=gH (show bG r=false by rw [IQ.out,all_false (jX r) r.members k hlt (by rw [gl.out];rfl)];simp)
      go_wp2_with fail;rw [← hX];clear hX;refine aj (by kernel_rfl) (by kernel_rfl) ?_
      repeat (go_big_quiet_step ((go_at_call 69;first | exact Calls.aL ((K1.out _ ((ag.refl X).bt _)).mono fun e w'' ⟨he,hw⟩=>⟨he,hw▸ag.refl _⟩) | exact Calls.aL ((K2.out _ ((ag.refl X).bt _)).mono fun e w'' ⟨he,hw⟩=>⟨he,hw▸ag.refl _⟩))))
      refine wpQuiet_nil ?_;intro _ hw';obtain ⟨y,hw''⟩:=hw';subst hw'';go_wp2;go_ret;exact ⟨by rw [HF.out];rfl,PB.out.bt y⟩
     go_wp2_with fail;rw [← hX];clear hX
     go_region_held3 (fun w'=>ag X w'∧w'.cell? ⟨w.heap.size,0,none⟩=some (.slice An r.names.length aC)∧w'.cell? ⟨w.heap.size,1,none⟩=some (.slice (some ⟨b,off,none⟩) r.members.length aJ)∧w'.cell? ⟨wr.heap.size,0,none⟩=some (.string m.role)∧w'.cell? ⟨wr.heap.size,1,none⟩=some (.string m.of))
      (first | exact KS.out _ (ag.refl _).drew | exact KS.out _ (And.left (by assumption)) | exact KS.out _ (ag.trans (And.left (by assumption:ag X _∧_)) (by assumption)))
      ((first | (go_at_call 69;first | (refine (K1.out _ (And.left (by assumption:ag X _∧_))).mono ?_;rintro e w4 ⟨rfl,rfl⟩) | (refine (K2.out _ (And.left (by assumption:ag X _∧_))).mono ?_;rintro e w4 ⟨rfl,rfl⟩)) | (go_at_call 210;refine (K3.out _ (And.left (by assumption:ag X _∧_))).mono ?_;rintro e w5 ⟨bf,rfl,a5,c5,n5,M5,bd5,hr5⟩;have LK:=(Ax M5 (ag.refl _) hr5 m.role hs1.max).1;have RR:=gH (Ax M5 (ag.refl _) hr5 m.role hs1.max).2;have BB:=bd5 (txt m.role))))
     have lx:=gH (And.left (by assumption:ag X w5∧_));have Re:=RR;clear M5 bd5 hr5 LK RR a5;by_cases h5:0 < c5 (txt m.role)
     ·have h5i:(0:Int) < ((c5 (txt m.role):Nat):Int):=by omega
      have HF:=gH (show bG r=false by rw [IQ.out,all_false (jX r) r.members k hlt (by rw [gl.out,← Re.out];simp [h5])];simp);go_wp2;go_ret;exact ⟨by rw [HF.out];rfl,PB.out.trans lx.out⟩
     ·have h5i:¬ (0:Int) < ((c5 (txt m.role):Nat):Int):=by omega
      have HT:=gH (show jX r r.members[k]=true by rw [gl.out,← Re.out];simp [h5]);go_wp2
      go_roundw
      case rel=>exact ⟨k+1,by omega,by go_num,aaq.out.trans lx.out,bC (p:=fun j=>∀ (hj:j < r.members.length),jX r r.members[j]=true) HP.out (fun _=>HT.out)⟩
      case measure=>simp [intOf];omega
    ·have HF:=gH (show bG r=true by rw [IQ.out,HN.out,all_true _ _ fun j hj=>HP.out j (by omega) hj];rfl)
     go_wp2;go_ret;exact ⟨by rw [HF.out];rfl,bQ.out.trans HA.out⟩
theorem P5 (r:fV) (An:Option Addr) (aC:Nat) (Am:Option Addr) (aJ:Nat) (w:World) (hn:aA w 1 dg An aC r.names) (hm:aA w 2 fw Am aJ r.members) :
  Calls Tryz.prog 151 #[.agg #[.slice An r.names.length aC,.slice Am r.members.length aJ]] w fun e w'=>e=.returned (.int .i64 (if bG r then 0 else 1))∧ag w w':=by
 obtain ⟨q,hq⟩:∃ q,bG r=q:=⟨_,rfl⟩;have C:=gH (fun w' (a:ag w w')=>hq▸Ky r An aC Am aJ w' (aO a hn) (cu a hm));rw [hq];clear hq
 go_in
 go_wp2_with fail;refine (C.out _ ((ag.refl w).alloc _)).mono ?_;rintro e w1 ⟨rfl,a1⟩;have HA:=gH (((ag.refl w).alloc _).trans a1);clear a1
 cases q
 all_goals
  go_wp2;go_ret;exact ⟨rfl,HA.out⟩
theorem lT (a b:ByteArray):aS a b=true↔txt a=txt b:=by
 unfold txt;rw [← dl];exact py _ _
theorem nP (S:List ByteArray) (s:ByteArray):cL S s=true↔txt s∈S.map txt:=by
 unfold cL;rw [List.any_eq_true,List.mem_map];exact ⟨fun ⟨x,hx,h⟩=>⟨x,hx,(lT _ _).1 h⟩,fun ⟨x,hx,h⟩=>⟨x,hx,(lT _ _).2 h⟩⟩
structure Kz (ms:List dP) (role:ByteArray) (S:List ByteArray):Prop where
 nd:(S.map txt).Nodup
 has:txt role∈S.map txt
 sub:∀ t∈S.map txt,t∈txt role::ms.map fun m=>txt m.of
 rch:∀ t∈S.map txt,Reach ms (txt role) t
theorem Kz.start (ms:List dP) (role:ByteArray):Kz ms role [role]:=⟨by simp,by simp,by simp,fun t ht=>by simp at ht;subst ht;exact .refl _⟩
theorem Kz.add {ms:List dP} {role:ByteArray} {S:List ByteArray} (h:Kz ms role S) {m:dP} (hm:m∈ms) (h1:cL S m.role=true) (h2:cL S m.of=false):Kz ms role (S++[m.of]):=by
 have h3:txt m.of∉S.map txt:=fun h=>by rw [← nP] at h;rw [h] at h2;cases h2
 have h4:=(nP _ _).1 h1;refine ⟨?_,?_,?_,?_⟩
 ·rw [List.map_append,List.nodup_append]
  exact ⟨h.nd,by simp,fun a ha b hb e=>by simp at hb;subst hb;subst e;exact h3 ha⟩
 ·rw [List.map_append];exact List.mem_append.2 (.inl h.has)
 ·intro t ht
  rw [List.map_append,List.mem_append] at ht
  rcases ht with ht | ht
  ·exact h.sub t ht
  ·simp at ht;subst ht
   exact List.mem_cons.2 (.inr (List.mem_map.2 ⟨m,hm,rfl⟩))
 ·intro t ht
  rw [List.map_append,List.mem_append] at ht
  rcases ht with ht | ht
  ·exact h.rch t ht
  ·simp at ht;subst ht
   refine .step (x:=m.of) (h.rch _ h4) ?_ rfl;unfold succ;exact List.mem_map.2 ⟨m,List.mem_filter.2 ⟨hm,by simp⟩,rfl⟩
theorem Kz.all {ms:List dP} {role:ByteArray} {S:List ByteArray} (h:Kz ms role S) (hc:∀ m∈ms,cL S m.role=true→cL S m.of=true) (t:ByteArray):cL S t=bM ms role t:=by
 have key:txt t∈S.map txt↔Reach ms (txt role) (txt t):=by
  refine ⟨h.rch _,fun hr=>hr.closed (fun u=>u∈S.map txt) h.has fun u hu x hx=>?_⟩;unfold succ at hx;obtain ⟨m,hm,rfl⟩:=List.mem_map.1 hx;obtain ⟨hm,he⟩:=List.mem_filter.1 hm
  have he:txt m.role=u:=by simpa using he
  exact (nP _ _).1 (hc m hm ((nP _ _).2 (by rw [he];exact hu)))
 unfold bM;by_cases hr:Reach ms (txt role) (txt t)
 ·simp only [hr,decide_true]
  exact (nP _ _).2 (key.2 hr)
 ·simp only [hr,decide_false]
  rw [Bool.eq_false_iff]
  exact fun e=>hr (key.1 ((nP _ _).1 e))
theorem pX {α:Type} [DecidableEq α]:∀ {l l':List α},l.Nodup→(∀ x∈l,x∈l')→l.length≤l'.length
 | [],l',_,_=>Nat.zero_le _
 | a::l,l',hn,hs=>by
  rw [List.nodup_cons] at hn;have h1:a∈l':=hs a (by simp)
  have h2:=pX (l:=l) (l':=l'.erase a) hn.2 fun x hx=>(List.mem_erase_of_ne (by intro e;subst e;exact hn.1 hx)).2 (hs x (by simp [hx]))
  have h3:=List.length_erase_of_mem h1;have h4:=List.length_pos_of_mem h1;simp only [List.length_cons];omega
theorem Kz.len {ms:List dP} {role:ByteArray} {S:List ByteArray} (h:Kz ms role S):S.length≤ms.length+1:=by
 have:=pX h.nd h.sub
 simpa using this
structure jk (w:World) (B:Nat) (hn hm:Hd) (r:fV):Prop where
 j0:w.ownsRow B 9 1 hn.v r.names.length (r.names.flatMap bT)
 mem:w.ownsRow B 174 2 hm.v r.members.length (r.members.flatMap kJ)
 Ba:∀ g∈hn.blk,g∉hm.blk
def mY (r:fV):Prop:=(Small (r.names.length*16)∧∀ x∈r.names,Small x.size)∧(Small (r.members.length*16)∧∀ m∈r.members,Small m.role.size∧Small m.of.size)
theorem Qj {w:World} {r:fV} {An Am:Option Addr} {aC aJ:Nat} (hn:aA w 1 dg An aC r.names) (hm:aA w 2 fw Am aJ r.members):mY r:=⟨fS hn,kE hm fun _ _ h=>h.2⟩
theorem jk.names {w:World} {B:Nat} {hn hm:Hd} {r:fV} (h:jk w B hn hm r) (sm:mY r):aA w 1 dg hn.a hn.c r.names:=dC bT h.j0 (fun x hx=>⟨rfl,rfl,sm.1.2 x hx⟩) sm.1.1
theorem jk.Zc {w:World} {B:Nat} {hn hm:Hd} {r:fV} (h:jk w B hn hm r) (sm:mY r):aA w 2 fw hm.a hm.c r.members:=dC kJ h.mem (fun x hx=>⟨rfl,rfl,sm.2.2 x hx⟩) sm.2.1
theorem jk.aH {w w':World} {B:Nat} {hn hm:Hd} {r:fV} (h:jk w B hn hm r) (a:ag w w'):jk w' B hn hm r:=⟨cj h.j0 a,cj h.mem a,h.Ba⟩
theorem jk.down {w:World} {B B':Nat} {hn hm:Hd} {r:fV} (h:jk w B hn hm r) (hb:B'≤B):jk w B' hn hm r:=⟨bS h.j0 hb,bS h.mem hb,h.Ba⟩
theorem qV (ms:List dP) (s:ByteArray):bM ms s s=true:=by
 unfold bM;simp only [decide_eq_true_eq];exact .refl _
theorem Iw (A:Option Addr) (cap:Nat) (l:List ByteArray) (g:FuncId) (ay:Array Value) (p:ByteArray→Bool) (w:World) (h:aA w 1 dg A cap l) (dc:∀ (args:Array Value) (w:World),(callFunc g args).run Tryz.prog w=.ok (.enter g args) w)
  (hp:∀ w',ag w w'→∀ i (hi:i < l.length),Calls Tryz.prog g (#[.string l[i]]++ay) w' fun e w''=>e=.returned (.bool (p l[i]))∧ag w' w'') :
  Calls Tryz.prog 302 #[.slice A l.length cap,.func (.func g) #[] ay] w fun e w'=>e=.returned (.int .i64 (bD p l))∧ag w w':=by
 have hlen:=h.len;have HC:=gH hp;clear hp
 go_in
 go_wp2_with fail
 go_loopw [8] (fun i wr=>∃ k:Nat,k≤l.length∧i=.int .i64 k∧ag w wr∧∀ j,j < k→∀ (hj:j < l.length),p l[j]=false) (fun i _=>l.length - (intOf i).toNat)
 case atStart=>exact ⟨0,Nat.zero_le _,rfl,ag.refl _,fun j hj=>absurd hj (Nat.not_lt_zero j)⟩
 case round =>
  obtain ⟨k,hk,rfl,ha,hp⟩:=hrel;have HA:=gH ha;have HP:=gH hp;clear hp;by_cases hlt:k < l.length
  ·have cM:=aO ha h
   clear ha;obtain ⟨b,off,rfl,hb,c0,hs⟩:=er cM hlt;have HK:=gH (HC.out wr HA.out k hlt);clear cM;obtain ⟨q,hq⟩:∃ q,p l[k]=q:=⟨_,rfl⟩;rw [hq] at HK;have HQ:=gH hq;clear hq
   cases q
   ·go_wp2_with fail
    refine HK.out.mono ?_;rintro e w1 ⟨rfl,a1⟩;have cT:=gH (HA.out.trans a1);clear a1;go_wp2
    go_roundw
    case rel=>exact ⟨k+1,by omega,by go_num,cT.out,bC (p:=fun j=>∀ (hj:j < l.length),p l[j]=false) HP.out (fun _=>HQ.out)⟩
    case measure=>simp [intOf];omega
   ·go_wp2_with fail
    refine HK.out.mono ?_;rintro e w1 ⟨rfl,a1⟩;have cT:=gH (HA.out.trans a1);clear a1;go_wp2;go_ret;exact ⟨by rw [dV p l k hlt HQ.out (fun i hi=>HP.out i hi (by omega))];rfl,cT.out⟩
  ·clear ha
   go_wp2;go_ret;exact ⟨by rw [dU p l (fun i hi=>HP.out i (by omega) hi)];rfl,HA.out⟩
theorem DC {α:Type} (p:α→Bool) (l:List α):decide (0≤bD p l)=l.any p:=by
 induction l with
 | nil=>rfl
 | cons x l ih =>
  rw [List.any_cons,← ih]
  show decide (0≤(if p x then (0:Int) else if bD p l < 0 then -1 else bD p l+1))=_
  cases h:p x
  ·simp only [Bool.false_or]
   by_cases h2:bD p l < 0
   ·simp [h2]
   ·simp [h2];omega
  ·simp
def KC (l:List ByteArray) (q:ByteArray→Bool) (v:Value) (B:Nat) (w:World) (e:Ending) (w':World):Prop :=
 ∃ h:Hd,e=.returned h.v∧w'.ownsRow B 9 1 h.v (l.filter fun x=>!q x).length ((l.filter fun x=>!q x).flatMap bT)∧Kb (kR v) w w'∧∀ g∈h.blk,v.ownBlock=some g
theorem gO {α:Type} (q:α→Bool) (l:List α) (h:∀ i (hi:i < l.length),q l[i]=false):(l.filter fun x=>!q x)=l:=by
 rw [List.filter_eq_self];intro x hx;obtain ⟨i,hi,rfl⟩:=List.getElem_of_mem hx;rw [h i hi];rfl
theorem zO {α:Type} (p:α→Bool) (l:List α) (h:bD p l < 0):∀ i (hi:i < l.length),p l[i]=false:=by
 intro i hi;have:=DC p l;have h0:decide (0≤bD p l)=false:=decide_eq_false (by omega);rw [h0] at this;rw [Bool.eq_false_iff];intro hp;have h2:l.any p=true:=List.any_eq_true.2 ⟨l[i],List.getElem_mem hi,hp⟩;rw [h2] at this
 cases this
theorem oT {α:Type} (p:α→Bool):∀ (l:List α) (k:Nat),bD p l=k→∀ i (hi:i < l.length),i < k→p l[i]=false
 | [],k,h,i,hi,_=>by simp at hi
 | x::l,k,h,i,hi,hik=>by
  have e:bD p (x::l)=(if p x then (0:Int) else if bD p l < 0 then -1 else bD p l+1):=rfl;rw [e] at h
  cases hx:p x
  ·rw [hx] at h
   simp only [Bool.false_eq_true,if_false] at h;by_cases hn:bD p l < 0
   ·rw [if_pos hn] at h;omega
   ·rw [if_neg hn] at h
    cases i with
    | zero=>simpa using hx
    | succ i =>
     have:=oT p l (k - 1) (by omega) i (by simpa using hi) (by omega)
     simpa using this
  ·rw [hx] at h
   simp only [if_true] at h;omega
structure rP (q:ByteArray→Bool) (l l':List ByteArray) (i j:Nat):Prop where
 len:l'.length=l.length
 kept:l'.take i=(l.take j).filter fun x=>!q x
 rest:l'.drop j=l.drop j
 ij:i < j
 jl:j≤l.length
theorem rP.start {q:ByteArray→Bool} {l:List ByteArray} {i:Nat} (hi:i < l.length) (hq:q l[i]=true) (hf:∀ k (hk:k < l.length),k < i→q l[k]=false):rP q l l i (i+1):=by
 refine ⟨rfl,?_,rfl,by omega,by omega⟩;rw [List.take_succ_eq_append_getElem hi,List.filter_append,gO q (l.take i) (fun k hk=>by rw [List.getElem_take];exact hf k (by rw [List.length_take] at hk;omega) (by rw [List.length_take] at hk;omega))];simp [hq]
theorem rP.get {q:ByteArray→Bool} {l l':List ByteArray} {i j:Nat} (h:rP q l l' i j) (hj:j < l.length):l'[j]'(by rw [h.len];exact hj)=l[j]:=by
 have h1:=congrArg (fun x=>x[0]?) h.rest;simp only [List.getElem?_drop,Nat.add_zero] at h1;rw [List.getElem?_eq_getElem (by rw [h.len];exact hj),List.getElem?_eq_getElem hj] at h1;exact Option.some.inj h1
theorem rP.skip {q:ByteArray→Bool} {l l':List ByteArray} {i j:Nat} (h:rP q l l' i j) (hj:j < l.length) (hq:q l[j]=true):rP q l l' i (j+1):=by
 refine ⟨h.len,?_,?_,by have:=h.ij;omega,by omega⟩
 ·rw [List.take_succ_eq_append_getElem hj,List.filter_append,← h.kept]
  simp [hq]
 ·have:=congrArg (List.drop 1) h.rest
  simpa [List.drop_drop] using this
theorem rP.keep {q:ByteArray→Bool} {l l':List ByteArray} {i j:Nat} (h:rP q l l' i j) (hj:j < l.length) (hq:q l[j]=false):rP q l (l'.set i l[j]) (i+1) (j+1):=by
 have pg:=h.ij;have hl:=h.len;refine ⟨by rw [List.length_set];exact h.len,?_,?_,by omega,by omega⟩
 ·rw [List.take_succ_eq_append_getElem hj,List.filter_append,← h.kept,List.take_succ_eq_append_getElem (by rw [List.length_set];omega),List.take_set_of_le (Nat.le_refl _)]
  simp [hq]
 ·rw [List.drop_set_of_lt (by omega)]
  have:=congrArg (List.drop 1) h.rest
  simpa [List.drop_drop] using this
theorem Xc (v:Value) (l:List ByteArray) (g:FuncId) (ay:Array Value) (q:ByteArray→Bool) (B:Nat) (w:World) (ho:w.ownsRow B 9 1 v l.length (l.flatMap bT)) (hs:Small (l.length*16)) (iR:∀ A n c,v=.slice A n c→c≤9223372036854775807) (sm:∀ x∈l,Small x.size) (dc:∀ (args:Array Value) (w:World),(callFunc g args).run Tryz.prog w=.ok (.enter g args) w)
  (hq:∀ w',Kb (kR v) w w'→∀ x:ByteArray,Small x.size→Calls Tryz.prog g (#[.string x]++ay) w' fun e w''=>e=.returned (.bool (q x))∧ag w' w'') :
  Calls Tryz.prog 211 #[v,.func (.func g) #[] ay] w (KC l q v B w):=by
 have hlen:l.length*16≤140737488351232:=hs;obtain ⟨hd,rfl,JC⟩:=sD ho;obtain ⟨A,n,cap⟩:=hd;have JC:n=l.length:=JC;subst JC
 show Calls Tryz.prog 211 #[.slice A l.length cap,.func (.func g) #[] ay] w (KC l q (.slice A l.length cap) B w)
 have cM:aA w 1 dg A cap l:=dC (h:=⟨A,l.length,cap⟩) bT ho (fun x hx=>⟨rfl,rfl,sm x hx⟩) hs;obtain ⟨k,hk⟩:∃ k,bD q l=k:=⟨_,rfl⟩;have C:=gH (hk▸Iw A cap l g ay q w cM dc (fun w' a i hi=>hq w' (Kb.bl a) l[i] (sm _ (List.getElem_mem hi))));have QX:=bk q l;rw [hk] at QX;by_cases F5:k < 0
 ·have jd:k = -1:=by omega
  have HF:=gH (show (l.filter fun x=>!q x)=l from gO q l (zO q l (by rw [hk];exact F5)));subst jd;have HO:=gH ho;clear hk QX cM hq sm ho iR F5
  go_in
  go_wp2_with fail;refine C.out.mono ?_;rintro e w1 ⟨rfl,a1⟩;have HA:=gH a1;clear a1;go_wp2;go_ret;refine ⟨⟨A,l.length,cap⟩,rfl,?_,Kb.bl HA.out,fun g hg=>Hd.bu.1 hg⟩;rw [HF.out];exact cj HO.out HA.out
 obtain ⟨i,rfl⟩:∃ i:Nat,k=i:=⟨k.toNat,by omega⟩
 have PQ:i < l.length:=by omega
 have VW:=gN q l i PQ hk;have hst:=rP.start PQ VW (fun j hj Hi=>oT q l i hk j hj Hi);obtain ⟨g0,cap',hv,QH,uW,hr⟩:=cB ho (by omega)
 have hv:A=some ⟨g0,0,none⟩∧cap=cap':=by
  have:Value.slice A l.length cap=Value.slice (some ⟨g0,0,none⟩) l.length cap':=hv;simp only [Value.slice.injEq,true_and] at this;exact this
 obtain ⟨rfl,rfl⟩:=hv;have iR:=iR _ _ _ rfl;have hI:eZ 9 1 bT (fun x:ByteArray=>Small x.size) w w B g0 cap l.length l:=⟨ho,rfl,sm,Kb.refl _ _⟩
 have C9:∀ w1 w2:World,Kb (fun k=>k=g0) w1 w2→Kb (kR (.slice (some ⟨g0,0,none⟩) l.length cap)) w1 w2:=fun w1 w2 k=>k.mono fun g _ e=>by subst e;rfl
 have HQ:=gH (show ∀ w',Kb (fun k=>k=g0) w w'→_ from fun w' k=>hq w' (C9 _ _ k));have HI:=gH hI;have HST:=gH hst
 have ZB:((i:Int) == -1)=false:=by rw [beq_eq_false_iff_ne];omega
 clear hq hI ho hr sm hk QX hst cM F5 VW
 go_in
 go_wp2_with fail;refine C.out.mono ?_;rintro e w1 ⟨rfl,a1⟩;have HA:=gH a1;clear a1;go_wp2_with fail
 go_loopw [5,6] (fun u5 u6 wr=>∃ (m j:Nat) (l':List ByteArray),u5=.int .i64 m∧u6=.int .i64 j∧rP q l l' m j∧eZ 9 1 bT (fun x:ByteArray=>Small x.size) w wr B g0 cap l.length l') (fun _ u6 _=>l.length - (intOf u6).toNat)
 case atStart=>exact ⟨i,i+1,l,rfl,by go_num,HST.out,HI.out.aH HA.out⟩
 case round =>
  obtain ⟨m,j,l',rfl,rfl,hd,hI⟩:=hrel;have HD:=gH hd;have HJ:=gH hI;have rS:=hI.len;have hmj:=hd.ij;have QY:=hd.jl;by_cases hlt:j < l.length
  ·have hj':j < l'.length:=by omega
   obtain ⟨b,off,zP,hb0,c0,hs0⟩:=er (tX hI hs) hj';simp only [Option.some.injEq,Addr.mk.injEq,and_true] at zP;obtain ⟨rfl,rfl⟩:=zP;have hg:=hd.get hlt;rw [hg] at c0 hs0;obtain ⟨x,hx⟩:∃ x,l[j]=x:=⟨_,rfl⟩;rw [hx] at c0 hs0;obtain ⟨r,hr⟩:∃ r,q x=r:=⟨_,rfl⟩;have Cc:=gH (hr▸HQ.out wr hI.kb x hs0);have HX:=gH hx;have HR:=gH (show q l[j]=r by rw [hx];exact hr);clear hd hI hx hr hg;simp only [Nat.zero_add] at c0
   cases r
   ·go_wp2_with fail
    refine Cc.out.mono ?_;rintro e w2 ⟨rfl,a2⟩;obtain ⟨F,hF⟩:∃ F,F=w2:=⟨_,rfl⟩;have JD:=gH (show eZ 9 1 bT (fun x:ByteArray=>Small x.size) w F B g0 cap l.length l' from hF▸HJ.out.aH a2);subst hF;clear a2;obtain ⟨_,_,pj,_,_,kH⟩:=cB JD.out.own (by omega);simp only [Value.slice.injEq,true_and,Option.some.injEq,Addr.mk.injEq,and_true] at pj;obtain ⟨rfl,rfl⟩:=pj
    have iW:(l'.flatMap bT).length=l.length*1:=by rw [cJ (size:=1) (fun _=>rfl),rS]
    obtain ⟨u0,z0⟩:∃ u,F.cell? ⟨g0,m,none⟩=some u:=⟨_,by rw [kH.2.1 m (by rw [iW];omega),List.getElem?_eq_getElem (by rw [iW];omega)]⟩;have z1:F.frozen? ⟨g0,m,none⟩=false:=kH.2.2 m (by rw [iW];omega);have z2:g0 < F.heap.size:=kH.1;clear kH iW
    have Da:=gH (show eZ 9 1 bT (fun x:ByteArray=>Small x.size) w (F.setCell ⟨g0,m,none⟩ (.string x)) B g0 cap l.length (l'.set m l[j]) from by
     have:=wm JD.out (m:=m) (i:=j) (by omega) hj';rw [HD.out.get hlt,HX.out] at this;rw [HX.out]
     simpa using this)
    have F6:=gH (HD.out.keep hlt HR.out)
    have F7:(m:Int) < (l.length:Int):=by omega
    go_wp2
    go_roundw
    case rel=>exact ⟨m+1,j+1,_,by go_num,by go_num,F6.out,Da.out⟩
    case measure=>simp [intOf];omega
   ·have F6:=gH (HD.out.skip hlt HR.out)
    go_wp2_with fail;refine Cc.out.mono ?_;rintro e w2 ⟨rfl,a2⟩;have ZC:=gH (HJ.out.aH a2);clear a2;go_wp2
    go_roundw
    case rel=>exact ⟨m,j+1,l',rfl,by go_num,F6.out,ZC.out⟩
    case measure=>simp [intOf];omega
  ·have QZ:j=l.length:=by omega
   have hcm:¬ cap=m:=by omega
   obtain ⟨_,_,pj,_,_,kH⟩:=cB hI.own (by omega);simp only [Value.slice.injEq,true_and,Option.some.injEq,Addr.mk.injEq,and_true] at pj;obtain ⟨rfl,rfl⟩:=pj
   have iW:(l'.flatMap bT).length=l.length*1:=by rw [cJ (size:=1) (fun _=>rfl),rS]
   have zQ:∀ w:World,(zeroValue 9).run Tryz.prog w=.ok (.string ByteArray.empty) w:=fun w=>by kernel_rfl
   obtain ⟨n3,Bd⟩:∃ n3,l.length - m=n3:=⟨_,rfl⟩
   have pc:∀ ty,(Builtin.clear_ #[26] ty #[.slice (some ⟨g0,m*1,none⟩) n3 (cap - m)]).run Tryz.prog wr=.ok (.tuple #[]) (wr.setCells g0 (m*1) (Builtin.zeroCells (.string ByteArray.empty:Value).cells n3).toList):=fun ty=>by
    refine ku wr _ _ ty _ Tryz.underlying26 zQ (by intro u hu;have hu:u∈([.string ByteArray.empty]:List Value):=hu;simp only [List.mem_cons,List.not_mem_nil,or_false] at hu;subst hu;rfl) g0 (m*1) (cap - m) n3 (by omega) (fun j hj=>?_) (fun j hj=>?_)
    ·have hj':j < n3*1:=hj
     have hl:m*1+j < (l'.flatMap bT).length:=by rw [iW];omega
     rw [kH.2.1 _ hl,List.getElem?_eq_getElem hl];rfl
    ·have hj':j < n3*1:=hj
     exact kH.2.2 _ (by rw [iW];omega)
   obtain ⟨Z,hZ⟩:∃ Z,Z=wr.setCells g0 (m*1) (Builtin.zeroCells (.string ByteArray.empty:Value).cells n3).toList:=⟨_,rfl⟩;have HZ:=gH (show Kb (fun k=>k=g0) w Z from hZ▸hI.kb.trans (d9 g0 _ _ _))
   have HP:=gH (show KC l q (.slice (some ⟨g0,0,none⟩) l.length cap) B w (.returned (.slice (some ⟨g0,0,none⟩) m cap)) Z from by
    have hm:m=(l.filter fun x=>!q x).length:=by
     have:=congrArg List.length hd.kept;rw [List.length_take,QZ,List.take_length] at this;omega
    have hx:l'.take m=l.filter fun x=>!q x:=by
     have:=hd.kept;rw [QZ,List.take_length] at this;exact this
    refine ⟨⟨some ⟨g0,0,none⟩,m,cap⟩,rfl,?_,C9 _ _ HZ.out,fun g hg=>Hd.bu.1 hg⟩;have o1:=xw (dJ (g:=g0) rfl (Builtin.zeroCells (.string ByteArray.empty:Value).cells n3).toList (m*1) hI.own) (m:=m) (by omega);rw [← hZ] at o1
    have e:(oQ (l'.flatMap bT) (m*1) (Builtin.zeroCells (.string ByteArray.empty:Value).cells n3).toList).take (m*1)=(l.filter fun x=>!q x).flatMap bT:=by
     rw [jx _ _ _ (by rw [iP,iW];show m*1+n3*1≤_;omega),List.append_assoc,List.take_append_of_le_length (by rw [List.length_take,iW];omega),List.take_take,Nat.min_self,lS (size:=1) (fun _=>rfl),hx]
    rw [e] at o1;rw [← hm]
    exact o1)
   rw [← hZ,← Bd] at pc;simp only [Nat.mul_one] at pc
   have k3:(m:Int)≤(l.length:Int):=by omega
   have k5:(l.length:Int)≤(cap:Int):=by omega
   have k6:(m:Int)≤(cap:Int):=by omega
   clear hI kH iW zQ hZ Bd C9 hd HD HJ HI HST C QZ;go_wp2;go_ret;exact HP.out
noncomputable def KD (r:fV) (role:ByteArray):Int:=if bG r then (if cL r.names role then 0 else 71) else 1
noncomputable def eG (r:fV) (role:ByteArray):List ByteArray:=if bG r&&cL r.names role then r.names.filter (bM r.members role) else []
noncomputable def Cj (r:fV) (a b:ByteArray):Bool:=bG r&&cL r.names a&&cL (r.names.filter (bM r.members a)) b
def FE (r:fV) (role:ByteArray) (w:World) (e:Ending) (w':World):Prop :=
 ∃ h:Hd,e=.returned (.tuple #[h.v,.int .i64 (KD r role)])∧ag w w'∧w'.ownsRow w.heap.size 9 1 h.v (eG r role).length ((eG r role).flatMap bT)
theorem oJ {r:fV} (h:bG r=true):r.names.length≤16∧r.members.length≤256:=by
 unfold bG at h;simp only [Bool.and_eq_true,decide_eq_true_eq] at h;exact ⟨h.1.1.1.1,h.1.1.1.2⟩
theorem sQ {r:fV} {role x:ByteArray} (h:x∈eG r role):x∈r.names:=by
 unfold eG at h
 split at h
 ·exact (List.mem_filter.1 h).1
 ·simp at h
theorem sR (r:fV) (role:ByteArray):(eG r role).length≤r.names.length:=by
 unfold eG
 split
 ·exact List.length_filter_le _ _
 ·simp
theorem aar (x:ByteArray) (bx bf n:Nat) (c:dL→Nat) (w:World) (hx:x.size≤maxLen) (hc:w.cell? ⟨bx,0,none⟩=some (.map (some bf))) (M:eH Tryz.prog 9 w bf n (.int .i64 0) (nW c)) :
  Calls Tryz.prog 212 (#[.string x]++#[.pointer (some ⟨bx,0,none⟩)]) w fun e w'=>e=.returned (.bool (decide (c (txt x)=0)))∧ag w w':=by
 have Tn:=M.look Tryz.underlying9 Tryz.underlying268 (pU w) x hx;have hz:bx < w.heap.size:=World.block_lt_of_cell? w ⟨bx,0,none⟩ hc;obtain ⟨k,hk⟩:∃ k,c (txt x)=k:=⟨_,rfl⟩
 have LK:(Instr.lookup 268 (.map (some bf)) (.string x) false).run Tryz.prog w=.ok (.int .i64 k) w:=by rw [← hk];exact Tn
 rw [hk];clear M hk Tn
 show Calls Tryz.prog 212 #[.string x,.pointer (some ⟨bx,0,none⟩)] w _
 go_in
 go_wp2;go_ret;refine ⟨Eq.trans (b:=.returned (.bool _)) rfl (cP (bZ ?_)),ag.refl _⟩;rw [Bool.eq_iff_iff];simp
theorem Qc (r:fV) (An:Option Addr) (aC:Nat) (Am:Option Addr) (aJ:Nat) (role:ByteArray) (w:World) (hn:aA w 1 dg An aC r.names) (hm:aA w 2 fw Am aJ r.members) (my:Small role.size) :
  Calls Tryz.prog 131 #[.agg #[.slice An r.names.length aC,.slice Am r.members.length aJ],.string role] w (FE r role w):=by
 have hlen:=hn.len
 have l1:w.heap.size < w.heap.size+1:=by omega
 obtain ⟨W,hW⟩:∃ W,W=w.alloc (.cells #[.slice An r.names.length aC,.slice Am r.members.length aJ] 29):=⟨_,rfl⟩
 have aW:ag w W:=by rw [hW];exact (ag.refl w).alloc _
 have r0:∀ w',ag W w'→(w'.cell? ⟨w.heap.size,0,none⟩=some (.slice An r.names.length aC)∧w'.cell? ⟨w.heap.size,1,none⟩=some (.slice Am r.members.length aJ)∧w.heap.size < w'.heap.size):=fun w' a=>by
  rw [hW] at a;obtain ⟨hb,_,hz,_,_⟩:=cz a;exact ⟨by rw [hb];rfl,by rw [hb];rfl,hz.1⟩
 obtain ⟨q,hq⟩:∃ q,bG r=q:=⟨_,rfl⟩;obtain ⟨i,hi⟩:∃ i,cL r.names role=i:=⟨_,rfl⟩;have C1:=gH (fun w' (a:ag w w')=>hq▸Ky r An aC Am aJ w' (aO a hn) (cu a hm));have C2:=gH (show ∀ w',ag w w'→Calls Tryz.prog 69 #[.slice An r.names.length aC,.string role] w' fun e w''=>e=.returned (.bool i)∧w'=w'' from fun w' a=>hi▸jK An aC r.names role w' (aO a hn));have C3:=gH (fun w' (a:ag w w')=>EX r An aC Am aJ role w' (cu a hm) my);have HE:=gH (show KD r role=if q then (if i then 0 else 71) else 1 by unfold KD;rw [hq,hi]);have HL:=gH (show eG r role=if q&&i then r.names.filter (bM r.members role) else [] by unfold eG;rw [hq,hi]);have HB:=gH (show q=true→r.names.length≤16 from fun h=>(oJ (by rw [hq];exact h)).1);have wZ:=gH (fS hn);have fO:=gH r0;have bQ:=gH aW;have HN:=gH hn;clear hq hi r0 aW hn hm
 go_in
 go_wp2_with fail;rw [← hW];clear hW;refine (C1.out W bQ.out).mono ?_;rintro e w1 ⟨rfl,a1⟩;have cT:=gH a1;obtain ⟨e0,e1,e2⟩:=fO.out w1 a1;clear a1
 cases q
 ·have HP:=gH (show FE r role w (.returned (.tuple #[.slice none 0 0,.int .i64 1])) w1 from ⟨⟨none,0,0⟩,by rw [HE.out];rfl,bQ.out.trans cT.out,by rw [HL.out];exact cO _ _ _ _⟩)
  go_wp2
  go_ret2
  exact HP.out
 go_wp2_with fail;refine (C2.out w1 (bQ.out.trans cT.out)).mono ?_;rintro e w2 ⟨rfl,rfl⟩
 cases i
 ·have HP:=gH (show FE r role w (.returned (.tuple #[.slice none 0 0,.int .i64 71])) w1 from ⟨⟨none,0,0⟩,by rw [HE.out];rfl,bQ.out.trans cT.out,by rw [HL.out];exact cO _ _ _ _⟩)
  go_wp2
  go_ret2
  exact HP.out
 go_wp2_with fail;refine (C3.out w1 (bQ.out.trans cT.out)).mono ?_;rintro e w3 ⟨bf,rfl,a3,c,nc,M,bd,hr⟩;obtain ⟨X,hX⟩:∃ X,X=w3.alloc (.cells #[.map (some bf)] 268):=⟨_,rfl⟩
 have aX:ag w3 X:=by rw [hX];exact (ag.refl w3).alloc _
 have xc:X.cell? ⟨w3.heap.size,0,none⟩=some (.map (some bf)):=by rw [hX];simp
 have Si:=((bQ.out.trans cT.out).trans a3).trans aX;clear e0 e1 e2;obtain ⟨e0,e1,e2⟩:=fO.out w3 (cT.out.trans a3)
 have l3:w.heap.size < w3.heap.size+1:=by omega
 have C4:=gH (lr An aC r.names X X (ag.refl _) (aO Si HN.out) (by have:=HB.out (by first | trivial | rfl);omega));have HM:=gH (And.intro (M.aH aX) (And.intro xc (And.intro Si (And.intro hr (show w3.heap.size < X.heap.size by rw [hX];simp)))));clear M bd hr aX a3 Si xc;go_wp2_with fail;rw [← hX];clear hX;refine C4.out.mono ?_;rintro e w4 ⟨v,bH,rfl,a4,ho,hch⟩;rw [jV hch] at ho;obtain ⟨A2,bJ,hv⟩:=eA ho;subst hv;obtain ⟨M,xc,Si,hr,hXs⟩:=HM.out;have Kh:=Si.size;have dc:=enters (P:=Tryz.prog) Tryz.func212 (by kernel_rfl) rfl
 have C5:=gH (Xc (.slice A2 r.names.length bJ) r.names 212 #[.pointer (some ⟨w3.heap.size,0,none⟩)] (fun x=>decide (c (txt x)=0)) X.heap.size w4 ho wZ.out.1 (sj ho) wZ.out.2 dc (fun w' kb x hx=>by
  have h1:¬ kR (.slice A2 r.names.length bJ) bf:=gW ho M.lt;have h2:¬ kR (.slice A2 r.names.length bJ) w3.heap.size:=gW ho hXs
  exact aar x w3.heap.size bf nc c w' hx.max (kb.cell (a4.cell_kept xc) h2) ((M.aH a4).kb kb h1)))
 have HK:=gH (show ∀ w',Kb (kR (.slice A2 r.names.length bJ)) w4 w'→ag w w' from fun w' kb=>kb.aN (Si.trans a4) (fun g hg=>gW ho (by omega)))
 have HF:=gH (show (r.names.filter fun x=>!decide (c (txt x)=0))=eG r role from by
  rw [HL.out];simp only [Bool.and_self,if_true]
  refine List.filter_congr fun x _=>?_
  unfold bM;have:=hr (txt x);by_cases h:Reach r.members (txt role) (txt x)
  ·have:=this.2 h
   simp [h];omega
  ·have:¬ 0 < c (txt x):=fun h2=>h (this.1 h2)
   simp [h];omega)
 have PB:=gH Kh;clear M xc Si hr hXs Kh dc a4 ho hch;go_wp2_with fail;refine C5.out.mono ?_;rintro e w5 ⟨h,rfl,ho,kb,hblk⟩;rw [HF.out] at ho;have HP:=gH (show FE r role w (.returned (.tuple #[h.v,.int .i64 0])) w5 from ⟨h,by rw [HE.out];rfl,HK.out w5 kb,bS ho PB.out⟩);clear ho kb hblk;go_wp2
 go_ret2
 exact HP.out
theorem is8 (r:fV) (An:Option Addr) (aC:Nat) (Am:Option Addr) (aJ:Nat) (a b:ByteArray) (w:World) (hn:aA w 1 dg An aC r.names) (hm:aA w 2 fw Am aJ r.members) (my:Small a.size) :
  Calls Tryz.prog 114 #[.agg #[.slice An r.names.length aC,.slice Am r.members.length aJ],.string a,.string b] w fun e w'=>e=.returned (.bool (Cj r a b))∧ag w w':=by
 have C1:=gH (fun w' (x:ag w w')=>Qc r An aC Am aJ a w' (aO x hn) (cu x hm) my);have wZ:=gH (fS hn);obtain ⟨q,hq⟩:∃ q,bG r=q:=⟨_,rfl⟩;obtain ⟨i,hi⟩:∃ i,cL r.names a=i:=⟨_,rfl⟩;have HE:=gH (show KD r a=if q then (if i then 0 else 71) else 1 by unfold KD;rw [hq,hi]);have HI:=gH (show Cj r a b=(q&&i&&cL (eG r a) b) by unfold Cj eG;rw [hq,hi];cases q<;>cases i<;>rfl);clear hq hi hn hm
 go_in
 go_wp2_with fail;refine (C1.out _ ((ag.refl w).alloc _)).mono ?_;rintro e w1 ⟨h,rfl,a1,ho⟩;have HA:=gH (((ag.refl w).alloc _).trans a1);obtain ⟨bb,AW⟩:∃ bb,cL (eG r a) b=bb:=⟨_,rfl⟩
 have C2:=gH (show Calls Tryz.prog 69 #[h.v,.string b] w1 fun e w''=>e=.returned (.bool bb)∧w1=w'' from by
  rw [bY ho]
  refine (jK h.a h.c (eG r a) b w1 (dC bT ho (fun x hx=>⟨rfl,rfl,wZ.out.2 x (sQ hx)⟩) ?_)).mono fun e w'' ⟨he,hw⟩=>⟨he.trans (by rw [← AW];rfl),hw⟩
  have:=wZ.out.1;have:=sR r a
  unfold Small at *;omega)
 rw [HE.out];rw [AW] at HI;clear a1 ho AW
 cases q
 ·go_wp2
  go_ret;exact ⟨by rw [HI.out];rfl,HA.out⟩
 cases i
 ·go_wp2
  go_ret;exact ⟨by rw [HI.out];rfl,HA.out⟩
 go_wp2_with fail;refine C2.out.mono ?_;rintro e w2 ⟨rfl,rfl⟩;go_wp2;go_ret;exact ⟨by rw [HI.out];rfl,HA.out⟩
theorem JI {w:World} {b:Nat} {xs:List Value} (h:au w b xs) (hl:xs.length=2) (v0 v1:Value):au ((w.setCell ⟨b,0,none⟩ v0).setCell ⟨b,1,none⟩ v1) b [v0,v1]:=by
 match xs,hl with
 | [x0,x1],_ =>
  have h1:=h.set 0 v0 (by simp);have h2:=h1.set 1 v1 (by simp)
  simpa using h2
def QJ:fV:=⟨[],[]⟩
noncomputable def na (r:fV) (f:fV × Int):fV × Int:=if bG r then (if f.2=0 then (f.1,0) else (QJ,f.2)) else (QJ,1)
def zH (name:ByteArray) (m:dP):Bool:=aS m.role name || aS m.of name
end Go.Proofs.YtakddkhipelmjaaGreat
