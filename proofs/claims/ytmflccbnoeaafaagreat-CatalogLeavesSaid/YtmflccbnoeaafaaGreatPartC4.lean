import Derived.IntWalk
import Derived.Lib.SliceRun
import Derived.Lib.Walk
import Derived.Test.YtmflccbnoeaafaaGreatPartC3
namespace Go.Proofs.YtmflccbnoeaafaaGreat
open Go.RowKit
set_option maxRecDepth 100000
set_option linter.unusedVariables false
set_option maxHeartbeats 64000000
def aN {α:Type} (c:α→α→Int):List α→Bool
 | []=>true
 | [_]=>true
 | x::y::l=>decide (c x y < 0)&&aN c (y::l)
theorem dh {α:Type} (c:α→α→Int) (l:List α):aN c l=true↔∀ k (h:k+1 < l.length),c (l[k]'(by omega)) l[k+1] < 0:=by
 induction l with
 | nil=>simp [aN]
 | cons x l ih =>
  cases l with
  | nil=>simp [aN]
  | cons y l =>
   rw [aN,Bool.and_eq_true,ih,decide_eq_true_eq]
   constructor
   ·rintro ⟨h1,h2⟩ k hk
    cases k with
    | zero=>exact h1
    | succ k=>exact h2 k (by simpa using hk)
   ·intro h
    exact ⟨h 0 (by simp),fun k hk=>h (k+1) (by simpa using hk)⟩
theorem jH {α:Type} (c:α→α→Int) (l:List α) (k:Nat) (h:k+1 < l.length) (hc:0≤c (l[k]'(by omega)) l[k+1]):aN c l=false:=by
 rw [Bool.eq_false_iff];intro hr;have:=(dh c l).1 hr k h;omega
theorem GV (A:Option Addr) (cap:Nat) (l:List gj) (g:FuncId) (ar:Array Value) (c:gj→gj→Int) (w:World) (h:aL w 2 fk A cap l) (bR:∀ (args:Array Value) (w:World),(callFunc g args).run Tryz.prog w=.ok (.enter g args) w)
  (hp:∀ w',ag w w'→∀ i (hi:i+1 < l.length),Calls Tryz.prog g (#[.agg #[.string (l[i]'(by omega)).name,.string (l[i]'(by omega)).owner],.agg #[.string l[i+1].name,.string l[i+1].owner]]++ar) w' fun e w''=>e=.returned (.int .i64 (c (l[i]'(by omega)) l[i+1]))∧ag w' w'') :
  Calls Tryz.prog 81 #[.slice A l.length cap,.func (.func g) #[] ar] w fun e w'=>e=.returned (.bool (aN c l))∧ag w w':=by
 have hlen:=h.len;have HC:=gH hp;clear hp;by_cases h2:l.length≤1
 ·have HT:=gH (show aN c l=true from (dh c l).2 fun k hk=>by omega)
  have qr:(l.length:Int)≤1:=by omega
  go_enter Tryz.func81,Tryz.ntmps81
  go_wp2_with fail
  all_goals
   go_loop [10] (fun i=>i=.int .i64 0) (fun i=>2 - (intOf i).toNat)
   case atStart=>rfl
   case round =>
    subst hrel;go_wp2_with fail;go_ret;exact ⟨by rw [HT.out];rfl,ag.refl _⟩
 ·have Ki:2≤l.length:=by omega
  have qr:¬ (l.length:Int)≤1:=by omega
  have Kq:(0:Int)≤(l.length:Int) - 1:=by omega
  go_enter Tryz.func81,Tryz.ntmps81
  go_wp2_with fail
  go_loopw [10] (fun i wr=>∃ k:Nat,k≤l.length - 1∧i=.int .i64 k∧ag w wr∧∀ j,j < k→∀ (hj:j+1 < l.length),c (l[j]'(by omega)) l[j+1] < 0) (fun i _=>l.length - (intOf i).toNat)
  case atStart=>exact ⟨0,Nat.zero_le _,rfl,ag.refl _,fun j hj=>absurd hj (Nat.not_lt_zero j)⟩
  case round =>
   obtain ⟨k,hk,rfl,ha,hp⟩:=hrel;have HA:=gH ha;have HP:=gH hp;clear hp;by_cases hlt:k+1 < l.length
   ·have eT:=bm ha h
    have oF:k < l.length:=by omega
    obtain ⟨b,off,rfl,hb,c0,c1,hs,hs2⟩:=oC eT oF;obtain ⟨b',off',hA',hb',d0,d1,hs',JR⟩:=oC eT hlt;simp only [Option.some.injEq,Addr.mk.injEq,and_true] at hA';obtain ⟨rfl,rfl⟩:=hA';obtain ⟨r,hr⟩:∃ r,c (l[k]'(by omega)) l[k+1]=r:=⟨_,rfl⟩;have Cc:=gH (show ∀ x:ii wr,_ from fun x=>hr▸HC.out (bH wr x) (HA.out.bH x) k hlt);have HR:=gH hr;clear ha eT hr;have w1:IntKind.i64.wrap ((k:Int)+1)=(k:Int)+1:=IntWalk.i64_in _ (by omega)
    have w2:(0:Int)≤(k:Int)+1:=by omega
    have w3:((k:Int)+1).toNat=k+1:=by omega
    have w4:(k:Int)+1 < (l.length:Int):=by omega
    by_cases rT:0≤r
    ·skip
     go_wp2_with fail;refine av (by kernel_rfl) (by kernel_rfl) ?_
     repeat (go_big_quiet_step ((exact Calls.bD (Cc.out _))))
     refine wpQuiet_nil ?_;intro _ hw';obtain ⟨x,hw''⟩:=hw';subst hw'';clear w1 w2 w3 w4;go_wp2_with fail;go_ret;exact ⟨by rw [jH c l k hlt (by rw [HR.out];exact rT)];rfl,HA.out.bH x⟩
    ·have hr1:r < 0:=by omega
     go_wp2_with fail;refine av (by kernel_rfl) (by kernel_rfl) ?_
     repeat (go_big_quiet_step ((exact Calls.bD (Cc.out _))))
     refine wpQuiet_nil ?_;intro _ hw';obtain ⟨x,hw''⟩:=hw';subst hw'';clear w1 w2 w3 w4;go_wp2_with fail
     go_roundw
     case rel=>exact ⟨k+1,by omega,by go_num,HA.out.bH x,er (p:=fun j=>∀ (hj:j+1 < l.length),c (l[j]'(by omega)) l[j+1] < 0) HP.out (fun _=>by rw [HR.out];exact hr1)⟩
     case measure=>simp [intOf];omega
   ·have HT:=gH (show aN c l=true from (dh c l).2 fun j hj=>HP.out j (by omega) hj)
    have Uu:¬ (k:Int) < (l.length:Int) - 1:=by omega
    clear ha;go_wp2_with fail;go_ret;exact ⟨by rw [HT.out];rfl,HA.out⟩
theorem GS (A:Option Addr) (cap:Nat) (l:List gi) (g:FuncId) (ar:Array Value) (c:gi→gi→Int) (w:World) (h:aL w 8 gI A cap l) (bR:∀ (args:Array Value) (w:World),(callFunc g args).run Tryz.prog w=.ok (.enter g args) w)
  (hp:∀ w',ag w w'→∀ i (hi:i+1 < l.length) (e1 e2:List Value),gI w' e1 (l[i]'(by omega))→gI w' e2 l[i+1]→Calls Tryz.prog g (#[.agg e1.toArray,.agg e2.toArray]++ar) w' fun e w''=>e=.returned (.int .i64 (c (l[i]'(by omega)) l[i+1]))∧ag w' w'') :
  Calls Tryz.prog 127 #[.slice A l.length cap,.func (.func g) #[] ar] w fun e w'=>e=.returned (.bool (aN c l))∧ag w w':=by
 have hlen:=h.len;have HC:=gH hp;clear hp;by_cases h2:l.length≤1
 ·have HT:=gH (show aN c l=true from (dh c l).2 fun k hk=>by omega)
  have qr:(l.length:Int)≤1:=by omega
  go_enter Tryz.func127,Tryz.ntmps127
  go_wp2_with fail
  all_goals
   go_loop [10] (fun i=>i=.int .i64 0) (fun i=>2 - (intOf i).toNat)
   case atStart=>rfl
   case round =>
    subst hrel;go_wp2_with fail;go_ret;exact ⟨by rw [HT.out];rfl,ag.refl _⟩
 ·have Ki:2≤l.length:=by omega
  have qr:¬ (l.length:Int)≤1:=by omega
  have Kq:(0:Int)≤(l.length:Int) - 1:=by omega
  go_enter Tryz.func127,Tryz.ntmps127
  go_wp2_with fail
  go_loopw [10] (fun i wr=>∃ k:Nat,k≤l.length - 1∧i=.int .i64 k∧ag w wr∧∀ j,j < k→∀ (hj:j+1 < l.length),c (l[j]'(by omega)) l[j+1] < 0) (fun i _=>l.length - (intOf i).toNat)
  case atStart=>exact ⟨0,Nat.zero_le _,rfl,ag.refl _,fun j hj=>absurd hj (Nat.not_lt_zero j)⟩
  case round =>
   obtain ⟨k,hk,rfl,ha,hp⟩:=hrel;have HA:=gH ha;have HP:=gH hp;clear hp;by_cases hlt:k+1 < l.length
   ·have eT:=ee ha h
    have oF:k < l.length:=by omega
    obtain ⟨b,off,A2,bT,rfl,hb,c0,c1,c2,c3,c4,c5,c6,c7,hs⟩:=oD eT oF;obtain ⟨b',off',Dy,JS,hA',hb',d0,d1,d2,d3,d4,d5,d6,d7,hs'⟩:=oD eT hlt;simp only [Option.some.injEq,Addr.mk.injEq,and_true] at hA';obtain ⟨rfl,rfl⟩:=hA';obtain ⟨r,hr⟩:∃ r,c (l[k]'(by omega)) l[k+1]=r:=⟨_,rfl⟩;have Cc:=gH (show ∀ x:ii wr,_ from fun x=>hr▸HC.out (bH wr x) (HA.out.bH x) k hlt _ _ (gI.az ((ag.refl wr).bH x) ⟨A2,bT,rfl,hs⟩) (gI.az ((ag.refl wr).bH x) ⟨Dy,JS,rfl,hs'⟩));have HR:=gH hr;clear ha eT hr;have w1:IntKind.i64.wrap ((k:Int)+1)=(k:Int)+1:=IntWalk.i64_in _ (by omega)
    have w2:(0:Int)≤(k:Int)+1:=by omega
    have w3:((k:Int)+1).toNat=k+1:=by omega
    have w4:(k:Int)+1 < (l.length:Int):=by omega
    by_cases rT:0≤r
    ·skip
     go_wp2_with fail;refine av (by kernel_rfl) (by kernel_rfl) ?_
     repeat (go_big_quiet_step ((exact Calls.bD (Cc.out _))))
     refine wpQuiet_nil ?_;intro _ hw';obtain ⟨x,hw''⟩:=hw';subst hw'';clear w1 w2 w3 w4;go_wp2_with fail;go_ret;exact ⟨by rw [jH c l k hlt (by rw [HR.out];exact rT)];rfl,HA.out.bH x⟩
    ·have hr1:r < 0:=by omega
     go_wp2_with fail;refine av (by kernel_rfl) (by kernel_rfl) ?_
     repeat (go_big_quiet_step ((exact Calls.bD (Cc.out _))))
     refine wpQuiet_nil ?_;intro _ hw';obtain ⟨x,hw''⟩:=hw';subst hw'';clear w1 w2 w3 w4;go_wp2_with fail
     go_roundw
     case rel=>exact ⟨k+1,by omega,by go_num,HA.out.bH x,er (p:=fun j=>∀ (hj:j+1 < l.length),c (l[j]'(by omega)) l[j+1] < 0) HP.out (fun _=>by rw [HR.out];exact hr1)⟩
     case measure=>simp [intOf];omega
   ·have HT:=gH (show aN c l=true from (dh c l).2 fun j hj=>HP.out j (by omega) hj)
    have Uu:¬ (k:Int) < (l.length:Int) - 1:=by omega
    clear ha;go_wp2_with fail;go_ret;exact ⟨by rw [HT.out];rfl,HA.out⟩
theorem GX (A:Option Addr) (cap:Nat) (l:List cu) (g:FuncId) (ar:Array Value) (c:cu→cu→Int) (w:World) (h:aL w 5 dA A cap l) (bR:∀ (args:Array Value) (w:World),(callFunc g args).run Tryz.prog w=.ok (.enter g args) w)
  (hp:∀ w',ag w w'→∀ i (hi:i+1 < l.length) (e1 e2:List Value),dA w' e1 (l[i]'(by omega))→dA w' e2 l[i+1]→Calls Tryz.prog g (#[.agg e1.toArray,.agg e2.toArray]++ar) w' fun e w''=>e=.returned (.int .i64 (c (l[i]'(by omega)) l[i+1]))∧ag w' w'') :
  Calls Tryz.prog 79 #[.slice A l.length cap,.func (.func g) #[] ar] w fun e w'=>e=.returned (.bool (aN c l))∧ag w w':=by
 have hlen:=h.len;have HC:=gH hp;clear hp;by_cases h2:l.length≤1
 ·have HT:=gH (show aN c l=true from (dh c l).2 fun k hk=>by omega)
  have qr:(l.length:Int)≤1:=by omega
  go_enter Tryz.func79,Tryz.ntmps79
  go_wp2_with fail
  all_goals
   go_loop [10] (fun i=>i=.int .i64 0) (fun i=>2 - (intOf i).toNat)
   case atStart=>rfl
   case round =>
    subst hrel;go_wp2_with fail;go_ret;exact ⟨by rw [HT.out];rfl,ag.refl _⟩
 ·have Ki:2≤l.length:=by omega
  have qr:¬ (l.length:Int)≤1:=by omega
  have Kq:(0:Int)≤(l.length:Int) - 1:=by omega
  go_enter Tryz.func79,Tryz.ntmps79
  go_wp2_with fail
  go_loopw [10] (fun i wr=>∃ k:Nat,k≤l.length - 1∧i=.int .i64 k∧ag w wr∧∀ j,j < k→∀ (hj:j+1 < l.length),c (l[j]'(by omega)) l[j+1] < 0) (fun i _=>l.length - (intOf i).toNat)
  case atStart=>exact ⟨0,Nat.zero_le _,rfl,ag.refl _,fun j hj=>absurd hj (Nat.not_lt_zero j)⟩
  case round =>
   obtain ⟨k,hk,rfl,ha,hp⟩:=hrel;have HA:=gH ha;have HP:=gH hp;clear hp;by_cases hlt:k+1 < l.length
   ·have eT:=aQ ha h
    have oF:k < l.length:=by omega
    obtain ⟨b,off,A2,bT,A3,fA,rfl,hb,c0,c1,c2,c3,c4,hs⟩:=jt eT oF;obtain ⟨b',off',Dy,JS,yH,Uv,hA',hb',d0,d1,d2,d3,d4,hs'⟩:=jt eT hlt;simp only [Option.some.injEq,Addr.mk.injEq,and_true] at hA';obtain ⟨rfl,rfl⟩:=hA';obtain ⟨r,hr⟩:∃ r,c (l[k]'(by omega)) l[k+1]=r:=⟨_,rfl⟩;have Cc:=gH (show ∀ x:ii wr,_ from fun x=>hr▸HC.out (bH wr x) (HA.out.bH x) k hlt _ _ (dA.az ((ag.refl wr).bH x) ⟨A2,bT,A3,fA,rfl,hs⟩) (dA.az ((ag.refl wr).bH x) ⟨Dy,JS,yH,Uv,rfl,hs'⟩));have HR:=gH hr;clear ha eT hr;have w1:IntKind.i64.wrap ((k:Int)+1)=(k:Int)+1:=IntWalk.i64_in _ (by omega)
    have w2:(0:Int)≤(k:Int)+1:=by omega
    have w3:((k:Int)+1).toNat=k+1:=by omega
    have w4:(k:Int)+1 < (l.length:Int):=by omega
    by_cases rT:0≤r
    ·skip
     go_wp2_with fail;refine av (by kernel_rfl) (by kernel_rfl) ?_
     repeat (go_big_quiet_step ((exact Calls.bD (Cc.out _))))
     refine wpQuiet_nil ?_;intro _ hw';obtain ⟨x,hw''⟩:=hw';subst hw'';clear w1 w2 w3 w4;go_wp2_with fail;go_ret;exact ⟨by rw [jH c l k hlt (by rw [HR.out];exact rT)];rfl,HA.out.bH x⟩
    ·have hr1:r < 0:=by omega
     go_wp2_with fail;refine av (by kernel_rfl) (by kernel_rfl) ?_
     repeat (go_big_quiet_step ((exact Calls.bD (Cc.out _))))
     refine wpQuiet_nil ?_;intro _ hw';obtain ⟨x,hw''⟩:=hw';subst hw'';clear w1 w2 w3 w4;go_wp2_with fail
     go_roundw
     case rel=>exact ⟨k+1,by omega,by go_num,HA.out.bH x,er (p:=fun j=>∀ (hj:j+1 < l.length),c (l[j]'(by omega)) l[j+1] < 0) HP.out (fun _=>by rw [HR.out];exact hr1)⟩
     case measure=>simp [intOf];omega
   ·have HT:=gH (show aN c l=true from (dh c l).2 fun j hj=>HP.out j (by omega) hj)
    have Uu:¬ (k:Int) < (l.length:Int) - 1:=by omega
    clear ha;go_wp2_with fail;go_ret;exact ⟨by rw [HT.out];rfl,HA.out⟩
def qX {α:Type} (c:α→α→Int) (l:List α):Prop:=∀ k (h:k+1 < l.length),0≤c l[k+1] (l[k]'(by omega))
def NU {α:Type} (c:α→α→Int) (l:List α) (w:World) (e:Ending) (w':World):Prop:=∃ b:Bool,e=.returned (.bool b)∧(b=true↔qX c l)∧ag w w'
theorem Mx (A:Option Addr) (cap:Nat) (l:List ByteArray) (g:FuncId) (ar:Array Value) (c:ByteArray→ByteArray→Int) (w:World) (h:aL w 1 dK A cap l) (bR:∀ (args:Array Value) (w:World),(callFunc g args).run Tryz.prog w=.ok (.enter g args) w)
  (hp:∀ w',ag w w'→∀ i (hi:i+1 < l.length),Calls Tryz.prog g (#[.string l[i+1],.string (l[i]'(by omega))]++ar) w' fun e w''=>e=.returned (.int .i64 (c l[i+1] (l[i]'(by omega))))∧ag w' w'') :
  Calls Tryz.prog 185 #[.slice A l.length cap,.func (.func g) #[] ar] w (NU c l w):=by
 have hlen:=h.len;have HC:=gH hp;clear hp;by_cases h2:l.length≤1
 ·have HT:=gH (show qX c l from fun k hk=>by omega)
  have qr:(l.length:Int)≤1:=by omega
  have Kq:(l.length:Int) - 1≤0:=by omega
  have T7:¬ (0:Int) < (l.length:Int) - 1:=by omega
  have G9:IntKind.i64.wrap ((l.length:Int) - 1)=(l.length:Int) - 1:=IntWalk.i64_in _ (by omega)
  go_enter Tryz.func185,Tryz.ntmps185
  go_wp2_with fail
  go_loop [5] (fun i=>i=.int .i64 ((l.length:Int) - 1)) (fun i=>2)
  case atStart=>rfl
  case round =>
   subst hrel;go_wp2_with fail;go_ret;exact ⟨true,rfl,⟨fun _=>HT.out,fun _=>rfl⟩,ag.refl _⟩
 ·have Ki:2≤l.length:=by omega
  have Kq:(0:Int) < (l.length:Int) - 1:=by omega
  have G9:IntKind.i64.wrap ((l.length:Int) - 1)=(l.length:Int) - 1:=IntWalk.i64_in _ (by omega)
  go_enter Tryz.func185,Tryz.ntmps185
  go_wp2_with fail
  go_loopw [5] (fun i wr=>∃ k:Nat,k≤l.length - 1∧i=.int .i64 k∧ag w wr∧∀ j,k≤j→∀ (hj:j+1 < l.length),0≤c l[j+1] (l[j]'(by omega))) (fun i _=>(intOf i).toNat)
  case atStart=>exact ⟨l.length - 1,by omega,by congr 1;omega,ag.refl _,fun j hj h=>by omega⟩
  case round =>
   obtain ⟨k,hk,rfl,ha,hp⟩:=hrel;have HA:=gH ha;have HP:=gH hp;clear hp;by_cases h0:k=0
   ·subst h0
    have HT:=gH (show qX c l from fun j hj=>HP.out j (by omega) hj);clear ha;go_wp2_with fail;go_ret;exact ⟨true,rfl,⟨fun _=>HT.out,fun _=>rfl⟩,HA.out⟩
   ·obtain ⟨k,rfl⟩:∃ k',k=k'+1:=⟨k - 1,by omega⟩
    have hlt:k+1 < l.length:=by omega
    have eT:=aM ha h
    have oF:k < l.length:=by omega
    obtain ⟨b,off,rfl,hb,c0,hs⟩:=gw eT oF;obtain ⟨b',off',hA',hb',d0,hs'⟩:=gw eT hlt;simp only [Option.some.injEq,Addr.mk.injEq,and_true] at hA';obtain ⟨rfl,rfl⟩:=hA';obtain ⟨r,hr⟩:∃ r,c l[k+1] (l[k]'(by omega))=r:=⟨_,rfl⟩;have Cc:=gH (show ∀ x:ii wr,_ from fun x=>hr▸HC.out (bH wr x) (HA.out.bH x) k hlt);have HR:=gH hr;clear ha eT hr
    have w1:IntKind.i64.wrap (((k+1:Nat):Int) - 1)=(k:Int):=by rw [show ((k+1:Nat):Int) - 1=(k:Int) from by omega];exact IntWalk.i64_in _ (by omega)
    have w5:IntKind.i64.wrap ((k:Int)+1 - 1)=(k:Int):=by rw [show (k:Int)+1 - 1=(k:Int) from by omega];exact IntWalk.i64_in _ (by omega)
    have w2:(0:Int)≤(k:Int)+1:=by omega
    have w3:((k:Int)+1).toNat=k+1:=by omega
    have w4:(k:Int)+1 < (l.length:Int):=by omega
    have w6:(0:Int) < (k:Int)+1:=by omega
    by_cases rT:r < 0
    ·go_wp2_with fail
     refine av (by kernel_rfl) (by kernel_rfl) ?_
     repeat (go_big_quiet_step ((exact Calls.bD (Cc.out _))))
     refine wpQuiet_nil ?_;intro _ hw';obtain ⟨x,hw''⟩:=hw';subst hw'';clear w1 w2 w3 w4 w5 w6;go_wp2_with fail;go_ret;exact ⟨false,rfl,⟨fun h=>Bool.noConfusion h,fun h=>absurd (h k hlt) (by rw [HR.out];omega)⟩,HA.out.bH x⟩
    ·go_wp2_with fail
     refine av (by kernel_rfl) (by kernel_rfl) ?_
     repeat (go_big_quiet_step ((exact Calls.bD (Cc.out _))))
     refine wpQuiet_nil ?_;intro _ hw';obtain ⟨x,hw''⟩:=hw';subst hw'';go_wp2_with fail
     go_roundw
     case rel =>
      refine ⟨k,by omega,by first | rfl | go_num,HA.out.bH x,fun j hj qB=>?_⟩
      rcases Nat.lt_or_ge k j with h1 | h1
      ·exact HP.out j (by omega) qB
      ·have:j=k:=by omega
       subst this;rw [HR.out];omega
     case measure=>simp [intOf]
theorem My (A:Option Addr) (cap:Nat) (l:List em) (g:FuncId) (ar:Array Value) (c:em→em→Int) (w:World) (h:aL w 2 ia A cap l) (bR:∀ (args:Array Value) (w:World),(callFunc g args).run Tryz.prog w=.ok (.enter g args) w)
  (hp:∀ w',ag w w'→∀ i (hi:i+1 < l.length),Calls Tryz.prog g (#[.agg #[.string (l[i+1]).role,.string (l[i+1]).of],.agg #[.string (l[i]'(by omega)).role,.string (l[i]'(by omega)).of]]++ar) w' fun e w''=>e=.returned (.int .i64 (c l[i+1] (l[i]'(by omega))))∧ag w' w'') :
  Calls Tryz.prog 188 #[.slice A l.length cap,.func (.func g) #[] ar] w (NU c l w):=by
 have hlen:=h.len;have HC:=gH hp;clear hp;by_cases h2:l.length≤1
 ·have HT:=gH (show qX c l from fun k hk=>by omega)
  have qr:(l.length:Int)≤1:=by omega
  have Kq:(l.length:Int) - 1≤0:=by omega
  have T7:¬ (0:Int) < (l.length:Int) - 1:=by omega
  have G9:IntKind.i64.wrap ((l.length:Int) - 1)=(l.length:Int) - 1:=IntWalk.i64_in _ (by omega)
  go_enter Tryz.func188,Tryz.ntmps188
  go_wp2_with fail
  go_loop [5] (fun i=>i=.int .i64 ((l.length:Int) - 1)) (fun i=>2)
  case atStart=>rfl
  case round =>
   subst hrel;go_wp2_with fail;go_ret;exact ⟨true,rfl,⟨fun _=>HT.out,fun _=>rfl⟩,ag.refl _⟩
 ·have Ki:2≤l.length:=by omega
  have Kq:(0:Int) < (l.length:Int) - 1:=by omega
  have G9:IntKind.i64.wrap ((l.length:Int) - 1)=(l.length:Int) - 1:=IntWalk.i64_in _ (by omega)
  go_enter Tryz.func188,Tryz.ntmps188
  go_wp2_with fail
  go_loopw [5] (fun i wr=>∃ k:Nat,k≤l.length - 1∧i=.int .i64 k∧ag w wr∧∀ j,k≤j→∀ (hj:j+1 < l.length),0≤c l[j+1] (l[j]'(by omega))) (fun i _=>(intOf i).toNat)
  case atStart=>exact ⟨l.length - 1,by omega,by congr 1;omega,ag.refl _,fun j hj h=>by omega⟩
  case round =>
   obtain ⟨k,hk,rfl,ha,hp⟩:=hrel;have HA:=gH ha;have HP:=gH hp;clear hp;by_cases h0:k=0
   ·subst h0
    have HT:=gH (show qX c l from fun j hj=>HP.out j (by omega) hj);clear ha;go_wp2_with fail;go_ret;exact ⟨true,rfl,⟨fun _=>HT.out,fun _=>rfl⟩,HA.out⟩
   ·obtain ⟨k,rfl⟩:∃ k',k=k'+1:=⟨k - 1,by omega⟩
    have hlt:k+1 < l.length:=by omega
    have eT:=bJ ha h
    have oF:k < l.length:=by omega
    obtain ⟨b,off,rfl,hb,c0,c1,hs,hs2⟩:=ku eT oF;obtain ⟨b',off',hA',hb',d0,d1,hs',JR⟩:=ku eT hlt;simp only [Option.some.injEq,Addr.mk.injEq,and_true] at hA';obtain ⟨rfl,rfl⟩:=hA';obtain ⟨r,hr⟩:∃ r,c l[k+1] (l[k]'(by omega))=r:=⟨_,rfl⟩;have Cc:=gH (show ∀ x:ii wr,_ from fun x=>hr▸HC.out (bH wr x) (HA.out.bH x) k hlt);have HR:=gH hr;clear ha eT hr
    have w1:IntKind.i64.wrap (((k+1:Nat):Int) - 1)=(k:Int):=by rw [show ((k+1:Nat):Int) - 1=(k:Int) from by omega];exact IntWalk.i64_in _ (by omega)
    have w5:IntKind.i64.wrap ((k:Int)+1 - 1)=(k:Int):=by rw [show (k:Int)+1 - 1=(k:Int) from by omega];exact IntWalk.i64_in _ (by omega)
    have w2:(0:Int)≤(k:Int)+1:=by omega
    have w3:((k:Int)+1).toNat=k+1:=by omega
    have w4:(k:Int)+1 < (l.length:Int):=by omega
    have w6:(0:Int) < (k:Int)+1:=by omega
    by_cases rT:r < 0
    ·go_wp2_with fail
     refine av (by kernel_rfl) (by kernel_rfl) ?_
     repeat (go_big_quiet_step ((exact Calls.bD (Cc.out _))))
     refine wpQuiet_nil ?_;intro _ hw';obtain ⟨x,hw''⟩:=hw';subst hw'';clear w1 w2 w3 w4 w5 w6;go_wp2_with fail;go_ret;exact ⟨false,rfl,⟨fun h=>Bool.noConfusion h,fun h=>absurd (h k hlt) (by rw [HR.out];omega)⟩,HA.out.bH x⟩
    ·go_wp2_with fail
     refine av (by kernel_rfl) (by kernel_rfl) ?_
     repeat (go_big_quiet_step ((exact Calls.bD (Cc.out _))))
     refine wpQuiet_nil ?_;intro _ hw';obtain ⟨x,hw''⟩:=hw';subst hw'';go_wp2_with fail
     go_roundw
     case rel =>
      refine ⟨k,by omega,by first | rfl | go_num,HA.out.bH x,fun j hj qB=>?_⟩
      rcases Nat.lt_or_ge k j with h1 | h1
      ·exact HP.out j (by omega) qB
      ·have:j=k:=by omega
       subst this;rw [HR.out];omega
     case measure=>simp [intOf]
def eV (a b:em):Int:=iQ (bw a.role b.role) (bw a.of b.of)
theorem CX (a b:em) (w:World) :
  Calls Tryz.prog 116 #[.agg #[.string a.role,.string a.of],.agg #[.string b.role,.string b.of]] w fun e w'=>e=.returned (.int .i64 (eV a b))∧ag w w':=by
 go_enter Tryz.func116,Tryz.ntmps116
 go_wp2_with fail;refine mE 10 (by kernel_rfl) (by kernel_rfl) ?_;intro w1 a1;obtain ⟨hb1,hb2,hz,HA⟩:=jc a1;clear a1;simp only [List.take_succ_cons,List.take_zero,List.drop_succ_cons,List.drop_zero]
 repeat still_step
 still_call (dJ _ _ _)
 repeat still_step
 still_call (dJ _ _ _)
 refine wpStill_nil ?_;go_wp2_with fail;refine (JQ (bw a.role b.role) (bw a.of b.of) w1.heap.size _ (by simp) (by simp) (by simp)).mono ?_;rintro e w2 ⟨rfl,a2⟩;have fx:=gH ((HA.out.alloc _).trans a2);clear a2;go_wp2_with fail;go_ret;exact ⟨rfl,fx.out⟩
end Go.Proofs.YtmflccbnoeaafaaGreat
namespace Go.Proofs.YtmflccbnoeaafaaGreat
open Go.RowKit Go.Deep
set_option maxRecDepth 100000
set_option linter.unusedVariables false
set_option maxHeartbeats 64000000
def fu:List Value→Nat→List Value→List Value
 | xs,_,[]=>xs
 | xs,o,v::r=>fu (xs.set o v) (o+1) r
theorem eP:∀ (vs xs:List Value) (o:Nat),(fu xs o vs).length=xs.length
 | [],xs,o=>rfl
 | v::r,xs,o=>by rw [fu,eP r];simp
theorem lF:∀ (vs xs:List Value) (o:Nat),o+vs.length≤xs.length→fu xs o vs=xs.take o++vs++xs.drop (o+vs.length)
 | [],xs,o,h=>by simp [fu]
 | v::r,xs,o,h=>by
  simp only [List.length_cons] at h;rw [fu,lF r (xs.set o v) (o+1) (by simp;omega)]
  have e1:(xs.set o v).take (o+1)=xs.take o++[v]:=by
   rw [List.take_succ_eq_append_getElem (by simp;omega)];simp [List.take_set_of_le]
  have e2:(xs.set o v).drop (o+1+r.length)=xs.drop (o+(r.length+1)):=by
   rw [List.drop_set_of_lt (by omega)]
   congr 1;omega
  rw [e1,e2];simp
theorem bG {B size n:Nat} {e:TypeId} {v:Value} {g:Nat} (hg:v.ownBlock=some g):∀ (vs:List Value) {w:World} {xs:List Value} (o:Nat),w.ownsRow B e size v n xs→(w.setCells g o vs).ownsRow B e size v n (fu xs o vs)
 | [],w,xs,o,h=>h
 | u::r,w,xs,o,h=>bG hg r (o+1) (fB h hg o u)
theorem bA (g:Nat):∀ (vs:List Value) (w:World) (o:Nat),Kb (fun k=>k=g) w (w.setCells g o vs)
 | [],w,o=>Kb.refl _ _
 | u::r,w,o=>(Kb.set w g o u).trans (bA g r _ (o+1))
theorem xi {w:World} {B size n m cap:Nat} {e:TypeId} {A:Option Addr} {xs:List Value} (h:w.ownsRow B e size (.slice A n cap) n xs) (hm:m≤n):w.ownsRow B e size (.slice A m cap) m (xs.take (m*size)):=by
 have hl:m*size≤n*size:=Nat.mul_le_mul_right _ hm;refine ⟨by rw [List.length_take,h.1];omega,?_⟩
 rcases h.2 with ⟨hv,hn⟩ | ⟨g,cap',cur,hv,hb,nv,mo,hcm,hcs,Ax⟩
 ·simp only [Value.slice.injEq] at hv
  exact .inl ⟨by rw [hv.1,hv.2.2];congr 1;omega,by omega⟩
 ·simp only [Value.slice.injEq,true_and] at hv
  refine .inr ⟨g,cap',cur,by rw [hv.1,hv.2],hb,nv,by omega,hcm,hcs,?_⟩;rw [← Ax,List.take_take]
  congr 1;omega
theorem uJ (z:Array Value):(Builtin.zeroCells z 1).toList=z.toList:=by
 simp only [Builtin.zeroCells,Nat.one_mul];apply List.ext_getElem
 ·simp
 ·intro i h1 h2
  have hi:i < z.size:=by simpa using h2
  simp [Nat.mod_eq_of_lt hi,getElem!_pos z i hi]
theorem fU {P:Program} (w:World) (t e ty:TypeId) (z:Value) (ht:P.underlying t=some (.slice e)) (hv:∀ w,(zeroValue e).run P w=.ok z w) (h1:∀ u∈z.cells.toList,u.oneCell'=true) (b o c:Nat)
  (hc:∀ j,j < z.cells.toList.length→(w.cell? ⟨b,o+j,none⟩).isSome=true) (hf:∀ j,j < z.cells.toList.length→w.frozen? ⟨b,o+j,none⟩=false) :
  (Builtin.clear_ #[t] ty #[.slice (some ⟨b,o,none⟩) 1 c]).run P w=.ok (.tuple #[]) (w.setCells b o z.cells.toList):=by
 have hst:=run_storeCells_cells (P:=P) b o z.cells.toList 0 w (by simpa using hc) (by simpa using hf) h1;simp only [Nat.add_zero] at hst;simp only [Builtin.clear_,List.getElem?_toArray,List.getElem?_cons_zero,Sem.run_bind,run_underlying ht,Result.andThen_ok,hv,uJ,hst,Sem.run_pure]
theorem fI {α:Type} {f:α→List Value} {size:Nat} (hf:∀ x,(f x).length=size) (l:List α) (i:Nat):(l.flatMap f).take (i*size)=(l.take i).flatMap f:=by
 induction l generalizing i with
 | nil=>simp
 | cons x l ih =>
  cases i with
  | zero=>simp
  | succ i =>
   have e:(i+1)*size=(f x).length+i*size:=by rw [hf,Nat.succ_mul];omega
   rw [List.flatMap_cons,e,List.take_length_add_append,ih];simp
theorem iI {α:Type} {f:α→List Value} {size:Nat} (hf:∀ x,(f x).length=size) (l:List α) (i:Nat):(l.flatMap f).drop (i*size)=(l.drop i).flatMap f:=by
 induction l generalizing i with
 | nil=>simp
 | cons x l ih =>
  cases i with
  | zero=>simp
  | succ i =>
   have e:(i+1)*size=(f x).length+i*size:=by rw [hf,Nat.succ_mul];omega
   rw [List.flatMap_cons,e,List.drop_length_add_append,ih];simp
theorem fS {α:Type} {f:α→List Value} {size:Nat} (hf:∀ x,(f x).length=size) (l:List α) (i:Nat):(l.flatMap f).take (i*size)++(l.flatMap f).drop ((i+1)*size)=(l.eraseIdx i).flatMap f:=by
 rw [fI hf,iI hf,List.eraseIdx_eq_take_drop_succ,List.flatMap_append]
def si (ty:TypeId) (size:Nat) (w:World) (B g cap i m:Nat) (xs:List Value) (e:Ending) (w':World):Prop :=
 e=.returned (.slice (some ⟨g,0,none⟩) (i+m) cap)∧w'.ownsRow B ty size (.slice (some ⟨g,0,none⟩) (i+m) cap) (i+m) (xs.take (i*size)++xs.drop ((i+1)*size))∧Kb (fun k=>k=g) w w'
theorem nO {w:World} {B size g cap i m:Nat} {e:TypeId} {xs z:List Value} (ho:w.ownsRow B e size (.slice (some ⟨g,0,none⟩) (i+1+m) cap) (i+1+m) xs) (hz:z.length=size) :
  ((w.setCells g (i*size) (xs.drop ((i+1)*size))).setCells g ((i+m)*size) z).ownsRow B e size (.slice (some ⟨g,0,none⟩) (i+m) cap) (i+m) (xs.take (i*size)++xs.drop ((i+1)*size)):=by
 have hx:=ho.1
 have e0:(i+1+m)*size=i*size+size+m*size:=by rw [Nat.add_mul,Nat.succ_mul]
 have e1:(i+1)*size=i*size+size:=Nat.succ_mul _ _;have e2:(i+m)*size=i*size+m*size:=Nat.add_mul _ _ _;have h1:=bG (g:=g) rfl z ((i+m)*size) (bG (g:=g) rfl (xs.drop ((i+1)*size)) (i*size) ho);have h2:=xi h1 (m:=i+m) (by omega)
 have hd:(xs.drop ((i+1)*size)).length=m*size:=by rw [List.length_drop,hx];omega
 have e3:(fu (fu xs (i*size) (xs.drop ((i+1)*size))) ((i+m)*size) z).take ((i+m)*size)=xs.take (i*size)++xs.drop ((i+1)*size):=by
  rw [lF z _ _ (by rw [eP,hx,hz];omega),List.append_assoc,List.take_append_of_le_length (by rw [List.length_take,eP,hx];omega),List.take_take,Nat.min_self,lF _ _ _ (by rw [hd,hx];omega)];rw [List.take_append_of_le_length (by rw [List.length_append,hd,List.length_take,hx];omega)];rw [List.take_of_length_le (by rw [List.length_append,hd,List.length_take,hx];omega)]
 rw [e3] at h2;exact h2
end Go.Proofs.YtmflccbnoeaafaaGreat
namespace Go.Proofs.YtmflccbnoeaafaaGreat
open Go.RowKit
set_option maxRecDepth 100000
set_option linter.unusedVariables false
set_option maxHeartbeats 64000000
theorem ed (z:Array Value) (n:Nat):(Builtin.zeroCells z n).toList.length=n*z.size:=by simp [Builtin.zeroCells]
theorem uK {z:Array Value} {n:Nat} {u:Value} (h:u∈(Builtin.zeroCells z n).toList):u∈z.toList:=by
 simp only [Builtin.zeroCells] at h;obtain ⟨i,hi,rfl⟩:=List.getElem_of_mem h
 have qr:i < n*z.size:=by simpa using hi
 have hz:0 < z.size:=by
  rcases Nat.eq_zero_or_pos z.size with h | h
  ·rw [h] at qr;simp at qr
  ·exact h
 simp [getElem!_pos z (i % z.size) (Nat.mod_lt _ hz)]
theorem kL {P:Program} (w:World) (t e ty:TypeId) (z:Value) (ht:P.underlying t=some (.slice e)) (hv:∀ w,(zeroValue e).run P w=.ok z w) (h1:∀ u∈z.cells.toList,u.oneCell'=true) (b o c n:Nat) (hn:0 < n)
  (hc:∀ j,j < n*z.cells.size→(w.cell? ⟨b,o+j,none⟩).isSome=true) (hf:∀ j,j < n*z.cells.size→w.frozen? ⟨b,o+j,none⟩=false) :
  (Builtin.clear_ #[t] ty #[.slice (some ⟨b,o,none⟩) n c]).run P w=.ok (.tuple #[]) (w.setCells b o (Builtin.zeroCells z.cells n).toList):=by
 have hst:=run_storeCells_cells (P:=P) b o (Builtin.zeroCells z.cells n).toList 0 w (by rw [ed];simpa using hc) (by rw [ed];simpa using hf) (fun u hu=>h1 u (uK hu));simp only [Nat.add_zero] at hst;obtain ⟨m,rfl⟩:∃ m,n=m+1:=⟨n - 1,by omega⟩;simp only [Builtin.clear_,List.getElem?_toArray,List.getElem?_cons_zero,Sem.run_bind,run_underlying ht,Result.andThen_ok,hv,hst,Sem.run_pure]
end Go.Proofs.YtmflccbnoeaafaaGreat
namespace Go.Proofs.YtmflccbnoeaafaaGreat
open Go.RowKit Go.Deep
set_option maxRecDepth 100000
set_option linter.unusedVariables false
set_option maxHeartbeats 64000000
def nk {α:Type} (q:α→α→Bool) (l:List α):Prop:=∀ k (h:k+1 < l.length),q l[k+1] (l[k]'(by omega))=false
def NV {α:Type} (q:α→α→Bool) (l:List α) (v:Value) (w:World) (e:Ending) (w':World):Prop :=
 ∃ A m c,e=.returned (.slice A m c)∧(m=l.length↔nk q l)∧Kb (fN v) w w'
structure fh {α:Type} (ty:TypeId) (size:Nat) (cells:α→List Value) (sm:α→Prop) (w wr:World) (B g cap n:Nat) (l:List α):Prop where
 own:wr.ownsRow B ty size (.slice (some ⟨g,0,none⟩) n cap) n (l.flatMap cells)
 len:l.length=n
 sm:∀ x∈l,sm x
 kb:Kb (fun k=>k=g) w wr
theorem fh.az {α:Type} {ty:TypeId} {size:Nat} {cells:α→List Value} {sm:α→Prop} {w wr wr':World} {B g cap n:Nat} {l:List α} (h:fh ty size cells sm w wr B g cap n l) (a:ag wr wr'):fh ty size cells sm w wr' B g cap n l:=⟨bu h.own a,h.len,h.sm,h.kb.trans (Kb.aH a)⟩
theorem vZ {w wr:World} {B g cap n m i:Nat} {l:List ByteArray} (h:fh 9 1 bY (fun x:ByteArray=>Small x.size) w wr B g cap n l) (hm:m < l.length) (hi:i < l.length):fh 9 1 bY (fun x:ByteArray=>Small x.size) w (wr.setCell ⟨g,m*1,none⟩ (.string (l[i]))) B g cap n (l.set m l[i]):=by
 refine ⟨?_,by rw [List.length_set];exact h.len,fun x hx=>?_,?_⟩
 ·have h1:=fB h.own (g:=g) rfl (m*1) (.string l[i])
  rwa [← Nat.add_zero (m*1),dm (f:=bY) (fun _=>rfl) l m 0 hm (by decide) (.string l[i]) l[i] rfl,Nat.add_zero] at h1
 ·rcases List.mem_or_eq_of_mem_set hx with h1 | h1
  ·exact h.sm x h1
  ·subst h1;exact h.sm _ (List.getElem_mem hi)
 ·exact h.kb.trans (Kb.set _ _ _ _)
theorem t8 {w wr:World} {B g cap n:Nat} {l:List ByteArray} (h:fh 9 1 bY (fun x:ByteArray=>Small x.size) w wr B g cap n l) (hs:Small (n*16)):aL wr 1 dK (some ⟨g,0,none⟩) cap l:=by
 have ho:=h.own;have hl:=h.len;subst hl;exact en (h:=⟨some ⟨g,0,none⟩,l.length,cap⟩) bY ho (fun x hx=>⟨rfl,rfl,h.sm x hx⟩) hs
theorem Uw (v:Value) (l:List ByteArray) (g:FuncId) (ar:Array Value) (q:ByteArray→ByteArray→Bool) (B:Nat) (w:World) (ho:w.ownsRow B 9 1 v l.length (l.flatMap bY)) (hs:Small (l.length*16)) (iu:∀ A n c,v=.slice A n c→c≤9223372036854775807) (sm:∀ x∈l,(fun x:ByteArray=>Small x.size) x) (bR:∀ (args:Array Value) (w:World),(callFunc g args).run Tryz.prog w=.ok (.enter g args) w)
  (hq:∀ w',Kb (fN v) w w'→∀ x y:ByteArray,Calls Tryz.prog g (#[.string (x),.string (y)]++ar) w' fun e w''=>e=.returned (.bool (q x y))∧ag w' w'') :
  Calls Tryz.prog 186 #[v,.func (.func g) #[] ar] w (NV q l v w):=by
 have hlen:l.length*16≤140737488351232:=hs;by_cases h2:l.length < 2
 ·obtain ⟨A,cap,hv⟩:=dw ho
  subst hv;have HT:=gH (show nk q l from fun k h=>by omega)
  have qr:(l.length:Int) < 2:=by omega
  go_enter Tryz.func186,Tryz.ntmps186
  go_wp2_with fail;go_ret;exact ⟨_,_,_,rfl,⟨fun _=>HT.out,fun _=>rfl⟩,Kb.refl _ _⟩
 ·obtain ⟨g0,cap,hv,se,mo,hr⟩:=aR ho (by omega)
  subst hv;have iu:=iu _ _ _ rfl;have hI:fh 9 1 bY (fun x:ByteArray=>Small x.size) w w B g0 cap l.length l:=⟨ho,rfl,sm,Kb.refl _ _⟩
  have BZ:∀ w1 w2:World,Kb (fun k=>k=g0) w1 w2→Kb (fN (.slice (some ⟨g0,0,none⟩) l.length cap)) w1 w2:=fun w1 w2 k=>k.mono fun g _ e=>by subst e;rfl
  have HQ:=gH (show ∀ w',Kb (fun k=>k=g0) w w'→_ from fun w' k=>hq w' (BZ _ _ k));have HI:=gH hI;have eT:=t8 hI hs
  have qr:¬ (l.length:Int) < 2:=by omega
  have Gn:=gH eT;clear hq hI ho hr sm
  go_enter Tryz.func186,Tryz.ntmps186
  go_wp2_with fail
  go_loopw [5] (fun i wr=>∃ k:Nat,0 < k∧k≤l.length∧i=.int .i64 k∧ag w wr∧∀ j,j+1 < k→∀ (hj:j+1 < l.length),q l[j+1] (l[j]'(by omega))=false) (fun i _=>l.length - (intOf i).toNat)
  case atStart=>exact ⟨1,by omega,by omega,rfl,ag.refl _,fun j hj h=>by omega⟩
  case round =>
   obtain ⟨k,xH,hk,rfl,ha,hp⟩:=hrel;have HA:=gH ha;have HP:=gH hp;clear hp;by_cases hlt:k < l.length
   ·obtain ⟨k,rfl⟩:∃ k',k=k'+1:=⟨k - 1,by omega⟩
    have kW:=Gn.out.az ha fun _ _ h=>h
    have oF:k < l.length:=by omega
    obtain ⟨b,off,vR,hb,c0,hs⟩:=gw kW oF;obtain ⟨b',off',hA',hb',d0,hs'⟩:=gw kW hlt;simp only [Option.some.injEq,Addr.mk.injEq,and_true] at vR hA';obtain ⟨rfl,rfl⟩:=vR;obtain ⟨rfl,rfl⟩:=hA';simp only [Nat.zero_add] at c0 d0;obtain ⟨r,hr⟩:∃ r,q l[k+1] (l[k]'(by omega))=r:=⟨_,rfl⟩;have Cc:=gH (show ∀ x:ii wr,_ from fun x=>hr▸HQ.out (bH wr x) (Kb.aH (HA.out.bH x)) l[k+1] (l[k]'(by omega)));have HR:=gH hr;clear ha eT kW hr
    have w1:IntKind.i64.wrap (((k+1:Nat):Int) - 1)=(k:Int):=by rw [show ((k+1:Nat):Int) - 1=(k:Int) from by omega];exact IntWalk.i64_in _ (by omega)
    have w5:IntKind.i64.wrap ((k:Int)+1 - 1)=(k:Int):=by rw [show (k:Int)+1 - 1=(k:Int) from by omega];exact IntWalk.i64_in _ (by omega)
    have w2:(0:Int)≤(k:Int)+1:=by omega
    have w3:((k:Int)+1).toNat=k+1:=by omega
    have w4:(k:Int)+1 < (l.length:Int):=by omega
    cases r
    ·go_wp2_with fail
     refine av (by kernel_rfl) (by kernel_rfl) ?_
     repeat (go_big_quiet_step ((exact Calls.bD (Cc.out _))))
     refine wpQuiet_nil ?_;intro _ hw';obtain ⟨x,hw''⟩:=hw';subst hw'';clear w1 w2 w3 w4 w5;go_wp2_with fail
     go_roundw
     case rel =>
      refine ⟨k+1+1,by omega,by omega,by go_num,HA.out.bH x,fun j hj qB=>?_⟩
      rcases Nat.lt_or_ge j k with h1 | h1
      ·exact HP.out j (by omega) qB
      ·have:j=k:=by omega
       subst this;exact HR.out
     case measure=>simp [intOf];omega
    ·have gA:¬ cap=k+1:=by omega
     go_wp2_with fail;refine av (by kernel_rfl) (by kernel_rfl) ?_
     repeat (go_big_quiet_step ((exact Calls.bD (Cc.out _))))
     refine wpQuiet_nil ?_;intro _ hw';obtain ⟨x,hw''⟩:=hw';subst hw'';clear w1 w2 w3 w4 w5;go_wp2_with fail;obtain ⟨n2,uk⟩:∃ n2,l.length - (k+1)=n2:=⟨_,rfl⟩;rw [uk];have HN:=gH (And.intro uk (And.intro hlt (And.intro mo iu)));have X9:=gH (HI.out.az (HA.out.bH x));clear uk c0 d0 hs hs'
     go_loopw [5,7] (fun u5 u7 wr2=>∃ (m k2:Nat) (l':List ByteArray),0 < k2∧k2≤n2∧m < k+1+k2∧u5=.int .i64 m∧u7=.int .i64 k2∧fh 9 1 bY (fun x:ByteArray=>Small x.size) w wr2 B g0 cap l.length l') (fun _ u7 _=>n2 - (intOf u7).toNat)
     case atStart=>exact ⟨k+1,1,l,by omega,by have:=HN.out.1;omega,by omega,rfl,rfl,X9.out⟩
     case round =>
      obtain ⟨m,k2,l',Ya,hk2,hm,rfl,rfl,hI⟩:=hrel;have uk:=HN.out.1
      have Oc:m < l.length:=by omega
      have HJ:=gH hI;have rQ:=hI.len;by_cases jF:k2 < n2
      ·obtain ⟨k3,rfl⟩:∃ k',k2=k'+1:=⟨k2 - 1,by omega⟩
       have CZ:=t8 hI hs
       have ra:k+1+(k3+1) < l'.length:=by omega
       have eU:k+1+k3 < l'.length:=by omega
       obtain ⟨b,off,vR,hb0,c0,hs⟩:=gw CZ eU;obtain ⟨b',off',hA',hb1,d0,hs'⟩:=gw CZ ra;simp only [Option.some.injEq,Addr.mk.injEq,and_true] at vR hA';obtain ⟨rfl,rfl⟩:=vR;obtain ⟨rfl,rfl⟩:=hA';simp only [Nat.zero_add] at c0 d0;obtain ⟨x1,hx1⟩:∃ x1,l'[k+1+(k3+1)]=x1:=⟨_,rfl⟩;obtain ⟨x0,hx0⟩:∃ x0,l'[k+1+k3]=x0:=⟨_,rfl⟩;rw [hx0] at c0 hs;rw [hx1] at d0 hs';obtain ⟨r,hr⟩:∃ r,q x1 x0=r:=⟨_,rfl⟩;have Yb:=gH (show ∀ y:ii wr,_ from fun y=>hr▸HQ.out (bH wr y) (hI.kb.trans (Kb.aH ((ag.refl wr).bH y))) x1 x0);have HX:=gH hx1
       have w1:IntKind.i64.wrap (((k3+1:Nat):Int) - 1)=(k3:Int):=by rw [show ((k3+1:Nat):Int) - 1=(k3:Int) from by omega];exact IntWalk.i64_in _ (by omega)
       have w5:IntKind.i64.wrap ((k3:Int)+1 - 1)=(k3:Int):=by rw [show (k3:Int)+1 - 1=(k3:Int) from by omega];exact IntWalk.i64_in _ (by omega)
       have w2:(0:Int)≤(k3:Int)+1:=by omega
       have w3:((k3:Int)+1).toNat=k3+1:=by omega
       have w4:(k3:Int)+1 < (n2:Int):=by omega
       have w6:(k3:Int) < (n2:Int):=by omega
       clear hI CZ hr hx0 hx1 uk;go_wp2_with fail;refine av (by kernel_rfl) (by kernel_rfl) ?_
       repeat (go_big_quiet_step ((exact Calls.bD (Yb.out _))))
       refine wpQuiet_nil ?_;intro _ hw';obtain ⟨y,hw''⟩:=hw';subst hw'';clear w1 w5
       cases r
       ·obtain ⟨F,hF⟩:∃ F,F=bH wr y:=⟨_,rfl⟩
        have I3:=gH (show fh 9 1 bY (fun x:ByteArray=>Small x.size) w F B g0 cap l.length l' from hF▸HJ.out.az ((ag.refl wr).bH y));obtain ⟨_,_,i5,_,_,km⟩:=aR I3.out.own (by omega);simp only [Value.slice.injEq,true_and,Option.some.injEq,Addr.mk.injEq,and_true] at i5;obtain ⟨rfl,rfl⟩:=i5
        have fq:(l'.flatMap bY).length=l.length*1:=by rw [ce (size:=1) (fun _=>rfl),rQ]
        obtain ⟨u0,z0⟩:∃ u,F.cell? ⟨g0,m,none⟩=some u:=⟨_,by rw [km.2.1 m (by rw [fq];omega),List.getElem?_eq_getElem (by rw [fq];omega)]⟩;have z1:F.frozen? ⟨g0,m,none⟩=false:=km.2.2 m (by rw [fq];omega);have z2:g0 < F.heap.size:=km.1
        have z3:F.cell? ⟨g0,k+1+(k3+1),none⟩=some (.string x1):=by rw [hF];exact ((ag.refl wr).bH y).cell_kept d0
        rw [← hF];clear hF;clear km fq
        have B0:=gH (show fh 9 1 bY (fun x:ByteArray=>Small x.size) w (F.setCell ⟨g0,m,none⟩ (.string (x1))) B g0 cap l.length (l'.set m l'[k+1+(k3+1)]) from by
         have:=vZ I3.out (m:=m) (i:=k+1+(k3+1)) (by omega) ra;rw [HX.out] at this ⊢
         simpa using this)
        clear w2 w3 w4 w6;go_wp2_with fail
        go_roundw
        case rel=>exact ⟨m+1,k3+1+1,_,by omega,by omega,by omega,by go_num,by go_num,B0.out⟩
        case measure=>simp [intOf];omega
       ·clear w2 w3 w4 w6
        go_wp2_with fail
        go_roundw
        case rel=>exact ⟨m,k3+1+1,l',by omega,by omega,by omega,rfl,by go_num,HJ.out.az ((ag.refl wr).bH y)⟩
        case measure=>simp [intOf];omega
      ·have hcm:¬ cap=m:=by omega
       obtain ⟨_,_,i5,_,_,km⟩:=aR hI.own (by omega);simp only [Value.slice.injEq,true_and,Option.some.injEq,Addr.mk.injEq,and_true] at i5;obtain ⟨rfl,rfl⟩:=i5
       have fq:(l'.flatMap bY).length=l.length*1:=by rw [ce (size:=1) (fun _=>rfl),rQ]
       have qY:∀ w:World,(zeroValue 9).run Tryz.prog w=.ok (.string ByteArray.empty) w:=fun w=>by kernel_rfl
       obtain ⟨n3,uL⟩:∃ n3,l.length - m=n3:=⟨_,rfl⟩
       have nu:∀ ty,(Builtin.clear_ #[26] ty #[.slice (some ⟨g0,m*1,none⟩) n3 (cap - m)]).run Tryz.prog wr=.ok (.tuple #[]) (wr.setCells g0 (m*1) (Builtin.zeroCells (.string ByteArray.empty:Value).cells n3).toList):=fun ty=>by
        refine kL wr _ _ ty _ Tryz.underlying26 qY (by intro u hu;have hu:u∈([.string ByteArray.empty]:List Value):=hu;simp only [List.mem_cons,List.not_mem_nil,or_false] at hu;subst hu;rfl) g0 (m*1) (cap - m) n3 (by omega) (fun j hj=>?_) (fun j hj=>?_)
        ·have hj':j < n3*1:=hj
         have hl:m*1+j < (l'.flatMap bY).length:=by rw [fq];omega
         rw [km.2.1 _ hl,List.getElem?_eq_getElem hl];rfl
        ·have hj':j < n3*1:=hj
         exact km.2.2 _ (by rw [fq];omega)
       obtain ⟨Z,hZ⟩:∃ Z,Z=wr.setCells g0 (m*1) (Builtin.zeroCells (.string ByteArray.empty:Value).cells n3).toList:=⟨_,rfl⟩;have HZ:=gH (show Kb (fun k=>k=g0) w Z from hZ▸hI.kb.trans (bA g0 _ _ _));rw [← hZ,← uL] at nu;simp only [Nat.mul_one] at nu;have HF:=gH (show ¬ m=l.length∧¬ nk q l from ⟨by omega,fun h=>by have:=h k HN.out.2.1;rw [HR.out] at this;cases this⟩);have Qp:=gH BZ
       have k3:(m:Int)≤(l.length:Int):=by omega
       have k5:(l.length:Int)≤(cap:Int):=by omega
       have k6:(m:Int)≤(cap:Int):=by omega
       clear hI km fq qY hZ uL uk BZ;go_wp2_with fail;go_ret;exact ⟨_,_,_,rfl,⟨fun h=>absurd h HF.out.1,fun h=>absurd h HF.out.2⟩,Qp.out _ _ HZ.out⟩
   ·have HT:=gH (show nk q l from fun j hj=>HP.out j (by omega) hj)
    clear ha;go_wp2_with fail;go_ret;exact ⟨_,_,_,rfl,⟨fun _=>HT.out,fun _=>rfl⟩,Kb.aH HA.out⟩
theorem F8 {w wr:World} {B g cap n m i:Nat} {l:List em} (h:fh 103 2 fP (fun x:em=>Small x.role.size∧Small x.of.size) w wr B g cap n l) (hm:m < l.length) (hi:i < l.length):fh 103 2 fP (fun x:em=>Small x.role.size∧Small x.of.size) w ((wr.setCell ⟨g,m*2,none⟩ (.string (l[i]).role)).setCell ⟨g,m*2+1,none⟩ (.string (l[i]).of)) B g cap n (l.set m l[i]):=by
 refine ⟨?_,by rw [List.length_set];exact h.len,fun x hx=>?_,?_⟩
 ·have h1:=fB (fB h.own (g:=g) rfl (m*2) (.string l[i].role)) (g:=g) rfl (m*2+1) (.string l[i].of)
  rw [show (l.flatMap fP).set (m*2) (.string l[i].role)=(l.set m ⟨l[i].role,l[m].of⟩).flatMap fP from dm (f:=fP) (size:=2) (fun _=>rfl) l m 0 hm (by decide) (.string l[i].role) ⟨l[i].role,l[m].of⟩ rfl,
   dm (f:=fP) (size:=2) (fun _=>rfl) (l.set m ⟨l[i].role,l[m].of⟩) m 1 (by simpa using hm) (by decide) (.string l[i].of) l[i] (by simp [fP])] at h1
  simpa using h1
 ·rcases List.mem_or_eq_of_mem_set hx with h1 | h1
  ·exact h.sm x h1
  ·subst h1;exact h.sm _ (List.getElem_mem hi)
 ·exact h.kb.trans ((Kb.set _ _ _ _).trans (Kb.set _ _ _ _))
theorem Ab {w wr:World} {B g cap n:Nat} {l:List em} (h:fh 103 2 fP (fun x:em=>Small x.role.size∧Small x.of.size) w wr B g cap n l) (hs:Small (n*16)):aL wr 2 ia (some ⟨g,0,none⟩) cap l:=by
 have ho:=h.own;have hl:=h.len;subst hl;exact en (h:=⟨some ⟨g,0,none⟩,l.length,cap⟩) fP ho (fun x hx=>⟨rfl,rfl,h.sm x hx⟩) hs
theorem Ux (v:Value) (l:List em) (g:FuncId) (ar:Array Value) (q:em→em→Bool) (B:Nat) (w:World) (ho:w.ownsRow B 103 2 v l.length (l.flatMap fP)) (hs:Small (l.length*16)) (iu:∀ A n c,v=.slice A n c→c≤9223372036854775807) (sm:∀ x∈l,(fun x:em=>Small x.role.size∧Small x.of.size) x) (bR:∀ (args:Array Value) (w:World),(callFunc g args).run Tryz.prog w=.ok (.enter g args) w)
  (hq:∀ w',Kb (fN v) w w'→∀ x y:em,Calls Tryz.prog g (#[.agg #[.string (x).role,.string (x).of],.agg #[.string (y).role,.string (y).of]]++ar) w' fun e w''=>e=.returned (.bool (q x y))∧ag w' w'') :
  Calls Tryz.prog 189 #[v,.func (.func g) #[] ar] w (NV q l v w):=by
 have hlen:l.length*16≤140737488351232:=hs;by_cases h2:l.length < 2
 ·obtain ⟨A,cap,hv⟩:=dw ho
  subst hv;have HT:=gH (show nk q l from fun k h=>by omega)
  have qr:(l.length:Int) < 2:=by omega
  go_enter Tryz.func189,Tryz.ntmps189
  go_wp2_with fail;go_ret;exact ⟨_,_,_,rfl,⟨fun _=>HT.out,fun _=>rfl⟩,Kb.refl _ _⟩
 ·obtain ⟨g0,cap,hv,se,mo,hr⟩:=aR ho (by omega)
  subst hv;have iu:=iu _ _ _ rfl;have hI:fh 103 2 fP (fun x:em=>Small x.role.size∧Small x.of.size) w w B g0 cap l.length l:=⟨ho,rfl,sm,Kb.refl _ _⟩
  have BZ:∀ w1 w2:World,Kb (fun k=>k=g0) w1 w2→Kb (fN (.slice (some ⟨g0,0,none⟩) l.length cap)) w1 w2:=fun w1 w2 k=>k.mono fun g _ e=>by subst e;rfl
  have HQ:=gH (show ∀ w',Kb (fun k=>k=g0) w w'→_ from fun w' k=>hq w' (BZ _ _ k));have HI:=gH hI;have eT:=Ab hI hs
  have qr:¬ (l.length:Int) < 2:=by omega
  have Gn:=gH eT;clear hq hI ho hr sm
  go_enter Tryz.func189,Tryz.ntmps189
  go_wp2_with fail
  go_loopw [5] (fun i wr=>∃ k:Nat,0 < k∧k≤l.length∧i=.int .i64 k∧ag w wr∧∀ j,j+1 < k→∀ (hj:j+1 < l.length),q l[j+1] (l[j]'(by omega))=false) (fun i _=>l.length - (intOf i).toNat)
  case atStart=>exact ⟨1,by omega,by omega,rfl,ag.refl _,fun j hj h=>by omega⟩
  case round =>
   obtain ⟨k,xH,hk,rfl,ha,hp⟩:=hrel;have HA:=gH ha;have HP:=gH hp;clear hp;by_cases hlt:k < l.length
   ·obtain ⟨k,rfl⟩:∃ k',k=k'+1:=⟨k - 1,by omega⟩
    have kW:=Gn.out.az ha fun _ _ h=>h
    have oF:k < l.length:=by omega
    obtain ⟨b,off,vR,hb,c0,c1,hs,hs2⟩:=ku kW oF;obtain ⟨b',off',hA',hb',d0,d1,hs',JR⟩:=ku kW hlt;simp only [Option.some.injEq,Addr.mk.injEq,and_true] at vR hA';obtain ⟨rfl,rfl⟩:=vR;obtain ⟨rfl,rfl⟩:=hA';simp only [Nat.zero_add] at c0 c1 d0 d1;obtain ⟨r,hr⟩:∃ r,q l[k+1] (l[k]'(by omega))=r:=⟨_,rfl⟩;have Cc:=gH (show ∀ x:ii wr,_ from fun x=>hr▸HQ.out (bH wr x) (Kb.aH (HA.out.bH x)) l[k+1] (l[k]'(by omega)));have HR:=gH hr;clear ha eT kW hr
    have w1:IntKind.i64.wrap (((k+1:Nat):Int) - 1)=(k:Int):=by rw [show ((k+1:Nat):Int) - 1=(k:Int) from by omega];exact IntWalk.i64_in _ (by omega)
    have w5:IntKind.i64.wrap ((k:Int)+1 - 1)=(k:Int):=by rw [show (k:Int)+1 - 1=(k:Int) from by omega];exact IntWalk.i64_in _ (by omega)
    have w2:(0:Int)≤(k:Int)+1:=by omega
    have w3:((k:Int)+1).toNat=k+1:=by omega
    have w4:(k:Int)+1 < (l.length:Int):=by omega
    cases r
    ·go_wp2_with fail
     refine av (by kernel_rfl) (by kernel_rfl) ?_
     repeat (go_big_quiet_step ((exact Calls.bD (Cc.out _))))
     refine wpQuiet_nil ?_;intro _ hw';obtain ⟨x,hw''⟩:=hw';subst hw'';clear w1 w2 w3 w4 w5;go_wp2_with fail
     go_roundw
     case rel =>
      refine ⟨k+1+1,by omega,by omega,by go_num,HA.out.bH x,fun j hj qB=>?_⟩
      rcases Nat.lt_or_ge j k with h1 | h1
      ·exact HP.out j (by omega) qB
      ·have:j=k:=by omega
       subst this;exact HR.out
     case measure=>simp [intOf];omega
    ·have gA:¬ cap=k+1:=by omega
     go_wp2_with fail;refine av (by kernel_rfl) (by kernel_rfl) ?_
     repeat (go_big_quiet_step ((exact Calls.bD (Cc.out _))))
     refine wpQuiet_nil ?_;intro _ hw';obtain ⟨x,hw''⟩:=hw';subst hw'';clear w1 w2 w3 w4 w5;go_wp2_with fail;obtain ⟨n2,uk⟩:∃ n2,l.length - (k+1)=n2:=⟨_,rfl⟩;rw [uk];have HN:=gH (And.intro uk (And.intro hlt (And.intro mo iu)));have X9:=gH (HI.out.az (HA.out.bH x));clear uk c0 c1 d0 d1 hs hs2 hs' JR
     go_loopw [5,7] (fun u5 u7 wr2=>∃ (m k2:Nat) (l':List em),0 < k2∧k2≤n2∧m < k+1+k2∧u5=.int .i64 m∧u7=.int .i64 k2∧fh 103 2 fP (fun x:em=>Small x.role.size∧Small x.of.size) w wr2 B g0 cap l.length l') (fun _ u7 _=>n2 - (intOf u7).toNat)
     case atStart=>exact ⟨k+1,1,l,by omega,by have:=HN.out.1;omega,by omega,rfl,rfl,X9.out⟩
     case round =>
      obtain ⟨m,k2,l',Ya,hk2,hm,rfl,rfl,hI⟩:=hrel;have uk:=HN.out.1
      have Oc:m < l.length:=by omega
      have HJ:=gH hI;have rQ:=hI.len;by_cases jF:k2 < n2
      ·obtain ⟨k3,rfl⟩:∃ k',k2=k'+1:=⟨k2 - 1,by omega⟩
       have CZ:=Ab hI hs
       have ra:k+1+(k3+1) < l'.length:=by omega
       have eU:k+1+k3 < l'.length:=by omega
       obtain ⟨b,off,vR,hb0,c0,c1,hs,hs2⟩:=ku CZ eU;obtain ⟨b',off',hA',hb1,d0,d1,hs',JR⟩:=ku CZ ra;simp only [Option.some.injEq,Addr.mk.injEq,and_true] at vR hA';obtain ⟨rfl,rfl⟩:=vR;obtain ⟨rfl,rfl⟩:=hA';rw [show 0+(k+1+k3)*2=(k+1)*2+k3*2 from by omega] at c0 c1;rw [show 0+(k+1+(k3+1))*2=(k+1)*2+(k3+1)*2 from by omega] at d0 d1;obtain ⟨x1,hx1⟩:∃ x1,l'[k+1+(k3+1)]=x1:=⟨_,rfl⟩;obtain ⟨x0,hx0⟩:∃ x0,l'[k+1+k3]=x0:=⟨_,rfl⟩;rw [hx0] at c0 c1 hs hs2;rw [hx1] at d0 d1 hs' JR;obtain ⟨r,hr⟩:∃ r,q x1 x0=r:=⟨_,rfl⟩;have Yb:=gH (show ∀ y:ii wr,_ from fun y=>hr▸HQ.out (bH wr y) (hI.kb.trans (Kb.aH ((ag.refl wr).bH y))) x1 x0);have HX:=gH hx1
       have w1:IntKind.i64.wrap (((k3+1:Nat):Int) - 1)=(k3:Int):=by rw [show ((k3+1:Nat):Int) - 1=(k3:Int) from by omega];exact IntWalk.i64_in _ (by omega)
       have w5:IntKind.i64.wrap ((k3:Int)+1 - 1)=(k3:Int):=by rw [show (k3:Int)+1 - 1=(k3:Int) from by omega];exact IntWalk.i64_in _ (by omega)
       have w2:(0:Int)≤(k3:Int)+1:=by omega
       have w3:((k3:Int)+1).toNat=k3+1:=by omega
       have w4:(k3:Int)+1 < (n2:Int):=by omega
       have w6:(k3:Int) < (n2:Int):=by omega
       clear hI CZ hr hx0 hx1 uk;go_wp2_with fail;refine av (by kernel_rfl) (by kernel_rfl) ?_
       repeat (go_big_quiet_step ((exact Calls.bD (Yb.out _))))
       refine wpQuiet_nil ?_;intro _ hw';obtain ⟨y,hw''⟩:=hw';subst hw'';clear w1 w5
       cases r
       ·obtain ⟨F,hF⟩:∃ F,F=bH wr y:=⟨_,rfl⟩
        have I3:=gH (show fh 103 2 fP (fun x:em=>Small x.role.size∧Small x.of.size) w F B g0 cap l.length l' from hF▸HJ.out.az ((ag.refl wr).bH y));obtain ⟨_,_,i5,_,_,km⟩:=aR I3.out.own (by omega);simp only [Value.slice.injEq,true_and,Option.some.injEq,Addr.mk.injEq,and_true] at i5;obtain ⟨rfl,rfl⟩:=i5
        have fq:(l'.flatMap fP).length=l.length*2:=by rw [ce (size:=2) (fun _=>rfl),rQ]
        obtain ⟨u0,z0⟩:∃ u,F.cell? ⟨g0,m*2,none⟩=some u:=⟨_,by rw [km.2.1 (m*2) (by rw [fq];omega),List.getElem?_eq_getElem (by rw [fq];omega)]⟩;obtain ⟨u1,y0⟩:∃ u,F.cell? ⟨g0,m*2+1,none⟩=some u:=⟨_,by rw [km.2.1 (m*2+1) (by rw [fq];omega),List.getElem?_eq_getElem (by rw [fq];omega)]⟩;have z1:F.frozen? ⟨g0,m*2,none⟩=false:=km.2.2 (m*2) (by rw [fq];omega);have y1:F.frozen? ⟨g0,m*2+1,none⟩=false:=km.2.2 (m*2+1) (by rw [fq];omega);have z2:g0 < F.heap.size:=km.1
        have z3:F.cell? ⟨g0,(k+1)*2+(k3+1)*2,none⟩=some (.string x1.role):=by rw [hF];exact ((ag.refl wr).bH y).cell_kept d0
        have y3:F.cell? ⟨g0,(k+1)*2+(k3+1)*2+1,none⟩=some (.string x1.of):=by rw [hF];exact ((ag.refl wr).bH y).cell_kept d1
        rw [← hF];clear hF;clear km fq
        have B0:=gH (show fh 103 2 fP (fun x:em=>Small x.role.size∧Small x.of.size) w ((F.setCell ⟨g0,m*2,none⟩ (.string (x1).role)).setCell ⟨g0,m*2+1,none⟩ (.string (x1).of)) B g0 cap l.length (l'.set m l'[k+1+(k3+1)]) from by
         have:=F8 I3.out (m:=m) (i:=k+1+(k3+1)) (by omega) ra;rw [HX.out] at this ⊢
         simpa using this)
        clear w2 w3 w4 w6;go_wp2_with fail
        go_roundw
        case rel=>exact ⟨m+1,k3+1+1,_,by omega,by omega,by omega,by go_num,by go_num,B0.out⟩
        case measure=>simp [intOf];omega
       ·clear w2 w3 w4 w6
        go_wp2_with fail
        go_roundw
        case rel=>exact ⟨m,k3+1+1,l',by omega,by omega,by omega,rfl,by go_num,HJ.out.az ((ag.refl wr).bH y)⟩
        case measure=>simp [intOf];omega
      ·have hcm:¬ cap=m:=by omega
       obtain ⟨_,_,i5,_,_,km⟩:=aR hI.own (by omega);simp only [Value.slice.injEq,true_and,Option.some.injEq,Addr.mk.injEq,and_true] at i5;obtain ⟨rfl,rfl⟩:=i5
       have fq:(l'.flatMap fP).length=l.length*2:=by rw [ce (size:=2) (fun _=>rfl),rQ]
       have qY:∀ w:World,(zeroValue 103).run Tryz.prog w=.ok (.agg #[.string ByteArray.empty,.string ByteArray.empty]) w:=fun w=>by kernel_rfl
       obtain ⟨n3,uL⟩:∃ n3,l.length - m=n3:=⟨_,rfl⟩
       have nu:∀ ty,(Builtin.clear_ #[27] ty #[.slice (some ⟨g0,m*2,none⟩) n3 (cap - m)]).run Tryz.prog wr=.ok (.tuple #[]) (wr.setCells g0 (m*2) (Builtin.zeroCells (.agg #[.string ByteArray.empty,.string ByteArray.empty]:Value).cells n3).toList):=fun ty=>by
        refine kL wr _ _ ty _ Tryz.underlying27 qY (by intro u hu;have hu:u∈([.string ByteArray.empty,.string ByteArray.empty]:List Value):=hu;simp only [List.mem_cons,List.not_mem_nil,or_false] at hu;rcases hu with rfl | rfl<;>rfl) g0 (m*2) (cap - m) n3 (by omega) (fun j hj=>?_) (fun j hj=>?_)
        ·have hj':j < n3*2:=hj
         have hl:m*2+j < (l'.flatMap fP).length:=by rw [fq];omega
         rw [km.2.1 _ hl,List.getElem?_eq_getElem hl];rfl
        ·have hj':j < n3*2:=hj
         exact km.2.2 _ (by rw [fq];omega)
       obtain ⟨Z,hZ⟩:∃ Z,Z=wr.setCells g0 (m*2) (Builtin.zeroCells (.agg #[.string ByteArray.empty,.string ByteArray.empty]:Value).cells n3).toList:=⟨_,rfl⟩;have HZ:=gH (show Kb (fun k=>k=g0) w Z from hZ▸hI.kb.trans (bA g0 _ _ _));rw [← hZ,← uL] at nu
       skip
       have HF:=gH (show ¬ m=l.length∧¬ nk q l from ⟨by omega,fun h=>by have:=h k HN.out.2.1;rw [HR.out] at this;cases this⟩);have Qp:=gH BZ
       have k3:(m:Int)≤(l.length:Int):=by omega
       have k5:(l.length:Int)≤(cap:Int):=by omega
       have k6:(m:Int)≤(cap:Int):=by omega
       clear hI km fq qY hZ uL uk BZ;go_wp2_with fail;go_ret;exact ⟨_,_,_,rfl,⟨fun h=>absurd h HF.out.1,fun h=>absurd h HF.out.2⟩,Qp.out _ _ HZ.out⟩
   ·have HT:=gH (show nk q l from fun j hj=>HP.out j (by omega) hj)
    clear ha;go_wp2_with fail;go_ret;exact ⟨_,_,_,rfl,⟨fun _=>HT.out,fun _=>rfl⟩,Kb.aH HA.out⟩
end Go.Proofs.YtmflccbnoeaafaaGreat
namespace Go.Proofs.YtmflccbnoeaafaaGreat
open Go.RowKit
set_option maxRecDepth 100000
set_option linter.unusedVariables false
set_option maxHeartbeats 64000000
theorem qi:(Tryz.prog.info? 103).map (fun i=>(i.zero,i.size,i.bytes))=some (some (.agg #[.string ByteArray.empty,.string ByteArray.empty]),2,32):=by kernel_rfl
theorem nI (A:Option Addr) (cap:Nat) (l:List em) (w0 w:World) (ha:ag w0 w) (h:aL w0 2 ia A cap l) (hb:l.length≤1000000) :
  Calls Tryz.prog 53 #[.slice A l.length cap] w (pd 103 2 ia w0 w l):=by
 obtain ⟨i0,hi,hz0,hz1,hz2⟩:=info_parts qi
 have Rh:∀ (w:World) (a:Option Addr) (n c n' c':Nat),(binOp .eql 27 (.slice a n c) (.slice none n' c')).run Tryz.prog w=.ok (.bool a.isNone) w:=fun w a n c n' c'=>Lib.run_eql_slice_nil w _ _ a n c n' c' Tryz.underlying27
 cases A with
 | none =>
  have hl0:l=[]:=by
   cases l with
   | nil=>rfl
   | cons x l=>obtain ⟨b,off,cs,hA,_⟩:=h.2.2 0 (by simp);cases hA
  subst hl0
  go_enter Tryz.func53,Tryz.ntmps53
  go_wp2_with fail;go_ret;exact ⟨_,[],rfl,ag.refl _,dl _ _ _ _,cF.nil⟩
 | some ad =>
  have HC:∃ cI,cF w0 2 ia cI l∧∀ p u,cI.flatten[p]? = some u→w.cell? (ad.add p)=some u:=by
   by_cases h0:0 < l.length
   ·obtain ⟨b,off,cI,hA,hb',hch,hc⟩:=h.cI h0 (by decide)
    simp only [Option.some.injEq] at hA;subst hA;refine ⟨cI,hch,fun p u hp=>?_⟩
    have hlt:p < l.length*2:=by rw [← hch.len];exact (List.getElem?_eq_some_iff.1 hp).1
    rw [mD];exact ha.cell_kept ((hc p hlt).trans hp)
   ·have hl0:l=[]:=List.eq_nil_of_length_eq_zero (by omega)
    subst hl0;exact ⟨[],cF.nil,fun p u hp=>by simp at hp⟩
  obtain ⟨cI,hch,hcell⟩:=HC;have H1:=gH hcell
  have H2:Hid (∀ u∈cI.flatten,u.oneCell'=true):=gH (by
   intro u hu;obtain ⟨c,hc,hu⟩:=List.mem_flatten.1 hu;obtain ⟨i,hi,rfl⟩:=List.getElem_of_mem hc;have h3:=(hch.2 i hi (by rw [← hch.1];exact hi)).2;obtain ⟨hcs,_⟩:=h3;rw [hcs] at hu;simp only [List.mem_cons,List.not_mem_nil,or_false] at hu
   rcases hu with rfl | rfl<;>simp [Value.oneCell'])
  have H3:=gH hch;have HI:=gH hi;have qw:=gH hz0;have nS:=gH hz1;have mG:=gH hz2;clear hcell hch hi hz0 hz1 hz2 h ha
  go_enter Tryz.func53,Tryz.ntmps53
  go_wp2_with (at_builtin;refine wpList_append_own _ rfl _ _ 27 rfl w.heap.size 103 i0 (.agg #[.string ByteArray.empty,.string ByteArray.empty]) 2 32 Tryz.underlying27 HI.out qw.out nS.out mG.out rfl (by decide) _ _ _ rfl (World.ownsRow_made w #[] 0 (Nat.le_refl _) (Nat.zero_le _) rfl) ad l.length cap cI.flatten rfl ?Ff ?Fg ?Fh ?Fi ?Fj ?Fk ?_)
  case Ff=>exact H3.out.len
  case Fg =>
   intro j u hj;exact Lib.cell?_alloc_some _ (H1.out j u hj)
  case Fh=>exact H2.out
  case Fi=>unfold maxLen;omega
  case Fj=>omega
  case Fk=>simp
  intro v' w1 hown hgrow hnil;have HO:=gH hown;have HA:=gH (show ag w w1 from ((Below.refl _ w).alloc (Nat.le_refl _) _).grown hgrow (by simp) (by intro k hk;simp [Value.ownBlock] at hk;omega));clear hown hgrow hnil;go_wp2_with fail;go_ret;refine ⟨v',cI,rfl,HA.out,?_,H3.out⟩
  simpa using HO.out
end Go.Proofs.YtmflccbnoeaafaaGreat
