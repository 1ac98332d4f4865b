import Derived.Test.YtakddkhipelmjaaGreatPartH8
set_option maxRecDepth 100000
set_option linter.unusedVariables false
set_option maxHeartbeats 64000000
namespace Go.Proofs.YtakddkhipelmjaaGreat
open Go.Deep Go.RowKit
theorem ic (n lo hi:Int) (w:World):Calls Tryz.prog 21 #[.int .i64 n,.int .i64 lo,.int .i64 hi] w fun e w'=>e=.returned (.bool (nB n lo hi))∧w=w':=by
 by_cases h1:lo≤n
 ·by_cases h2:n≤hi
  ·have HB:=gH (show nB n lo hi=true by unfold nB;rw [decide_eq_true h1,decide_eq_true h2];rfl)
   go_in
   go_wp2;go_ret;exact ⟨by rw [HB.out];rfl,rfl⟩
  ·have HB:=gH (show nB n lo hi=false by unfold nB;rw [decide_eq_true h1,decide_eq_false h2];rfl)
   go_in
   go_wp2;go_ret;exact ⟨by rw [HB.out];rfl,rfl⟩
 ·have HB:=gH (show nB n lo hi=false by unfold nB;rw [decide_eq_false h1];rfl)
  go_in
  go_wp2;go_ret;exact ⟨by rw [HB.out];rfl,rfl⟩
theorem nK (n:Int) (w:World):Calls Tryz.prog 26 #[.int .i64 n] w fun e w'=>e=.returned (.bool (lj n))∧w=w':=by
 go_in
 go_wp2_with fail;refine (ic n 1 1000000000 w).mono ?_;rintro e w' ⟨rfl,rfl⟩;go_wp2;go_ret;exact ⟨rfl,rfl⟩
theorem Ni (n:Int) (w:World):Calls Tryz.prog 30 #[.int .i64 n] w fun e w'=>e=.returned (.bool (zA n))∧w=w':=by
 go_in
 go_wp2_with fail;refine (ic n 11 13 w).mono ?_;rintro e w' ⟨rfl,rfl⟩;go_wp2;go_ret;exact ⟨rfl,rfl⟩
theorem ll {w w':World} {A:Option Addr} {cap:Nat} {l:List iF} (hw:ag w w') (h:az w 5 fj A cap l):az w' 5 fj A cap l:=h.aA hw fun _ _ h=>h
theorem qP {w:World} {A:Option Addr} {cap:Nat} {l:List iF} (h:az w 5 fj A cap l) {k:Nat} (hk:k < l.length) :
  ∃ b off,A=some ⟨b,off,none⟩∧b < w.heap.size∧w.cell? ⟨b,off+k*5,none⟩=some (.int .i64 l[k].aC)∧w.cell? ⟨b,off+k*5+1,none⟩=some (.int .i64 l[k].number)∧w.cell? ⟨b,off+k*5+2,none⟩=some (.int .i64 l[k].code)∧w.cell? ⟨b,off+k*5+3,none⟩=some (.int .i64 l[k].fence)∧w.cell? ⟨b,off+k*5+4,none⟩=some (.int .i64 l[k].version):=by
 obtain ⟨b,off,cs,hA,hb,hl,rfl,hc⟩:=h.2.2 k hk;exact ⟨b,off,hA,hb,by simpa [cj] using hc 0 (by decide),by simpa [cj,Nat.add_assoc] using hc 1 (by decide),by simpa [cj,Nat.add_assoc] using hc 2 (by decide),by simpa [cj,Nat.add_assoc] using hc 3 (by decide),by simpa [cj,Nat.add_assoc] using hc 4 (by decide)⟩
theorem qQ (d:iF) (w:World):Calls Tryz.prog 24 #[.agg #[.int .i64 d.aC,.int .i64 d.number,.int .i64 d.code,.int .i64 d.fence,.int .i64 d.version]] w fun e w'=>e=.returned (.int .i64 d.aC)∧ag w w':=by
 go_in
 go_wp2;go_ret;exact ⟨rfl,(ag.refl _).alloc _⟩
theorem zC (A:Option Addr) (cap:Nat) (l:List iF) (g:FuncId) (ax:Array Value) (p:iF→Bool) (w:World) (h:az w 5 fj A cap l) (cM:∀ (args:Array Value) (w:World),(callFunc g args).run Tryz.prog w=.ok (.enter g args) w)
  (hp:∀ w',ag w w'→∀ d:iF,Calls Tryz.prog g (#[.agg #[.int .i64 d.aC,.int .i64 d.number,.int .i64 d.code,.int .i64 d.fence,.int .i64 d.version]]++ax) w' fun e w''=>e=.returned (.bool (p d))∧ag w' w'') :
  Calls Tryz.prog 23 #[.slice A l.length cap,.func (.func 24) #[] #[],.func (.func g) #[] ax] w fun e w'=>e=.returned (.bool (kz iF.aC p l))∧ag w w':=by
 have hlen:=h.len;have SD:=enters (P:=Tryz.prog) Tryz.func24 (by kernel_rfl) rfl;have HC:=gH hp;have HL:=gH h;clear hp h
 go_in
 go_wp2_with fail
 go_loopw [11] (fun i wr=>∃ k:Nat,k≤l.length∧i=.int .i64 k∧ag w wr∧∀ j,j < k→kI iF.aC p l j=true) (fun i _=>l.length - (intOf i).toNat)
 case atStart=>exact ⟨0,Nat.zero_le _,rfl,ag.refl _,fun j hj=>absurd hj (Nat.not_lt_zero j)⟩
 case round =>
  obtain ⟨k,hk,rfl,ha,hp⟩:=hrel;have HA:=gH ha;have HP:=gH hp;clear hp;by_cases hlt:k < l.length
  case neg =>
   have HT:=gH (show kz iF.aC p l=true from qR fun j hj=>HP.out j (by omega));clear ha;go_wp2;go_ret;exact ⟨by rw [HT.out];rfl,HA.out⟩
  have dv:=ll ha HL.out;clear ha;obtain ⟨b,off,rfl,hb,c0,c1,c2,c3,c4⟩:=qP dv hlt;obtain ⟨x,hx⟩:∃ x,l[k]=x:=⟨_,rfl⟩;rw [hx] at c0 c1 c2 c3 c4;obtain ⟨W,hW⟩:∃ W,W=wr.alloc (.cells #[.int .i64 x.aC,.int .i64 x.number,.int .i64 x.code,.int .i64 x.fence,.int .i64 x.version] 48):=⟨_,rfl⟩
  have aW:ag wr W:=by rw [hW];exact (ag.refl _).alloc _
  have rW:ai W wr.heap.size [.int .i64 x.aC,.int .i64 x.number,.int .i64 x.code,.int .i64 x.fence,.int .i64 x.version]:=by rw [hW];exact aN (ag.refl _)
  obtain ⟨q,hq⟩:∃ q,p x=q:=⟨_,rfl⟩;have CH:=gH (show ∀ V:iM W,Calls Tryz.prog g (#[.agg #[.int .i64 x.aC,.int .i64 x.number,.int .i64 x.code,.int .i64 x.fence,.int .i64 x.version]]++ax) (bV W V) fun e w''=>e=.returned (.bool q)∧ag (bV W V) w'' from fun V=>hq▸HC.out _ (HA.out.trans (aW.bV V)) x);have CW:=gH (fun V:iM W=>qQ x (bV W V));have HX:=gH hx;have HQ:=gH hq;have cu:=gH (HA.out.trans aW);have wH:=gH (ll aW dv);clear hx hq dv
  cases k with
  | zero =>
   simp only [Nat.zero_mul,Nat.add_zero] at c0 c1 c2 c3 c4;go_wp2_with fail;rw [← hW];clear hW c0 c1 c2 c3 c4 aW hb;obtain ⟨y0,y1,y2,y3,y4⟩:=pW rW;have yz:=rW.1;clear rW
   cases q
   ·refine ay (by kernel_rfl) (by kernel_rfl) ?_
    repeat (go_big_quiet_step ((first | (with_reducible exact Calls.bk (CH.out _)) | (with_reducible exact Calls.bk (CW.out _)))))
    refine wpQuiet_nil ?_;intro _ hw';obtain ⟨V,hw''⟩:=hw';subst hw'';go_wp2;go_ret;exact ⟨by rw [lV hlt (by rw [gT hlt,HX.out];exact HQ.out)];rfl,cu.out.bV V⟩
   ·refine ay (by kernel_rfl) (by kernel_rfl) ?_
    repeat (go_big_quiet_step ((first | (with_reducible exact Calls.bk (CH.out _)) | (with_reducible exact Calls.bk (CW.out _)))))
    refine wpQuiet_nil ?_;intro _ hw';obtain ⟨V,hw''⟩:=hw';subst hw'';go_wp2
    go_roundw
    case rel=>exact ⟨0+1,by omega,by go_num,cu.out.bV V,fun j hj=>by
     rcases Nat.lt_or_ge j (0+1 - 1) with h1 | h1
     ·exact HP.out j (by omega)
     ·have:j=0+1 - 1:=by omega
      subst this
      show kI _ _ _ 0=true;rw [gT hlt,HX.out];exact HQ.out⟩
    case measure=>simp [intOf];omega
  | succ k =>
   have hl0:k < l.length:=by omega
   obtain ⟨b',off',hA',hb',d0,d1,d2,d3,d4⟩:=qP wH.out hl0;simp only [Option.some.injEq,Addr.mk.injEq,and_true] at hA';obtain ⟨rfl,rfl⟩:=hA';obtain ⟨y,hy⟩:∃ y,l[k]=y:=⟨_,rfl⟩;rw [hy] at d0 d1 d2 d3 d4;have CY:=gH (fun V:iM W=>qQ y (bV W V));have HY:=gH hy;clear hy
   have w1:((k+1:Nat):Int) - 1=(k:Int):=by omega
   have w2:IntKind.i64.wrap (((k+1:Nat):Int) - 1)=(k:Int):=by rw [w1];exact IntWalk.i64_in _ (by omega)
   have w3:IntKind.i64.wrap ((k:Int)+1 - 1)=(k:Int):=by rw [show (k:Int)+1 - 1=(k:Int) by omega];exact IntWalk.i64_in _ (by omega)
   have w4:(0:Int) < (k:Int)+1:=by omega
   have w5:(k:Int) < (l.length:Int):=by omega
   have w6:(0:Int)≤(k:Int):=by omega
   go_wp2_with fail;rw [← hW];clear hW c0 c1 c2 c3 c4 aW hb;obtain ⟨y0,y1,y2,y3,y4⟩:=pW rW;have yz:=rW.1;clear rW;by_cases Q2:x.aC≤y.aC
   ·refine ay (by kernel_rfl) (by kernel_rfl) ?_
    repeat (go_big_quiet_step ((first | (with_reducible exact Calls.bk (CH.out _)) | (with_reducible exact Calls.bk (CW.out _)) | (with_reducible exact Calls.bk (CY.out _)))))
    refine wpQuiet_nil ?_;intro _ hw';obtain ⟨V,hw''⟩:=hw';subst hw'';go_wp2;go_ret;exact ⟨by rw [lV hlt (by rw [eO hlt,HX.out,HY.out,decide_eq_false (by omega)];rfl)];rfl,cu.out.bV V⟩
   ·cases q
    ·refine ay (by kernel_rfl) (by kernel_rfl) ?_
     repeat (go_big_quiet_step ((first | (with_reducible exact Calls.bk (CH.out _)) | (with_reducible exact Calls.bk (CW.out _)) | (with_reducible exact Calls.bk (CY.out _)))))
     refine wpQuiet_nil ?_;intro _ hw';obtain ⟨V,hw''⟩:=hw';subst hw'';go_wp2;go_ret;exact ⟨by rw [lV hlt (by rw [eO hlt,HX.out,HQ.out,Bool.and_false])];rfl,cu.out.bV V⟩
    ·refine ay (by kernel_rfl) (by kernel_rfl) ?_
     repeat (go_big_quiet_step ((first | (with_reducible exact Calls.bk (CH.out _)) | (with_reducible exact Calls.bk (CW.out _)) | (with_reducible exact Calls.bk (CY.out _)))))
     refine wpQuiet_nil ?_;intro _ hw';obtain ⟨V,hw''⟩:=hw';subst hw'';go_wp2_with fail;clear w1 w2 w3 w4 w5 w6
     go_roundw
     case rel=>exact ⟨k+1+1,by omega,by go_num,cu.out.bV V,fun j hj=>by
      rcases Nat.lt_or_ge j (k+1+1 - 1) with h1 | h1
      ·exact HP.out j (by omega)
      ·have:j=k+1+1 - 1:=by omega
       subst this
       show kI _ _ _ (k+1)=true;rw [eO hlt,HX.out,HY.out,HQ.out,decide_eq_true (show y.aC < x.aC by omega)];rfl⟩
     case measure=>simp [intOf];omega
theorem ln {w w':World} {A:Option Addr} {cap:Nat} {l:List eZ} (hw:ag w w') (h:az w 4 fq A cap l):az w' 4 fq A cap l:=h.aA hw fun _ _ h=>h
theorem oK {w:World} {A:Option Addr} {cap:Nat} {l:List eZ} (h:az w 4 fq A cap l) {k:Nat} (hk:k < l.length) :
  ∃ b off,A=some ⟨b,off,none⟩∧b < w.heap.size∧w.cell? ⟨b,off+k*4,none⟩=some (.int .i64 l[k].seq)∧w.cell? ⟨b,off+k*4+1,none⟩=some (.int .i64 l[k].node)∧w.cell? ⟨b,off+k*4+2,none⟩=some (.int .i64 l[k].ask)∧w.cell? ⟨b,off+k*4+3,none⟩=some (.int .i64 l[k].av):=by
 obtain ⟨b,off,cs,hA,hb,hl,rfl,hc⟩:=h.2.2 k hk;exact ⟨b,off,hA,hb,by simpa [eA] using hc 0 (by decide),by simpa [eA,Nat.add_assoc] using hc 1 (by decide),by simpa [eA,Nat.add_assoc] using hc 2 (by decide),by simpa [eA,Nat.add_assoc] using hc 3 (by decide)⟩
theorem zD (d:eZ) (w:World):Calls Tryz.prog 28 #[.agg #[.int .i64 d.seq,.int .i64 d.node,.int .i64 d.ask,.int .i64 d.av]] w fun e w'=>e=.returned (.int .i64 d.seq)∧ag w w':=by
 go_in
 go_wp2;go_ret;exact ⟨rfl,(ag.refl _).alloc _⟩
theorem zF (A:Option Addr) (cap:Nat) (l:List eZ) (g:FuncId) (ax:Array Value) (p:eZ→Bool) (w:World) (h:az w 4 fq A cap l) (cM:∀ (args:Array Value) (w:World),(callFunc g args).run Tryz.prog w=.ok (.enter g args) w)
  (hp:∀ w',ag w w'→∀ d:eZ,Calls Tryz.prog g (#[.agg #[.int .i64 d.seq,.int .i64 d.node,.int .i64 d.ask,.int .i64 d.av]]++ax) w' fun e w''=>e=.returned (.bool (p d))∧ag w' w'') :
  Calls Tryz.prog 27 #[.slice A l.length cap,.func (.func 28) #[] #[],.func (.func g) #[] ax] w fun e w'=>e=.returned (.bool (kz eZ.seq p l))∧ag w w':=by
 have hlen:=h.len;have SD:=enters (P:=Tryz.prog) Tryz.func28 (by kernel_rfl) rfl;have HC:=gH hp;have HL:=gH h;clear hp h
 go_in
 go_wp2_with fail
 go_loopw [11] (fun i wr=>∃ k:Nat,k≤l.length∧i=.int .i64 k∧ag w wr∧∀ j,j < k→kI eZ.seq p l j=true) (fun i _=>l.length - (intOf i).toNat)
 case atStart=>exact ⟨0,Nat.zero_le _,rfl,ag.refl _,fun j hj=>absurd hj (Nat.not_lt_zero j)⟩
 case round =>
  obtain ⟨k,hk,rfl,ha,hp⟩:=hrel;have HA:=gH ha;have HP:=gH hp;clear hp;by_cases hlt:k < l.length
  case neg =>
   have HT:=gH (show kz eZ.seq p l=true from qR fun j hj=>HP.out j (by omega));clear ha;go_wp2;go_ret;exact ⟨by rw [HT.out];rfl,HA.out⟩
  have dv:=ln ha HL.out;clear ha;obtain ⟨b,off,rfl,hb,c0,c1,c2,c3⟩:=oK dv hlt;obtain ⟨x,hx⟩:∃ x,l[k]=x:=⟨_,rfl⟩;rw [hx] at c0 c1 c2 c3;obtain ⟨W,hW⟩:∃ W,W=wr.alloc (.cells #[.int .i64 x.seq,.int .i64 x.node,.int .i64 x.ask,.int .i64 x.av] 55):=⟨_,rfl⟩
  have aW:ag wr W:=by rw [hW];exact (ag.refl _).alloc _
  have rW:ai W wr.heap.size [.int .i64 x.seq,.int .i64 x.node,.int .i64 x.ask,.int .i64 x.av]:=by rw [hW];exact aN (ag.refl _)
  obtain ⟨q,hq⟩:∃ q,p x=q:=⟨_,rfl⟩;have CH:=gH (show ∀ V:iM W,Calls Tryz.prog g (#[.agg #[.int .i64 x.seq,.int .i64 x.node,.int .i64 x.ask,.int .i64 x.av]]++ax) (bV W V) fun e w''=>e=.returned (.bool q)∧ag (bV W V) w'' from fun V=>hq▸HC.out _ (HA.out.trans (aW.bV V)) x);have CW:=gH (fun V:iM W=>zD x (bV W V));have HX:=gH hx;have HQ:=gH hq;have cu:=gH (HA.out.trans aW);have wH:=gH (ln aW dv);clear hx hq dv
  cases k with
  | zero =>
   simp only [Nat.zero_mul,Nat.add_zero] at c0 c1 c2 c3;go_wp2_with fail;rw [← hW];clear hW c0 c1 c2 c3 aW hb;obtain ⟨y0,y1,y2,y3⟩:=DM rW;have yz:=rW.1;clear rW
   cases q
   ·refine ay (by kernel_rfl) (by kernel_rfl) ?_
    repeat (go_big_quiet_step ((first | (with_reducible exact Calls.bk (CH.out _)) | (with_reducible exact Calls.bk (CW.out _)))))
    refine wpQuiet_nil ?_;intro _ hw';obtain ⟨V,hw''⟩:=hw';subst hw'';go_wp2;go_ret;exact ⟨by rw [lV hlt (by rw [gT hlt,HX.out];exact HQ.out)];rfl,cu.out.bV V⟩
   ·refine ay (by kernel_rfl) (by kernel_rfl) ?_
    repeat (go_big_quiet_step ((first | (with_reducible exact Calls.bk (CH.out _)) | (with_reducible exact Calls.bk (CW.out _)))))
    refine wpQuiet_nil ?_;intro _ hw';obtain ⟨V,hw''⟩:=hw';subst hw'';go_wp2
    go_roundw
    case rel=>exact ⟨0+1,by omega,by go_num,cu.out.bV V,fun j hj=>by
     rcases Nat.lt_or_ge j (0+1 - 1) with h1 | h1
     ·exact HP.out j (by omega)
     ·have:j=0+1 - 1:=by omega
      subst this
      show kI _ _ _ 0=true;rw [gT hlt,HX.out];exact HQ.out⟩
    case measure=>simp [intOf];omega
  | succ k =>
   have hl0:k < l.length:=by omega
   obtain ⟨b',off',hA',hb',d0,d1,d2,d3⟩:=oK wH.out hl0;simp only [Option.some.injEq,Addr.mk.injEq,and_true] at hA';obtain ⟨rfl,rfl⟩:=hA';obtain ⟨y,hy⟩:∃ y,l[k]=y:=⟨_,rfl⟩;rw [hy] at d0 d1 d2 d3;have CY:=gH (fun V:iM W=>zD y (bV W V));have HY:=gH hy;clear hy
   have w1:((k+1:Nat):Int) - 1=(k:Int):=by omega
   have w2:IntKind.i64.wrap (((k+1:Nat):Int) - 1)=(k:Int):=by rw [w1];exact IntWalk.i64_in _ (by omega)
   have w3:IntKind.i64.wrap ((k:Int)+1 - 1)=(k:Int):=by rw [show (k:Int)+1 - 1=(k:Int) by omega];exact IntWalk.i64_in _ (by omega)
   have w4:(0:Int) < (k:Int)+1:=by omega
   have w5:(k:Int) < (l.length:Int):=by omega
   have w6:(0:Int)≤(k:Int):=by omega
   go_wp2_with fail;rw [← hW];clear hW c0 c1 c2 c3 aW hb;obtain ⟨y0,y1,y2,y3⟩:=DM rW;have yz:=rW.1;clear rW;by_cases Q2:x.seq≤y.seq
   ·refine ay (by kernel_rfl) (by kernel_rfl) ?_
    repeat (go_big_quiet_step ((first | (with_reducible exact Calls.bk (CH.out _)) | (with_reducible exact Calls.bk (CW.out _)) | (with_reducible exact Calls.bk (CY.out _)))))
    refine wpQuiet_nil ?_;intro _ hw';obtain ⟨V,hw''⟩:=hw';subst hw'';go_wp2;go_ret;exact ⟨by rw [lV hlt (by rw [eO hlt,HX.out,HY.out,decide_eq_false (by omega)];rfl)];rfl,cu.out.bV V⟩
   ·cases q
    ·refine ay (by kernel_rfl) (by kernel_rfl) ?_
     repeat (go_big_quiet_step ((first | (with_reducible exact Calls.bk (CH.out _)) | (with_reducible exact Calls.bk (CW.out _)) | (with_reducible exact Calls.bk (CY.out _)))))
     refine wpQuiet_nil ?_;intro _ hw';obtain ⟨V,hw''⟩:=hw';subst hw'';go_wp2;go_ret;exact ⟨by rw [lV hlt (by rw [eO hlt,HX.out,HQ.out,Bool.and_false])];rfl,cu.out.bV V⟩
    ·refine ay (by kernel_rfl) (by kernel_rfl) ?_
     repeat (go_big_quiet_step ((first | (with_reducible exact Calls.bk (CH.out _)) | (with_reducible exact Calls.bk (CW.out _)) | (with_reducible exact Calls.bk (CY.out _)))))
     refine wpQuiet_nil ?_;intro _ hw';obtain ⟨V,hw''⟩:=hw';subst hw'';go_wp2_with fail;clear w1 w2 w3 w4 w5 w6
     go_roundw
     case rel=>exact ⟨k+1+1,by omega,by go_num,cu.out.bV V,fun j hj=>by
      rcases Nat.lt_or_ge j (k+1+1 - 1) with h1 | h1
      ·exact HP.out j (by omega)
      ·have:j=k+1+1 - 1:=by omega
       subst this
       show kI _ _ _ (k+1)=true;rw [eO hlt,HX.out,HY.out,HQ.out,decide_eq_true (show y.seq < x.seq by omega)];rfl⟩
     case measure=>simp [intOf];omega
theorem SE (d:iF) (bc:Nat) (ep v:Int) (w:World) (hz:bc < w.heap.size) (hz2:bc < w.heap.size+1) (h0:w.cell? ⟨bc,0,none⟩=some (.int .i64 ep)) (h1:w.cell? ⟨bc,1,none⟩=some (.int .i64 v)) :
  Calls Tryz.prog 25 (#[.agg #[.int .i64 d.aC,.int .i64 d.number,.int .i64 d.code,.int .i64 d.fence,.int .i64 d.version]]++#[.pointer (some ⟨bc,0,none⟩)]) w fun e w'=>e=.returned (.bool (xb ep v d))∧ag w w':=by
 show Calls Tryz.prog 25 #[.agg #[.int .i64 d.aC,.int .i64 d.number,.int .i64 d.code,.int .i64 d.fence,.int .i64 d.version],.pointer (some ⟨bc,0,none⟩)] w _
 obtain ⟨b0,hb0⟩:∃ b,nB d.aC 1 4=b:=⟨_,rfl⟩;have C0:=gH (fun V=>hb0▸ic d.aC 1 4 V);obtain ⟨b1,hb1⟩:∃ b,lj d.number=b:=⟨_,rfl⟩;have C1:=gH (fun V=>hb1▸nK d.number V);obtain ⟨b2,hb2⟩:∃ b,nB d.code 0 65535=b:=⟨_,rfl⟩;have C2:=gH (fun V=>hb2▸ic d.code 0 65535 V);obtain ⟨b3,hb3⟩:∃ b,nB d.fence 0 ep=b:=⟨_,rfl⟩;have C3:=gH (fun V=>hb3▸ic d.fence 0 ep V);obtain ⟨b4,hb4⟩:∃ b,nB d.version 0 v=b:=⟨_,rfl⟩;have C4:=gH (fun V=>hb4▸ic d.version 0 v V);have HR:=gH (show xb ep v d=(b0&&b1&&b2&&b3&&b4) by unfold xb;rw [hb0,hb1,hb2,hb3,hb4]);clear hb0 hb1 hb2 hb3 hb4;have aW:ag w (w.alloc (.cells #[.int .i64 d.aC,.int .i64 d.number,.int .i64 d.code,.int .i64 d.fence,.int .i64 d.version] 48)):=(ag.refl _).alloc _;have cu:=gH aW;clear aW
 go_in
 go_wp2_with fail;refine (C0.out _).mono ?_;rintro e w5 ⟨rfl,rfl⟩
 cases b0
 case false =>
  go_wp2;go_ret;exact ⟨by rw [HR.out];rfl,cu.out⟩
 go_wp2_with fail;refine (C1.out _).mono ?_;rintro e w6 ⟨rfl,rfl⟩
 cases b1
 case false =>
  go_wp2;go_ret;exact ⟨by rw [HR.out];rfl,cu.out⟩
 go_wp2_with fail;refine (C2.out _).mono ?_;rintro e w7 ⟨rfl,rfl⟩
 cases b2
 case false =>
  go_wp2;go_ret;exact ⟨by rw [HR.out];rfl,cu.out⟩
 go_wp2_with fail;refine (C3.out _).mono ?_;rintro e w8 ⟨rfl,rfl⟩
 cases b3
 case false =>
  go_wp2;go_ret;exact ⟨by rw [HR.out];rfl,cu.out⟩
 go_wp2_with fail;refine (C4.out _).mono ?_;rintro e w9 ⟨rfl,rfl⟩;go_wp2;go_ret;exact ⟨by rw [HR.out];rfl,cu.out⟩
theorem SF (d:eZ) (bm bc:Nat) (ep la:Int) (w:World) (hz:bc < w.heap.size) (hz2:bc < w.heap.size+1) (hm:bm < w.heap.size) (Q3:bm < w.heap.size+1) (h0:w.cell? ⟨bc,0,none⟩=some (.int .i64 ep)) (h1:w.cell? ⟨bm,9,none⟩=some (.int .i64 la)) :
  Calls Tryz.prog 29 (#[.agg #[.int .i64 d.seq,.int .i64 d.node,.int .i64 d.ask,.int .i64 d.av]]++#[.pointer (some ⟨bm,0,none⟩),.pointer (some ⟨bc,0,none⟩)]) w fun e w'=>e=.returned (.bool (tu ep la d))∧ag w w':=by
 show Calls Tryz.prog 29 #[.agg #[.int .i64 d.seq,.int .i64 d.node,.int .i64 d.ask,.int .i64 d.av],.pointer (some ⟨bm,0,none⟩),.pointer (some ⟨bc,0,none⟩)] w _
 obtain ⟨b0,hb0⟩:∃ b,nB d.seq 1 la=b:=⟨_,rfl⟩;have C0:=gH (fun V=>hb0▸ic d.seq 1 la V);obtain ⟨b1,hb1⟩:∃ b,zA d.node=b:=⟨_,rfl⟩;have C1:=gH (fun V=>hb1▸Ni d.node V);obtain ⟨b2,hb2⟩:∃ b,lj d.ask=b:=⟨_,rfl⟩;have C2:=gH (fun V=>hb2▸nK d.ask V);obtain ⟨b3,hb3⟩:∃ b,nB d.av 0 ep=b:=⟨_,rfl⟩;have C3:=gH (fun V=>hb3▸ic d.av 0 ep V);have HR:=gH (show tu ep la d=(b0&&b1&&b2&&b3) by unfold tu;rw [hb0,hb1,hb2,hb3]);clear hb0 hb1 hb2 hb3;have aW:ag w (w.alloc (.cells #[.int .i64 d.seq,.int .i64 d.node,.int .i64 d.ask,.int .i64 d.av] 55)):=(ag.refl _).alloc _;have cu:=gH aW;clear aW
 go_in
 go_wp2_with fail;refine (C0.out _).mono ?_;rintro e w5 ⟨rfl,rfl⟩
 cases b0
 case false =>
  go_wp2;go_ret;exact ⟨by rw [HR.out];rfl,cu.out⟩
 go_wp2_with fail;refine (C1.out _).mono ?_;rintro e w6 ⟨rfl,rfl⟩
 cases b1
 case false =>
  go_wp2;go_ret;exact ⟨by rw [HR.out];rfl,cu.out⟩
 go_wp2_with fail;refine (C2.out _).mono ?_;rintro e w7 ⟨rfl,rfl⟩
 cases b2
 case false =>
  go_wp2;go_ret;exact ⟨by rw [HR.out];rfl,cu.out⟩
 go_wp2_with fail;refine (C3.out _).mono ?_;rintro e w8 ⟨rfl,rfl⟩;go_wp2;go_ret;exact ⟨by rw [HR.out];rfl,cu.out⟩
theorem qT {w:World} {A:Option Addr} {cap:Nat} {l:List cD} (h:az w 6 gy A cap l) {k:Nat} (hk:k < l.length) :
  ∃ b off,A=some ⟨b,off,none⟩∧b < w.heap.size∧w.cell? ⟨b,off+k*6,none⟩=some (.string l[k].af)∧w.cell? ⟨b,off+k*6+1,none⟩=some (.string l[k].table)∧w.cell? ⟨b,off+k*6+2,none⟩=some (.int .i64 l[k].right) ∧
   w.cell? ⟨b,off+k*6+3,none⟩=some (.string l[k].aI)∧w.cell? ⟨b,off+k*6+4,none⟩=some (.string l[k].to)∧w.cell? ⟨b,off+k*6+5,none⟩=some (.bool l[k].opt)∧wI l[k]:=by
 obtain ⟨b,off,cs,hA,hb,hl,⟨rfl,hs⟩,hc⟩:=h.2.2 k hk;exact ⟨b,off,hA,hb,by simpa [eR] using hc 0 (by omega),by simpa [eR,Nat.add_assoc] using hc 1 (by omega),by simpa [eR,Nat.add_assoc] using hc 2 (by omega),by simpa [eR,Nat.add_assoc] using hc 3 (by omega),by simpa [eR,Nat.add_assoc] using hc 4 (by omega),by simpa [eR,Nat.add_assoc] using hc 5 (by omega),hs⟩
theorem gB {w w':World} (a:ag w w') {A:Option Addr} {cap:Nat} {l:List cD} (h:az w 6 gy A cap l):az w' 6 gy A cap l:=h.aA a fun _ _ h=>h
theorem J8 {w:World} {A:Option Addr} {cap:Nat} {l:List cD} (h:az w 6 gy A cap l):Small (l.length*16)∧∀ g∈l,wI g :=
 ⟨h.2.1,fun g hg=>by
  obtain ⟨k,hk,rfl⟩:=List.getElem_of_mem hg;obtain ⟨b,off,cs,hA,hb,hl,⟨rfl,hs⟩,hc⟩:=h.2.2 k hk
  exact hs⟩
theorem Ot (A:Option Addr) (cap:Nat) (l:List cD) (g:FuncId) (ax:Array Value) (p:cD→Bool) (w:World) (h:az w 6 gy A cap l) (cM:∀ (args:Array Value) (w:World),(callFunc g args).run Tryz.prog w=.ok (.enter g args) w)
  (hp:∀ w',ag w w'→∀ i (hi:i < l.length),Calls Tryz.prog g (#[.agg #[.string l[i].af,.string l[i].table,.int .i64 l[i].right,.string l[i].aI,.string l[i].to,.bool l[i].opt]]++ax) w' fun e w''=>e=.returned (.bool (p l[i]))∧ag w' w'') :
  Calls Tryz.prog 257 #[.slice A l.length cap,.func (.func g) #[] ax] w fun e w'=>e=.returned (.int .i64 (bu p l))∧ag w w':=by
 have hlen:=h.len;have HC:=gH hp;clear hp
 go_in
 go_wp2_with fail
 go_loopw [8] (fun i wr=>∃ k:Nat,k≤l.length∧i=.int .i64 k∧ag w wr∧∀ j,j < k→∀ (hj:j < l.length),p l[j]=false) (fun i _=>l.length - (intOf i).toNat)
 case atStart=>exact ⟨0,Nat.zero_le _,rfl,ag.refl _,fun j hj=>absurd hj (Nat.not_lt_zero j)⟩
 case round =>
  obtain ⟨k,hk,rfl,ha,hp⟩:=hrel;have HA:=gH ha;have HP:=gH hp;clear hp;by_cases hlt:k < l.length
  ·have dv:=gB ha h
   clear ha;obtain ⟨b,off,rfl,hb,c0,c1,c2,c3,c4,c5,hs⟩:=qT dv hlt;have HK:=gH (HC.out wr HA.out k hlt);clear dv;obtain ⟨q,hq⟩:∃ q,p l[k]=q:=⟨_,rfl⟩;rw [hq] at HK;have HQ:=gH hq;clear hq
   cases q
   ·go_wp2_with fail
    refine HK.out.mono ?_;rintro e w1 ⟨rfl,a1⟩;have dc:=gH (HA.out.trans a1);clear a1;go_wp2
    go_roundw
    case rel=>exact ⟨k+1,by omega,by go_num,dc.out,dG (p:=fun j=>∀ (hj:j < l.length),p l[j]=false) HP.out (fun _=>HQ.out)⟩
    case measure=>simp [intOf];omega
   ·go_wp2_with fail
    refine HK.out.mono ?_;rintro e w1 ⟨rfl,a1⟩;have dc:=gH (HA.out.trans a1);clear a1;go_wp2;go_ret;exact ⟨by rw [eU p l k hlt HQ.out (fun i hi=>HP.out i hi (by omega))];rfl,dc.out⟩
  ·clear ha
   go_wp2;go_ret;exact ⟨by rw [eT p l (fun i hi=>HP.out i (by omega) hi)];rfl,HA.out⟩
theorem J9 (A:Option Addr) (cap:Nat) (l:List cD) (g:FuncId) (ax:Array Value) (p:cD→Bool) (w:World) (h:az w 6 gy A cap l) (cM:∀ (args:Array Value) (w:World),(callFunc g args).run Tryz.prog w=.ok (.enter g args) w)
  (hp:∀ w',ag w w'→∀ i (hi:i < l.length),Calls Tryz.prog g (#[.agg #[.string l[i].af,.string l[i].table,.int .i64 l[i].right,.string l[i].aI,.string l[i].to,.bool l[i].opt]]++ax) w' fun e w''=>e=.returned (.bool (p l[i]))∧ag w' w'') :
  Calls Tryz.prog 194 #[.slice A l.length cap,.func (.func g) #[] ax] w fun e w'=>e=.returned (.bool (l.any p))∧ag w w':=by
 have C:=gH (Ot A cap l g ax p w h cM hp);have HE:=gH (gU p l);obtain ⟨i,hi⟩:∃ i,bu p l=i:=⟨_,rfl⟩;rw [hi] at C HE;clear hi h hp
 go_in
 go_wp2_with fail;refine C.out.mono ?_;rintro e w1 ⟨rfl,a1⟩;have HA:=gH a1;clear a1;go_wp2;go_ret;exact ⟨by rw [← HE.out];rfl,HA.out⟩
theorem Ka (A:Option Addr) (cap:Nat) (l:List ByteArray) (g:FuncId) (ax:Array Value) (p:ByteArray→Bool) (w:World) (h:az w 1 dC A cap l) (cM:∀ (args:Array Value) (w:World),(callFunc g args).run Tryz.prog w=.ok (.enter g args) w)
  (hp:∀ w',ag w w'→∀ i (hi:i < l.length),Calls Tryz.prog g (#[.string l[i]]++ax) w' fun e w''=>e=.returned (.bool (p l[i]))∧ag w' w'') :
  Calls Tryz.prog 215 #[.slice A l.length cap,.func (.func g) #[] ax] w fun e w'=>e=.returned (.bool (l.any p))∧ag w w':=by
 have C:=gH (Gp A cap l g ax p w h cM hp);have HE:=gH (gU p l);obtain ⟨i,hi⟩:∃ i,bu p l=i:=⟨_,rfl⟩;rw [hi] at C HE;clear hi h hp
 go_in
 go_wp2_with fail;refine C.out.mono ?_;rintro e w1 ⟨rfl,a1⟩;have HA:=gH a1;clear a1;go_wp2;go_ret;exact ⟨by rw [← HE.out];rfl,HA.out⟩
theorem Kc (A:Option Addr) (cap:Nat) (l:List bW) (g:FuncId) (ax:Array Value) (p:bW→Bool) (w:World) (h:az w 5 dE A cap l) (cM:∀ (args:Array Value) (w:World),(callFunc g args).run Tryz.prog w=.ok (.enter g args) w)
  (hp:∀ w',ag w w'→∀ i (hi:i < l.length) (e1:List Value),dE w' e1 l[i]→Calls Tryz.prog g (#[.agg e1.toArray]++ax) w' fun e w''=>e=.returned (.bool (p l[i]))∧ag w' w'') :
  Calls Tryz.prog 192 #[.slice A l.length cap,.func (.func g) #[] ax] w fun e w'=>e=.returned (.bool (l.any p))∧ag w w':=by
 have C:=gH (zH A cap l g ax p w h cM hp);have HE:=gH (gU p l);obtain ⟨i,hi⟩:∃ i,bu p l=i:=⟨_,rfl⟩;rw [hi] at C HE;clear hi h hp
 go_in
 go_wp2_with fail;refine C.out.mono ?_;rintro e w1 ⟨rfl,a1⟩;have HA:=gH a1;clear a1;go_wp2;go_ret;exact ⟨by rw [← HE.out];rfl,HA.out⟩
end Go.Proofs.YtakddkhipelmjaaGreat
namespace Go.Proofs.YtakddkhipelmjaaGreat
open Go.RowKit Go.Shelf Go.Sort
structure kQ {α:Type} (c:α→α→Int):Prop where
 tr:∀ a b d,c a b < 0→c b d < 0→c a d < 0
 dN:∀ a b,c a b = - c b a
 Ou:∀ a b d,c a b=0→c a d=c b d
theorem kQ.WN {α:Type} {c:α→α→Int} (o:kQ c) (a b d:α) (h:c a b=0):c d a=c d b:=by
 have h1:=o.Ou a b d h;have h2:=o.dN d a;have h3:=o.dN d b;omega
theorem kQ.swo {α:Type} {c:α→α→Int} (o:kQ c):SWO (ltOf c) where
 irrefl x:=by
  have:=o.dN x x;unfold ltOf;exact decide_eq_false (by omega)
 trans x y z h1 h2:=by
  unfold ltOf at *;exact decide_eq_true (o.tr _ _ _ (of_decide_eq_true h1) (of_decide_eq_true h2))
 ntrans x y z h1 h2:=by
  unfold ltOf at *;have h1:=of_decide_eq_false h1;have h2:=of_decide_eq_false h2;have a1:=o.dN x y;have a2:=o.dN y z;have a3:=o.dN x z
  refine decide_eq_false fun h=>?_
  by_cases e1:c y x=0
  ·have:=o.Ou y x z e1;omega
  ·by_cases e2:c z y=0
   ·have:=o.Ou z y x e2;omega
   ·have:=o.tr z y x (by omega) (by omega);omega
theorem Kd:kQ bv:=⟨fun a b d h1 h2=>kA h1 h2,j6,fun a b d h=>by
 have:a.data.toList=b.data.toList:=(nL _ _).1 h;unfold bv
 rw [this]⟩
theorem kQ.on {α β:Type} {c:β→β→Int} (o:kQ c) (f:α→β):kQ fun a b:α=>c (f a) (f b):=⟨fun a b d=>o.tr _ _ _,fun a b=>o.dN _ _,fun a b d=>o.Ou _ _ _⟩
theorem kQ.or {α:Type} {c d:α→α→Int} (o:kQ c) (p:kQ d):kQ fun a b=>iR (c a b) (d a b):=by
 have h0:∀ a b,c a b=0→c b a=0:=fun a b h=>by have:=o.dN a b;omega
 have e1:∀ a b,c a b=0→iR (c a b) (d a b)=d a b:=fun a b h=>by unfold iR;simp [h]
 have e2:∀ a b,c a b≠0→iR (c a b) (d a b)=c a b:=fun a b h=>by unfold iR;simp [h]
 refine ⟨fun a b x h1 h2=>?_,fun a b=>?_,fun a b x h=>?_⟩
 ·by_cases g1:c a b=0
  ·rw [e1 _ _ g1] at h1
   have g3:=o.Ou a b x g1;by_cases g2:c b x=0
   ·rw [e1 _ _ g2] at h2
    rw [e1 _ _ (by omega)];exact p.tr _ _ _ h1 h2
   ·rw [e2 _ _ g2] at h2
    rw [e2 _ _ (by omega)];omega
  ·rw [e2 _ _ g1] at h1
   by_cases g2:c b x=0
   ·have g3:=o.WN b x a g2
    rw [e2 _ _ (by omega)];omega
   ·rw [e2 _ _ g2] at h2
    have:=o.tr _ _ _ h1 h2;rw [e2 _ _ (by omega)];exact this
 ·have ha:=o.dN a b
  by_cases g1:c a b=0
  ·rw [e1 _ _ g1,e1 _ _ (h0 _ _ g1)];exact p.dN _ _
  ·rw [e2 _ _ g1,e2 _ _ (by omega)];exact ha
 ·by_cases g1:c a b=0
  ·rw [e1 _ _ g1] at h
   have g3:=o.Ou a b x g1;by_cases g2:c a x=0
   ·rw [e1 _ _ g2,e1 _ _ (by omega)];exact p.Ou _ _ _ h
   ·rw [e2 _ _ g2,e2 _ _ (by omega)];exact g3
  ·rw [e2 _ _ g1] at h;exact absurd h g1
def ja (a b:fK):Int:=bv a.name b.name
theorem tS:kQ ja:=Kd.on fK.name
def py (a b:fh):Int:=bv a.name b.name
theorem Cu:kQ py:=Kd.on fh.name
def fO (a b:bW):Int:=iR (bv a.af b.af) (bv a.name b.name)
theorem tT:kQ fO:=(Kd.on bW.af).or (Kd.on bW.name)
instance:Inhabited fK:=⟨⟨ByteArray.empty,ByteArray.empty⟩⟩
instance:Inhabited fh:=⟨⟨ByteArray.empty,0,[],0,0,ByteArray.empty,ByteArray.empty,ByteArray.empty⟩⟩
instance:Inhabited fu:=⟨⟨default,⟨none,0,0⟩⟩⟩
instance:Inhabited bA:=⟨⟨ByteArray.empty,ByteArray.empty,ByteArray.empty,[],[],⟨none,0,0⟩,⟨none,0,0⟩⟩⟩
end Go.Proofs.YtakddkhipelmjaaGreat
namespace Go.Proofs.YtakddkhipelmjaaGreat
open Go.Shelf Go.Proofs
def xd:Go.Shelf.Ren:=⟨fun | 6=>278 | 15=>219 | 14=>342 | 28=>311 | 29=>312 | 20=>369 | 21=>370 | 22=>371 | 23=>372 | 24=>373 | 25=>374 | 26=>375 | 27=>376 | 46=>397 | 47=>356 | 48=>357 | 49=>398 | 50=>399 | 57=>406 | n=>n,fun | 22=>22 | 24=>109 | 25=>250 | 3=>3 | 39=>195 | 0=>0 | 53=>351 | 55=>285 | 4=>4 | 46=>345 | 45=>344 | 50=>118 | 5=>5 | 9=>9 | 66=>378 | 70=>382 | 76=>402 | 77=>403 | n=>n,fun | n=>n⟩
theorem vv:Go.Proofs.SlLaysF0.n6 Tryz.prog xd:={
 mixed:=by kernel_rfl
 f6:=⟨Tryz.f278.name,by decide,Tryz.func278.trans (congrArg some (by kernel_rfl))⟩
 f14:=⟨Tryz.f342.name,by decide,Tryz.func342.trans (congrArg some (by kernel_rfl))⟩
 f15:=Tryz.func219.trans (congrArg some (by kernel_rfl))
 f20:=⟨Tryz.f369.name,by decide,Tryz.func369.trans (congrArg some (by kernel_rfl))⟩
 f21:=⟨Tryz.f370.name,by decide,Tryz.func370.trans (congrArg some (by kernel_rfl))⟩
 f22:=⟨Tryz.f371.name,by decide,Tryz.func371.trans (congrArg some (by kernel_rfl))⟩
 f23:=⟨Tryz.f372.name,by decide,Tryz.func372.trans (congrArg some (by kernel_rfl))⟩
 f24:=⟨Tryz.f373.name,by decide,Tryz.func373.trans (congrArg some (by kernel_rfl))⟩
 f25:=⟨Tryz.f374.name,by decide,Tryz.func374.trans (congrArg some (by kernel_rfl))⟩
 f26:=⟨Tryz.f375.name,by decide,Tryz.func375.trans (congrArg some (by kernel_rfl))⟩
 f27:=⟨Tryz.f376.name,by decide,Tryz.func376.trans (congrArg some (by kernel_rfl))⟩
 f28:=Tryz.func311.trans (congrArg some (by kernel_rfl))
 f29:=Tryz.func312.trans (congrArg some (by kernel_rfl))
 f46:=⟨Tryz.f397.name,by decide,Tryz.func397.trans (congrArg some (by kernel_rfl))⟩
 f47:=Tryz.func356.trans (congrArg some (by kernel_rfl))
 f48:=Tryz.func357.trans (congrArg some (by kernel_rfl))
 f49:=⟨Tryz.f398.name,by decide,Tryz.func398.trans (congrArg some (by kernel_rfl))⟩
 f50:=⟨Tryz.f399.name,by decide,Tryz.func399.trans (congrArg some (by kernel_rfl))⟩
 f57:=⟨Tryz.f406.name,by decide,Tryz.func406.trans (congrArg some (by kernel_rfl))⟩
 t0:=Tryz.underlying0
 a0:=Tryz.isAgg0
 z0:=Tryz.sizeOf0
 v0:=Tryz.zeroValue0
 t3:=Tryz.underlying3
 a3:=Tryz.isAgg3
 z3:=Tryz.sizeOf3
 v3:=Tryz.zeroValue3
 t4:=Tryz.underlying4
 a4:=Tryz.isAgg4
 z4:=Tryz.sizeOf4
 v4:=Tryz.zeroValue4
 t5:=Tryz.underlying5
 a5:=Tryz.isAgg5
 z5:=Tryz.sizeOf5
 v5:=Tryz.zeroValue5
 t9:=Tryz.underlying9
 a9:=Tryz.isAgg9
 z9:=Tryz.sizeOf9
 v9:=Tryz.zeroValue9
 t22:=Tryz.underlying22
 a22:=Tryz.isAgg22
 z22:=Tryz.sizeOf22
 v22:=Tryz.zeroValue22
 t25:=Tryz.underlying250
 a25:=Tryz.isAgg250
 z25:=Tryz.sizeOf250
 v25:=Tryz.zeroValue250
 t39:=Tryz.underlying195
 a39:=Tryz.isAgg195
 z39:=Tryz.sizeOf195
 v39:=Tryz.zeroValue195
 t45:=Tryz.underlying344
 a45:=Tryz.isAgg344
 z45:=Tryz.sizeOf344
 v45:=Tryz.zeroValue344
 t46:=Tryz.underlying345
 a46:=Tryz.isAgg345
 z46:=Tryz.sizeOf345
 v46:=Tryz.zeroValue345
 t50:=Tryz.underlying118
 a50:=Tryz.isAgg118
 z50:=Tryz.sizeOf118
 v50:=Tryz.zeroValue118
 t53:=Tryz.underlying351
 a53:=Tryz.isAgg351
 z53:=Tryz.sizeOf351
 v53:=Tryz.zeroValue351
 t55:=Tryz.underlying285
 a55:=Tryz.isAgg285
 z55:=Tryz.sizeOf285
 v55:=Tryz.zeroValue285
 t66:=Tryz.underlying378
 a66:=Tryz.isAgg378
 z66:=Tryz.sizeOf378
 v66:=Tryz.zeroValue378
 t70:=Tryz.underlying382
 a70:=Tryz.isAgg382
 z70:=Tryz.sizeOf382
 v70:=Tryz.zeroValue382
 t76:=Tryz.underlying402
 a76:=Tryz.isAgg402
 z76:=Tryz.sizeOf402
 v76:=Tryz.zeroValue402
 t77:=Tryz.underlying403
 a77:=Tryz.isAgg403
 z77:=Tryz.sizeOf403
 v77:=Tryz.zeroValue403 }
end Go.Proofs.YtakddkhipelmjaaGreat
namespace Go.Proofs.YtakddkhipelmjaaGreat
open Go.RowKit Go.Sort Go.Shelf
def FI (w w':World):Prop:=∃ q os',w'=grow (w.drewN q) os'
theorem FI.refl (w:World):FI w w:=⟨0,#[],by rw [grow_empty];rfl⟩
theorem FI.alloc {w w':World} (h:FI w w') (o:Obj):FI w (w'.alloc o):=by
 obtain ⟨q,os,rfl⟩:=h;exact ⟨q,os++#[o],by rw [alloc_eq_grow,grow_grow]⟩
theorem FI.drew {w w':World} (h:FI w w'):FI w w'.drew:=by
 obtain ⟨q,os,rfl⟩:=h;exact ⟨q+1,os,rfl⟩
theorem nM {P:Program} {id:Nat} {Q:Exit→Act→World→Prop} {a:Act} {w:World} {l:List Oper} (n:Nat) (hm:P.follows .mixedOrders=true) (hB:Region.lexTailB .any l.toArray n=true)
  (h:∀ w1,w1=w.drew→wpStill P l.toArray w1 (fun a'=>wpList P l.toArray Q (l.drop n) a' w1) (l.take n) a):(Code.region id l.toArray true).wp P Q a w :=
 wp_region_still_tail n hm hB (h _ rfl)
def zI:List Int→Int
 | []=>0
 | x::l=>if x==0 then zI l else x
theorem xe:∀ (l:List Int) (k:Nat) (hk:k < l.length),(∀ j (hj:j < k),(l[j]'(by omega))=0)→l[k]≠0→zI l=l[k]
 | x::l,0,_,_,h=>by
  have h:x≠0:=h;unfold zI;rw [if_neg (by simpa using h)];rfl
 | x::l,k+1,hk,h0,h=>by
  have e:x=0:=h0 0 (by omega);subst e;unfold zI;rw [if_pos (by rfl)];exact xe l k (by simpa using hk) (fun j hj=>h0 (j+1) (by omega)) h
theorem xg:∀ (l:List Int),(∀ j (hj:j < l.length),l[j]=0)→zI l=0
 | [],_=>rfl
 | x::l,h=>by
  have e:x=0:=h 0 (by simp);subst e;unfold zI;rw [if_pos (by rfl)]
  exact xg l fun j hj=>h (j+1) (by simpa using hj)
theorem DY (l:List Int) (hl:l.length≤1000) (g:Nat) (w:World) (hg:g < w.heap.size) (hc:∀ k (hk:k < l.length),w.cell? ⟨g,k,none⟩=some (.int .i64 l[k])) :
  Calls Tryz.prog 220 #[.slice (some ⟨g,0,none⟩) l.length l.length] w fun e w'=>e=.returned (.int .i64 (zI l))∧w'=w:=by
 have HC:=gH hc;clear hc
 go_in
 go_wp2_with fail
 go_loop [5,8] (fun v i=>∃ k:Nat,k≤l.length∧i=.int .i64 k∧∀ j (hj:j < k) (qp:j < l.length),l[j]=0) (fun v i=>l.length - (intOf i).toNat)
 case atStart=>exact ⟨0,by omega,rfl,fun j hj=>absurd hj (Nat.not_lt_zero j)⟩
 case round =>
  obtain ⟨k,hk,rfl,hz⟩:=hrel;have HZ:=gH hz;clear hz;by_cases hlt:k < l.length
  ·have c0:=HC.out k hlt
   obtain ⟨x,hx⟩:∃ x,l[k]=x:=⟨_,rfl⟩;rw [hx] at c0;have HX:=gH hx;clear hx;by_cases h0:x=0
   ·subst h0
    go_wp2
    go_round
    case rel=>exact ⟨k+1,by omega,by go_num,fun j hj qp=>by
     rcases Nat.lt_or_ge j k with h1 | h1
     ·exact HZ.out j h1 qp
     ·have:j=k:=by omega
      subst this
      exact HX.out⟩
    case measure=>simp [intOf];omega
   ·have hb:(x != 0)=true:=by simpa using h0
    have HN:=gH h0;clear h0;go_wp2;go_ret;exact ⟨by rw [xe l k hlt (fun j hj=>HZ.out j hj (by omega)) (by rw [HX.out];exact HN.out),HX.out];rfl,rfl⟩
  ·go_wp2
   go_ret;exact ⟨by rw [xg l fun j hj=>HZ.out j (by omega) hj];rfl,rfl⟩
theorem oL (x:Int) (w:World):Calls Tryz.prog 313 #[.int .i64 x] w fun e w'=>e=.returned (.bool false)∧w'=w:=by
 go_in
 go_wp2;go_ret;exact ⟨by simp,rfl⟩
theorem D3 (x y:Int) (w:World):Calls Tryz.prog 221 #[.int .i64 x,.int .i64 y] w fun e w'=>e=.returned (.int .i64 (qU x y))∧w'=w:=by
 have HE:=gH (show qU x y=if x < y then -1 else if y < x then 1 else 0 from rfl);obtain ⟨r,hr⟩:∃ r,qU x y=r:=⟨_,rfl⟩;rw [hr] at HE ⊢;clear hr
 go_in
 by_cases h1:x < y
 ·have SH:=gH (show r = -1 by rw [HE.out,if_pos h1])
  go_wp2_with (go_at_call 313;refine (oL _ _).mono ?_;rintro e w' ⟨rfl,rfl⟩)
  go_ret;exact ⟨by rw [SH.out];rfl,rfl⟩
 ·by_cases h2:y < x
  ·have SH:=gH (show r=1 by rw [HE.out,if_neg h1,if_pos h2])
   go_wp2_with (go_at_call 313;refine (oL _ _).mono ?_;rintro e w' ⟨rfl,rfl⟩)
   go_ret;exact ⟨by rw [SH.out];rfl,rfl⟩
  ·have SH:=gH (show r=0 by rw [HE.out,if_neg h1,if_neg h2])
   go_wp2_with (go_at_call 313;refine (oL _ _).mono ?_;rintro e w' ⟨rfl,rfl⟩)
   go_ret;exact ⟨by rw [SH.out];rfl,rfl⟩
theorem Gq (a b c d e:Int):zI [a,b,c,d,e]=iR a (iR b (iR c (iR d e))):=by
 unfold zI zI zI zI zI zI iR;by_cases h:e=0
 ·subst h;simp
 ·have:(e==0)=false:=by simpa using h
  simp [this]
theorem qV (a b:cD) (w:World) :
  Calls Tryz.prog 137 #[.agg #[.string a.af,.string a.table,.int .i64 a.right,.string a.aI,.string a.to,.bool a.opt],.agg #[.string b.af,.string b.table,.int .i64 b.right,.string b.aI,.string b.to,.bool b.opt]] w fun e w'=>e=.returned (.int .i64 (eM a b))∧FI w w':=by
 have HE:=gH (show zI [bv a.af b.af,bv a.table b.table,qU a.right b.right,bv a.aI b.aI,bv a.to b.to]=eM a b from Gq _ _ _ _ _);have CC:=gH (D3 a.right b.right);obtain ⟨r,hr⟩:∃ r,qU a.right b.right=r:=⟨_,rfl⟩;rw [hr] at HE CC;clear hr
 go_in
 go_wp2_with fail;have HG:=gH (((FI.refl w).alloc (.cells #[.string a.af,.string a.table,.int .i64 a.right,.string a.aI,.string a.to,.bool a.opt] 177)).alloc (.cells #[.string b.af,.string b.table,.int .i64 b.right,.string b.aI,.string b.to,.bool b.opt] 177)).drew;refine nM 25 (by kernel_rfl) (by kernel_rfl) ?_;intro w1 Ov
 have a1:ag ((w.alloc (.cells #[.string a.af,.string a.table,.int .i64 a.right,.string a.aI,.string a.to,.bool a.opt] 177)).alloc (.cells #[.string b.af,.string b.table,.int .i64 b.right,.string b.aI,.string b.to,.bool b.opt] 177)) w1:=by rw [Ov];exact (ag.refl _).drew
 rw [← Ov] at HG;clear Ov;obtain ⟨hb1,hb2,hz,HA⟩:=i6 a1;clear a1 HA;simp only [List.take_succ_cons,List.take_zero,List.drop_succ_cons,List.drop_zero]
 repeat still_step
 still_call (dW _ _ _)
 repeat still_step
 still_call (dW _ _ _)
 repeat still_step
 still_call (CC.out _)
 repeat still_step
 still_call (dW _ _ _)
 repeat still_step
 still_call (dW _ _ _)
 refine wpStill_nil ?_;go_wp2_with fail;refine (DY [bv a.af b.af,bv a.table b.table,r,bv a.aI b.aI,bv a.to b.to] (by simp) w1.heap.size _ (by simp) (fun k hk=>?_)).mono ?_
 ·match k,hk with
  | 0,_=>simp
  | 1,_=>simp
  | 2,_=>simp
  | 3,_=>simp
  | 4,_=>simp
 rintro e w2 ⟨rfl,rfl⟩;have HG2:=gH (HG.out.alloc (.cells #[.int .i64 (bv a.af b.af),.int .i64 (bv a.table b.table),.int .i64 r,.int .i64 (bv a.aI b.aI),.int .i64 (bv a.to b.to)] 3));go_wp2;go_ret;exact ⟨by rw [HE.out];rfl,HG2.out⟩
theorem FI.aA {w w':World} (h:FI w w'):ag w w':=by
 obtain ⟨q,os,rfl⟩:=h;exact ((ag.refl w).drewN q).trans (qW _ os)
theorem Ow (a b:cD) (w:World) :
  Calls Tryz.prog 137 #[.agg #[.string a.af,.string a.table,.int .i64 a.right,.string a.aI,.string a.to,.bool a.opt],.agg #[.string b.af,.string b.table,.int .i64 b.right,.string b.aI,.string b.to,.bool b.opt]] w fun e w'=>e=.returned (.int .i64 (eM a b))∧ag w w':=(qV a b w).mono fun e w' ⟨h,g⟩=>⟨h,g.aA⟩
theorem SJ (x:Int) (w:World):Calls Tryz.prog 153 #[.int .i64 x] w fun e w'=>e=.returned (.bool (nN x))∧w=w':=by
 have HK:=gH (show nN x=(x==1 || x==2) from rfl)
 go_in
 cases h1:(x==1)<;>cases h2:(x==2)
 all_goals
  rw [h1,h2] at HK;go_wp2;go_ret;exact ⟨by rw [HK.out];rfl,rfl⟩
theorem D4 {W:World} {b:Nat} {a c d e f:Value} (h:ai W b [a,c,d,e,f]):(loadVar 189 ⟨b,0,none⟩).run Tryz.prog W=.ok (.agg #[a,c,d,e,f]) W:=by
 obtain ⟨e0,e1,e2,e3,e4⟩:=pW h;have h1:=D5 W b 0 (by rw [e0];rfl) (by rw [e1];rfl) (by rw [e2];rfl) (by rw [e3];rfl) (by rw [e4];rfl);rw [e0,e1,e2,e3,e4] at h1;exact h1
theorem Q4 (g:cD) (w:World):Calls Tryz.prog 133 #[.agg #[.string g.af,.string g.table,.int .i64 g.right,.string g.aI,.string g.to,.bool g.opt]] w fun e w'=>e=.returned (.agg #[.string g.af,.string g.table,.int .i64 g.right,.string g.aI,.string g.to])∧ag w w':=by
 go_in
 go_wp2;refine bodyPost_ret (bB (v:=.agg #[.string g.af,.string g.table,.int .i64 g.right,.string g.aI,.string g.to]) rfl _ rfl ?hl) rfl ?_
 case hl =>
  have:=D4 (aN (w:=w.alloc (.cells #[.string g.af,.string g.table,.int .i64 g.right,.string g.aI,.string g.to,.bool g.opt] 177)) (c:=[.string g.af,.string g.table,.int .i64 g.right,.string g.aI,.string g.to]) (t:=189) (ag.refl _))
  simpa using this
 exact ⟨rfl,((ag.refl _).alloc _).alloc _⟩
end Go.Proofs.YtakddkhipelmjaaGreat
namespace Go.Proofs.YtakddkhipelmjaaGreat
open Go.Deep Go.RowKit
theorem ai.up {w:World} {b:Nat} {xs:List Value} {o:Obj} (h:ai w b xs):ai (w.alloc o) b xs:=h.aA ((ag.refl _).alloc o)
theorem aR {w W:World} {c:List Value} {t:TypeId} {b:Nat} (h:ag (w.alloc (.cells c.toArray t)) W) (hb:b=w.heap.size):ai W b c:=hb▸aN h
theorem mv {w:World} {p:Nat} {a b c d e:Value} (h:ai w p [a,b,c,d,e]):w.cell? ⟨p,0,none⟩=some a∧w.cell? ⟨p,1,none⟩=some b∧w.cell? ⟨p,2,none⟩=some c∧w.cell? ⟨p,3,none⟩=some d∧w.cell? ⟨p,4,none⟩=some e∧p < w.heap.size:=⟨h.cell (j:=0) rfl,h.cell (j:=1) rfl,h.cell (j:=2) rfl,h.cell (j:=3) rfl,h.cell (j:=4) rfl,h.1⟩
theorem Cv {w:World} {p:Nat} {a b c d e f:Value} (h:ai w p [a,b,c,d,e,f]):w.cell? ⟨p,0,none⟩=some a∧w.cell? ⟨p,1,none⟩=some b∧w.cell? ⟨p,2,none⟩=some c∧w.cell? ⟨p,3,none⟩=some d∧w.cell? ⟨p,4,none⟩=some e∧w.cell? ⟨p,5,none⟩=some f∧p < w.heap.size:=⟨h.cell (j:=0) rfl,h.cell (j:=1) rfl,h.cell (j:=2) rfl,h.cell (j:=3) rfl,h.cell (j:=4) rfl,h.cell (j:=5) rfl,h.1⟩
theorem j7 {w:World} {p:Nat} {a b c d e f g:Value} (h:ai w p [a,b,c,d,e,f,g]):w.cell? ⟨p,0,none⟩=some a∧w.cell? ⟨p,1,none⟩=some b∧w.cell? ⟨p,2,none⟩=some c∧w.cell? ⟨p,3,none⟩=some d∧w.cell? ⟨p,4,none⟩=some e∧w.cell? ⟨p,5,none⟩=some f∧w.cell? ⟨p,6,none⟩=some g∧p < w.heap.size:=⟨h.cell (j:=0) rfl,h.cell (j:=1) rfl,h.cell (j:=2) rfl,h.cell (j:=3) rfl,h.cell (j:=4) rfl,h.cell (j:=5) rfl,h.cell (j:=6) rfl,h.1⟩
structure gl (w:World) (c:bS) (As:Option Addr) (ax:Nat) (At:Option Addr) (aD:Nat) (An:Option Addr) (aH:Nat) (Am:Option Addr) (aL:Nat) (Ag:Option Addr) (aP:Nat):Prop where
 fS:az w 2 eE As ax c.aj.ae
 tab:az w 5 dE At aD c.aj.tables
 kw:az w 1 dC An aH c.ar.names
 mem:az w 2 fg Am aL c.ar.members
 qr:az w 6 gy Ag aP c.ah
theorem gl.aA {w w':World} {c:bS} {As:Option Addr} {ax:Nat} {At:Option Addr} {aD:Nat} {An:Option Addr} {aH:Nat} {Am:Option Addr} {aL:Nat} {Ag:Option Addr} {aP:Nat} (h:gl w c As ax At aD An aH Am aL Ag aP) (a:ag w w'):gl w' c As ax At aD An aH Am aL Ag aP :=
 ⟨bQ a h.fS,bC a h.tab,aU a h.kw,df a h.mem,gB a h.qr⟩
theorem D6 {o:bE} {s n:ByteArray} (h:bt o.tables s n < 0):kR o s n=nO:=by unfold kR;rw [if_pos h]
theorem oM {o:bE} {s n:ByteArray} {q:Nat} (hi:bt o.tables s n=q) (hq:q < o.tables.length):kR o s n=o.tables[q]:=by
 unfold kR;rw [if_neg (by omega),hi];simp [List.getElem?_eq_getElem hq]
def Ox (w:World) (o:bE) (s n:ByteArray) (e:Ending) (w':World):Prop :=
 ∃ (A2:Option Addr) (c2:Nat) (A3:Option Addr) (c3:Nat),e=.returned (.tuple #[.agg #[.string (kR o s n).af,.string (kR o s n).name,.string (kR o s n).owner,.slice A2 (kR o s n).au.length c2,.slice A3 (kR o s n).rules.length c3],.bool (decide (0≤bt o.tables s n))])∧ag w w'
theorem Oy (af name owner:ByteArray) (A0:Option Addr) (n0 c0:Nat) (A1:Option Addr) (n1 c1:Nat) (s n:ByteArray) (b1 b2:Nat) (w:World) (hb1:b1 < w.heap.size) (hb2:b2 < w.heap.size) (hc1:w.cell? ⟨b1,0,none⟩=some (.string s)) (hc2:w.cell? ⟨b2,0,none⟩=some (.string n)) :
  Calls Tryz.prog 213 #[.agg #[.string af,.string name,.string owner,.slice A0 n0 c0,.slice A1 n1 c1],.pointer (some ⟨b1,0,none⟩),.pointer (some ⟨b2,0,none⟩)] w fun e w'=>e=.returned (.bool (aS af s&&aS name n))∧ag w w':=by
 cases h1:aS af s
 ·have xh:(af.toList==s.toList)=false:=h1
  clear h1
  go_in
  go_wp2;go_ret;exact ⟨rfl,(ag.refl _).alloc _⟩
 ·have xh:(af.toList==s.toList)=true:=h1
  clear h1
  go_in
  go_wp2;go_ret;exact ⟨rfl,(ag.refl _).alloc _⟩
theorem zJ (c:bS) (As:Option Addr) (ax:Nat) (At:Option Addr) (aD:Nat) (An:Option Addr) (aH:Nat) (Am:Option Addr) (aL:Nat) (Ag:Option Addr) (aP:Nat) (s n:ByteArray) (w:World) (dH:az w 5 dE At aD c.aj.tables) :
  Calls Tryz.prog 132 #[.agg #[.int .i64 c.av,.int .i64 c.version,.slice As c.aj.ae.length ax,.slice At c.aj.tables.length aD,.slice An c.ar.names.length aH,.slice Am c.ar.members.length aL,.slice Ag c.ah.length aP],.string s,.string n] w (Ox w c.aj s n):=by
 have iG:=dH.len;have cM:=enters (P:=Tryz.prog) Tryz.func213 (by kernel_rfl) rfl;obtain ⟨W,hW⟩:∃ W,W=(((w.alloc (.cells #[.int .i64 c.av,.int .i64 c.version,.slice As c.aj.ae.length ax,.slice At c.aj.tables.length aD,.slice An c.ar.names.length aH,.slice Am c.ar.members.length aL,.slice Ag c.ah.length aP] 32)).alloc (.cells #[.string s] 9)).alloc (.cells #[.string n] 9)).alloc (.cells #[.string ⟨#[]⟩,.string ⟨#[]⟩,.string ⟨#[]⟩,.slice none 0 0,.slice none 0 0] 80):=⟨_,rfl⟩
 have aW:ag w W:=by rw [hW];exact ((((ag.refl w).alloc _).alloc _).alloc _).alloc _
 have r0:ai W (w.heap.size) [.int .i64 c.av,.int .i64 c.version,.slice As c.aj.ae.length ax,.slice At c.aj.tables.length aD,.slice An c.ar.names.length aH,.slice Am c.ar.members.length aL,.slice Ag c.ah.length aP]:=by rw [hW];exact ai.up (ai.up (ai.up (aR (ag.refl _) (by simp))))
 have r1:ai W (w.heap.size+1) [.string s]:=by rw [hW];exact ai.up (ai.up (aR (ag.refl _) (by simp)))
 have r2:ai W (w.heap.size+1+1) [.string n]:=by rw [hW];exact ai.up (aR (ag.refl _) (by simp))
 have r3:ai W (w.heap.size+1+1+1) [.string ⟨#[]⟩,.string ⟨#[]⟩,.string ⟨#[]⟩,.slice none 0 0,.slice none 0 0]:=by rw [hW];exact aR (ag.refl _) (by simp)
 obtain ⟨i,hi⟩:∃ i,bt c.aj.tables s n=i:=⟨_,rfl⟩
 have Ke : -1≤i∧i < c.aj.tables.length:=by rw [← hi];exact aT _ _
 have CI:=gH (show ∀ w',ag W w'→Calls Tryz.prog 185 #[.slice At c.aj.tables.length aD,.func (.func 213) #[] #[.pointer (some ⟨w.heap.size+1,0,none⟩),.pointer (some ⟨w.heap.size+1+1,0,none⟩)]] w' fun e w''=>e=.returned (.int .i64 i)∧ag w' w'' from
  fun w' a=>(zH At aD c.aj.tables 213 #[.pointer (some ⟨w.heap.size+1,0,none⟩),.pointer (some ⟨w.heap.size+1+1,0,none⟩)] (fun t=>aS t.af s&&aS t.name n) w' (bC (aW.trans a) dH) cM (fun w'' b j hj e1 he=>by
   obtain ⟨A2,bJ,A3,fC,rfl,_⟩:=he;have p1:=r1.aA (a.trans b);have p2:=r2.aA (a.trans b)
   exact Oy _ _ _ A2 _ bJ A3 _ fC s n _ _ w'' p1.1 p2.1 (p1.cell (j:=0) rfl) (p2.cell (j:=0) rfl))).mono fun e w'' ⟨he,hw⟩=>⟨he.trans (by rw [← hi];rfl),hw⟩)
 have HI:=gH hi;have HT:=gH dH;have cu:=gH aW;have kJ:=gH r0;have Kf:=gH r3;clear hi dH r0 r1 r2 r3 aW
 go_in
 go_wp2_with fail;rw [← hW];clear hW;refine (CI.out W (ag.refl W)).mono ?_;rintro e w1 ⟨rfl,a1⟩;have b3:=Kf.out.aA a1;obtain ⟨d0,d1,d2,d3,d4⟩:=pW b3;obtain ⟨f0,f1,f2,f3,f4⟩:=zo b3;have z3:=b3.1;have b0:=kJ.out.aA a1;have c3:=b0.cell (j:=3) rfl;have z0:=b0.1;have dc:=gH (cu.out.trans a1);have JL:=gH b3;clear a1 b3 b0 CI;by_cases h0:0≤i
 ·obtain ⟨q,rfl⟩:=Int.eq_ofNat_of_zero_le h0
  have hq:q < c.aj.tables.length:=by omega
  obtain ⟨b,off,A2,bJ,A3,fC,rfl,hb,t0,t1,t2,t3,t4,d9,kK,tv⟩:=iB (bC dc.out HT.out) hq;have HE:=gH (oM HI.out hq);obtain ⟨p,hp⟩:∃ p,c.aj.tables[q]=p:=⟨_,rfl⟩;rw [hp] at t0 t1 t2 t3 t4 HE;clear hp d9 kK tv h0 Ke;go_wp2;refine bodyPost_ret (results_cell_tmp (v:=.agg #[.string p.af,.string p.name,.string p.owner,.slice A2 p.au.length bJ,.slice A3 p.rules.length fC]) rfl _ rfl ?hl) rfl ?_
  case hl=>exact iZ (jb JL.out rfl _ _ _ _ _)
  exact ⟨A2,bJ,A3,fC,by rw [HE.out,HI.out];simp,(ie _ _ _ _ _ _ _).aJ dc.out (fun g hg e=>by omega)⟩
 ·have HE:=gH (D6 (o:=c.aj) (s:=s) (n:=n) (by rw [HI.out];omega))
  have HD:=gH (show decide (0≤i)=false from decide_eq_false h0)
  have Nj:i < 0:=by omega
  clear h0 Ke;go_wp2;refine bodyPost_ret (results_cell_tmp (v:=.agg #[.string ⟨#[]⟩,.string ⟨#[]⟩,.string ⟨#[]⟩,.slice none 0 0,.slice none 0 0]) rfl _ rfl ?hl) rfl ?_
  case hl=>exact iZ (jb JL.out rfl _ _ _ _ _)
  exact ⟨none,0,none,0,by rw [HE.out,HI.out,HD.out];rfl,(ie _ _ _ _ _ _ _).aJ dc.out (fun g hg e=>by omega)⟩
theorem Kg (An:Option Addr) (aH:Nat) (names:List ByteArray) (v0 v1:Value) (owner:ByteArray) (v3 v4:Value) (b0:Nat) (w:World) (hb0:b0 < w.heap.size) (hc0:w.cell? ⟨b0,4,none⟩=some (.slice An names.length aH)) (hn:az w 1 dC An aH names) (s0 s1:ByteArray) (A2:Option Addr) (n2 c2:Nat) (A3:Option Addr) (n3 c3:Nat) (e0:v0=.string s0) (e1:v1=.string s1) (e3:v3=.slice A2 n2 c2) (e4:v4=.slice A3 n3 c3) :
  Calls Tryz.prog 229 #[.agg #[v0,v1,.string owner,v3,v4],.pointer (some ⟨b0,0,none⟩)] w fun e w'=>e=.returned (.bool (!eu names owner))∧ag w w':=by
 subst e0 e1 e3 e4;obtain ⟨i,hi⟩:∃ i,eu names owner=i:=⟨_,rfl⟩;have C:=gH (show ∀ w',ag w w'→Calls Tryz.prog 69 #[.slice An names.length aH,.string owner] w' fun e w''=>e=.returned (.bool i)∧w'=w'' from fun w' a=>hi▸jc An aH names owner w' (aU a hn));rw [hi];clear hi hn
 go_in
 go_wp2_with fail;refine (C.out _ ((ag.refl w).alloc _)).mono ?_;rintro e w1 ⟨rfl,rfl⟩;go_wp2;go_ret;exact ⟨rfl,(ag.refl _).alloc _⟩
theorem Kh (c:bS) (As:Option Addr) (ax:Nat) (At:Option Addr) (aD:Nat) (An:Option Addr) (aH:Nat) (Am:Option Addr) (aL:Nat) (Ag:Option Addr) (aP:Nat) (w:World) (H:gl w c As ax At aD An aH Am aL Ag aP) :
  Calls Tryz.prog 152 #[.agg #[.int .i64 c.av,.int .i64 c.version,.slice As c.aj.ae.length ax,.slice At c.aj.tables.length aD,.slice An c.ar.names.length aH,.slice Am c.ar.members.length aL,.slice Ag c.ah.length aP]] w fun e w'=>e=.returned (.bool (gC c))∧ag w w':=by
 have hlen:=H.fS.len;have cM:=enters (P:=Tryz.prog) Tryz.func229 (by kernel_rfl) rfl;obtain ⟨W,hW⟩:∃ W,W=w.alloc (.cells #[.int .i64 c.av,.int .i64 c.version,.slice As c.aj.ae.length ax,.slice At c.aj.tables.length aD,.slice An c.ar.names.length aH,.slice Am c.ar.members.length aL,.slice Ag c.ah.length aP] 32):=⟨_,rfl⟩
 have aW:ag w W:=by rw [hW];exact (ag.refl w).alloc _
 have r0:ai W (w.heap.size) [.int .i64 c.av,.int .i64 c.version,.slice As c.aj.ae.length ax,.slice At c.aj.tables.length aD,.slice An c.ar.names.length aH,.slice Am c.ar.members.length aL,.slice Ag c.ah.length aP]:=by rw [hW];exact aR (ag.refl _) (by simp)
 have HN:=gH (show ∀ w',ag W w'→∀ s,Calls Tryz.prog 69 #[.slice An c.ar.names.length aH,.string s] w' fun e w''=>e=.returned (.bool (eu c.ar.names s))∧w'=w'' from fun w' a s=>jc An aH c.ar.names s w' (aU (aW.trans a) H.kw));obtain ⟨q,hq⟩:∃ q,c.aj.tables.any (fun t=>!eu c.ar.names t.owner)=q:=⟨_,rfl⟩
 have CT:=gH (show ∀ w',ag W w'→Calls Tryz.prog 192 #[.slice At c.aj.tables.length aD,.func (.func 229) #[] #[.pointer (some ⟨w.heap.size,0,none⟩)]] w' fun e w''=>e=.returned (.bool q)∧ag w' w'' from
  fun w' a=>(Kc At aD c.aj.tables 229 #[.pointer (some ⟨w.heap.size,0,none⟩)] (fun t=>!eu c.ar.names t.owner) w' (bC (aW.trans a) H.tab) cM (fun w'' b j hj e1 he=>by
   obtain ⟨A2,bJ,A3,fC,rfl,_⟩:=he;have p0:=r0.aA (a.trans b)
   exact Kg An aH c.ar.names _ _ _ _ _ _ w'' p0.1 (p0.cell (j:=4) rfl) (aU ((aW.trans a).trans b) H.kw) _ _ _ _ _ _ _ _ rfl rfl rfl rfl)).mono fun e w'' ⟨he,hw⟩=>⟨he.trans (by rw [hq]),hw⟩)
 have HO:=gH (show gC c=(c.aj.ae.all (fun s=>eu c.ar.names s.owner)&&!q) from by
  unfold gC
  rw [← hq,List.all_eq_not_any_not (l:=c.aj.tables)])
 have HS:=gH H.fS;have cu:=gH aW;have kJ:=gH r0;clear H hq r0 aW
 go_in
 go_wp2_with fail;rw [← hW]
 go_loopw [9] (fun i wr=>∃ k:Nat,k≤c.aj.ae.length∧i=.int .i64 k∧ag W wr∧∀ j,j < k→∀ (hj:j < c.aj.ae.length),eu c.ar.names c.aj.ae[j].owner=true) (fun i _=>c.aj.ae.length - (intOf i).toNat)
 case atStart=>exact ⟨0,Nat.zero_le _,rfl,ag.refl _,fun j hj=>absurd hj (Nat.not_lt_zero j)⟩
 case round =>
  clear hW;obtain ⟨k,hk,rfl,ha,hp⟩:=hrel;have HA:=gH ha;have HP:=gH hp;have p0:=kJ.out.aA ha;have c3:=p0.cell (j:=3) rfl;have c4:=p0.cell (j:=4) rfl;have z0:=p0.1;clear ha hp p0;by_cases hlt:k < c.aj.ae.length
  ·obtain ⟨b,off,rfl,hb,t0,t1,s0,s1⟩:=lh (bQ (cu.out.trans HA.out) HS.out) hlt
   obtain ⟨p,jY⟩:∃ p,c.aj.ae[k]=p:=⟨_,rfl⟩;rw [jY] at t0 t1 s0 s1;have aX:ag wr (wr.alloc (.cells #[.string p.name,.string p.owner] 109)):=(ag.refl _).alloc _;have C:=gH (HN.out _ (HA.out.trans aX) p.owner);have vw:=gH (HA.out.trans aX);obtain ⟨i,hi⟩:∃ i,eu c.ar.names p.owner=i:=⟨_,rfl⟩;rw [hi] at C;have HI:=gH (show eu c.ar.names c.aj.ae[k].owner=i by rw [jY];exact hi);clear hi jY aX
   cases i
   ·have HF:=gH (show gC c=false by rw [HO.out,all_false _ _ k hlt HI.out];rfl)
    go_wp2_with fail;refine C.out.mono ?_;rintro e w1 ⟨rfl,rfl⟩;go_wp2;go_ret;exact ⟨by rw [HF.out];rfl,cu.out.trans vw.out⟩
   ·go_wp2_with fail
    refine C.out.mono ?_;rintro e w1 ⟨rfl,rfl⟩;go_wp2
    go_roundw
    case rel=>exact ⟨k+1,by omega,by go_num,vw.out,dG (p:=fun j=>∀ (hj:j < c.aj.ae.length),eu c.ar.names c.aj.ae[j].owner=true) HP.out (fun _=>HI.out)⟩
    case measure=>simp [intOf];omega
  ·have HF:=gH (show gC c=!q by rw [HO.out,all_true _ _ fun j hj=>HP.out j (by omega) hj];rfl)
   have C:=gH (CT.out wr HA.out);go_wp2_with fail;refine C.out.mono ?_;rintro e w1 ⟨rfl,a1⟩;have dc:=gH (cu.out.trans (HA.out.trans a1));clear a1;go_wp2;go_ret;exact ⟨by rw [HF.out];rfl,dc.out⟩
theorem SK (name owner s:ByteArray) (b1:Nat) (w:World) (hb1:b1 < w.heap.size) (hc1:w.cell? ⟨b1,0,none⟩=some (.string s)) :
  Calls Tryz.prog 214 #[.agg #[.string name,.string owner],.pointer (some ⟨b1,0,none⟩)] w fun e w'=>e=.returned (.bool (aS name s))∧ag w w':=by
 go_in
 go_wp2;go_ret;exact ⟨rfl,(ag.refl _).alloc _⟩
theorem D7:cI.toList=[114,111,111,116]:=by first | rfl | kernel_rfl | decide
theorem Ki (r:ByteArray):aS r cI=(r.toList==[114,111,111,116]):=by unfold aS;rw [D7]
theorem SL (r to over:ByteArray) (b0 b1 b2:Nat) (As:Option Addr) (n ax:Nat) (q:Nat) (w:World) (h0:b0 < w.heap.size) (h1:b1 < w.heap.size) (h2:b2 < w.heap.size) (hc0:w.cell? ⟨b0,2,none⟩=some (.slice As n ax)) (hc1:w.cell? ⟨b1,2,none⟩=some (.string to)) (hc2:w.cell? ⟨b2,0,none⟩=some (.int .i64 q))
  (hq:q < n) (hn:n*16≤140737488351232) (hA:∃ b off,As=some ⟨b,off,none⟩∧b < w.heap.size∧w.cell? ⟨b,off+q*2+1,none⟩=some (.string over)) :
  Calls Tryz.prog 216 #[.string r,.pointer (some ⟨b1,0,none⟩),.pointer (some ⟨b0,0,none⟩),.pointer (some ⟨b2,0,none⟩)] w fun e w'=>e=.returned (.bool (aS r cI || aS r to || aS r over))∧ag w w':=by
 obtain ⟨b,off,rfl,hb,hc⟩:=hA;rw [Ki]
 cases e1:(r.toList==[114,111,111,116])
 ·cases e2:aS r to
  ·have JM:(r.toList==to.toList)=false:=e2
   clear e2
   go_in
   go_wp2;go_ret;exact ⟨rfl,ag.refl _⟩
  ·have JM:(r.toList==to.toList)=true:=e2
   clear e2
   go_in
   go_wp2;go_ret;exact ⟨rfl,ag.refl _⟩
 ·go_in
  go_wp2;go_ret;exact ⟨rfl,ag.refl _⟩
theorem qX {o:bE} {s:ByteArray} {q:Nat} (hi:bY o.ae s=q) (hq:q < o.ae.length):tU o s=o.ae[q].owner:=by
 unfold tU;rw [if_neg (by omega),hi];simp [List.getElem?_eq_getElem hq]
theorem Nk (c:bS) (As:Option Addr) (ax:Nat) (At:Option Addr) (aD:Nat) (An:Option Addr) (aH:Nat) (Am:Option Addr) (aL:Nat) (Ag:Option Addr) (aP:Nat) (is:List ByteArray) (Ai:Option Addr) (mR:Nat) (ts tn to:ByteArray) (A2:Option Addr) (n2 c2:Nat) (A3:Option Addr) (n3 c3:Nat) (t:bW) (ht:t.af=ts∧t.owner=to) (w:World) (H:gl w c As ax At aD An aH Am aL Ag aP) (xi:az w 1 dC Ai mR is) (hsc:0≤bY c.aj.ae ts) :
  Calls Tryz.prog 134 #[.agg #[.int .i64 c.av,.int .i64 c.version,.slice As c.aj.ae.length ax,.slice At c.aj.tables.length aD,.slice An c.ar.names.length aH,.slice Am c.ar.members.length aL,.slice Ag c.ah.length aP],.slice Ai is.length mR,.agg #[.string ts,.string tn,.string to,.slice A2 n2 c2,.slice A3 n3 c3]] w fun e w'=>e=.returned (.bool (pA c.aj is t))∧ag w w':=by
 have hlen:=H.fS.len;have Cx:=enters (P:=Tryz.prog) Tryz.func214 (by kernel_rfl) rfl;have pB:=enters (P:=Tryz.prog) Tryz.func216 (by kernel_rfl) rfl;obtain ⟨W,hW⟩:∃ W,W=(w.alloc (.cells #[.int .i64 c.av,.int .i64 c.version,.slice As c.aj.ae.length ax,.slice At c.aj.tables.length aD,.slice An c.ar.names.length aH,.slice Am c.ar.members.length aL,.slice Ag c.ah.length aP] 32)).alloc (.cells #[.string ts,.string tn,.string to,.slice A2 n2 c2,.slice A3 n3 c3] 80):=⟨_,rfl⟩
 have aW:ag w W:=by rw [hW];exact ((ag.refl w).alloc _).alloc _
 have r0:ai W (w.heap.size) [.int .i64 c.av,.int .i64 c.version,.slice As c.aj.ae.length ax,.slice At c.aj.tables.length aD,.slice An c.ar.names.length aH,.slice Am c.ar.members.length aL,.slice Ag c.ah.length aP]:=by rw [hW];exact ai.up (aR (ag.refl _) (by simp))
 have r1:ai W (w.heap.size+1) [.string ts,.string tn,.string to,.slice A2 n2 c2,.slice A3 n3 c3]:=by rw [hW];exact aR (ag.refl _) (by simp)
 obtain ⟨q,hq⟩:=Int.eq_ofNat_of_zero_le hsc;have Ke : -1≤bY c.aj.ae ts∧bY c.aj.ae ts < c.aj.ae.length:=aT _ _
 have pC:q < c.aj.ae.length:=by omega
 have HB:=gH (show pA c.aj is t=is.any (fun r=>aS r cI || aS r to || aS r c.aj.ae[q].owner) from by
  unfold pA
  rw [ht.1,ht.2,qX hq pC])
 have CI:=gH (show ∀ w',ag W w'→Calls Tryz.prog 110 #[.slice As c.aj.ae.length ax,.func (.func 214) #[] #[.pointer (some ⟨w.heap.size+1,0,none⟩)]] w' fun e w''=>e=.returned (.int .i64 q)∧ag w' w'' from
  fun w' a=>(vx As ax c.aj.ae 214 #[.pointer (some ⟨w.heap.size+1,0,none⟩)] (fun s=>aS s.name ts) w' (bQ (aW.trans a) H.fS) Cx (fun w'' b j hj=>by
   have p1:=r1.aA (a.trans b)
   exact SK _ _ _ _ w'' p1.1 (p1.cell (j:=0) rfl))).mono fun e w'' ⟨he,hw⟩=>⟨he.trans (by rw [← hq];rfl),hw⟩)
 obtain ⟨v,hv⟩:∃ v,is.any (fun r=>aS r cI || aS r to || aS r c.aj.ae[q].owner)=v:=⟨_,rfl⟩
 have CC:=gH (show ∀ b2 w',ag W w'→w'.cell? ⟨b2,0,none⟩=some (.int .i64 q)→Calls Tryz.prog 215 #[.slice Ai is.length mR,.func (.func 216) #[] #[.pointer (some ⟨w.heap.size+1,0,none⟩),.pointer (some ⟨w.heap.size,0,none⟩),.pointer (some ⟨b2,0,none⟩)]] w' fun e w''=>e=.returned (.bool v)∧ag w' w'' from
  fun b2 w' a hb2=>(Ka Ai mR is 216 #[.pointer (some ⟨w.heap.size+1,0,none⟩),.pointer (some ⟨w.heap.size,0,none⟩),.pointer (some ⟨b2,0,none⟩)] (fun r=>aS r cI || aS r to || aS r c.aj.ae[q].owner) w' (aU (aW.trans a) xi) pB (fun w'' b j hj=>by
   have p0:=r0.aA (a.trans b);have p1:=r1.aA (a.trans b);have z2:b2 < w'.heap.size:=World.block_lt_of_cell? w' ⟨b2,0,none⟩ hb2;have c2:w''.cell? ⟨b2,0,none⟩=some (.int .i64 q):=(Below.cell b (p:=⟨b2,0,none⟩) z2).trans hb2;obtain ⟨bs,off,hA,WO,_,t1,_,_⟩:=lh (bQ ((aW.trans a).trans b) H.fS) pC
   exact SL _ to c.aj.ae[q].owner w.heap.size _ b2 As _ ax q w'' p0.1 p1.1 (Nat.lt_of_lt_of_le z2 b.size) (p0.cell (j:=2) rfl) (p1.cell (j:=2) rfl) c2 pC (by have:=H.fS.2.1;unfold Small at this;omega) ⟨bs,off,hA,WO,t1⟩)).mono fun e w'' ⟨he,hw⟩=>⟨he.trans (by rw [hv]),hw⟩)
 rw [hv] at HB;have cu:=gH aW;have kJ:=gH r0;clear hv hq Ke hsc H xi ht r0 r1 aW
 go_in
 go_wp2_with fail;rw [← hW];clear hW;refine (CI.out W (ag.refl W)).mono ?_;rintro e w1 ⟨rfl,a1⟩;have dc:=gH a1;have C2:=gH (CC.out w1.heap.size (w1.alloc (.cells #[.int .i64 q] 3)) (a1.alloc _) (by simp));clear a1;go_wp2_with fail;refine C2.out.mono ?_;rintro e w2 ⟨rfl,a2⟩;have i5:=gH ((cu.out.trans dc.out).trans (((ag.refl w1).alloc _).trans a2));clear a2;go_wp2;go_ret;exact ⟨by rw [HB.out];rfl,i5.out⟩
theorem Oz (g:cD) (ts tn:ByteArray) (A2:Option Addr) (n2 c2:Nat) (A3:Option Addr) (n3 c3:Nat) (rt:Int) (op:Bool) (is:List ByteArray) (Ai:Option Addr) (mR:Nat) (bi b1 b2 b3:Nat) (w:World) (SM:bi < w.heap.size) (h1:b1 < w.heap.size) (h2:b2 < w.heap.size) (h3:b3 < w.heap.size) (hci:w.cell? ⟨bi,0,none⟩=some (.slice Ai is.length mR)) (hc1:w.cell? ⟨b1,0,none⟩=some (.string ts)) (aaf:w.cell? ⟨b1,1,none⟩=some (.string tn)) (hc2:w.cell? ⟨b2,0,none⟩=some (.int .i64 rt)) (hc3:w.cell? ⟨b3,0,none⟩=some (.bool op)) (xi:az w 1 dC Ai mR is) :
  Calls Tryz.prog 217 #[.agg #[.string g.af,.string g.table,.int .i64 g.right,.string g.aI,.string g.to,.bool g.opt],.pointer (some ⟨b1,0,none⟩),.pointer (some ⟨b2,0,none⟩),.pointer (some ⟨b3,0,none⟩),.pointer (some ⟨bi,0,none⟩)] w fun e w'=>e=.returned (.bool (aS g.af ts&&aS g.table tn&&(g.right==rt)&&(g.opt || !op)&&eu is g.to))∧ag w w':=by
 obtain ⟨i,hi⟩:∃ i,eu is g.to=i:=⟨_,rfl⟩;have C:=gH (show ∀ w',ag w w'→Calls Tryz.prog 69 #[.slice Ai is.length mR,.string g.to] w' fun e w''=>e=.returned (.bool i)∧w'=w'' from fun w' a=>hi▸jc Ai mR is g.to w' (aU a xi));rw [hi];clear hi xi;obtain ⟨gs,gt,gr,gg,gto,go⟩:=g;dsimp only at C ⊢
 cases e1:aS gs ts
 ·have OA:(gs.toList==ts.toList)=false:=e1
  clear e1
  go_in
  go_wp2;go_ret;exact ⟨rfl,(ag.refl _).alloc _⟩
 have OA:(gs.toList==ts.toList)=true:=e1;clear e1
 cases e2:aS gt tn
 ·have JM:(gt.toList==tn.toList)=false:=e2
  clear e2
  go_in
  go_wp2;go_ret;exact ⟨rfl,(ag.refl _).alloc _⟩
 have JM:(gt.toList==tn.toList)=true:=e2;clear e2
 cases e3:(gr==rt)
 ·go_in
  go_wp2;go_ret;exact ⟨rfl,(ag.refl _).alloc _⟩
 cases go<;>cases op
 all_goals
  go_in
  go_wp2_with (go_at_call 69;refine (C.out _ ((ag.refl w).alloc _)).mono ?_;rintro e w1 ⟨rfl,rfl⟩)
  go_ret;exact ⟨rfl,(ag.refl _).alloc _⟩
theorem OB (l:List cD) (Ag:Option Addr) (aP:Nat) (is:List ByteArray) (Ai:Option Addr) (mR:Nat) (ts tn to:ByteArray) (A2:Option Addr) (n2 c2:Nat) (A3:Option Addr) (n3 c3:Nat) (rt:Int) (op:Bool) (w:World) (hl:az w 6 gy Ag aP l) (xi:az w 1 dC Ai mR is) :
  Calls Tryz.prog 135 #[.slice Ag l.length aP,.slice Ai is.length mR,.agg #[.string ts,.string tn,.string to,.slice A2 n2 c2,.slice A3 n3 c3],.int .i64 rt,.bool op] w fun e w'=>e=.returned (.bool (jK l is ts tn rt op))∧ag w w':=by
 have cM:=enters (P:=Tryz.prog) Tryz.func217 (by kernel_rfl) rfl;obtain ⟨W,hW⟩:∃ W,W=(((w.alloc (.cells #[.slice Ai is.length mR] 26)).alloc (.cells #[.string ts,.string tn,.string to,.slice A2 n2 c2,.slice A3 n3 c3] 80)).alloc (.cells #[.int .i64 rt] 43)).alloc (.cells #[.bool op] 4):=⟨_,rfl⟩
 have aW:ag w W:=by rw [hW];exact ((((ag.refl w).alloc _).alloc _).alloc _).alloc _
 have r0:ai W (w.heap.size) [.slice Ai is.length mR]:=by rw [hW];exact ai.up (ai.up (ai.up (aR (ag.refl _) (by simp))))
 have r1:ai W (w.heap.size+1) [.string ts,.string tn,.string to,.slice A2 n2 c2,.slice A3 n3 c3]:=by rw [hW];exact ai.up (ai.up (aR (ag.refl _) (by simp)))
 have r2:ai W (w.heap.size+1+1) [.int .i64 rt]:=by rw [hW];exact ai.up (aR (ag.refl _) (by simp))
 have r3:ai W (w.heap.size+1+1+1) [.bool op]:=by rw [hW];exact aR (ag.refl _) (by simp)
 obtain ⟨v,hv⟩:∃ v,jK l is ts tn rt op=v:=⟨_,rfl⟩
 have C:=gH ((J9 Ag aP l 217 #[.pointer (some ⟨w.heap.size+1,0,none⟩),.pointer (some ⟨w.heap.size+1+1,0,none⟩),.pointer (some ⟨w.heap.size+1+1+1,0,none⟩),.pointer (some ⟨w.heap.size,0,none⟩)] (fun g=>aS g.af ts&&aS g.table tn&&(g.right==rt)&&(g.opt || !op)&&eu is g.to) W (gB aW hl) cM (fun w'' b j hj=>by
   have p0:=r0.aA b;have p1:=r1.aA b;have p2:=r2.aA b;have p3:=r3.aA b
   exact Oz l[j] ts tn A2 n2 c2 A3 n3 c3 rt op is Ai mR _ _ _ _ w'' p0.1 p1.1 p2.1 p3.1 (p0.cell (j:=0) rfl) (p1.cell (j:=0) rfl) (p1.cell (j:=1) rfl) (p2.cell (j:=0) rfl) (p3.cell (j:=0) rfl) (aU (aW.trans b) xi))).mono (R':=fun e w''=>e=.returned (.bool v)∧ag W w'') fun e w'' ⟨he,hw⟩=>⟨he.trans (by rw [← hv];rfl),hw⟩)
 rw [hv];have cu:=gH aW;clear hv hl xi r0 r1 r2 r3 aW
 go_in
 go_wp2_with fail;rw [← hW];clear hW;refine C.out.mono ?_;rintro e w1 ⟨rfl,a1⟩;have dc:=gH (cu.out.trans a1);clear a1;go_wp2;go_ret;exact ⟨rfl,dc.out⟩
end Go.Proofs.YtakddkhipelmjaaGreat
