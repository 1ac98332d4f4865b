import Derived.Test.YtakddkhipelmjaaGreatPartF9
set_option maxRecDepth 100000
set_option linter.unusedVariables false
set_option maxHeartbeats 64000000
namespace Go.Proofs.YtakddkhipelmjaaGreat
open Go.Deep Go.RowKit
theorem iL (n lo hi:Int) (w:World):Calls Tryz.prog 21 #[.int .i64 n,.int .i64 lo,.int .i64 hi] w fun e w'=>e=.returned (.bool (lH n lo hi))∧w=w':=by
 by_cases h1:lo≤n
 ·by_cases h2:n≤hi
  ·have HB:=gH (show lH n lo hi=true by unfold lH;rw [decide_eq_true h1,decide_eq_true h2];rfl)
   go_in
   go_wp2;go_ret;exact ⟨by rw [HB.out];rfl,rfl⟩
  ·have HB:=gH (show lH n lo hi=false by unfold lH;rw [decide_eq_true h1,decide_eq_false h2];rfl)
   go_in
   go_wp2;go_ret;exact ⟨by rw [HB.out];rfl,rfl⟩
 ·have HB:=gH (show lH n lo hi=false by unfold lH;rw [decide_eq_false h1];rfl)
  go_in
  go_wp2;go_ret;exact ⟨by rw [HB.out];rfl,rfl⟩
theorem pu (n:Int) (w:World):Calls Tryz.prog 26 #[.int .i64 n] w fun e w'=>e=.returned (.bool (oA n))∧w=w':=by
 go_in
 go_wp2_with fail;refine (iL n 1 1000000000 w).mono ?_;rintro e w' ⟨rfl,rfl⟩;go_wp2;go_ret;exact ⟨rfl,rfl⟩
theorem OY (n:Int) (w:World):Calls Tryz.prog 30 #[.int .i64 n] w fun e w'=>e=.returned (.bool (yy n))∧w=w':=by
 go_in
 go_wp2_with fail;refine (iL n 11 13 w).mono ?_;rintro e w' ⟨rfl,rfl⟩;go_wp2;go_ret;exact ⟨rfl,rfl⟩
theorem jr (n lo hi:Int) (w:World):Calls Tryz.prog 40 #[.int .i64 n,.int .i64 lo,.int .i64 hi] w fun e w'=>e=.returned (.bool (lH n lo hi))∧w=w':=by
 by_cases h1:lo≤n
 ·by_cases h2:n≤hi
  ·have HB:=gH (show lH n lo hi=true by unfold lH;rw [decide_eq_true h1,decide_eq_true h2];rfl)
   go_in
   go_wp2;go_ret;exact ⟨by rw [HB.out];rfl,rfl⟩
  ·have HB:=gH (show lH n lo hi=false by unfold lH;rw [decide_eq_true h1,decide_eq_false h2];rfl)
   go_in
   go_wp2;go_ret;exact ⟨by rw [HB.out];rfl,rfl⟩
 ·have HB:=gH (show lH n lo hi=false by unfold lH;rw [decide_eq_false h1];rfl)
  go_in
  go_wp2;go_ret;exact ⟨by rw [HB.out];rfl,rfl⟩
theorem Ei (n:Int) (w:World):Calls Tryz.prog 42 #[.int .i64 n] w fun e w'=>e=.returned (.bool (oA n))∧w=w':=by
 go_in
 go_wp2_with fail;refine (jr n 1 1000000000 w).mono ?_;rintro e w' ⟨rfl,rfl⟩;go_wp2;go_ret;exact ⟨rfl,rfl⟩
theorem U0 (n:Int) (w:World):Calls Tryz.prog 43 #[.int .i64 n] w fun e w'=>e=.returned (.bool (yy n))∧w=w':=by
 go_in
 go_wp2_with fail;refine (jr n 11 13 w).mono ?_;rintro e w' ⟨rfl,rfl⟩;go_wp2;go_ret;exact ⟨rfl,rfl⟩
theorem jF {w w':World} {A:Option Addr} {cap:Nat} {l:List iw} (hw:ag w w') (h:aA w 5 fQ A cap l):aA w' 5 fQ A cap l:=h.aH hw fun _ _ h=>h
theorem mL {w:World} {A:Option Addr} {cap:Nat} {l:List iw} (h:aA w 5 fQ A cap l) {k:Nat} (hk:k < l.length) :
  ∃ b off,A=some ⟨b,off,none⟩∧b < w.heap.size∧w.cell? ⟨b,off+k*5,none⟩=some (.int .i64 l[k].aD)∧w.cell? ⟨b,off+k*5+1,none⟩=some (.int .i64 l[k].number)∧w.cell? ⟨b,off+k*5+2,none⟩=some (.int .i64 l[k].code)∧w.cell? ⟨b,off+k*5+3,none⟩=some (.int .i64 l[k].fence)∧w.cell? ⟨b,off+k*5+4,none⟩=some (.int .i64 l[k].version):=by
 obtain ⟨b,off,cs,hA,hb,hl,rfl,hc⟩:=h.2.2 k hk;exact ⟨b,off,hA,hb,by simpa [cv] using hc 0 (by decide),by simpa [cv,Nat.add_assoc] using hc 1 (by decide),by simpa [cv,Nat.add_assoc] using hc 2 (by decide),by simpa [cv,Nat.add_assoc] using hc 3 (by decide),by simpa [cv,Nat.add_assoc] using hc 4 (by decide)⟩
theorem sH (d:iw) (w:World):Calls Tryz.prog 24 #[.agg #[.int .i64 d.aD,.int .i64 d.number,.int .i64 d.code,.int .i64 d.fence,.int .i64 d.version]] w fun e w'=>e=.returned (.int .i64 d.aD)∧ag w w':=by
 go_in
 go_wp2;go_ret;exact ⟨rfl,(ag.refl _).alloc _⟩
theorem Bq (A:Option Addr) (cap:Nat) (l:List iw) (g:FuncId) (ay:Array Value) (p:iw→Bool) (w:World) (h:aA w 5 fQ A cap l) (dc:∀ (args:Array Value) (w:World),(callFunc g args).run Tryz.prog w=.ok (.enter g args) w)
  (hp:∀ w',ag w w'→∀ d:iw,Calls Tryz.prog g (#[.agg #[.int .i64 d.aD,.int .i64 d.number,.int .i64 d.code,.int .i64 d.fence,.int .i64 d.version]]++ay) w' fun e w''=>e=.returned (.bool (p d))∧ag w' w'') :
  Calls Tryz.prog 23 #[.slice A l.length cap,.func (.func 24) #[] #[],.func (.func g) #[] ay] w fun e w'=>e=.returned (.bool (kB iw.aD p l))∧ag w w':=by
 have hlen:=h.len;have U1:=enters (P:=Tryz.prog) Tryz.func24 (by kernel_rfl) rfl;have HC:=gH hp;have HL:=gH h;clear hp h
 go_in
 go_wp2_with fail
 go_loopw [11] (fun i wr=>∃ k:Nat,k≤l.length∧i=.int .i64 k∧ag w wr∧∀ j,j < k→ix iw.aD p l j=true) (fun i _=>l.length - (intOf i).toNat)
 case atStart=>exact ⟨0,Nat.zero_le _,rfl,ag.refl _,fun j hj=>absurd hj (Nat.not_lt_zero j)⟩
 case round =>
  obtain ⟨k,hk,rfl,ha,hp⟩:=hrel;have HA:=gH ha;have HP:=gH hp;clear hp;by_cases hlt:k < l.length
  case neg =>
   have HT:=gH (show kB iw.aD p l=true from px fun j hj=>HP.out j (by omega));clear ha;go_wp2;go_ret;exact ⟨by rw [HT.out];rfl,HA.out⟩
  have cM:=jF ha HL.out;clear ha;obtain ⟨b,off,rfl,hb,c0,c1,c2,c3,c4⟩:=mL cM hlt;obtain ⟨x,hx⟩:∃ x,l[k]=x:=⟨_,rfl⟩;rw [hx] at c0 c1 c2 c3 c4;obtain ⟨W,hW⟩:∃ W,W=wr.alloc (.cells #[.int .i64 x.aD,.int .i64 x.number,.int .i64 x.code,.int .i64 x.fence,.int .i64 x.version] 48):=⟨_,rfl⟩
  have aW:ag wr W:=by rw [hW];exact (ag.refl _).alloc _
  have rW:au W wr.heap.size [.int .i64 x.aD,.int .i64 x.number,.int .i64 x.code,.int .i64 x.fence,.int .i64 x.version]:=by rw [hW];exact aU (ag.refl _)
  obtain ⟨q,hq⟩:∃ q,p x=q:=⟨_,rfl⟩;have CH:=gH (show ∀ V:gX W,Calls Tryz.prog g (#[.agg #[.int .i64 x.aD,.int .i64 x.number,.int .i64 x.code,.int .i64 x.fence,.int .i64 x.version]]++ay) (bt W V) fun e w''=>e=.returned (.bool q)∧ag (bt W V) w'' from fun V=>hq▸HC.out _ (HA.out.trans (aW.bt V)) x);have CW:=gH (fun V:gX W=>sH x (bt W V));have HX:=gH hx;have HQ:=gH hq;have bQ:=gH (HA.out.trans aW);have sI:=gH (jF aW cM);clear hx hq cM
  cases k with
  | zero =>
   simp only [Nat.zero_mul,Nat.add_zero] at c0 c1 c2 c3 c4;go_wp2_with fail;rw [← hW];clear hW c0 c1 c2 c3 c4 aW hb;obtain ⟨y0,y1,y2,y3,y4⟩:=rI rW;have yz:=rW.1;clear rW
   cases q
   ·refine aj (by kernel_rfl) (by kernel_rfl) ?_
    repeat (go_big_quiet_step ((first | (with_reducible exact Calls.aL (CH.out _)) | (with_reducible exact Calls.aL (CW.out _)))))
    refine wpQuiet_nil ?_;intro _ hw';obtain ⟨V,hw''⟩:=hw';subst hw'';go_wp2;go_ret;exact ⟨by rw [gL hlt (by rw [fR hlt,HX.out];exact HQ.out)];rfl,bQ.out.bt V⟩
   ·refine aj (by kernel_rfl) (by kernel_rfl) ?_
    repeat (go_big_quiet_step ((first | (with_reducible exact Calls.aL (CH.out _)) | (with_reducible exact Calls.aL (CW.out _)))))
    refine wpQuiet_nil ?_;intro _ hw';obtain ⟨V,hw''⟩:=hw';subst hw'';go_wp2
    go_roundw
    case rel=>exact ⟨0+1,by omega,by go_num,bQ.out.bt V,fun j hj=>by
     rcases Nat.lt_or_ge j (0+1 - 1) with h1 | h1
     ·exact HP.out j (by omega)
     ·have:j=0+1 - 1:=by omega
      subst this
      show ix _ _ _ 0=true;rw [fR hlt,HX.out];exact HQ.out⟩
    case measure=>simp [intOf];omega
  | succ k =>
   have hl0:k < l.length:=by omega
   obtain ⟨b',off',hA',hb',d0,d1,d2,d3,d4⟩:=mL sI.out hl0;simp only [Option.some.injEq,Addr.mk.injEq,and_true] at hA';obtain ⟨rfl,rfl⟩:=hA';obtain ⟨y,hy⟩:∃ y,l[k]=y:=⟨_,rfl⟩;rw [hy] at d0 d1 d2 d3 d4;have CY:=gH (fun V:gX W=>sH y (bt W V));have HY:=gH hy;clear hy
   have w1:((k+1:Nat):Int) - 1=(k:Int):=by omega
   have w2:IntKind.i64.wrap (((k+1:Nat):Int) - 1)=(k:Int):=by rw [w1];exact IntWalk.i64_in _ (by omega)
   have w3:IntKind.i64.wrap ((k:Int)+1 - 1)=(k:Int):=by rw [show (k:Int)+1 - 1=(k:Int) by omega];exact IntWalk.i64_in _ (by omega)
   have w4:(0:Int) < (k:Int)+1:=by omega
   have w5:(k:Int) < (l.length:Int):=by omega
   have w6:(0:Int)≤(k:Int):=by omega
   go_wp2_with fail;rw [← hW];clear hW c0 c1 c2 c3 c4 aW hb;obtain ⟨y0,y1,y2,y3,y4⟩:=rI rW;have yz:=rW.1;clear rW;by_cases OZ:x.aD≤y.aD
   ·refine aj (by kernel_rfl) (by kernel_rfl) ?_
    repeat (go_big_quiet_step ((first | (with_reducible exact Calls.aL (CH.out _)) | (with_reducible exact Calls.aL (CW.out _)) | (with_reducible exact Calls.aL (CY.out _)))))
    refine wpQuiet_nil ?_;intro _ hw';obtain ⟨V,hw''⟩:=hw';subst hw'';go_wp2;go_ret;exact ⟨by rw [gL hlt (by rw [eh hlt,HX.out,HY.out,decide_eq_false (by omega)];rfl)];rfl,bQ.out.bt V⟩
   ·cases q
    ·refine aj (by kernel_rfl) (by kernel_rfl) ?_
     repeat (go_big_quiet_step ((first | (with_reducible exact Calls.aL (CH.out _)) | (with_reducible exact Calls.aL (CW.out _)) | (with_reducible exact Calls.aL (CY.out _)))))
     refine wpQuiet_nil ?_;intro _ hw';obtain ⟨V,hw''⟩:=hw';subst hw'';go_wp2;go_ret;exact ⟨by rw [gL hlt (by rw [eh hlt,HX.out,HQ.out,Bool.and_false])];rfl,bQ.out.bt V⟩
    ·refine aj (by kernel_rfl) (by kernel_rfl) ?_
     repeat (go_big_quiet_step ((first | (with_reducible exact Calls.aL (CH.out _)) | (with_reducible exact Calls.aL (CW.out _)) | (with_reducible exact Calls.aL (CY.out _)))))
     refine wpQuiet_nil ?_;intro _ hw';obtain ⟨V,hw''⟩:=hw';subst hw'';go_wp2_with fail;clear w1 w2 w3 w4 w5 w6
     go_roundw
     case rel=>exact ⟨k+1+1,by omega,by go_num,bQ.out.bt V,fun j hj=>by
      rcases Nat.lt_or_ge j (k+1+1 - 1) with h1 | h1
      ·exact HP.out j (by omega)
      ·have:j=k+1+1 - 1:=by omega
       subst this
       show ix _ _ _ (k+1)=true;rw [eh hlt,HX.out,HY.out,HQ.out,decide_eq_true (show y.aD < x.aD by omega)];rfl⟩
     case measure=>simp [intOf];omega
theorem jG {w w':World} {A:Option Addr} {cap:Nat} {l:List gS} (hw:ag w w') (h:aA w 4 fY A cap l):aA w' 4 fY A cap l:=h.aH hw fun _ _ h=>h
theorem oB {w:World} {A:Option Addr} {cap:Nat} {l:List gS} (h:aA w 4 fY A cap l) {k:Nat} (hk:k < l.length) :
  ∃ b off,A=some ⟨b,off,none⟩∧b < w.heap.size∧w.cell? ⟨b,off+k*4,none⟩=some (.int .i64 l[k].seq)∧w.cell? ⟨b,off+k*4+1,none⟩=some (.int .i64 l[k].node)∧w.cell? ⟨b,off+k*4+2,none⟩=some (.int .i64 l[k].ask)∧w.cell? ⟨b,off+k*4+3,none⟩=some (.int .i64 l[k].ax):=by
 obtain ⟨b,off,cs,hA,hb,hl,rfl,hc⟩:=h.2.2 k hk;exact ⟨b,off,hA,hb,by simpa [eV] using hc 0 (by decide),by simpa [eV,Nat.add_assoc] using hc 1 (by decide),by simpa [eV,Nat.add_assoc] using hc 2 (by decide),by simpa [eV,Nat.add_assoc] using hc 3 (by decide)⟩
theorem Br (d:gS) (w:World):Calls Tryz.prog 28 #[.agg #[.int .i64 d.seq,.int .i64 d.node,.int .i64 d.ask,.int .i64 d.ax]] w fun e w'=>e=.returned (.int .i64 d.seq)∧ag w w':=by
 go_in
 go_wp2;go_ret;exact ⟨rfl,(ag.refl _).alloc _⟩
theorem Bu (A:Option Addr) (cap:Nat) (l:List gS) (g:FuncId) (ay:Array Value) (p:gS→Bool) (w:World) (h:aA w 4 fY A cap l) (dc:∀ (args:Array Value) (w:World),(callFunc g args).run Tryz.prog w=.ok (.enter g args) w)
  (hp:∀ w',ag w w'→∀ d:gS,Calls Tryz.prog g (#[.agg #[.int .i64 d.seq,.int .i64 d.node,.int .i64 d.ask,.int .i64 d.ax]]++ay) w' fun e w''=>e=.returned (.bool (p d))∧ag w' w'') :
  Calls Tryz.prog 27 #[.slice A l.length cap,.func (.func 28) #[] #[],.func (.func g) #[] ay] w fun e w'=>e=.returned (.bool (kB gS.seq p l))∧ag w w':=by
 have hlen:=h.len;have U1:=enters (P:=Tryz.prog) Tryz.func28 (by kernel_rfl) rfl;have HC:=gH hp;have HL:=gH h;clear hp h
 go_in
 go_wp2_with fail
 go_loopw [11] (fun i wr=>∃ k:Nat,k≤l.length∧i=.int .i64 k∧ag w wr∧∀ j,j < k→ix gS.seq p l j=true) (fun i _=>l.length - (intOf i).toNat)
 case atStart=>exact ⟨0,Nat.zero_le _,rfl,ag.refl _,fun j hj=>absurd hj (Nat.not_lt_zero j)⟩
 case round =>
  obtain ⟨k,hk,rfl,ha,hp⟩:=hrel;have HA:=gH ha;have HP:=gH hp;clear hp;by_cases hlt:k < l.length
  case neg =>
   have HT:=gH (show kB gS.seq p l=true from px fun j hj=>HP.out j (by omega));clear ha;go_wp2;go_ret;exact ⟨by rw [HT.out];rfl,HA.out⟩
  have cM:=jG ha HL.out;clear ha;obtain ⟨b,off,rfl,hb,c0,c1,c2,c3⟩:=oB cM hlt;obtain ⟨x,hx⟩:∃ x,l[k]=x:=⟨_,rfl⟩;rw [hx] at c0 c1 c2 c3;obtain ⟨W,hW⟩:∃ W,W=wr.alloc (.cells #[.int .i64 x.seq,.int .i64 x.node,.int .i64 x.ask,.int .i64 x.ax] 55):=⟨_,rfl⟩
  have aW:ag wr W:=by rw [hW];exact (ag.refl _).alloc _
  have rW:au W wr.heap.size [.int .i64 x.seq,.int .i64 x.node,.int .i64 x.ask,.int .i64 x.ax]:=by rw [hW];exact aU (ag.refl _)
  obtain ⟨q,hq⟩:∃ q,p x=q:=⟨_,rfl⟩;have CH:=gH (show ∀ V:gX W,Calls Tryz.prog g (#[.agg #[.int .i64 x.seq,.int .i64 x.node,.int .i64 x.ask,.int .i64 x.ax]]++ay) (bt W V) fun e w''=>e=.returned (.bool q)∧ag (bt W V) w'' from fun V=>hq▸HC.out _ (HA.out.trans (aW.bt V)) x);have CW:=gH (fun V:gX W=>Br x (bt W V));have HX:=gH hx;have HQ:=gH hq;have bQ:=gH (HA.out.trans aW);have sI:=gH (jG aW cM);clear hx hq cM
  cases k with
  | zero =>
   simp only [Nat.zero_mul,Nat.add_zero] at c0 c1 c2 c3;go_wp2_with fail;rw [← hW];clear hW c0 c1 c2 c3 aW hb;obtain ⟨y0,y1,y2,y3⟩:=yl rW;have yz:=rW.1;clear rW
   cases q
   ·refine aj (by kernel_rfl) (by kernel_rfl) ?_
    repeat (go_big_quiet_step ((first | (with_reducible exact Calls.aL (CH.out _)) | (with_reducible exact Calls.aL (CW.out _)))))
    refine wpQuiet_nil ?_;intro _ hw';obtain ⟨V,hw''⟩:=hw';subst hw'';go_wp2;go_ret;exact ⟨by rw [gL hlt (by rw [fR hlt,HX.out];exact HQ.out)];rfl,bQ.out.bt V⟩
   ·refine aj (by kernel_rfl) (by kernel_rfl) ?_
    repeat (go_big_quiet_step ((first | (with_reducible exact Calls.aL (CH.out _)) | (with_reducible exact Calls.aL (CW.out _)))))
    refine wpQuiet_nil ?_;intro _ hw';obtain ⟨V,hw''⟩:=hw';subst hw'';go_wp2
    go_roundw
    case rel=>exact ⟨0+1,by omega,by go_num,bQ.out.bt V,fun j hj=>by
     rcases Nat.lt_or_ge j (0+1 - 1) with h1 | h1
     ·exact HP.out j (by omega)
     ·have:j=0+1 - 1:=by omega
      subst this
      show ix _ _ _ 0=true;rw [fR hlt,HX.out];exact HQ.out⟩
    case measure=>simp [intOf];omega
  | succ k =>
   have hl0:k < l.length:=by omega
   obtain ⟨b',off',hA',hb',d0,d1,d2,d3⟩:=oB sI.out hl0;simp only [Option.some.injEq,Addr.mk.injEq,and_true] at hA';obtain ⟨rfl,rfl⟩:=hA';obtain ⟨y,hy⟩:∃ y,l[k]=y:=⟨_,rfl⟩;rw [hy] at d0 d1 d2 d3;have CY:=gH (fun V:gX W=>Br y (bt W V));have HY:=gH hy;clear hy
   have w1:((k+1:Nat):Int) - 1=(k:Int):=by omega
   have w2:IntKind.i64.wrap (((k+1:Nat):Int) - 1)=(k:Int):=by rw [w1];exact IntWalk.i64_in _ (by omega)
   have w3:IntKind.i64.wrap ((k:Int)+1 - 1)=(k:Int):=by rw [show (k:Int)+1 - 1=(k:Int) by omega];exact IntWalk.i64_in _ (by omega)
   have w4:(0:Int) < (k:Int)+1:=by omega
   have w5:(k:Int) < (l.length:Int):=by omega
   have w6:(0:Int)≤(k:Int):=by omega
   go_wp2_with fail;rw [← hW];clear hW c0 c1 c2 c3 aW hb;obtain ⟨y0,y1,y2,y3⟩:=yl rW;have yz:=rW.1;clear rW;by_cases OZ:x.seq≤y.seq
   ·refine aj (by kernel_rfl) (by kernel_rfl) ?_
    repeat (go_big_quiet_step ((first | (with_reducible exact Calls.aL (CH.out _)) | (with_reducible exact Calls.aL (CW.out _)) | (with_reducible exact Calls.aL (CY.out _)))))
    refine wpQuiet_nil ?_;intro _ hw';obtain ⟨V,hw''⟩:=hw';subst hw'';go_wp2;go_ret;exact ⟨by rw [gL hlt (by rw [eh hlt,HX.out,HY.out,decide_eq_false (by omega)];rfl)];rfl,bQ.out.bt V⟩
   ·cases q
    ·refine aj (by kernel_rfl) (by kernel_rfl) ?_
     repeat (go_big_quiet_step ((first | (with_reducible exact Calls.aL (CH.out _)) | (with_reducible exact Calls.aL (CW.out _)) | (with_reducible exact Calls.aL (CY.out _)))))
     refine wpQuiet_nil ?_;intro _ hw';obtain ⟨V,hw''⟩:=hw';subst hw'';go_wp2;go_ret;exact ⟨by rw [gL hlt (by rw [eh hlt,HX.out,HQ.out,Bool.and_false])];rfl,bQ.out.bt V⟩
    ·refine aj (by kernel_rfl) (by kernel_rfl) ?_
     repeat (go_big_quiet_step ((first | (with_reducible exact Calls.aL (CH.out _)) | (with_reducible exact Calls.aL (CW.out _)) | (with_reducible exact Calls.aL (CY.out _)))))
     refine wpQuiet_nil ?_;intro _ hw';obtain ⟨V,hw''⟩:=hw';subst hw'';go_wp2_with fail;clear w1 w2 w3 w4 w5 w6
     go_roundw
     case rel=>exact ⟨k+1+1,by omega,by go_num,bQ.out.bt V,fun j hj=>by
      rcases Nat.lt_or_ge j (k+1+1 - 1) with h1 | h1
      ·exact HP.out j (by omega)
      ·have:j=k+1+1 - 1:=by omega
       subst this
       show ix _ _ _ (k+1)=true;rw [eh hlt,HX.out,HY.out,HQ.out,decide_eq_true (show y.seq < x.seq by omega)];rfl⟩
     case measure=>simp [intOf];omega
theorem U3 (d:iw) (bc:Nat) (ep v:Int) (w:World) (hz:bc < w.heap.size) (hz2:bc < w.heap.size+1) (h0:w.cell? ⟨bc,0,none⟩=some (.int .i64 ep)) (h1:w.cell? ⟨bc,1,none⟩=some (.int .i64 v)) :
  Calls Tryz.prog 25 (#[.agg #[.int .i64 d.aD,.int .i64 d.number,.int .i64 d.code,.int .i64 d.fence,.int .i64 d.version]]++#[.pointer (some ⟨bc,0,none⟩)]) w fun e w'=>e=.returned (.bool (mn ep v d))∧ag w w':=by
 show Calls Tryz.prog 25 #[.agg #[.int .i64 d.aD,.int .i64 d.number,.int .i64 d.code,.int .i64 d.fence,.int .i64 d.version],.pointer (some ⟨bc,0,none⟩)] w _
 obtain ⟨b0,hb0⟩:∃ b,lH d.aD 1 4=b:=⟨_,rfl⟩;have C0:=gH (fun V=>hb0▸iL d.aD 1 4 V);obtain ⟨b1,hb1⟩:∃ b,oA d.number=b:=⟨_,rfl⟩;have C1:=gH (fun V=>hb1▸pu d.number V);obtain ⟨b2,hb2⟩:∃ b,lH d.code 0 65535=b:=⟨_,rfl⟩;have C2:=gH (fun V=>hb2▸iL d.code 0 65535 V);obtain ⟨b3,hb3⟩:∃ b,lH d.fence 0 ep=b:=⟨_,rfl⟩;have C3:=gH (fun V=>hb3▸iL d.fence 0 ep V);obtain ⟨b4,hb4⟩:∃ b,lH d.version 0 v=b:=⟨_,rfl⟩;have C4:=gH (fun V=>hb4▸iL d.version 0 v V);have HR:=gH (show mn ep v d=(b0&&b1&&b2&&b3&&b4) by unfold mn;rw [hb0,hb1,hb2,hb3,hb4]);clear hb0 hb1 hb2 hb3 hb4;have aW:ag w (w.alloc (.cells #[.int .i64 d.aD,.int .i64 d.number,.int .i64 d.code,.int .i64 d.fence,.int .i64 d.version] 48)):=(ag.refl _).alloc _;have bQ:=gH aW;clear aW
 go_in
 go_wp2_with fail;refine (C0.out _).mono ?_;rintro e w5 ⟨rfl,rfl⟩
 cases b0
 case false =>
  go_wp2;go_ret;exact ⟨by rw [HR.out];rfl,bQ.out⟩
 go_wp2_with fail;refine (C1.out _).mono ?_;rintro e w6 ⟨rfl,rfl⟩
 cases b1
 case false =>
  go_wp2;go_ret;exact ⟨by rw [HR.out];rfl,bQ.out⟩
 go_wp2_with fail;refine (C2.out _).mono ?_;rintro e w7 ⟨rfl,rfl⟩
 cases b2
 case false =>
  go_wp2;go_ret;exact ⟨by rw [HR.out];rfl,bQ.out⟩
 go_wp2_with fail;refine (C3.out _).mono ?_;rintro e w8 ⟨rfl,rfl⟩
 cases b3
 case false =>
  go_wp2;go_ret;exact ⟨by rw [HR.out];rfl,bQ.out⟩
 go_wp2_with fail;refine (C4.out _).mono ?_;rintro e w9 ⟨rfl,rfl⟩;go_wp2;go_ret;exact ⟨by rw [HR.out];rfl,bQ.out⟩
theorem U4 (d:gS) (bm bc:Nat) (ep la:Int) (w:World) (hz:bc < w.heap.size) (hz2:bc < w.heap.size+1) (hm:bm < w.heap.size) (O0:bm < w.heap.size+1) (h0:w.cell? ⟨bc,0,none⟩=some (.int .i64 ep)) (h1:w.cell? ⟨bm,9,none⟩=some (.int .i64 la)) :
  Calls Tryz.prog 29 (#[.agg #[.int .i64 d.seq,.int .i64 d.node,.int .i64 d.ask,.int .i64 d.ax]]++#[.pointer (some ⟨bm,0,none⟩),.pointer (some ⟨bc,0,none⟩)]) w fun e w'=>e=.returned (.bool (lI ep la d))∧ag w w':=by
 show Calls Tryz.prog 29 #[.agg #[.int .i64 d.seq,.int .i64 d.node,.int .i64 d.ask,.int .i64 d.ax],.pointer (some ⟨bm,0,none⟩),.pointer (some ⟨bc,0,none⟩)] w _
 obtain ⟨b0,hb0⟩:∃ b,lH d.seq 1 la=b:=⟨_,rfl⟩;have C0:=gH (fun V=>hb0▸iL d.seq 1 la V);obtain ⟨b1,hb1⟩:∃ b,yy d.node=b:=⟨_,rfl⟩;have C1:=gH (fun V=>hb1▸OY d.node V);obtain ⟨b2,hb2⟩:∃ b,oA d.ask=b:=⟨_,rfl⟩;have C2:=gH (fun V=>hb2▸pu d.ask V);obtain ⟨b3,hb3⟩:∃ b,lH d.ax 0 ep=b:=⟨_,rfl⟩;have C3:=gH (fun V=>hb3▸iL d.ax 0 ep V);have HR:=gH (show lI ep la d=(b0&&b1&&b2&&b3) by unfold lI;rw [hb0,hb1,hb2,hb3]);clear hb0 hb1 hb2 hb3;have aW:ag w (w.alloc (.cells #[.int .i64 d.seq,.int .i64 d.node,.int .i64 d.ask,.int .i64 d.ax] 55)):=(ag.refl _).alloc _;have bQ:=gH aW;clear aW
 go_in
 go_wp2_with fail;refine (C0.out _).mono ?_;rintro e w5 ⟨rfl,rfl⟩
 cases b0
 case false =>
  go_wp2;go_ret;exact ⟨by rw [HR.out];rfl,bQ.out⟩
 go_wp2_with fail;refine (C1.out _).mono ?_;rintro e w6 ⟨rfl,rfl⟩
 cases b1
 case false =>
  go_wp2;go_ret;exact ⟨by rw [HR.out];rfl,bQ.out⟩
 go_wp2_with fail;refine (C2.out _).mono ?_;rintro e w7 ⟨rfl,rfl⟩
 cases b2
 case false =>
  go_wp2;go_ret;exact ⟨by rw [HR.out];rfl,bQ.out⟩
 go_wp2_with fail;refine (C3.out _).mono ?_;rintro e w8 ⟨rfl,rfl⟩;go_wp2;go_ret;exact ⟨by rw [HR.out];rfl,bQ.out⟩
theorem jc {w:World} {A:Option Addr} {cap:Nat} {l:List cF} (h:aA w 6 gC A cap l) {k:Nat} (hk:k < l.length) :
  ∃ b off,A=some ⟨b,off,none⟩∧b < w.heap.size∧w.cell? ⟨b,off+k*6,none⟩=some (.string l[k].ac)∧w.cell? ⟨b,off+k*6+1,none⟩=some (.string l[k].table)∧w.cell? ⟨b,off+k*6+2,none⟩=some (.int .i64 l[k].right) ∧
   w.cell? ⟨b,off+k*6+3,none⟩=some (.string l[k].aI)∧w.cell? ⟨b,off+k*6+4,none⟩=some (.string l[k].to)∧w.cell? ⟨b,off+k*6+5,none⟩=some (.bool l[k].opt)∧uw l[k]:=by
 obtain ⟨b,off,cs,hA,hb,hl,⟨rfl,hs⟩,hc⟩:=h.2.2 k hk;exact ⟨b,off,hA,hb,by simpa [eM] using hc 0 (by omega),by simpa [eM,Nat.add_assoc] using hc 1 (by omega),by simpa [eM,Nat.add_assoc] using hc 2 (by omega),by simpa [eM,Nat.add_assoc] using hc 3 (by omega),by simpa [eM,Nat.add_assoc] using hc 4 (by omega),by simpa [eM,Nat.add_assoc] using hc 5 (by omega),hs⟩
theorem dQ {w w':World} (a:ag w w') {A:Option Addr} {cap:Nat} {l:List cF} (h:aA w 6 gC A cap l):aA w' 6 gC A cap l:=h.aH a fun _ _ h=>h
theorem Ej {w:World} {A:Option Addr} {cap:Nat} {l:List cF} (h:aA w 6 gC A cap l):Small (l.length*16)∧∀ g∈l,uw g :=
 ⟨h.2.1,fun g hg=>by
  obtain ⟨k,hk,rfl⟩:=List.getElem_of_mem hg;obtain ⟨b,off,cs,hA,hb,hl,⟨rfl,hs⟩,hc⟩:=h.2.2 k hk
  exact hs⟩
theorem PX (A:Option Addr) (cap:Nat) (l:List cF) (g:FuncId) (ay:Array Value) (p:cF→Bool) (w:World) (h:aA w 6 gC A cap l) (dc:∀ (args:Array Value) (w:World),(callFunc g args).run Tryz.prog w=.ok (.enter g args) w)
  (hp:∀ w',ag w w'→∀ i (hi:i < l.length),Calls Tryz.prog g (#[.agg #[.string l[i].ac,.string l[i].table,.int .i64 l[i].right,.string l[i].aI,.string l[i].to,.bool l[i].opt]]++ay) w' fun e w''=>e=.returned (.bool (p l[i]))∧ag w' w'') :
  Calls Tryz.prog 257 #[.slice A l.length cap,.func (.func g) #[] ay] w fun e w'=>e=.returned (.int .i64 (bD p l))∧ag w w':=by
 have hlen:=h.len;have HC:=gH hp;clear hp
 go_in
 go_wp2_with fail
 go_loopw [8] (fun i wr=>∃ k:Nat,k≤l.length∧i=.int .i64 k∧ag w wr∧∀ j,j < k→∀ (hj:j < l.length),p l[j]=false) (fun i _=>l.length - (intOf i).toNat)
 case atStart=>exact ⟨0,Nat.zero_le _,rfl,ag.refl _,fun j hj=>absurd hj (Nat.not_lt_zero j)⟩
 case round =>
  obtain ⟨k,hk,rfl,ha,hp⟩:=hrel;have HA:=gH ha;have HP:=gH hp;clear hp;by_cases hlt:k < l.length
  ·have cM:=dQ ha h
   clear ha;obtain ⟨b,off,rfl,hb,c0,c1,c2,c3,c4,c5,hs⟩:=jc cM hlt;have HK:=gH (HC.out wr HA.out k hlt);clear cM;obtain ⟨q,hq⟩:∃ q,p l[k]=q:=⟨_,rfl⟩;rw [hq] at HK;have HQ:=gH hq;clear hq
   cases q
   ·go_wp2_with fail
    refine HK.out.mono ?_;rintro e w1 ⟨rfl,a1⟩;have cT:=gH (HA.out.trans a1);clear a1;go_wp2
    go_roundw
    case rel=>exact ⟨k+1,by omega,by go_num,cT.out,bC (p:=fun j=>∀ (hj:j < l.length),p l[j]=false) HP.out (fun _=>HQ.out)⟩
    case measure=>simp [intOf];omega
   ·go_wp2_with fail
    refine HK.out.mono ?_;rintro e w1 ⟨rfl,a1⟩;have cT:=gH (HA.out.trans a1);clear a1;go_wp2;go_ret;exact ⟨by rw [dV p l k hlt HQ.out (fun i hi=>HP.out i hi (by omega))];rfl,cT.out⟩
  ·clear ha
   go_wp2;go_ret;exact ⟨by rw [dU p l (fun i hi=>HP.out i (by omega) hi)];rfl,HA.out⟩
theorem LU (A:Option Addr) (cap:Nat) (l:List cF) (g:FuncId) (ay:Array Value) (p:cF→Bool) (w:World) (h:aA w 6 gC A cap l) (dc:∀ (args:Array Value) (w:World),(callFunc g args).run Tryz.prog w=.ok (.enter g args) w)
  (hp:∀ w',ag w w'→∀ i (hi:i < l.length),Calls Tryz.prog g (#[.agg #[.string l[i].ac,.string l[i].table,.int .i64 l[i].right,.string l[i].aI,.string l[i].to,.bool l[i].opt]]++ay) w' fun e w''=>e=.returned (.bool (p l[i]))∧ag w' w'') :
  Calls Tryz.prog 194 #[.slice A l.length cap,.func (.func g) #[] ay] w fun e w'=>e=.returned (.bool (l.any p))∧ag w w':=by
 have C:=gH (PX A cap l g ay p w h dc hp);have HE:=gH (iE p l);obtain ⟨i,hi⟩:∃ i,bD p l=i:=⟨_,rfl⟩;rw [hi] at C HE;clear hi h hp
 go_in
 go_wp2_with fail;refine C.out.mono ?_;rintro e w1 ⟨rfl,a1⟩;have HA:=gH a1;clear a1;go_wp2;go_ret;exact ⟨by rw [← HE.out];rfl,HA.out⟩
theorem LV (A:Option Addr) (cap:Nat) (l:List ByteArray) (g:FuncId) (ay:Array Value) (p:ByteArray→Bool) (w:World) (h:aA w 1 dg A cap l) (dc:∀ (args:Array Value) (w:World),(callFunc g args).run Tryz.prog w=.ok (.enter g args) w)
  (hp:∀ w',ag w w'→∀ i (hi:i < l.length),Calls Tryz.prog g (#[.string l[i]]++ay) w' fun e w''=>e=.returned (.bool (p l[i]))∧ag w' w'') :
  Calls Tryz.prog 215 #[.slice A l.length cap,.func (.func g) #[] ay] w fun e w'=>e=.returned (.bool (l.any p))∧ag w w':=by
 have C:=gH (Iw A cap l g ay p w h dc hp);have HE:=gH (iE p l);obtain ⟨i,hi⟩:∃ i,bD p l=i:=⟨_,rfl⟩;rw [hi] at C HE;clear hi h hp
 go_in
 go_wp2_with fail;refine C.out.mono ?_;rintro e w1 ⟨rfl,a1⟩;have HA:=gH a1;clear a1;go_wp2;go_ret;exact ⟨by rw [← HE.out];rfl,HA.out⟩
theorem LW (A:Option Addr) (cap:Nat) (l:List cp) (g:FuncId) (ay:Array Value) (p:cp→Bool) (w:World) (h:aA w 5 dE A cap l) (dc:∀ (args:Array Value) (w:World),(callFunc g args).run Tryz.prog w=.ok (.enter g args) w)
  (hp:∀ w',ag w w'→∀ i (hi:i < l.length) (e1:List Value),dE w' e1 l[i]→Calls Tryz.prog g (#[.agg e1.toArray]++ay) w' fun e w''=>e=.returned (.bool (p l[i]))∧ag w' w'') :
  Calls Tryz.prog 192 #[.slice A l.length cap,.func (.func g) #[] ay] w fun e w'=>e=.returned (.bool (l.any p))∧ag w w':=by
 have C:=gH (Bv A cap l g ay p w h dc hp);have HE:=gH (iE p l);obtain ⟨i,hi⟩:∃ i,bD p l=i:=⟨_,rfl⟩;rw [hi] at C HE;clear hi h hp
 go_in
 go_wp2_with fail;refine C.out.mono ?_;rintro e w1 ⟨rfl,a1⟩;have HA:=gH a1;clear a1;go_wp2;go_ret;exact ⟨by rw [← HE.out];rfl,HA.out⟩
end Go.Proofs.YtakddkhipelmjaaGreat
namespace Go.Proofs.YtakddkhipelmjaaGreat
open Go.RowKit Go.Shelf Go.Sort
structure mo {α:Type} (c:α→α→Int):Prop where
 tr:∀ a b d,c a b < 0→c b d < 0→c a d < 0
 dY:∀ a b,c a b = - c b a
 PY:∀ a b d,c a b=0→c a d=c b d
theorem mo.YS {α:Type} {c:α→α→Int} (o:mo c) (a b d:α) (h:c a b=0):c d a=c d b:=by
 have h1:=o.PY a b d h;have h2:=o.dY d a;have h3:=o.dY d b;omega
theorem mo.swo {α:Type} {c:α→α→Int} (o:mo c):SWO (ltOf c) where
 irrefl x:=by
  have:=o.dY x x;unfold ltOf;exact decide_eq_false (by omega)
 trans x y z h1 h2:=by
  unfold ltOf at *;exact decide_eq_true (o.tr _ _ _ (of_decide_eq_true h1) (of_decide_eq_true h2))
 ntrans x y z h1 h2:=by
  unfold ltOf at *;have h1:=of_decide_eq_false h1;have h2:=of_decide_eq_false h2;have a1:=o.dY x y;have a2:=o.dY y z;have a3:=o.dY x z
  refine decide_eq_false fun h=>?_
  by_cases e1:c y x=0
  ·have:=o.PY y x z e1;omega
  ·by_cases e2:c z y=0
   ·have:=o.PY z y x e2;omega
   ·have:=o.tr z y x (by omega) (by omega);omega
theorem LX:mo aT:=⟨fun a b d h1 h2=>iF h1 h2,jA,fun a b d h=>by
 have:a.data.toList=b.data.toList:=(py _ _).1 h;unfold aT
 rw [this]⟩
theorem mo.on {α β:Type} {c:β→β→Int} (o:mo c) (f:α→β):mo fun a b:α=>c (f a) (f b):=⟨fun a b d=>o.tr _ _ _,fun a b=>o.dY _ _,fun a b d=>o.PY _ _ _⟩
theorem mo.or {α:Type} {c d:α→α→Int} (o:mo c) (p:mo d):mo fun a b=>eO (c a b) (d a b):=by
 have h0:∀ a b,c a b=0→c b a=0:=fun a b h=>by have:=o.dY a b;omega
 have e1:∀ a b,c a b=0→eO (c a b) (d a b)=d a b:=fun a b h=>by unfold eO;simp [h]
 have e2:∀ a b,c a b≠0→eO (c a b) (d a b)=c a b:=fun a b h=>by unfold eO;simp [h]
 refine ⟨fun a b x h1 h2=>?_,fun a b=>?_,fun a b x h=>?_⟩
 ·by_cases g1:c a b=0
  ·rw [e1 _ _ g1] at h1
   have g3:=o.PY a b x g1;by_cases g2:c b x=0
   ·rw [e1 _ _ g2] at h2
    rw [e1 _ _ (by omega)];exact p.tr _ _ _ h1 h2
   ·rw [e2 _ _ g2] at h2
    rw [e2 _ _ (by omega)];omega
  ·rw [e2 _ _ g1] at h1
   by_cases g2:c b x=0
   ·have g3:=o.YS b x a g2
    rw [e2 _ _ (by omega)];omega
   ·rw [e2 _ _ g2] at h2
    have:=o.tr _ _ _ h1 h2;rw [e2 _ _ (by omega)];exact this
 ·have ha:=o.dY a b
  by_cases g1:c a b=0
  ·rw [e1 _ _ g1,e1 _ _ (h0 _ _ g1)];exact p.dY _ _
  ·rw [e2 _ _ g1,e2 _ _ (by omega)];exact ha
 ·by_cases g1:c a b=0
  ·rw [e1 _ _ g1] at h
   have g3:=o.PY a b x g1;by_cases g2:c a x=0
   ·rw [e1 _ _ g2,e1 _ _ (by omega)];exact p.PY _ _ _ h
   ·rw [e2 _ _ g2,e2 _ _ (by omega)];exact g3
  ·rw [e2 _ _ g1] at h;exact absurd h g1
def jH (a b:fJ):Int:=aT a.name b.name
theorem uZ:mo jH:=LX.on fJ.name
def qO (a b:fF):Int:=aT a.name b.name
theorem Ek:mo qO:=LX.on fF.name
def gF (a b:cp):Int:=eO (aT a.ac b.ac) (aT a.name b.name)
theorem vd:mo gF:=(LX.on cp.ac).or (LX.on cp.name)
instance:Inhabited fJ:=⟨⟨ByteArray.empty,ByteArray.empty⟩⟩
instance:Inhabited fF:=⟨⟨ByteArray.empty,0,[],0,0,ByteArray.empty,ByteArray.empty,ByteArray.empty⟩⟩
instance:Inhabited gc:=⟨⟨default,⟨none,0,0⟩⟩⟩
instance:Inhabited bK:=⟨⟨ByteArray.empty,ByteArray.empty,ByteArray.empty,[],[],⟨none,0,0⟩,⟨none,0,0⟩⟩⟩
end Go.Proofs.YtakddkhipelmjaaGreat
namespace Go.Proofs.YtakddkhipelmjaaGreat
open Go.Shelf Go.Proofs
def yA:Go.Shelf.Ren:=⟨fun | 6=>278 | 15=>219 | 14=>342 | 28=>311 | 29=>312 | 20=>369 | 21=>370 | 22=>371 | 23=>372 | 24=>373 | 25=>374 | 26=>375 | 27=>376 | 46=>397 | 47=>356 | 48=>357 | 49=>398 | 50=>399 | 57=>406 | n=>n,fun | 22=>22 | 24=>109 | 25=>250 | 3=>3 | 39=>195 | 0=>0 | 53=>351 | 55=>285 | 4=>4 | 46=>345 | 45=>344 | 50=>118 | 5=>5 | 9=>9 | 66=>378 | 70=>382 | 76=>402 | 77=>403 | n=>n,fun | n=>n⟩
theorem wS:Go.Proofs.SlLaysF0.n6 Tryz.prog yA:={
 mixed:=by kernel_rfl
 f6:=⟨Tryz.f278.name,by decide,Tryz.func278.trans (congrArg some (by kernel_rfl))⟩
 f14:=⟨Tryz.f342.name,by decide,Tryz.func342.trans (congrArg some (by kernel_rfl))⟩
 f15:=Tryz.func219.trans (congrArg some (by kernel_rfl))
 f20:=⟨Tryz.f369.name,by decide,Tryz.func369.trans (congrArg some (by kernel_rfl))⟩
 f21:=⟨Tryz.f370.name,by decide,Tryz.func370.trans (congrArg some (by kernel_rfl))⟩
 f22:=⟨Tryz.f371.name,by decide,Tryz.func371.trans (congrArg some (by kernel_rfl))⟩
 f23:=⟨Tryz.f372.name,by decide,Tryz.func372.trans (congrArg some (by kernel_rfl))⟩
 f24:=⟨Tryz.f373.name,by decide,Tryz.func373.trans (congrArg some (by kernel_rfl))⟩
 f25:=⟨Tryz.f374.name,by decide,Tryz.func374.trans (congrArg some (by kernel_rfl))⟩
 f26:=⟨Tryz.f375.name,by decide,Tryz.func375.trans (congrArg some (by kernel_rfl))⟩
 f27:=⟨Tryz.f376.name,by decide,Tryz.func376.trans (congrArg some (by kernel_rfl))⟩
 f28:=Tryz.func311.trans (congrArg some (by kernel_rfl))
 f29:=Tryz.func312.trans (congrArg some (by kernel_rfl))
 f46:=⟨Tryz.f397.name,by decide,Tryz.func397.trans (congrArg some (by kernel_rfl))⟩
 f47:=Tryz.func356.trans (congrArg some (by kernel_rfl))
 f48:=Tryz.func357.trans (congrArg some (by kernel_rfl))
 f49:=⟨Tryz.f398.name,by decide,Tryz.func398.trans (congrArg some (by kernel_rfl))⟩
 f50:=⟨Tryz.f399.name,by decide,Tryz.func399.trans (congrArg some (by kernel_rfl))⟩
 f57:=⟨Tryz.f406.name,by decide,Tryz.func406.trans (congrArg some (by kernel_rfl))⟩
 t0:=Tryz.underlying0
 a0:=Tryz.isAgg0
 z0:=Tryz.sizeOf0
 v0:=Tryz.zeroValue0
 t3:=Tryz.underlying3
 a3:=Tryz.isAgg3
 z3:=Tryz.sizeOf3
 v3:=Tryz.zeroValue3
 t4:=Tryz.underlying4
 a4:=Tryz.isAgg4
 z4:=Tryz.sizeOf4
 v4:=Tryz.zeroValue4
 t5:=Tryz.underlying5
 a5:=Tryz.isAgg5
 z5:=Tryz.sizeOf5
 v5:=Tryz.zeroValue5
 t9:=Tryz.underlying9
 a9:=Tryz.isAgg9
 z9:=Tryz.sizeOf9
 v9:=Tryz.zeroValue9
 t22:=Tryz.underlying22
 a22:=Tryz.isAgg22
 z22:=Tryz.sizeOf22
 v22:=Tryz.zeroValue22
 t25:=Tryz.underlying250
 a25:=Tryz.isAgg250
 z25:=Tryz.sizeOf250
 v25:=Tryz.zeroValue250
 t39:=Tryz.underlying195
 a39:=Tryz.isAgg195
 z39:=Tryz.sizeOf195
 v39:=Tryz.zeroValue195
 t45:=Tryz.underlying344
 a45:=Tryz.isAgg344
 z45:=Tryz.sizeOf344
 v45:=Tryz.zeroValue344
 t46:=Tryz.underlying345
 a46:=Tryz.isAgg345
 z46:=Tryz.sizeOf345
 v46:=Tryz.zeroValue345
 t50:=Tryz.underlying118
 a50:=Tryz.isAgg118
 z50:=Tryz.sizeOf118
 v50:=Tryz.zeroValue118
 t53:=Tryz.underlying351
 a53:=Tryz.isAgg351
 z53:=Tryz.sizeOf351
 v53:=Tryz.zeroValue351
 t55:=Tryz.underlying285
 a55:=Tryz.isAgg285
 z55:=Tryz.sizeOf285
 v55:=Tryz.zeroValue285
 t66:=Tryz.underlying378
 a66:=Tryz.isAgg378
 z66:=Tryz.sizeOf378
 v66:=Tryz.zeroValue378
 t70:=Tryz.underlying382
 a70:=Tryz.isAgg382
 z70:=Tryz.sizeOf382
 v70:=Tryz.zeroValue382
 t76:=Tryz.underlying402
 a76:=Tryz.isAgg402
 z76:=Tryz.sizeOf402
 v76:=Tryz.zeroValue402
 t77:=Tryz.underlying403
 a77:=Tryz.isAgg403
 z77:=Tryz.sizeOf403
 v77:=Tryz.zeroValue403 }
end Go.Proofs.YtakddkhipelmjaaGreat
namespace Go.Proofs.YtakddkhipelmjaaGreat
open Go.RowKit Go.Sort Go.Shelf
def G2 (w w':World):Prop:=∃ q os',w'=grow (w.drewN q) os'
theorem G2.refl (w:World):G2 w w:=⟨0,#[],by rw [grow_empty];rfl⟩
theorem G2.alloc {w w':World} (h:G2 w w') (o:Obj):G2 w (w'.alloc o):=by
 obtain ⟨q,os,rfl⟩:=h;exact ⟨q,os++#[o],by rw [alloc_eq_grow,grow_grow]⟩
theorem G2.drew {w w':World} (h:G2 w w'):G2 w w'.drew:=by
 obtain ⟨q,os,rfl⟩:=h;exact ⟨q+1,os,rfl⟩
theorem pA {P:Program} {id:Nat} {Q:Exit→Act→World→Prop} {a:Act} {w:World} {l:List Oper} (n:Nat) (hm:P.follows .mixedOrders=true) (hB:Region.lexTailB .any l.toArray n=true)
  (h:∀ w1,w1=w.drew→wpStill P l.toArray w1 (fun a'=>wpList P l.toArray Q (l.drop n) a' w1) (l.take n) a):(Code.region id l.toArray true).wp P Q a w :=
 wp_region_still_tail n hm hB (h _ rfl)
def Bw:List Int→Int
 | []=>0
 | x::l=>if x==0 then Bw l else x
theorem yB:∀ (l:List Int) (k:Nat) (hk:k < l.length),(∀ j (hj:j < k),(l[j]'(by omega))=0)→l[k]≠0→Bw l=l[k]
 | x::l,0,_,_,h=>by
  have h:x≠0:=h;unfold Bw;rw [if_neg (by simpa using h)];rfl
 | x::l,k+1,hk,h0,h=>by
  have e:x=0:=h0 0 (by omega);subst e;unfold Bw;rw [if_pos (by rfl)];exact yB l k (by simpa using hk) (fun j hj=>h0 (j+1) (by omega)) h
theorem yC:∀ (l:List Int),(∀ j (hj:j < l.length),l[j]=0)→Bw l=0
 | [],_=>rfl
 | x::l,h=>by
  have e:x=0:=h 0 (by simp);subst e;unfold Bw;rw [if_pos (by rfl)]
  exact yC l fun j hj=>h (j+1) (by simpa using hj)
theorem Fv (l:List Int) (hl:l.length≤1000) (g:Nat) (w:World) (hg:g < w.heap.size) (hc:∀ k (hk:k < l.length),w.cell? ⟨g,k,none⟩=some (.int .i64 l[k])) :
  Calls Tryz.prog 220 #[.slice (some ⟨g,0,none⟩) l.length l.length] w fun e w'=>e=.returned (.int .i64 (Bw l))∧w'=w:=by
 have HC:=gH hc;clear hc
 go_in
 go_wp2_with fail
 go_loop [5,8] (fun v i=>∃ k:Nat,k≤l.length∧i=.int .i64 k∧∀ j (hj:j < k) (mv:j < l.length),l[j]=0) (fun v i=>l.length - (intOf i).toNat)
 case atStart=>exact ⟨0,by omega,rfl,fun j hj=>absurd hj (Nat.not_lt_zero j)⟩
 case round =>
  obtain ⟨k,hk,rfl,hz⟩:=hrel;have HZ:=gH hz;clear hz;by_cases hlt:k < l.length
  ·have c0:=HC.out k hlt
   obtain ⟨x,hx⟩:∃ x,l[k]=x:=⟨_,rfl⟩;rw [hx] at c0;have HX:=gH hx;clear hx;by_cases h0:x=0
   ·subst h0
    go_wp2
    go_round
    case rel=>exact ⟨k+1,by omega,by go_num,fun j hj mv=>by
     rcases Nat.lt_or_ge j k with h1 | h1
     ·exact HZ.out j h1 mv
     ·have:j=k:=by omega
      subst this
      exact HX.out⟩
    case measure=>simp [intOf];omega
   ·have hb:(x != 0)=true:=by simpa using h0
    have HN:=gH h0;clear h0;go_wp2;go_ret;exact ⟨by rw [yB l k hlt (fun j hj=>HZ.out j hj (by omega)) (by rw [HX.out];exact HN.out),HX.out];rfl,rfl⟩
  ·go_wp2
   go_ret;exact ⟨by rw [yC l fun j hj=>HZ.out j (by omega) hj];rfl,rfl⟩
theorem qj (x:Int) (w:World):Calls Tryz.prog 313 #[.int .i64 x] w fun e w'=>e=.returned (.bool false)∧w'=w:=by
 go_in
 go_wp2;go_ret;exact ⟨by simp,rfl⟩
theorem Fw (x y:Int) (w:World):Calls Tryz.prog 221 #[.int .i64 x,.int .i64 y] w fun e w'=>e=.returned (.int .i64 (lJ x y))∧w'=w:=by
 have HE:=gH (show lJ x y=if x < y then -1 else if y < x then 1 else 0 from rfl);obtain ⟨r,hr⟩:∃ r,lJ x y=r:=⟨_,rfl⟩;rw [hr] at HE ⊢;clear hr
 go_in
 by_cases h1:x < y
 ·have U5:=gH (show r = -1 by rw [HE.out,if_pos h1])
  go_wp2_with (go_at_call 313;refine (qj _ _).mono ?_;rintro e w' ⟨rfl,rfl⟩)
  go_ret;exact ⟨by rw [U5.out];rfl,rfl⟩
 ·by_cases h2:y < x
  ·have U5:=gH (show r=1 by rw [HE.out,if_neg h1,if_pos h2])
   go_wp2_with (go_at_call 313;refine (qj _ _).mono ?_;rintro e w' ⟨rfl,rfl⟩)
   go_ret;exact ⟨by rw [U5.out];rfl,rfl⟩
  ·have U5:=gH (show r=0 by rw [HE.out,if_neg h1,if_neg h2])
   go_wp2_with (go_at_call 313;refine (qj _ _).mono ?_;rintro e w' ⟨rfl,rfl⟩)
   go_ret;exact ⟨by rw [U5.out];rfl,rfl⟩
theorem Ix (a b c d e:Int):Bw [a,b,c,d,e]=eO a (eO b (eO c (eO d e))):=by
 unfold Bw Bw Bw Bw Bw Bw eO;by_cases h:e=0
 ·subst h;simp
 ·have:(e==0)=false:=by simpa using h
  simp [this]
theorem sJ (a b:cF) (w:World) :
  Calls Tryz.prog 137 #[.agg #[.string a.ac,.string a.table,.int .i64 a.right,.string a.aI,.string a.to,.bool a.opt],.agg #[.string b.ac,.string b.table,.int .i64 b.right,.string b.aI,.string b.to,.bool b.opt]] w fun e w'=>e=.returned (.int .i64 (dR a b))∧G2 w w':=by
 have HE:=gH (show Bw [aT a.ac b.ac,aT a.table b.table,lJ a.right b.right,aT a.aI b.aI,aT a.to b.to]=dR a b from Ix _ _ _ _ _);have CC:=gH (Fw a.right b.right);obtain ⟨r,hr⟩:∃ r,lJ a.right b.right=r:=⟨_,rfl⟩;rw [hr] at HE CC;clear hr
 go_in
 go_wp2_with fail;have HG:=gH (((G2.refl w).alloc (.cells #[.string a.ac,.string a.table,.int .i64 a.right,.string a.aI,.string a.to,.bool a.opt] 177)).alloc (.cells #[.string b.ac,.string b.table,.int .i64 b.right,.string b.aI,.string b.to,.bool b.opt] 177)).drew;refine pA 25 (by kernel_rfl) (by kernel_rfl) ?_;intro w1 PZ
 have a1:ag ((w.alloc (.cells #[.string a.ac,.string a.table,.int .i64 a.right,.string a.aI,.string a.to,.bool a.opt] 177)).alloc (.cells #[.string b.ac,.string b.table,.int .i64 b.right,.string b.aI,.string b.to,.bool b.opt] 177)) w1:=by rw [PZ];exact (ag.refl _).drew
 rw [← PZ] at HG;clear PZ;obtain ⟨hb1,hb2,hz,HA⟩:=fP a1;clear a1 HA;simp only [List.take_succ_cons,List.take_zero,List.drop_succ_cons,List.drop_zero]
 repeat still_step
 still_call (eC _ _ _)
 repeat still_step
 still_call (eC _ _ _)
 repeat still_step
 still_call (CC.out _)
 repeat still_step
 still_call (eC _ _ _)
 repeat still_step
 still_call (eC _ _ _)
 refine wpStill_nil ?_;go_wp2_with fail;refine (Fv [aT a.ac b.ac,aT a.table b.table,r,aT a.aI b.aI,aT a.to b.to] (by simp) w1.heap.size _ (by simp) (fun k hk=>?_)).mono ?_
 ·match k,hk with
  | 0,_=>simp
  | 1,_=>simp
  | 2,_=>simp
  | 3,_=>simp
  | 4,_=>simp
 rintro e w2 ⟨rfl,rfl⟩;have HG2:=gH (HG.out.alloc (.cells #[.int .i64 (aT a.ac b.ac),.int .i64 (aT a.table b.table),.int .i64 r,.int .i64 (aT a.aI b.aI),.int .i64 (aT a.to b.to)] 3));go_wp2;go_ret;exact ⟨by rw [HE.out];rfl,HG2.out⟩
theorem G2.aH {w w':World} (h:G2 w w'):ag w w':=by
 obtain ⟨q,os,rfl⟩:=h;exact ((ag.refl w).drewN q).trans (sL _ os)
theorem P0 (a b:cF) (w:World) :
  Calls Tryz.prog 137 #[.agg #[.string a.ac,.string a.table,.int .i64 a.right,.string a.aI,.string a.to,.bool a.opt],.agg #[.string b.ac,.string b.table,.int .i64 b.right,.string b.aI,.string b.to,.bool b.opt]] w fun e w'=>e=.returned (.int .i64 (dR a b))∧ag w w':=(sJ a b w).mono fun e w' ⟨h,g⟩=>⟨h,g.aH⟩
theorem U6 (x:Int) (w:World):Calls Tryz.prog 153 #[.int .i64 x] w fun e w'=>e=.returned (.bool (mM x))∧w=w':=by
 have HK:=gH (show mM x=(x==1 || x==2) from rfl)
 go_in
 cases h1:(x==1)<;>cases h2:(x==2)
 all_goals
  rw [h1,h2] at HK;go_wp2;go_ret;exact ⟨by rw [HK.out];rfl,rfl⟩
theorem Fx {W:World} {b:Nat} {a c d e f:Value} (h:au W b [a,c,d,e,f]):(loadVar 189 ⟨b,0,none⟩).run Tryz.prog W=.ok (.agg #[a,c,d,e,f]) W:=by
 obtain ⟨e0,e1,e2,e3,e4⟩:=rI h;have h1:=Fy W b 0 (by rw [e0];rfl) (by rw [e1];rfl) (by rw [e2];rfl) (by rw [e3];rfl) (by rw [e4];rfl);rw [e0,e1,e2,e3,e4] at h1;exact h1
theorem Tm (g:cF) (w:World):Calls Tryz.prog 133 #[.agg #[.string g.ac,.string g.table,.int .i64 g.right,.string g.aI,.string g.to,.bool g.opt]] w fun e w'=>e=.returned (.agg #[.string g.ac,.string g.table,.int .i64 g.right,.string g.aI,.string g.to])∧ag w w':=by
 go_in
 go_wp2;refine bodyPost_ret (bE (v:=.agg #[.string g.ac,.string g.table,.int .i64 g.right,.string g.aI,.string g.to]) rfl _ rfl ?hl) rfl ?_
 case hl =>
  have:=Fx (aU (w:=w.alloc (.cells #[.string g.ac,.string g.table,.int .i64 g.right,.string g.aI,.string g.to,.bool g.opt] 177)) (c:=[.string g.ac,.string g.table,.int .i64 g.right,.string g.aI,.string g.to]) (t:=189) (ag.refl _))
  simpa using this
 exact ⟨rfl,((ag.refl _).alloc _).alloc _⟩
end Go.Proofs.YtakddkhipelmjaaGreat
namespace Go.Proofs.YtakddkhipelmjaaGreat
open Go.Deep Go.RowKit
theorem au.up {w:World} {b:Nat} {xs:List Value} {o:Obj} (h:au w b xs):au (w.alloc o) b xs:=h.aH ((ag.refl _).alloc o)
theorem bj {w W:World} {c:List Value} {t:TypeId} {b:Nat} (h:ag (w.alloc (.cells c.toArray t)) W) (hb:b=w.heap.size):au W b c:=hb▸aU h
theorem lX {w:World} {p:Nat} {a b c d e:Value} (h:au w p [a,b,c,d,e]):w.cell? ⟨p,0,none⟩=some a∧w.cell? ⟨p,1,none⟩=some b∧w.cell? ⟨p,2,none⟩=some c∧w.cell? ⟨p,3,none⟩=some d∧w.cell? ⟨p,4,none⟩=some e∧p < w.heap.size:=⟨h.cell (j:=0) rfl,h.cell (j:=1) rfl,h.cell (j:=2) rfl,h.cell (j:=3) rfl,h.cell (j:=4) rfl,h.1⟩
theorem mN {w:World} {p:Nat} {a b c d e f:Value} (h:au w p [a,b,c,d,e,f]):w.cell? ⟨p,0,none⟩=some a∧w.cell? ⟨p,1,none⟩=some b∧w.cell? ⟨p,2,none⟩=some c∧w.cell? ⟨p,3,none⟩=some d∧w.cell? ⟨p,4,none⟩=some e∧w.cell? ⟨p,5,none⟩=some f∧p < w.heap.size:=⟨h.cell (j:=0) rfl,h.cell (j:=1) rfl,h.cell (j:=2) rfl,h.cell (j:=3) rfl,h.cell (j:=4) rfl,h.cell (j:=5) rfl,h.1⟩
theorem im {w:World} {p:Nat} {a b c d e f g:Value} (h:au w p [a,b,c,d,e,f,g]):w.cell? ⟨p,0,none⟩=some a∧w.cell? ⟨p,1,none⟩=some b∧w.cell? ⟨p,2,none⟩=some c∧w.cell? ⟨p,3,none⟩=some d∧w.cell? ⟨p,4,none⟩=some e∧w.cell? ⟨p,5,none⟩=some f∧w.cell? ⟨p,6,none⟩=some g∧p < w.heap.size:=⟨h.cell (j:=0) rfl,h.cell (j:=1) rfl,h.cell (j:=2) rfl,h.cell (j:=3) rfl,h.cell (j:=4) rfl,h.cell (j:=5) rfl,h.cell (j:=6) rfl,h.1⟩
structure fp (w:World) (c:bX) (As:Option Addr) (ay:Nat) (At:Option Addr) (az:Nat) (An:Option Addr) (aC:Nat) (Am:Option Addr) (aJ:Nat) (Ag:Option Addr) (aQ:Nat):Prop where
 gT:aA w 2 eL As ay c.ah.aa
 tab:aA w 5 dE At az c.ah.tables
 j0:aA w 1 dg An aC c.ai.names
 mem:aA w 2 fw Am aJ c.ai.members
 n7:aA w 6 gC Ag aQ c.af
theorem fp.aH {w w':World} {c:bX} {As:Option Addr} {ay:Nat} {At:Option Addr} {az:Nat} {An:Option Addr} {aC:Nat} {Am:Option Addr} {aJ:Nat} {Ag:Option Addr} {aQ:Nat} (h:fp w c As ay At az An aC Am aJ Ag aQ) (a:ag w w'):fp w' c As ay At az An aC Am aJ Ag aQ :=
 ⟨bI a h.gT,br a h.tab,aO a h.j0,cu a h.mem,dQ a h.n7⟩
theorem Fz {o:bF} {s n:ByteArray} (h:bp o.tables s n < 0):jI o s n=pB:=by unfold jI;rw [if_pos h]
theorem nE {o:bF} {s n:ByteArray} {q:Nat} (hi:bp o.tables s n=q) (hq:q < o.tables.length):jI o s n=o.tables[q]:=by
 unfold jI;rw [if_neg (by omega),hi];simp [List.getElem?_eq_getElem hq]
def P1 (w:World) (o:bF) (s n:ByteArray) (e:Ending) (w':World):Prop :=
 ∃ (A2:Option Addr) (c2:Nat) (A3:Option Addr) (c3:Nat),e=.returned (.tuple #[.agg #[.string (jI o s n).ac,.string (jI o s n).name,.string (jI o s n).owner,.slice A2 (jI o s n).av.length c2,.slice A3 (jI o s n).rules.length c3],.bool (decide (0≤bp o.tables s n))])∧ag w w'
theorem P2 (ac name owner:ByteArray) (A0:Option Addr) (n0 c0:Nat) (A1:Option Addr) (n1 c1:Nat) (s n:ByteArray) (b1 b2:Nat) (w:World) (hb1:b1 < w.heap.size) (hb2:b2 < w.heap.size) (hc1:w.cell? ⟨b1,0,none⟩=some (.string s)) (hc2:w.cell? ⟨b2,0,none⟩=some (.string n)) :
  Calls Tryz.prog 213 #[.agg #[.string ac,.string name,.string owner,.slice A0 n0 c0,.slice A1 n1 c1],.pointer (some ⟨b1,0,none⟩),.pointer (some ⟨b2,0,none⟩)] w fun e w'=>e=.returned (.bool (aS ac s&&aS name n))∧ag w w':=by
 cases h1:aS ac s
 ·have yD:(ac.toList==s.toList)=false:=h1
  clear h1
  go_in
  go_wp2;go_ret;exact ⟨rfl,(ag.refl _).alloc _⟩
 ·have yD:(ac.toList==s.toList)=true:=h1
  clear h1
  go_in
  go_wp2;go_ret;exact ⟨rfl,(ag.refl _).alloc _⟩
theorem Bx (c:bX) (As:Option Addr) (ay:Nat) (At:Option Addr) (az:Nat) (An:Option Addr) (aC:Nat) (Am:Option Addr) (aJ:Nat) (Ag:Option Addr) (aQ:Nat) (s n:ByteArray) (w:World) (dw:aA w 5 dE At az c.ah.tables) :
  Calls Tryz.prog 132 #[.agg #[.int .i64 c.ax,.int .i64 c.version,.slice As c.ah.aa.length ay,.slice At c.ah.tables.length az,.slice An c.ai.names.length aC,.slice Am c.ai.members.length aJ,.slice Ag c.af.length aQ],.string s,.string n] w (P1 w c.ah s n):=by
 have fq:=dw.len;have dc:=enters (P:=Tryz.prog) Tryz.func213 (by kernel_rfl) rfl;obtain ⟨W,hW⟩:∃ W,W=(((w.alloc (.cells #[.int .i64 c.ax,.int .i64 c.version,.slice As c.ah.aa.length ay,.slice At c.ah.tables.length az,.slice An c.ai.names.length aC,.slice Am c.ai.members.length aJ,.slice Ag c.af.length aQ] 32)).alloc (.cells #[.string s] 9)).alloc (.cells #[.string n] 9)).alloc (.cells #[.string ⟨#[]⟩,.string ⟨#[]⟩,.string ⟨#[]⟩,.slice none 0 0,.slice none 0 0] 80):=⟨_,rfl⟩
 have aW:ag w W:=by rw [hW];exact ((((ag.refl w).alloc _).alloc _).alloc _).alloc _
 have r0:au W (w.heap.size) [.int .i64 c.ax,.int .i64 c.version,.slice As c.ah.aa.length ay,.slice At c.ah.tables.length az,.slice An c.ai.names.length aC,.slice Am c.ai.members.length aJ,.slice Ag c.af.length aQ]:=by rw [hW];exact au.up (au.up (au.up (bj (ag.refl _) (by simp))))
 have r1:au W (w.heap.size+1) [.string s]:=by rw [hW];exact au.up (au.up (bj (ag.refl _) (by simp)))
 have r2:au W (w.heap.size+1+1) [.string n]:=by rw [hW];exact au.up (bj (ag.refl _) (by simp))
 have r3:au W (w.heap.size+1+1+1) [.string ⟨#[]⟩,.string ⟨#[]⟩,.string ⟨#[]⟩,.slice none 0 0,.slice none 0 0]:=by rw [hW];exact bj (ag.refl _) (by simp)
 obtain ⟨i,hi⟩:∃ i,bp c.ah.tables s n=i:=⟨_,rfl⟩
 have LY : -1≤i∧i < c.ah.tables.length:=by rw [← hi];exact bk _ _
 have CI:=gH (show ∀ w',ag W w'→Calls Tryz.prog 185 #[.slice At c.ah.tables.length az,.func (.func 213) #[] #[.pointer (some ⟨w.heap.size+1,0,none⟩),.pointer (some ⟨w.heap.size+1+1,0,none⟩)]] w' fun e w''=>e=.returned (.int .i64 i)∧ag w' w'' from
  fun w' a=>(Bv At az c.ah.tables 213 #[.pointer (some ⟨w.heap.size+1,0,none⟩),.pointer (some ⟨w.heap.size+1+1,0,none⟩)] (fun t=>aS t.ac s&&aS t.name n) w' (br (aW.trans a) dw) dc (fun w'' b j hj e1 he=>by
   obtain ⟨A2,bJ,A3,fN,rfl,_⟩:=he;have p1:=r1.aH (a.trans b);have p2:=r2.aH (a.trans b)
   exact P2 _ _ _ A2 _ bJ A3 _ fN s n _ _ w'' p1.1 p2.1 (p1.cell (j:=0) rfl) (p2.cell (j:=0) rfl))).mono fun e w'' ⟨he,hw⟩=>⟨he.trans (by rw [← hi];rfl),hw⟩)
 have HI:=gH hi;have HT:=gH dw;have bQ:=gH aW;have fO:=gH r0;have LZ:=gH r3;clear hi dw r0 r1 r2 r3 aW
 go_in
 go_wp2_with fail;rw [← hW];clear hW;refine (CI.out W (ag.refl W)).mono ?_;rintro e w1 ⟨rfl,a1⟩;have b3:=LZ.out.aH a1;obtain ⟨d0,d1,d2,d3,d4⟩:=rI b3;obtain ⟨f0,f1,f2,f3,f4⟩:=Bj b3;have z3:=b3.1;have b0:=fO.out.aH a1;have c3:=b0.cell (j:=3) rfl;have z0:=b0.1;have cT:=gH (bQ.out.trans a1);have Ls:=gH b3;clear a1 b3 b0 CI;by_cases h0:0≤i
 ·obtain ⟨q,rfl⟩:=Int.eq_ofNat_of_zero_le h0
  have hq:q < c.ah.tables.length:=by omega
  obtain ⟨b,off,A2,bJ,A3,fN,rfl,hb,t0,t1,t2,t3,t4,dt,lY,lZ⟩:=fh (br cT.out HT.out) hq;have HE:=gH (nE HI.out hq);obtain ⟨p,hp⟩:∃ p,c.ah.tables[q]=p:=⟨_,rfl⟩;rw [hp] at t0 t1 t2 t3 t4 HE;clear hp dt lY lZ h0 LY;go_wp2;refine bodyPost_ret (results_cell_tmp (v:=.agg #[.string p.ac,.string p.name,.string p.owner,.slice A2 p.av.length bJ,.slice A3 p.rules.length fN]) rfl _ rfl ?hl) rfl ?_
  case hl=>exact jB (jJ Ls.out rfl _ _ _ _ _)
  exact ⟨A2,bJ,A3,fN,by rw [HE.out,HI.out];simp,(iM _ _ _ _ _ _ _).aN cT.out (fun g hg e=>by omega)⟩
 ·have HE:=gH (Fz (o:=c.ah) (s:=s) (n:=n) (by rw [HI.out];omega))
  have HD:=gH (show decide (0≤i)=false from decide_eq_false h0)
  have O1:i < 0:=by omega
  clear h0 LY;go_wp2;refine bodyPost_ret (results_cell_tmp (v:=.agg #[.string ⟨#[]⟩,.string ⟨#[]⟩,.string ⟨#[]⟩,.slice none 0 0,.slice none 0 0]) rfl _ rfl ?hl) rfl ?_
  case hl=>exact jB (jJ Ls.out rfl _ _ _ _ _)
  exact ⟨none,0,none,0,by rw [HE.out,HI.out,HD.out];rfl,(iM _ _ _ _ _ _ _).aN cT.out (fun g hg e=>by omega)⟩
theorem L1 (An:Option Addr) (aC:Nat) (names:List ByteArray) (v0 v1:Value) (owner:ByteArray) (v3 v4:Value) (b0:Nat) (w:World) (hb0:b0 < w.heap.size) (hc0:w.cell? ⟨b0,4,none⟩=some (.slice An names.length aC)) (hn:aA w 1 dg An aC names) (s0 s1:ByteArray) (A2:Option Addr) (n2 c2:Nat) (A3:Option Addr) (n3 c3:Nat) (e0:v0=.string s0) (e1:v1=.string s1) (e3:v3=.slice A2 n2 c2) (e4:v4=.slice A3 n3 c3) :
  Calls Tryz.prog 229 #[.agg #[v0,v1,.string owner,v3,v4],.pointer (some ⟨b0,0,none⟩)] w fun e w'=>e=.returned (.bool (!cL names owner))∧ag w w':=by
 subst e0 e1 e3 e4;obtain ⟨i,hi⟩:∃ i,cL names owner=i:=⟨_,rfl⟩;have C:=gH (show ∀ w',ag w w'→Calls Tryz.prog 69 #[.slice An names.length aC,.string owner] w' fun e w''=>e=.returned (.bool i)∧w'=w'' from fun w' a=>hi▸jK An aC names owner w' (aO a hn));rw [hi];clear hi hn
 go_in
 go_wp2_with fail;refine (C.out _ ((ag.refl w).alloc _)).mono ?_;rintro e w1 ⟨rfl,rfl⟩;go_wp2;go_ret;exact ⟨rfl,(ag.refl _).alloc _⟩
theorem L3 (c:bX) (As:Option Addr) (ay:Nat) (At:Option Addr) (az:Nat) (An:Option Addr) (aC:Nat) (Am:Option Addr) (aJ:Nat) (Ag:Option Addr) (aQ:Nat) (w:World) (H:fp w c As ay At az An aC Am aJ Ag aQ) :
  Calls Tryz.prog 152 #[.agg #[.int .i64 c.ax,.int .i64 c.version,.slice As c.ah.aa.length ay,.slice At c.ah.tables.length az,.slice An c.ai.names.length aC,.slice Am c.ai.members.length aJ,.slice Ag c.af.length aQ]] w fun e w'=>e=.returned (.bool (eJ c))∧ag w w':=by
 have hlen:=H.gT.len;have dc:=enters (P:=Tryz.prog) Tryz.func229 (by kernel_rfl) rfl;obtain ⟨W,hW⟩:∃ W,W=w.alloc (.cells #[.int .i64 c.ax,.int .i64 c.version,.slice As c.ah.aa.length ay,.slice At c.ah.tables.length az,.slice An c.ai.names.length aC,.slice Am c.ai.members.length aJ,.slice Ag c.af.length aQ] 32):=⟨_,rfl⟩
 have aW:ag w W:=by rw [hW];exact (ag.refl w).alloc _
 have r0:au W (w.heap.size) [.int .i64 c.ax,.int .i64 c.version,.slice As c.ah.aa.length ay,.slice At c.ah.tables.length az,.slice An c.ai.names.length aC,.slice Am c.ai.members.length aJ,.slice Ag c.af.length aQ]:=by rw [hW];exact bj (ag.refl _) (by simp)
 have HN:=gH (show ∀ w',ag W w'→∀ s,Calls Tryz.prog 69 #[.slice An c.ai.names.length aC,.string s] w' fun e w''=>e=.returned (.bool (cL c.ai.names s))∧w'=w'' from fun w' a s=>jK An aC c.ai.names s w' (aO (aW.trans a) H.j0));obtain ⟨q,hq⟩:∃ q,c.ah.tables.any (fun t=>!cL c.ai.names t.owner)=q:=⟨_,rfl⟩
 have CT:=gH (show ∀ w',ag W w'→Calls Tryz.prog 192 #[.slice At c.ah.tables.length az,.func (.func 229) #[] #[.pointer (some ⟨w.heap.size,0,none⟩)]] w' fun e w''=>e=.returned (.bool q)∧ag w' w'' from
  fun w' a=>(LW At az c.ah.tables 229 #[.pointer (some ⟨w.heap.size,0,none⟩)] (fun t=>!cL c.ai.names t.owner) w' (br (aW.trans a) H.tab) dc (fun w'' b j hj e1 he=>by
   obtain ⟨A2,bJ,A3,fN,rfl,_⟩:=he;have p0:=r0.aH (a.trans b)
   exact L1 An aC c.ai.names _ _ _ _ _ _ w'' p0.1 (p0.cell (j:=4) rfl) (aO ((aW.trans a).trans b) H.j0) _ _ _ _ _ _ _ _ rfl rfl rfl rfl)).mono fun e w'' ⟨he,hw⟩=>⟨he.trans (by rw [hq]),hw⟩)
 have HO:=gH (show eJ c=(c.ah.aa.all (fun s=>cL c.ai.names s.owner)&&!q) from by
  unfold eJ
  rw [← hq,List.all_eq_not_any_not (l:=c.ah.tables)])
 have HS:=gH H.gT;have bQ:=gH aW;have fO:=gH r0;clear H hq r0 aW
 go_in
 go_wp2_with fail;rw [← hW]
 go_loopw [9] (fun i wr=>∃ k:Nat,k≤c.ah.aa.length∧i=.int .i64 k∧ag W wr∧∀ j,j < k→∀ (hj:j < c.ah.aa.length),cL c.ai.names c.ah.aa[j].owner=true) (fun i _=>c.ah.aa.length - (intOf i).toNat)
 case atStart=>exact ⟨0,Nat.zero_le _,rfl,ag.refl _,fun j hj=>absurd hj (Nat.not_lt_zero j)⟩
 case round =>
  clear hW;obtain ⟨k,hk,rfl,ha,hp⟩:=hrel;have HA:=gH ha;have HP:=gH hp;have p0:=fO.out.aH ha;have c3:=p0.cell (j:=3) rfl;have c4:=p0.cell (j:=4) rfl;have z0:=p0.1;clear ha hp p0;by_cases hlt:k < c.ah.aa.length
  ·obtain ⟨b,off,rfl,hb,t0,t1,s0,s1⟩:=iC (bI (bQ.out.trans HA.out) HS.out) hlt
   obtain ⟨p,gf⟩:∃ p,c.ah.aa[k]=p:=⟨_,rfl⟩;rw [gf] at t0 t1 s0 s1;have aX:ag wr (wr.alloc (.cells #[.string p.name,.string p.owner] 109)):=(ag.refl _).alloc _;have C:=gH (HN.out _ (HA.out.trans aX) p.owner);have lx:=gH (HA.out.trans aX);obtain ⟨i,hi⟩:∃ i,cL c.ai.names p.owner=i:=⟨_,rfl⟩;rw [hi] at C;have HI:=gH (show cL c.ai.names c.ah.aa[k].owner=i by rw [gf];exact hi);clear hi gf aX
   cases i
   ·have HF:=gH (show eJ c=false by rw [HO.out,all_false _ _ k hlt HI.out];rfl)
    go_wp2_with fail;refine C.out.mono ?_;rintro e w1 ⟨rfl,rfl⟩;go_wp2;go_ret;exact ⟨by rw [HF.out];rfl,bQ.out.trans lx.out⟩
   ·go_wp2_with fail
    refine C.out.mono ?_;rintro e w1 ⟨rfl,rfl⟩;go_wp2
    go_roundw
    case rel=>exact ⟨k+1,by omega,by go_num,lx.out,bC (p:=fun j=>∀ (hj:j < c.ah.aa.length),cL c.ai.names c.ah.aa[j].owner=true) HP.out (fun _=>HI.out)⟩
    case measure=>simp [intOf];omega
  ·have HF:=gH (show eJ c=!q by rw [HO.out,all_true _ _ fun j hj=>HP.out j (by omega) hj];rfl)
   have C:=gH (CT.out wr HA.out);go_wp2_with fail;refine C.out.mono ?_;rintro e w1 ⟨rfl,a1⟩;have cT:=gH (bQ.out.trans (HA.out.trans a1));clear a1;go_wp2;go_ret;exact ⟨by rw [HF.out];rfl,cT.out⟩
theorem U8 (name owner s:ByteArray) (b1:Nat) (w:World) (hb1:b1 < w.heap.size) (hc1:w.cell? ⟨b1,0,none⟩=some (.string s)) :
  Calls Tryz.prog 214 #[.agg #[.string name,.string owner],.pointer (some ⟨b1,0,none⟩)] w fun e w'=>e=.returned (.bool (aS name s))∧ag w w':=by
 go_in
 go_wp2;go_ret;exact ⟨rfl,(ag.refl _).alloc _⟩
theorem FA:cE.toList=[114,111,111,116]:=by first | rfl | kernel_rfl | decide
theorem L4 (r:ByteArray):aS r cE=(r.toList==[114,111,111,116]):=by unfold aS;rw [FA]
theorem U9 (r to over:ByteArray) (b0 b1 b2:Nat) (As:Option Addr) (n ay:Nat) (q:Nat) (w:World) (h0:b0 < w.heap.size) (h1:b1 < w.heap.size) (h2:b2 < w.heap.size) (hc0:w.cell? ⟨b0,2,none⟩=some (.slice As n ay)) (hc1:w.cell? ⟨b1,2,none⟩=some (.string to)) (hc2:w.cell? ⟨b2,0,none⟩=some (.int .i64 q))
  (hq:q < n) (hn:n*16≤140737488351232) (hA:∃ b off,As=some ⟨b,off,none⟩∧b < w.heap.size∧w.cell? ⟨b,off+q*2+1,none⟩=some (.string over)) :
  Calls Tryz.prog 216 #[.string r,.pointer (some ⟨b1,0,none⟩),.pointer (some ⟨b0,0,none⟩),.pointer (some ⟨b2,0,none⟩)] w fun e w'=>e=.returned (.bool (aS r cE || aS r to || aS r over))∧ag w w':=by
 obtain ⟨b,off,rfl,hb,hc⟩:=hA;rw [L4]
 cases e1:(r.toList==[114,111,111,116])
 ·cases e2:aS r to
  ·have G9:(r.toList==to.toList)=false:=e2
   clear e2
   go_in
   go_wp2;go_ret;exact ⟨rfl,ag.refl _⟩
  ·have G9:(r.toList==to.toList)=true:=e2
   clear e2
   go_in
   go_wp2;go_ret;exact ⟨rfl,ag.refl _⟩
 ·go_in
  go_wp2;go_ret;exact ⟨rfl,ag.refl _⟩
theorem oC {o:bF} {s:ByteArray} {q:Nat} (hi:cy o.aa s=q) (hq:q < o.aa.length):qP o s=o.aa[q].owner:=by
 unfold qP;rw [if_neg (by omega),hi];simp [List.getElem?_eq_getElem hq]
theorem O3 (c:bX) (As:Option Addr) (ay:Nat) (At:Option Addr) (az:Nat) (An:Option Addr) (aC:Nat) (Am:Option Addr) (aJ:Nat) (Ag:Option Addr) (aQ:Nat) (is:List ByteArray) (Ai:Option Addr) (oD:Nat) (ts tn to:ByteArray) (A2:Option Addr) (n2 c2:Nat) (A3:Option Addr) (n3 c3:Nat) (t:cp) (ht:t.ac=ts∧t.owner=to) (w:World) (H:fp w c As ay At az An aC Am aJ Ag aQ) (yE:aA w 1 dg Ai oD is) (hsc:0≤cy c.ah.aa ts) :
  Calls Tryz.prog 134 #[.agg #[.int .i64 c.ax,.int .i64 c.version,.slice As c.ah.aa.length ay,.slice At c.ah.tables.length az,.slice An c.ai.names.length aC,.slice Am c.ai.members.length aJ,.slice Ag c.af.length aQ],.slice Ai is.length oD,.agg #[.string ts,.string tn,.string to,.slice A2 n2 c2,.slice A3 n3 c3]] w fun e w'=>e=.returned (.bool (jL c.ah is t))∧ag w w':=by
 have hlen:=H.gT.len;have El:=enters (P:=Tryz.prog) Tryz.func214 (by kernel_rfl) rfl;have qQ:=enters (P:=Tryz.prog) Tryz.func216 (by kernel_rfl) rfl;obtain ⟨W,hW⟩:∃ W,W=(w.alloc (.cells #[.int .i64 c.ax,.int .i64 c.version,.slice As c.ah.aa.length ay,.slice At c.ah.tables.length az,.slice An c.ai.names.length aC,.slice Am c.ai.members.length aJ,.slice Ag c.af.length aQ] 32)).alloc (.cells #[.string ts,.string tn,.string to,.slice A2 n2 c2,.slice A3 n3 c3] 80):=⟨_,rfl⟩
 have aW:ag w W:=by rw [hW];exact ((ag.refl w).alloc _).alloc _
 have r0:au W (w.heap.size) [.int .i64 c.ax,.int .i64 c.version,.slice As c.ah.aa.length ay,.slice At c.ah.tables.length az,.slice An c.ai.names.length aC,.slice Am c.ai.members.length aJ,.slice Ag c.af.length aQ]:=by rw [hW];exact au.up (bj (ag.refl _) (by simp))
 have r1:au W (w.heap.size+1) [.string ts,.string tn,.string to,.slice A2 n2 c2,.slice A3 n3 c3]:=by rw [hW];exact bj (ag.refl _) (by simp)
 obtain ⟨q,hq⟩:=Int.eq_ofNat_of_zero_le hsc;have LY : -1≤cy c.ah.aa ts∧cy c.ah.aa ts < c.ah.aa.length:=bk _ _
 have mO:q < c.ah.aa.length:=by omega
 have HB:=gH (show jL c.ah is t=is.any (fun r=>aS r cE || aS r to || aS r c.ah.aa[q].owner) from by
  unfold jL
  rw [ht.1,ht.2,oC hq mO])
 have CI:=gH (show ∀ w',ag W w'→Calls Tryz.prog 110 #[.slice As c.ah.aa.length ay,.func (.func 214) #[] #[.pointer (some ⟨w.heap.size+1,0,none⟩)]] w' fun e w''=>e=.returned (.int .i64 q)∧ag w' w'' from
  fun w' a=>(wT As ay c.ah.aa 214 #[.pointer (some ⟨w.heap.size+1,0,none⟩)] (fun s=>aS s.name ts) w' (bI (aW.trans a) H.gT) El (fun w'' b j hj=>by
   have p1:=r1.aH (a.trans b)
   exact U8 _ _ _ _ w'' p1.1 (p1.cell (j:=0) rfl))).mono fun e w'' ⟨he,hw⟩=>⟨he.trans (by rw [← hq];rfl),hw⟩)
 obtain ⟨v,hv⟩:∃ v,is.any (fun r=>aS r cE || aS r to || aS r c.ah.aa[q].owner)=v:=⟨_,rfl⟩
 have CC:=gH (show ∀ b2 w',ag W w'→w'.cell? ⟨b2,0,none⟩=some (.int .i64 q)→Calls Tryz.prog 215 #[.slice Ai is.length oD,.func (.func 216) #[] #[.pointer (some ⟨w.heap.size+1,0,none⟩),.pointer (some ⟨w.heap.size,0,none⟩),.pointer (some ⟨b2,0,none⟩)]] w' fun e w''=>e=.returned (.bool v)∧ag w' w'' from
  fun b2 w' a hb2=>(LV Ai oD is 216 #[.pointer (some ⟨w.heap.size+1,0,none⟩),.pointer (some ⟨w.heap.size,0,none⟩),.pointer (some ⟨b2,0,none⟩)] (fun r=>aS r cE || aS r to || aS r c.ah.aa[q].owner) w' (aO (aW.trans a) yE) qQ (fun w'' b j hj=>by
   have p0:=r0.aH (a.trans b);have p1:=r1.aH (a.trans b);have z2:b2 < w'.heap.size:=World.block_lt_of_cell? w' ⟨b2,0,none⟩ hb2;have c2:w''.cell? ⟨b2,0,none⟩=some (.int .i64 q):=(Below.cell b (p:=⟨b2,0,none⟩) z2).trans hb2;obtain ⟨bs,off,hA,YT,_,t1,_,_⟩:=iC (bI ((aW.trans a).trans b) H.gT) mO
   exact U9 _ to c.ah.aa[q].owner w.heap.size _ b2 As _ ay q w'' p0.1 p1.1 (Nat.lt_of_lt_of_le z2 b.size) (p0.cell (j:=2) rfl) (p1.cell (j:=2) rfl) c2 mO (by have:=H.gT.2.1;unfold Small at this;omega) ⟨bs,off,hA,YT,t1⟩)).mono fun e w'' ⟨he,hw⟩=>⟨he.trans (by rw [hv]),hw⟩)
 rw [hv] at HB;have bQ:=gH aW;have fO:=gH r0;clear hv hq LY hsc H yE ht r0 r1 aW
 go_in
 go_wp2_with fail;rw [← hW];clear hW;refine (CI.out W (ag.refl W)).mono ?_;rintro e w1 ⟨rfl,a1⟩;have cT:=gH a1;have C2:=gH (CC.out w1.heap.size (w1.alloc (.cells #[.int .i64 q] 3)) (a1.alloc _) (by simp));clear a1;go_wp2_with fail;refine C2.out.mono ?_;rintro e w2 ⟨rfl,a2⟩;have iy:=gH ((bQ.out.trans cT.out).trans (((ag.refl w1).alloc _).trans a2));clear a2;go_wp2;go_ret;exact ⟨by rw [HB.out];rfl,iy.out⟩
theorem P3 (g:cF) (ts tn:ByteArray) (A2:Option Addr) (n2 c2:Nat) (A3:Option Addr) (n3 c3:Nat) (rt:Int) (op:Bool) (is:List ByteArray) (Ai:Option Addr) (oD:Nat) (bi b1 b2 b3:Nat) (w:World) (Va:bi < w.heap.size) (h1:b1 < w.heap.size) (h2:b2 < w.heap.size) (h3:b3 < w.heap.size) (hci:w.cell? ⟨bi,0,none⟩=some (.slice Ai is.length oD)) (hc1:w.cell? ⟨b1,0,none⟩=some (.string ts)) (aaR:w.cell? ⟨b1,1,none⟩=some (.string tn)) (hc2:w.cell? ⟨b2,0,none⟩=some (.int .i64 rt)) (hc3:w.cell? ⟨b3,0,none⟩=some (.bool op)) (yE:aA w 1 dg Ai oD is) :
  Calls Tryz.prog 217 #[.agg #[.string g.ac,.string g.table,.int .i64 g.right,.string g.aI,.string g.to,.bool g.opt],.pointer (some ⟨b1,0,none⟩),.pointer (some ⟨b2,0,none⟩),.pointer (some ⟨b3,0,none⟩),.pointer (some ⟨bi,0,none⟩)] w fun e w'=>e=.returned (.bool (aS g.ac ts&&aS g.table tn&&(g.right==rt)&&(g.opt || !op)&&cL is g.to))∧ag w w':=by
 obtain ⟨i,hi⟩:∃ i,cL is g.to=i:=⟨_,rfl⟩;have C:=gH (show ∀ w',ag w w'→Calls Tryz.prog 69 #[.slice Ai is.length oD,.string g.to] w' fun e w''=>e=.returned (.bool i)∧w'=w'' from fun w' a=>hi▸jK Ai oD is g.to w' (aO a yE));rw [hi];clear hi yE;obtain ⟨gs,gt,gr,gg,gto,go⟩:=g;dsimp only at C ⊢
 cases e1:aS gs ts
 ·have Iy:(gs.toList==ts.toList)=false:=e1
  clear e1
  go_in
  go_wp2;go_ret;exact ⟨rfl,(ag.refl _).alloc _⟩
 have Iy:(gs.toList==ts.toList)=true:=e1;clear e1
 cases e2:aS gt tn
 ·have G9:(gt.toList==tn.toList)=false:=e2
  clear e2
  go_in
  go_wp2;go_ret;exact ⟨rfl,(ag.refl _).alloc _⟩
 have G9:(gt.toList==tn.toList)=true:=e2;clear e2
 cases e3:(gr==rt)
 ·go_in
  go_wp2;go_ret;exact ⟨rfl,(ag.refl _).alloc _⟩
 cases go<;>cases op
 all_goals
  go_in
  go_wp2_with (go_at_call 69;refine (C.out _ ((ag.refl w).alloc _)).mono ?_;rintro e w1 ⟨rfl,rfl⟩)
  go_ret;exact ⟨rfl,(ag.refl _).alloc _⟩
theorem P4 (l:List cF) (Ag:Option Addr) (aQ:Nat) (is:List ByteArray) (Ai:Option Addr) (oD:Nat) (ts tn to:ByteArray) (A2:Option Addr) (n2 c2:Nat) (A3:Option Addr) (n3 c3:Nat) (rt:Int) (op:Bool) (w:World) (hl:aA w 6 gC Ag aQ l) (yE:aA w 1 dg Ai oD is) :
  Calls Tryz.prog 135 #[.slice Ag l.length aQ,.slice Ai is.length oD,.agg #[.string ts,.string tn,.string to,.slice A2 n2 c2,.slice A3 n3 c3],.int .i64 rt,.bool op] w fun e w'=>e=.returned (.bool (gU l is ts tn rt op))∧ag w w':=by
 have dc:=enters (P:=Tryz.prog) Tryz.func217 (by kernel_rfl) rfl;obtain ⟨W,hW⟩:∃ W,W=(((w.alloc (.cells #[.slice Ai is.length oD] 26)).alloc (.cells #[.string ts,.string tn,.string to,.slice A2 n2 c2,.slice A3 n3 c3] 80)).alloc (.cells #[.int .i64 rt] 43)).alloc (.cells #[.bool op] 4):=⟨_,rfl⟩
 have aW:ag w W:=by rw [hW];exact ((((ag.refl w).alloc _).alloc _).alloc _).alloc _
 have r0:au W (w.heap.size) [.slice Ai is.length oD]:=by rw [hW];exact au.up (au.up (au.up (bj (ag.refl _) (by simp))))
 have r1:au W (w.heap.size+1) [.string ts,.string tn,.string to,.slice A2 n2 c2,.slice A3 n3 c3]:=by rw [hW];exact au.up (au.up (bj (ag.refl _) (by simp)))
 have r2:au W (w.heap.size+1+1) [.int .i64 rt]:=by rw [hW];exact au.up (bj (ag.refl _) (by simp))
 have r3:au W (w.heap.size+1+1+1) [.bool op]:=by rw [hW];exact bj (ag.refl _) (by simp)
 obtain ⟨v,hv⟩:∃ v,gU l is ts tn rt op=v:=⟨_,rfl⟩
 have C:=gH ((LU Ag aQ l 217 #[.pointer (some ⟨w.heap.size+1,0,none⟩),.pointer (some ⟨w.heap.size+1+1,0,none⟩),.pointer (some ⟨w.heap.size+1+1+1,0,none⟩),.pointer (some ⟨w.heap.size,0,none⟩)] (fun g=>aS g.ac ts&&aS g.table tn&&(g.right==rt)&&(g.opt || !op)&&cL is g.to) W (dQ aW hl) dc (fun w'' b j hj=>by
   have p0:=r0.aH b;have p1:=r1.aH b;have p2:=r2.aH b;have p3:=r3.aH b
   exact P3 l[j] ts tn A2 n2 c2 A3 n3 c3 rt op is Ai oD _ _ _ _ w'' p0.1 p1.1 p2.1 p3.1 (p0.cell (j:=0) rfl) (p1.cell (j:=0) rfl) (p1.cell (j:=1) rfl) (p2.cell (j:=0) rfl) (p3.cell (j:=0) rfl) (aO (aW.trans b) yE))).mono (R':=fun e w''=>e=.returned (.bool v)∧ag W w'') fun e w'' ⟨he,hw⟩=>⟨he.trans (by rw [← hv];rfl),hw⟩)
 rw [hv];have bQ:=gH aW;clear hv hl yE r0 r1 r2 r3 aW
 go_in
 go_wp2_with fail;rw [← hW];clear hW;refine C.out.mono ?_;rintro e w1 ⟨rfl,a1⟩;have cT:=gH (bQ.out.trans a1);clear a1;go_wp2;go_ret;exact ⟨rfl,cT.out⟩
end Go.Proofs.YtakddkhipelmjaaGreat
