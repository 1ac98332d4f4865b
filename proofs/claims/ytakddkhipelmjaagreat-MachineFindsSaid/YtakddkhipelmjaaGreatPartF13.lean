import Derived.DeepKeys3
import Derived.ChangeKeys
import Derived.WideKeyEntry
import Derived.WalkMore
import Derived.Test.YtakddkhipelmjaaGreatPartF12
set_option maxRecDepth 100000
set_option linter.unusedVariables false
set_option maxHeartbeats 64000000
namespace Go.Proofs.YtakddkhipelmjaaGreat
open Go.Deep Go.RowKit
theorem qR (c:bX) (h:¬ c.af.length≤64):bv c=false:=by unfold bv;rw [decide_eq_false h];rfl
theorem cQ (c:bX) (k:Nat) (hk:k < c.af.length) (h:fA c c.af[k]=false):bv c=false:=by
 unfold bv;rw [all_false _ _ k hk h];simp
theorem mP (c:bX) (k:Nat) (hk:k < c.af.length) (h0:0 < k) (h:0≤dR (c.af[k - 1]'(by omega)) c.af[k]):bv c=false:=by
 have h1:k - 1+1 < c.af.length:=by omega
 have e:(c.af[k - 1+1]'h1)=c.af[k]:=by congr 1;omega
 unfold bv;rw [eu _ _ (k - 1) h1 (by rw [e];exact h)];simp
structure Vb (w:World) (B3:Nat) (l0:List Value) (p:cF) (wr:World):Prop where
 aH:ag w wr
 box:au wr w.heap.size l0
 last:au wr B3 [.string p.ac,.string p.table,.int .i64 p.right,.string p.aI,.string p.to]
theorem Vb.to {w:World} {B3:Nat} {l0:List Value} {p:cF} {wr w':World} (h:Vb w B3 l0 p wr) (a:ag wr w'):Vb w B3 l0 p w':=⟨h.aH.trans a,h.box.aH a,h.last.aH a⟩
theorem FB (a b:cF):g9 b a=true↔dR a b=0:=by rw [lf,Bz]
theorem Eo (c:bX) (As:Option Addr) (ay:Nat) (At:Option Addr) (az:Nat) (An:Option Addr) (aC:Nat) (Am:Option Addr) (aJ:Nat) (Ag:Option Addr) (aQ:Nat) (w:World) (H:fp w c As ay At az An aC Am aJ Ag aQ) :
  Calls Tryz.prog 87 #[.agg #[.int .i64 c.ax,.int .i64 c.version,.slice As c.ah.aa.length ay,.slice At c.ah.tables.length az,.slice An c.ai.names.length aC,.slice Am c.ai.members.length aJ,.slice Ag c.af.length aQ]] w fun e w'=>e=.returned (.bool (bv c))∧ag w w':=by
 have hlen:=H.n7.len;obtain ⟨W,hW⟩:∃ W,W=w.alloc (.cells #[.int .i64 c.ax,.int .i64 c.version,.slice As c.ah.aa.length ay,.slice At c.ah.tables.length az,.slice An c.ai.names.length aC,.slice Am c.ai.members.length aJ,.slice Ag c.af.length aQ] 32):=⟨_,rfl⟩
 have aW:ag w W:=by rw [hW];exact (ag.refl w).alloc _
 have r0:au W (w.heap.size) [.int .i64 c.ax,.int .i64 c.version,.slice As c.ah.aa.length ay,.slice At c.ah.tables.length az,.slice An c.ai.names.length aC,.slice Am c.ai.members.length aJ,.slice Ag c.af.length aQ]:=by rw [hW];exact bj (ag.refl _) (by simp)
 obtain ⟨ck,j7⟩:∃ b,bw c.ah=b:=⟨_,rfl⟩;obtain ⟨rk,qT⟩:∃ b,bG c.ai=b:=⟨_,rfl⟩;obtain ⟨ro,hro⟩:∃ b,cL c.ai.names cE=b:=⟨_,rfl⟩;obtain ⟨ow,how⟩:∃ b,eJ c=b:=⟨_,rfl⟩;have HS:=gH (show bv c=(decide (c.af.length≤64)&&ck&&rk&&ro&&ow&&(c.af.all (fA c)&&aM dR c.af)) by unfold bv;rw [j7,qT,hro,how]);have C1:=gH (show ∀ w',ag W w'→Calls Tryz.prog 111 #[.agg #[.slice As c.ah.aa.length ay,.slice At c.ah.tables.length az]] w' fun e w''=>e=.returned (.int .i64 (if ck=true then 0 else 63))∧ag w' w'' from fun w' a=>(ql c.ah As ay At az w' (bI (aW.trans a) H.gT) (br (aW.trans a) H.tab)).mono fun e w'' ⟨he,hw⟩=>⟨he.trans (by unfold eX;rw [j7]),hw⟩);have C2:=gH (show ∀ w',ag W w'→Calls Tryz.prog 151 #[.agg #[.slice An c.ai.names.length aC,.slice Am c.ai.members.length aJ]] w' fun e w''=>e=.returned (.int .i64 (if rk=true then 0 else 1))∧ag w' w'' from fun w' a=>qT▸P5 c.ai An aC Am aJ w' (aO (aW.trans a) H.j0) (cu (aW.trans a) H.mem));have C3:=gH (show ∀ w',ag W w'→Calls Tryz.prog 69 #[.slice An c.ai.names.length aC,.string ⟨#[114,111,111,116]⟩] w' fun e w''=>e=.returned (.bool ro)∧w'=w'' from fun w' a=>hro▸jK An aC c.ai.names cE w' (aO (aW.trans a) H.j0));have C4:=gH (show ∀ w',ag W w'→Calls Tryz.prog 152 #[.agg #[.int .i64 c.ax,.int .i64 c.version,.slice As c.ah.aa.length ay,.slice At c.ah.tables.length az,.slice An c.ai.names.length aC,.slice Am c.ai.members.length aJ,.slice Ag c.af.length aQ]] w' fun e w''=>e=.returned (.bool ow)∧ag w' w'' from fun w' a=>how▸L3 c As ay At az An aC Am aJ Ag aQ w' (H.aH (aW.trans a)))
 have CN:=gH (show ∀ w',ag w w'→∀ s,Calls Tryz.prog 69 #[.slice An c.ai.names.length aC,.string s] w' fun e w''=>e=.returned (.bool (cL c.ai.names s))∧w'=w'' from fun w' a s=>jK An aC c.ai.names s w' (aO a H.j0));have CT:=gH (show ∀ w',ag w w'→∀ s n,Calls Tryz.prog 132 #[.agg #[.int .i64 c.ax,.int .i64 c.version,.slice As c.ah.aa.length ay,.slice At c.ah.tables.length az,.slice An c.ai.names.length aC,.slice Am c.ai.members.length aJ,.slice Ag c.af.length aQ],.string s,.string n] w' (P1 w' c.ah s n) from fun w' a s n=>Bx c As ay At az An aC Am aJ Ag aQ s n w' (br a H.tab));have HH:=gH H;have bQ:=gH aW;have fO:=gH r0;clear j7 qT hro how H aW r0
 go_in
 by_cases m64:c.af.length≤64
 case neg =>
  have P6:(64:Int) < (c.af.length:Int):=by omega
  have HF:=gH (qR c m64);go_wp2;go_ret;exact ⟨by rw [HF.out];rfl,(ag.refl _).alloc _⟩
 have P6:¬ (64:Int) < (c.af.length:Int):=by omega
 go_wp2_with fail;rw [← hW];refine (C1.out W (ag.refl W)).mono ?_;rintro e w1 ⟨rfl,a1⟩;clear hW;have H1:=gH a1;have p0:=fO.out.aH a1;have x2:=p0.cell (j:=2) rfl;have x3:=p0.cell (j:=3) rfl;have x4:=p0.cell (j:=4) rfl;have x5:=p0.cell (j:=5) rfl;have x6:=p0.cell (j:=6) rfl;have x0:=p0.cell (j:=0) rfl;have x1:=p0.cell (j:=1) rfl;have xz:=p0.1;clear a1 p0
 cases ck
 case false =>
  have HF:=gH (show bv c=false by rw [HS.out];simp);go_wp2;go_ret;exact ⟨by rw [HF.out];rfl,bQ.out.trans H1.out⟩
 go_wp2_with fail;refine (C2.out w1 H1.out).mono ?_;rintro e w2 ⟨rfl,a2⟩;clear x0 x1 x2 x3 x4 x5 x6 xz;have H2:=gH (H1.out.trans a2);have p0:=fO.out.aH (H1.out.trans a2);have x2:=p0.cell (j:=2) rfl;have x3:=p0.cell (j:=3) rfl;have x4:=p0.cell (j:=4) rfl;have x5:=p0.cell (j:=5) rfl;have x6:=p0.cell (j:=6) rfl;have x0:=p0.cell (j:=0) rfl;have x1:=p0.cell (j:=1) rfl;have xz:=p0.1;clear a2 p0 H1
 cases rk
 case false =>
  have HF:=gH (show bv c=false by rw [HS.out];simp);go_wp2;go_ret;exact ⟨by rw [HF.out];rfl,bQ.out.trans H2.out⟩
 go_wp2_with fail;refine (C3.out w2 H2.out).mono ?_;rintro e w3 ⟨rfl,rfl⟩
 cases ro
 case false =>
  have HF:=gH (show bv c=false by rw [HS.out];simp);go_wp2;go_ret;exact ⟨by rw [HF.out];rfl,bQ.out.trans H2.out⟩
 go_wp2_with fail;refine (C4.out w2 H2.out).mono ?_;rintro e w4 ⟨rfl,a4⟩;clear x0 x1 x2 x3 x4 x5 x6 xz;have H4:=gH (H2.out.trans a4);have p0:=fO.out.aH (H2.out.trans a4);have x6:=p0.cell (j:=6) rfl;have xz:=p0.1;clear a4 p0 H2
 cases ow
 case false =>
  have HF:=gH (show bv c=false by rw [HS.out];simp);go_wp2;go_ret;exact ⟨by rw [HF.out];rfl,bQ.out.trans H4.out⟩
 obtain ⟨B3,YU⟩:∃ B,B=w4.heap.size:=⟨_,rfl⟩
 have zB:w.heap.size+1≤B3:=by have:=fO.out.1;have:=(bQ.out.trans H4.out).size;have:=H4.out.size;omega
 have S0:=gH (show Vb w B3 [.int .i64 c.ax,.int .i64 c.version,.slice As c.ah.aa.length ay,.slice At c.ah.tables.length az,.slice An c.ai.names.length aC,.slice Am c.ai.members.length aJ,.slice Ag c.af.length aQ] ⟨⟨#[]⟩,⟨#[]⟩,0,⟨#[]⟩,⟨#[]⟩,false⟩ (w4.alloc (.cells #[.string ⟨#[]⟩,.string ⟨#[]⟩,.int .i64 0,.string ⟨#[]⟩,.string ⟨#[]⟩] 189)) from by
  have a:=(ag.refl w4).alloc (.cells #[.string ⟨#[]⟩,.string ⟨#[]⟩,.int .i64 0,.string ⟨#[]⟩,.string ⟨#[]⟩] 189)
  exact ⟨(bQ.out.trans H4.out).trans a,(fO.out.aH H4.out).aH a,by rw [YU];exact aU (c:=[.string ⟨#[]⟩,.string ⟨#[]⟩,.int .i64 0,.string ⟨#[]⟩,.string ⟨#[]⟩]) (ag.refl _)⟩)
 go_wp2_with fail;rw [← YU]
 go_loopw [39] (fun i wr=>∃ (k:Nat) (p:cF),k≤c.af.length∧i=.int .i64 k∧Vb w B3 [.int .i64 c.ax,.int .i64 c.version,.slice As c.ah.aa.length ay,.slice At c.ah.tables.length az,.slice An c.ai.names.length aC,.slice Am c.ai.members.length aJ,.slice Ag c.af.length aQ] p wr∧(0 < k→∀ (h:k - 1 < c.af.length),fg p=fg c.af[k - 1])∧∀ j,j < k→∀ (hj:j < c.af.length),fA c c.af[j]=true∧(0 < j→dR (c.af[j - 1]'(by omega)) c.af[j] < 0)) (fun i _=>c.af.length - (intOf i).toNat)
 case atStart=>exact ⟨0,_,Nat.zero_le _,rfl,S0.out,fun h=>absurd h (by omega),fun j hj=>absurd hj (Nat.not_lt_zero j)⟩
 case round =>
  clear x6 xz S0 YU;obtain ⟨k,p,hk,rfl,hs,hp,hall⟩:=hrel;have HP:=gH hp;have yF:=gH hall;have SR:=gH hs;by_cases hlt:k < c.af.length
  case neg =>
   clear hp hall hs
   have HF:=gH (show bv c=true by
    rw [HS.out,decide_eq_true m64,all_true _ _ fun j hj=>(yF.out j (by omega) hj).1,jM dR c.af fun j h1 hj=>(yF.out j (by omega) hj).2 (by omega)];rfl)
   go_wp2;go_ret;exact ⟨by rw [HF.out];rfl,SR.out.aH⟩
  obtain ⟨b,off,rfl,hb,t0,t1,t2,t3,t4,t5,sg⟩:=jc (dQ hs.aH HH.out.n7) hlt;obtain ⟨g,hg⟩:∃ g,c.af[k]=g:=⟨_,rfl⟩;rw [hg] at t0 t1 t2 t3 t4 t5 sg;have p0:=hs.box;obtain ⟨x0,x1,x2,x3,x4,x5,x6,xz⟩:=im p0;obtain ⟨G,hG⟩:∃ V,V=wr.alloc (.cells #[.string g.ac,.string g.table,.int .i64 g.right,.string g.aI,.string g.to,.bool g.opt] 177):=⟨_,rfl⟩
  have aG:ag wr G:=by rw [hG];exact (ag.refl wr).alloc _
  have SG:=gH (hs.to aG);have RG:=gH (show au G wr.heap.size [.string g.ac,.string g.table,.int .i64 g.right,.string g.aI,.string g.to,.bool g.opt] by rw [hG];exact aU (ag.refl _));have C:=gH (CT.out G (hs.aH.trans aG) g.ac g.table);have HG:=gH hg;have j8:=gH (show fA c c.af[k]=(decide (0≤bp c.ah.tables g.ac g.table)&&mM g.right&&!aS g.aI g.to&&cL c.ai.names g.aI&&cL c.ai.names g.to) by rw [hg];rfl);clear hp hall hs hg aG p0 sg;go_wp2_with fail;rw [← hG];clear hG;refine C.out.mono ?_;rintro e w5 ⟨A2,c2,A3,c3,rfl,a5⟩;generalize jI c.ah g.ac g.table=T;obtain ⟨tb,Lu⟩:∃ tb,decide (0≤bp c.ah.tables g.ac g.table)=tb:=⟨_,rfl⟩;obtain ⟨kb,hkb⟩:∃ kb,mM g.right=kb:=⟨_,rfl⟩;obtain ⟨eb,P7⟩:∃ eb,aS g.aI g.to=eb:=⟨_,rfl⟩;obtain ⟨i1,kj⟩:∃ i,cL c.ai.names g.aI=i:=⟨_,rfl⟩;obtain ⟨i2,kQ⟩:∃ i,cL c.ai.names g.to=i:=⟨_,rfl⟩;rw [Lu,hkb,P7,kj,kQ] at j8;rw [Lu];have K1:=gH (show ∀ w',Calls Tryz.prog 153 #[.int .i64 g.right] w' fun e w''=>e=.returned (.bool kb)∧w'=w'' from fun w'=>hkb▸U6 g.right w');obtain ⟨X,hX⟩:∃ V,V=w5.alloc (.cells #[.string T.ac,.string T.name,.string T.owner,.slice A2 T.av.length c2,.slice A3 T.rules.length c3] 80):=⟨_,rfl⟩
  have aX:ag w5 X:=by rw [hX];exact (ag.refl w5).alloc _
  have SW:=gH (SG.out.to (a5.trans aX));have N1:=gH (show Calls Tryz.prog 69 #[.slice An c.ai.names.length aC,.string g.aI] X fun e w''=>e=.returned (.bool i1)∧X=w'' from kj▸CN.out X SW.out.aH g.aI);have N2:=gH (show Calls Tryz.prog 69 #[.slice An c.ai.names.length aC,.string g.to] X fun e w''=>e=.returned (.bool i2)∧X=w'' from kQ▸CN.out X SW.out.aH g.to);have RX:=RG.out.aH (a5.trans aX);clear t0 t1 t2 t3 t4 t5 x0 x1 x2 x3 x4 x5 x6 xz hb;obtain ⟨e0,e1,e2,e3,e4,e5,ez⟩:=mN RX;have p0:=SW.out.box;have x4:=p0.cell (j:=4) rfl;have x6:=p0.cell (j:=6) rfl;have xz:=p0.1;have y0:=(RG.out.aH a5).cell (j:=0) rfl;have y2:=(RG.out.aH a5).cell (j:=2) rfl;have y3:=(RG.out.aH a5).cell (j:=3) rfl;have y4:=(RG.out.aH a5).cell (j:=4) rfl;have yz:=(RG.out.aH a5).1;have q0:=(SG.out.to a5).box;have v4:=q0.cell (j:=4) rfl;have vz:=q0.1;clear aX RX p0 q0 Lu hkb kj kQ a5;have YV:(g.aI.toList==g.to.toList)=eb:=P7;clear P7
  cases tb
  case false =>
   have HF:=gH (cQ c k hlt (by rw [j8.out];rfl));go_wp2;go_ret;exact ⟨by rw [HF.out];rfl,by rw [← hX];exact SW.out.aH⟩
  cases kb
  case false =>
   have HF:=gH (cQ c k hlt (by rw [j8.out];rfl));go_wp2_with fail;refine (K1.out _).mono ?_;rintro e w6 ⟨rfl,rfl⟩;go_wp2;go_ret;exact ⟨by rw [HF.out];rfl,by rw [← hX];exact SW.out.aH⟩
  cases eb
  case true =>
   have HF:=gH (cQ c k hlt (by rw [j8.out];rfl));go_wp2_with fail;refine (K1.out _).mono ?_;rintro e w6 ⟨rfl,rfl⟩;go_wp2;go_ret;exact ⟨by rw [HF.out];rfl,by rw [← hX];exact SW.out.aH⟩
  go_wp2_with fail;refine (K1.out _).mono ?_;rintro e w6 ⟨rfl,rfl⟩;clear y0 y2 y3 y4 yz v4 vz;rw [← hX];clear hX;go_wp2_with fail;refine N1.out.mono ?_;rintro e w6 ⟨rfl,rfl⟩
  cases i1
  case false =>
   have HF:=gH (cQ c k hlt (by rw [j8.out];rfl));go_wp2;go_ret;exact ⟨by rw [HF.out];rfl,SW.out.aH⟩
  go_wp2_with fail;refine N2.out.mono ?_;rintro e w6 ⟨rfl,rfl⟩
  cases i2
  case false =>
   have HF:=gH (cQ c k hlt (by rw [j8.out];rfl));go_wp2;go_ret;exact ⟨by rw [HF.out];rfl,SW.out.aH⟩
  have gl:=gH (show fA c c.af[k]=true by rw [j8.out];rfl);go_wp2_with fail;by_cases h0:0 < k
  case neg =>
   have w5:decide ((0:Int) < (k:Int))=false:=decide_eq_false (by omega)
   have w6:¬ (0:Int) < (k:Int):=by omega
   have CO:=gH True.intro;have CR:=gH True.intro;refine aj (by kernel_rfl) (by kernel_rfl) ?_
   repeat (go_big_quiet_step ((first | (go_at_call 133;exact Calls.aL (CO.out _)) | (go_at_call 137;exact Calls.aL (CR.out _)))))
   refine wpQuiet_nil ?_;intro _ hw';obtain ⟨x,hw''⟩:=hw';subst hw'';go_wp2_with fail;refine (Tm g _).mono ?_;rintro e w7 ⟨rfl,a7⟩;have S7:=gH (SW.out.to (((ag.refl _).bt x).trans a7));have r7:=S7.out.last;obtain ⟨d0,d1,d2,d3,d4⟩:=rI r7;obtain ⟨f0,f1,f2,f3,f4⟩:=Bj r7;have z7:=r7.1;clear a7 r7;go_wp2
   go_roundw
   case rel =>
    refine ⟨k+1,g,by omega,by go_num,⟨(iM _ _ _ _ _ _ _).aN S7.out.aH (fun _ _ e=>by omega),(iM _ _ _ _ _ _ _).row S7.out.box (by omega),jJ S7.out.last rfl _ _ _ _ _⟩,fun _ h=>by rw [← HG.out];rfl,bC (p:=fun j=>∀ (hj:j < c.af.length),fA c c.af[j]=true∧(0 < j→dR (c.af[j - 1]'(by omega)) c.af[j] < 0)) yF.out (fun _=>⟨gl.out,fun h=>absurd h h0⟩)⟩
   case measure=>simp [intOf];omega
  have w5:decide ((0:Int) < (k:Int))=true:=decide_eq_true (by omega)
  have w6:(0:Int) < (k:Int):=by omega
  have jd:k - 1 < c.af.length:=by omega
  obtain ⟨b',off',hA',hb',s0,s1,s2,s3,s4,s5,_⟩:=jc (dQ SW.out.aH HH.out.n7) jd;simp only [Option.some.injEq,Addr.mk.injEq,and_true] at hA';obtain ⟨rfl,rfl⟩:=hA';obtain ⟨p',js⟩:∃ p',(c.af[k - 1]'(by omega))=p':=⟨_,rfl⟩;rw [js] at s0 s1 s2 s3 s4 s5;have sM:=gH js;have HPE:=gH (show fg p=fg p' by rw [← js];exact HP.out h0 jd);have v1:IntKind.i64.wrap ((k:Int) - 1)=(k:Int) - 1:=IntWalk.i64_in _ (by omega)
  have v2:(0:Int)≤(k:Int) - 1:=by omega
  have v3:((k:Int) - 1).toNat=k - 1:=by omega
  have v4:(k:Int) - 1 < (c.af.length:Int):=by omega
  have r7:=SW.out.last;obtain ⟨d0,d1,d2,d3,d4⟩:=rI r7;have z7:=r7.1;have CO:=gH (show ∀ x:gX X,Calls Tryz.prog 133 #[.agg #[.string g.ac,.string g.table,.int .i64 g.right,.string g.aI,.string g.to,.bool g.opt]] (bt X x) fun e w''=>e=.returned (.agg #[.string g.ac,.string g.table,.int .i64 g.right,.string g.aI,.string g.to])∧ag (bt X x) w'' from fun x=>Tm g _);obtain ⟨z,hz⟩:∃ z,dR p' g=z:=⟨_,rfl⟩;have CR:=gH (show ∀ x:gX X,Calls Tryz.prog 137 #[.agg #[.string p'.ac,.string p'.table,.int .i64 p'.right,.string p'.aI,.string p'.to,.bool p'.opt],.agg #[.string g.ac,.string g.table,.int .i64 g.right,.string g.aI,.string g.to,.bool g.opt]] (bt X x) fun e w''=>e=.returned (.int .i64 z)∧ag (bt X x) w'' from fun x=>hz▸P0 p' g _);obtain ⟨fb,hfb⟩:∃ fb,od g.ac g.table g.right g.aI g.to p.ac p.table p.right p.aI p.to=fb:=⟨_,rfl⟩
  have HFB:=gH (show (dR p' g=0)↔fb=true from by
   rw [← hfb,Iz,ia,HPE.out,← ia,FB])
  have HZ:=gH hz;clear r7 js hz
  cases fb
  case true =>
   have HF:=gH (mP c k hlt h0 (by rw [sM.out,HG.out,HFB.out.2 rfl];exact Int.le_refl _));refine aj (by kernel_rfl) (by kernel_rfl) ?_
   repeat (go_big_quiet_step (first | (go_at_call 133;exact Calls.aL (CO.out _)) | (go_at_call 137;exact Calls.aL (CR.out _))))
   refine wpQuiet_nil ?_;intro _ hw';obtain ⟨x,hw''⟩:=hw';subst hw'';go_wp2;go_ret;exact ⟨by rw [HF.out];rfl,(SW.out.to ((ag.refl _).bt x)).aH⟩
  have hz0:z≠0:=fun e=>by have:=HFB.out.1 (HZ.out.trans e);cases this
  by_cases hzp:(0:Int) < z
  ·have HF:=gH (mP c k hlt h0 (by rw [sM.out,HG.out,HZ.out];omega))
   clear hz0;refine aj (by kernel_rfl) (by kernel_rfl) ?_
   repeat (go_big_quiet_step (first | (go_at_call 133;exact Calls.aL (CO.out _)) | (go_at_call 137;exact Calls.aL (CR.out _))))
   refine wpQuiet_nil ?_;intro _ hw';obtain ⟨x,hw''⟩:=hw';subst hw'';go_wp2;go_ret;exact ⟨by rw [HF.out];rfl,(SW.out.to ((ag.refl _).bt x)).aH⟩
  ·have Ha:=gH (show dR (c.af[k - 1]'(by omega)) c.af[k] < 0 by rw [sM.out,HG.out,HZ.out];omega)
   clear hz0;refine aj (by kernel_rfl) (by kernel_rfl) ?_
   repeat (go_big_quiet_step (first | (go_at_call 133;exact Calls.aL (CO.out _)) | (go_at_call 137;exact Calls.aL (CR.out _))))
   refine wpQuiet_nil ?_;intro _ hw';obtain ⟨x,hw''⟩:=hw';subst hw'';go_wp2_with fail;refine (Tm g _).mono ?_;rintro e w7 ⟨rfl,a7⟩;have S7:=gH (SW.out.to (((ag.refl _).bt x).trans a7));have r7:=S7.out.last;obtain ⟨d0,d1,d2,d3,d4⟩:=rI r7;obtain ⟨f0,f1,f2,f3,f4⟩:=Bj r7;have z7:=r7.1;clear a7 r7;go_wp2
   go_roundw
   case rel =>
    refine ⟨k+1,g,by omega,by go_num,⟨(iM _ _ _ _ _ _ _).aN S7.out.aH (fun _ _ e=>by omega),(iM _ _ _ _ _ _ _).row S7.out.box (by omega),jJ S7.out.last rfl _ _ _ _ _⟩,fun _ h=>by rw [← HG.out];rfl,bC (p:=fun j=>∀ (hj:j < c.af.length),fA c c.af[j]=true∧(0 < j→dR (c.af[j - 1]'(by omega)) c.af[j] < 0)) yF.out (fun _=>⟨gl.out,fun _=>Ha.out⟩)⟩
   case measure=>simp [intOf];omega
def sN:bX:=⟨0,0,⟨[],[]⟩,⟨[],[]⟩,[]⟩
def laid (l:List cF) (g:cF):List cF:=if je l g then l.map (fun y=>if g9 y g then { y with opt:=y.opt || g.opt } else y) else dv l (em dR l g) g
noncomputable def oh (c:bX) (g:cF):bX × Int :=
 if !dO c || !mM g.right || aS g.aI g.to then (sN,1)
 else if bp c.ah.tables g.ac g.table < 0 then (sN,61)
 else if !cL c.ai.names g.aI || !cL c.ai.names g.to then (sN,71)
 else if !eF c c.af g then (sN,91)
 else if decide (64≤c.af.length)&&!je c.af g then (sN,2)
 else ({ c with af:=laid c.af g },0)
noncomputable def ol (c:bX) (role s n:ByteArray):Bool:=dO c&&(decide (0≤bp c.ah.tables s n)&&cL c.ai.names role)&&jL c.ah (eG c.ai role) (jI c.ah s n)
theorem ib {l:List cF}:aM dR l=true↔l.Pairwise fun a b=>dR a b < 0:=by
 constructor
 ·exact fun h=>List.pairwise_iff_getElem.2 fun i j hi hj pg=>dZ pC.lt h i j hi hj pg
 ·exact fun h=>(cR _ _).2 fun k hk=>List.pairwise_iff_getElem.1 h k (k+1) (by omega) hk (by omega)
theorem bL {c:bX}:bv c=true↔c.af.length≤64∧(bw c.ah=true∧bG c.ai=true∧cL c.ai.names cE=true∧eJ c=true)∧(∀ g∈c.af,fA c g=true)∧aM dR c.af=true:=by
 unfold bv;simp only [Bool.and_eq_true,decide_eq_true_eq,List.all_eq_true];exact ⟨fun h=>⟨h.1.1.1.1.1,⟨h.1.1.1.1.2,h.1.1.1.2,h.1.1.2,h.1.2⟩,h.2⟩,fun h=>⟨⟨⟨⟨⟨h.1,h.2.1.1⟩,h.2.1.2.1⟩,h.2.1.2.2.1⟩,h.2.1.2.2.2⟩,h.2.2⟩⟩
theorem eP {c:bX}:dO c=true↔bv c=true∧∀ g∈c.af,Held c g:=by
 unfold dO;rw [Bool.and_eq_true,beq_iff_eq]
 constructor
 ·rintro ⟨h1,h2⟩
  refine ⟨h1,fun g hg=>?_⟩;unfold cH at h2;rw [if_pos h1,List.length_filter_eq_length_iff] at h2;exact iG.1 (h2 g hg)
 ·rintro ⟨h1,h2⟩
  refine ⟨h1,?_⟩;unfold cH;rw [if_pos h1,List.length_filter_eq_length_iff]
  exact fun g hg=>iG.2 (h2 g hg)
theorem sO {c:bX} (h:bv c=true) {l:List cF} (hl:l.Sublist c.af):bv { c with af:=l }=true:=by
 obtain ⟨h1,h2,h3,h4⟩:=bL.1 h;exact bL.2 ⟨Nat.le_trans hl.length_le h1,h2,fun g hg=>h3 g (hl.subset hg),ib.2 ((ib.1 h4).sublist hl)⟩
theorem yG {c c':bX} (ho:c'.ah=c.ah) (hr:c'.ai=c.ai) (f:cF→cF) (hf:∀ x∈c.af,f x∈c'.af∧fg (f x)=fg x∧(x.opt=true→(f x).opt=true)):∀ g,Held c g→Held c' (f g):=by
 intro g hg
 induction hg with
 | mk g l hg hl hj ih =>
  obtain ⟨h1,h2,h3⟩:=hf g hg;refine .mk (f g) (l.map f) h1 (fun x hx=>?_) ?_
  ·obtain ⟨y,hy,rfl⟩:=List.mem_map.1 hx
   exact ih y hy
  ·unfold fg at h2
   simp only [Prod.mk.injEq] at h2;obtain ⟨e1,e2,e3,e4,e5⟩:=h2;unfold eF at hj ⊢;rw [ho,hr,e4,e1,e2,e3];rw [Bool.or_eq_true] at hj ⊢
   refine hj.imp id fun hj=>?_
   unfold gU at hj ⊢;rw [List.any_eq_true] at hj ⊢;obtain ⟨x,hx,hx2⟩:=hj;obtain ⟨k1,k2,k3⟩:=hf x (hl x hx).mem;unfold fg at k2;simp only [Prod.mk.injEq] at k2;obtain ⟨d1,d2,d3,d4,d5⟩:=k2;refine ⟨f x,List.mem_map.2 ⟨x,hx,rfl⟩,?_⟩;rw [d1,d2,d3,d5];simp only [Bool.and_eq_true,Bool.not_true,Bool.or_false] at hx2 ⊢;exact ⟨⟨hx2.1.1,k3 hx2.1.2⟩,hx2.2⟩
theorem BA {c:bX} (h:bv c=true):dO { c with af:=cH c }=true:=by
 have hs:cH c=c.af.filter (mQ c):=by unfold cH;rw [if_pos h]
 refine eP.2 ⟨sO h (by rw [hs];exact List.filter_sublist),fun g hg9=>?_⟩
 have hg8:g∈c.af.filter (mQ c):=by rw [← hs];exact hg9
 have hh:=iG.1 (List.mem_filter.1 hg8).2;clear hg8 hg9
 induction hh with
 | mk g l hg hl hj ih =>
  refine .mk g l ?_ ih hj
  show g∈cH c
  rw [hs];exact List.mem_filter.2 ⟨hg,iG.2 (.mk g l hg hl hj)⟩
theorem FC {a b x y:cF} (h1:fg a=fg x) (h2:fg b=fg y):dR a b=dR x y:=by
 unfold fg at h1 h2;simp only [Prod.mk.injEq] at h1 h2;obtain ⟨a1,a2,a3,a4,a5⟩:=h1;obtain ⟨b1,b2,b3,b4,b5⟩:=h2;unfold dR;rw [a1,a2,a3,a4,a5,b1,b2,b3,b4,b5]
theorem qm {c c':bX} (ho:c'.ah=c.ah) (hr:c'.ai=c.ai) {a b:cF} (h:fg a=fg b):fA c' a=fA c b:=by
 unfold fg at h;simp only [Prod.mk.injEq] at h;obtain ⟨a1,a2,a3,a4,a5⟩:=h;unfold fA;rw [ho,hr,a1,a2,a3,a4,a5]
def oF (g y:cF):cF:=if g9 y g then { y with opt:=y.opt || g.opt } else y
theorem mR (g y:cF):fg (oF g y)=fg y:=by unfold oF;split<;>rfl
theorem yH (g y:cF) (h:y.opt=true):(oF g y).opt=true:=by unfold oF;split<;>simp [h]
theorem qo {l:List cF} {g:cF} (h:je l g=false):∀ y∈l,g9 y g=false:=by
 unfold je at h;rw [List.any_eq_false] at h
 exact fun y hy=>by simpa using h y hy
theorem lg {l:List cF} {g:cF} (h:je l g=false):laid l g=dv l (em dR l g) g:=by unfold laid;rw [h];rfl
theorem lh {l:List cF} {g:cF} (h:je l g=true):laid l g=l.map (oF g):=by unfold laid;rw [h];rfl
theorem IA (l:List cF) (g x:cF) (hx:x∈l):oF g x∈laid l g:=by
 cases h:je l g
 ·rw [lg h]
  have:oF g x=x:=by unfold oF;rw [qo h x hx];rfl
  rw [this];exact bU.2 (.inr hx)
 ·rw [lh h];exact List.mem_map.2 ⟨x,hx,rfl⟩
theorem yI {l:List cF} {g x:cF} (h:x∈laid l g):fg x=fg g∨∃ y∈l,x=oF g y:=by
 cases hi:je l g
 ·rw [lg hi] at h
  rcases bU.1 h with e | e
  ·exact .inl (by rw [e])
  ·exact .inr ⟨x,e,by unfold oF;rw [qo hi x e];rfl⟩
 ·rw [lh hi] at h
  obtain ⟨y,hy,e⟩:=List.mem_map.1 h;exact .inr ⟨y,hy,e.symm⟩
theorem BC {l:List cF} {g:cF} (hr:aM dR l=true):aM dR (laid l g)=true:=by
 cases hi:je l g
 ·rw [lg hi]
  refine iH pC.lt pC.dY hr fun y hy e=>?_
  have:=qo hi y hy;rw [(lf _ _).1 e] at this;cases this
 ·rw [lh hi]
  refine ib.2 (List.pairwise_map.2 ((ib.1 hr).imp fun {a b} h=>?_));rw [FC (mR g a) (mR g b)];exact h
theorem IB {l:List cF} {g:cF} (h:l.length≤64) (hn:¬ (64≤l.length∧je l g=false)):(laid l g).length≤64:=by
 cases hi:je l g
 ·rw [lg hi,fk _ _ _ (gM _ _ _)]
  have:¬ 64≤l.length:=fun h=>hn ⟨h,hi⟩
  omega
 ·rw [lh hi];simpa using h
structure P8 (c:bX) (g:cF) (x:bX):Prop where
 whole:dO c=true
 ok:fA c g=true
 just:eF c c.af g=true
 room:¬ (64≤c.af.length∧je c.af g=false)
 is:x={ c with af:=laid c.af g }
theorem wU {c:bX} {g:cF} (h:(oh c g).2=0):P8 c g (oh c g).1:=by
 unfold oh at h ⊢;by_cases h1:(!dO c || !mM g.right || aS g.aI g.to)=true
 ·rw [if_pos h1] at h;exact absurd h (by decide)
 rw [if_neg h1] at h ⊢;by_cases h2:bp c.ah.tables g.ac g.table < 0
 ·rw [if_pos h2] at h;exact absurd h (by decide)
 rw [if_neg h2] at h ⊢;by_cases h3:(!cL c.ai.names g.aI || !cL c.ai.names g.to)=true
 ·rw [if_pos h3] at h;exact absurd h (by decide)
 rw [if_neg h3] at h ⊢;by_cases h4:(!eF c c.af g)=true
 ·rw [if_pos h4] at h;exact absurd h (by decide)
 rw [if_neg h4] at h ⊢;by_cases h5:(decide (64≤c.af.length)&&!je c.af g)=true
 ·rw [if_pos h5] at h;exact absurd h (by decide)
 rw [if_neg h5];simp only [Bool.or_eq_true,not_or,Bool.not_eq_true,Bool.not_eq_false',Bool.and_eq_true,not_and,decide_eq_true_eq,Bool.not_eq_true',Bool.not_eq_false] at h1 h3 h4 h5;refine ⟨h1.1.1,?_,h4,fun ⟨a,b⟩=>(by have:=h5 a;rw [b] at this;cases this),rfl⟩;unfold fA;rw [h1.1.2,h1.2,h3.1,h3.2,decide_eq_true (show 0≤bp c.ah.tables g.ac g.table by omega)];rfl
theorem P8.P9 {c:bX} {g:cF} {x:bX} (h:P8 c g x):dO x=true:=by
 obtain ⟨h1,h2⟩:=eP.1 h.whole;obtain ⟨k1,k2,k3,k4⟩:=bL.1 h1;have hx:=h.is
 have ho:x.ah=c.ah:=by rw [hx]
 have hr:x.ai=c.ai:=by rw [hx]
 have hg:x.af=laid c.af g:=by rw [hx]
 have hm:∀ y∈c.af,Held x (oF g y):=fun y hy=>yG ho hr (oF g) (fun z hz=>⟨by rw [hg];exact IA _ _ _ hz,mR _ _,yH _ _⟩) y (h2 y hy)
 refine eP.2 ⟨bL.2 ⟨by rw [hg];exact IB k1 h.room,by rw [hx];exact k2,fun y hy=>?_,by rw [hg];exact BC k4⟩,fun y hy=>?_⟩
 ·rw [hg] at hy
  rcases yI hy with e | ⟨z,hz,e⟩
  ·rw [qm ho hr e];exact h.ok
  ·rw [qm ho hr (show fg y=fg z by rw [e];exact mR _ _)];exact k3 z hz
 ·rw [hg] at hy
  rcases yI hy with e | ⟨z,hz,e⟩
  ·refine .mk y (c.af.map (oF g)) (by rw [hg];exact hy) (fun v hv=>?_) ?_
   ·obtain ⟨u,hu,rfl⟩:=List.mem_map.1 hv
    exact hm u hu
   ·have hj:=h.just
    unfold fg at e;simp only [Prod.mk.injEq] at e;obtain ⟨e1,e2,e3,e4,e5⟩:=e;unfold eF at hj ⊢;rw [ho,hr,e4,e1,e2,e3];rw [Bool.or_eq_true] at hj ⊢
    refine hj.imp id fun hj=>?_
    unfold gU at hj ⊢;rw [List.any_eq_true] at hj ⊢;obtain ⟨u,hu,O4⟩:=hj;refine ⟨oF g u,List.mem_map.2 ⟨u,hu,rfl⟩,?_⟩;have k:=mR g u;unfold fg at k;simp only [Prod.mk.injEq] at k;obtain ⟨d1,d2,d3,d4,d5⟩:=k;rw [d1,d2,d3,d5];simp only [Bool.and_eq_true,Bool.not_true,Bool.or_false] at O4 ⊢;exact ⟨⟨O4.1.1,yH g u O4.1.2⟩,O4.2⟩
  ·rw [e];exact hm z hz
theorem li {c:bX} {g:cF} (h:fA c g=true):0≤bp c.ah.tables g.ac g.table∧mM g.right=true∧aS g.aI g.to=false∧cL c.ai.names g.aI=true∧cL c.ai.names g.to=true:=by
 unfold fA at h;simp only [Bool.and_eq_true,decide_eq_true_eq,Bool.not_eq_true'] at h;exact ⟨h.1.1.1.1,h.1.1.1.2,h.1.1.2,h.1.2,h.2⟩
section
variable {P : Program} {k : TypeId} {w w' : World} {b n : Nat} {z : Value} {f : List UInt8 → Value}
theorem eH.Ep {t e:TypeId} (h:eH P k w b n z f) (K:Maps.Keyed P k) (ht:P.underlying t=some (.map k e)) (hz:(zeroValue e).run P w=.ok z w) (key:Value) (s:List UInt8) (hs:keyOf P k key=some (.string s)) :
  (Instr.lookup t (.map (some b)) key false).run P w=.ok (f s) w:=by
 obtain ⟨D,hD,ho,hf⟩:=h;obtain ⟨v,ps,hrun,hv⟩:=ho.lookup K ht hz (zd:=.held z) (zp:=[]) rfl hs;rw [hf] at hv;unfold yJ at hv;simp only [Option.some.injEq,Prod.mk.injEq,DataW.held.injEq] at hv;rw [hrun,hv.1]
theorem eH.YW {t e:TypeId} (h:eH P k w b n z f) (K:Maps.Keyed P k) (ht:P.underlying t=some (.map k e)) (hn:n < maxLen) (key:Value) (s:List UInt8) (hs:keyOf P k key=some (.string s)) (v:Value) :
  ∃ w',(Instr.mapUpdate t (.map (some b)) key v).run P w=.ok () w'∧eH P k w' b (n+1) z (fun x=>if x=s then v else f x)∧w.grownBy w' (some b):=by
 obtain ⟨D,hD,ho,hf⟩:=h;obtain ⟨w',hrun,h1,h2⟩:=ho.update K ht hn hs (val:=v) (d:=.held v) (ps:=[]) rfl;refine ⟨w',hrun,⟨D.put (.string s) (.held v),hD.put _ _,h1,fun x=>?_⟩,h2⟩
 show _=DataW.held (if x=s then v else f x)
 by_cases e:x=s
 ·subst e
  rw [if_pos rfl];exact Maps.atKey_put_same hD (by trivial) _ _
 ·rw [if_neg e,Maps.atKey_put_other (by intro e2;exact e (Lit.string.inj e2))]
  exact hf x
end
def lj (g:cF):Value:=.agg #[.string g.ac,.string g.table,.int .i64 g.right,.string g.aI,.string g.to]
def oo (g:cF):List Lit:=[.string g.ac.data.toList,.string g.table.data.toList,.int .i64 g.right,.string g.aI.data.toList,.string g.to.data.toList]
def ji (g:cF):List UInt8:=keyBytes (oo g)
theorem oG:Maps.Keyed Tryz.prog 189:=Maps.Keyed.of_law (deep_law (m:=3) (by decide) (by kernel_rfl) (by kernel_rfl) (by kernel_rfl))
theorem IC {P:Program} {t:TypeId} (h:P.underlying t=some .string) (d:Nat) (s:ByteArray) (hs:s.size≤maxLen):P.keyLits (d+1) t [.string s]=some [.string s.data.toList]:=by simp [Program.keyLits,h,hs]
theorem ID {P:Program} {t:TypeId} {q:IntKind} (h:P.underlying t=some (.int q)) (d:Nat) (n:Int) (hn:(Lit.int q n).wf=true):P.keyLits (d+1) t [.int q n]=some [.int q n]:=by simp [Program.keyLits,h,hn]
theorem FD (g:cF) (h:uw g) (d:Nat):Tryz.prog.keyLits (d+2) 189 [.string g.ac,.string g.table,.int .i64 g.right,.string g.aI,.string g.to]=some (oo g):=by
 have e1:=fun s hs=>IC Tryz.underlying9 d s hs
 have e2:=ID Tryz.underlying43 d g.right h.2.2.2.2
 have k1:Tryz.prog.cellsOf 189=5:=by kernel_rfl
 have k2:Tryz.prog.cellsOf 9=1:=by kernel_rfl
 have k3:Tryz.prog.cellsOf 43=1:=by kernel_rfl
 unfold Program.keyLits;simp only [Tryz.underlying189];simp [k1,k2,k3,e1 _ h.1.max,e1 _ h.2.1.max,e1 _ h.2.2.1.max,e1 _ h.2.2.2.1.max,e2,oo]
theorem mS (g:cF) (h:uw g):keyOf Tryz.prog 189 (lj g)=some (.string (ji g)):=by
 obtain ⟨d,hd⟩:∃ d,Tryz.prog.types.size+1=d+2:=⟨Tryz.prog.types.size - 1,by kernel_rfl⟩
 have k:(Tryz.prog.keyType 189&&(lj g).formed Tryz.prog 189)=true:=by
  rw [Bool.and_eq_true];exact ⟨by kernel_rfl,by unfold lj;kernel_rfl⟩
 have e:=FD g h d;unfold keyOf;rw [Tryz.underlying189,hd];simp only [k,if_true];unfold lj;simp only [Value.cells];rw [e];rfl
theorem vg (g h:cF) (hg:uw g) (hh:uw h):ji g=ji h↔fg g=fg h:=by
 constructor
 ·intro e
  have:=keyBytes_inj (l:=oo g) (l':=oo h) (by simp [oo,Alike,Lit.sameKind]) (fun a ha=>?_) (fun a ha=>?_) e
  ·unfold oo at this
   simp only [List.cons.injEq,Lit.string.injEq,Lit.int.injEq,and_true,true_and] at this;obtain ⟨e1,e2,e3,e4,e5⟩:=this;unfold fg;rw [nG e1,nG e2,e3,nG e4,nG e5]
  ·simp only [oo,List.mem_cons,List.not_mem_nil,or_false] at ha
   rcases ha with rfl | rfl | rfl | rfl | rfl
   ·simpa [Lit.keyWf] using hg.1.max
   ·simpa [Lit.keyWf] using hg.2.1.max
   ·exact hg.2.2.2.2
   ·simpa [Lit.keyWf] using hg.2.2.1.max
   ·simpa [Lit.keyWf] using hg.2.2.2.1.max
  ·simp only [oo,List.mem_cons,List.not_mem_nil,or_false] at ha
   rcases ha with rfl | rfl | rfl | rfl | rfl
   ·simpa [Lit.keyWf] using hh.1.max
   ·simpa [Lit.keyWf] using hh.2.1.max
   ·exact hh.2.2.2.2
   ·simpa [Lit.keyWf] using hh.2.2.1.max
   ·simpa [Lit.keyWf] using hh.2.2.2.1.max
 ·intro e
  unfold fg at e;simp only [Prod.mk.injEq] at e;obtain ⟨e1,e2,e3,e4,e5⟩:=e;unfold ji oo;rw [e1,e2,e3,e4,e5]
end Go.Proofs.YtakddkhipelmjaaGreat
namespace Go.Proofs.YtakddkhipelmjaaGreat
open Go.RowKit Go.Deep Go.WideElems Go.ChangeMaps
section
variable {P : Program} {k : TypeId} {w w' : World} {b n : Nat} {z : Value} {f : List UInt8 → Value}
theorem IE {b:Nat} {o:Obj} (hb:w.heap[b]? = some o):setBlock w b o=w:=by
 obtain ⟨h1,h2⟩:=Array.getElem?_eq_some_iff.1 hb;unfold setBlock
 have:w.heap.setIfInBounds b o=w.heap:=by
  apply Array.ext
  ·simp
  ·intro i kj kQ
   rw [Array.getElem_setIfInBounds kQ]
   split
   ·rename_i e;subst e;exact h2.symm
   ·rfl
 rw [this]
theorem BD {t e:TypeId} (K:WideMaps.KeyLaw P k) (ht:P.underlying t=some (.map k e)) (hz:∀ u:World,(zeroValue e).run P u=.ok z u) {es:Array MapEntry} {clock:Nat} (hb:w.heap[b]? = some (.map es clock)) (F:Fit P k yJ es clock) {key:Value} {kl:Lit} (hkey:keyOf P k key=some kl) {v:Value} {w1:World}
  (hE:(Instr.mapEntry t (.map (some b)) key).run P w=.ok v w1):∃ v0,(Instr.lookup t (.map (some b)) key false).run P w=.ok v0 w∧(Instr.lookup t (.map (some b)) key false).run P w1=.ok v0 w1:=by
 have look:∀ (u:World) (l:Array MapEntry) (c:Nat),u.heap[b]? = some (.map l c)→∀ a,(Instr.findKey k key l.toList).run P u=.ok a u→(Instr.lookup t (.map (some b)) key false).run P u=.ok (match a with | some (_,y)=>y | none=>z) u:=fun u l c hu a ha=>by
  cases a with
  | none=>simp [Instr.lookup,run_underlying ht,MapKept.run_getObj_map hu,K.check u _ hkey,ha,hz,Result.andThen]
  | some q=>obtain ⟨j,y⟩:=q;simp [Instr.lookup,run_underlying ht,MapKept.run_getObj_map hu,K.check u _ hkey,ha,Result.andThen]
 rcases K.find w hkey es.toList F.keys with ⟨h1,h2⟩ | ⟨j,e0,h1,h2,h3⟩
 ·have e1:w1=setBlock w b (.map (es.push ⟨key,z,clock⟩) (clock+1)):=by
   simp [Instr.mapEntry,run_underlying ht,MapKept.run_getObj_map hb,K.check w false hkey,h1,hz,MapKept.run_setObj_map _ hb,Result.andThen] at hE;rw [← hE.2];rfl
  have hb1:w1.heap[b]? = some (.map (es.push ⟨key,z,clock⟩) (clock+1)):=by rw [e1];exact heap_setBlock_same hb _
  refine ⟨z,look w es clock hb none h1,?_⟩
  have jd:∀ x∈(es.push ⟨key,z,clock⟩).toList,∃ l,keyOf P k x.key=some l:=fun x hx=>by
   rw [Array.toList_push,List.mem_append,List.mem_singleton] at hx
   rcases hx with hx | rfl
   ·exact F.keys x hx
   ·exact ⟨_,hkey⟩
  rcases K.find w1 hkey _ jd with ⟨g1,g2⟩ | ⟨j',e',g1,g2,g3⟩
  ·exact absurd rfl (g2 ⟨key,z,clock⟩ (by simp))
  ·have hm:e'∈(es.push ⟨key,z,clock⟩).toList:=List.mem_of_getElem? g2
   rw [Array.toList_push,List.mem_append,List.mem_singleton] at hm
   rcases hm with hm | hm
   ·exact absurd g3 (h2 e' hm)
   ·have:=look w1 _ _ hb1 _ g1
    rw [hm] at this;exact this
 ·have hj:es[j]? = some e0:=by simpa using h2
  have Vc:es.modify j (fun e=>{ e with key:=key })=es:=by
   apply Array.ext';rw [Array.toList_modify,modify_eq_set _ _ _ _ h2]
   have:({ e0 with key:=key }:MapEntry)=e0:=by rw [← h3]
   rw [this];exact set_self _ _ _ h2
  have e1:w1=w:=by
   simp [Instr.mapEntry,run_underlying ht,MapKept.run_getObj_map hb,K.check w false hkey,h1,hj,h3,K.stays w hkey,Vc,MapKept.run_setObj_map _ hb,Result.andThen] at hE;rw [← hE.2];exact IE hb
  subst e1;exact ⟨_,look _ es clock hb _ h1,look _ es clock hb _ h1⟩
theorem eH.entry {t e:TypeId} (h:eH P k w b n z f) (K:WideMaps.KeyLaw P k) (ht:P.underlying t=some (.map k e)) (hz:∀ u:World,(zeroValue e).run P u=.ok z u) (hn:n < maxLen) (key:Value) (s:List UInt8) (hs:keyOf P k key=some (.string s)) (v:Value) :
  ∃ v0 st w1 w2,(Instr.mapEntry t (.map (some b)) key).run P w=.ok (.tuple #[v0,goInt st]) w1∧w.grownBy w1 (some b)∧(Instr.lookup t (.map (some b)) key false).run P w1=.ok (f s) w1 ∧
   (Instr.entryStore t (.map (some b)) (goInt st) v).run P w1=.ok () w2∧eH P k w2 b (n+1) z (fun x=>if x=s then v else f x)∧w.grownBy w2 (some b):=by
 have hl:=h.Ep (Maps.Keyed.of_law K) ht (hz w) key s hs;obtain ⟨w',hrun,hM,hg⟩:=h.YW (Maps.Keyed.of_law K) ht hn key s hs v;obtain ⟨D,hD,ho,hf⟩:=h;obtain ⟨es,clock,hb,F,hsz,he⟩:=ho;obtain ⟨v0,st,XR,wV,hE,_,hS⟩:=entry_then_store K ht hz hb F hs;have hb1:(setBlock w b (.map XR wV)).heap[b]? = some (.map XR wV):=heap_setBlock_same hb _;obtain ⟨es',clock',hSt,hUp⟩:=hS (setBlock w b (.map XR wV)) v hb1
 have e2:setBlock (setBlock w b (.map XR wV)) b (.map es' clock')=setBlock w b (.map es' clock'):=by
  unfold setBlock;simp
 have e3:w'=setBlock w b (.map es' clock'):=by
  rw [hrun] at hUp
  simpa using hUp
 obtain ⟨u0,k1,k2⟩:=BD K ht hz hb F hs hE
 have e4:u0=f s:=by rw [hl] at k1;simpa using k1.symm
 subst e4;refine ⟨v0,st,_,_,hE,?_,k2,hSt,?_,?_⟩
 ·exact ⟨rfl,rfl,rfl,by simp [setBlock],fun i _ hi=>heap_setBlock_other hb _ (fun e=>hi (by rw [e]))⟩
 ·rw [e2,← e3];exact hM
 ·rw [e2,← e3];exact hg
end
theorem yK:WideMaps.KeyLaw Tryz.prog 189:=deep_law (m:=3) (by decide) (by kernel_rfl) (by kernel_rfl) (by kernel_rfl)
end Go.Proofs.YtakddkhipelmjaaGreat
namespace Go.Proofs.YtakddkhipelmjaaGreat
open Go.Shelf Go.Proofs
def yL:Go.Shelf.Ren:=⟨fun | 6=>136 | 15=>219 | 14=>218 | 28=>311 | 29=>312 | 20=>303 | 21=>304 | 22=>305 | 23=>306 | 24=>307 | 25=>308 | 26=>309 | 27=>310 | 46=>355 | 47=>356 | 48=>357 | 49=>358 | 50=>359 | 57=>393 | n=>n,fun | 22=>30 | 24=>177 | 25=>194 | 3=>3 | 39=>195 | 0=>0 | 53=>351 | 55=>285 | 4=>4 | 46=>345 | 45=>344 | 50=>118 | 5=>5 | 9=>9 | 66=>378 | 70=>382 | 76=>402 | 77=>403 | n=>n,fun | n=>n⟩
theorem wW:Go.Proofs.SlLaysF0.n6 Tryz.prog yL:={
 mixed:=by kernel_rfl
 f6:=⟨Tryz.f136.name,by decide,Tryz.func136.trans (congrArg some (by kernel_rfl))⟩
 f14:=⟨Tryz.f218.name,by decide,Tryz.func218.trans (congrArg some (by kernel_rfl))⟩
 f15:=Tryz.func219.trans (congrArg some (by kernel_rfl))
 f20:=⟨Tryz.f303.name,by decide,Tryz.func303.trans (congrArg some (by kernel_rfl))⟩
 f21:=⟨Tryz.f304.name,by decide,Tryz.func304.trans (congrArg some (by kernel_rfl))⟩
 f22:=⟨Tryz.f305.name,by decide,Tryz.func305.trans (congrArg some (by kernel_rfl))⟩
 f23:=⟨Tryz.f306.name,by decide,Tryz.func306.trans (congrArg some (by kernel_rfl))⟩
 f24:=⟨Tryz.f307.name,by decide,Tryz.func307.trans (congrArg some (by kernel_rfl))⟩
 f25:=⟨Tryz.f308.name,by decide,Tryz.func308.trans (congrArg some (by kernel_rfl))⟩
 f26:=⟨Tryz.f309.name,by decide,Tryz.func309.trans (congrArg some (by kernel_rfl))⟩
 f27:=⟨Tryz.f310.name,by decide,Tryz.func310.trans (congrArg some (by kernel_rfl))⟩
 f28:=Tryz.func311.trans (congrArg some (by kernel_rfl))
 f29:=Tryz.func312.trans (congrArg some (by kernel_rfl))
 f46:=⟨Tryz.f355.name,by decide,Tryz.func355.trans (congrArg some (by kernel_rfl))⟩
 f47:=Tryz.func356.trans (congrArg some (by kernel_rfl))
 f48:=Tryz.func357.trans (congrArg some (by kernel_rfl))
 f49:=⟨Tryz.f358.name,by decide,Tryz.func358.trans (congrArg some (by kernel_rfl))⟩
 f50:=⟨Tryz.f359.name,by decide,Tryz.func359.trans (congrArg some (by kernel_rfl))⟩
 f57:=⟨Tryz.f393.name,by decide,Tryz.func393.trans (congrArg some (by kernel_rfl))⟩
 t0:=Tryz.underlying0
 a0:=Tryz.isAgg0
 z0:=Tryz.sizeOf0
 v0:=Tryz.zeroValue0
 t3:=Tryz.underlying3
 a3:=Tryz.isAgg3
 z3:=Tryz.sizeOf3
 v3:=Tryz.zeroValue3
 t4:=Tryz.underlying4
 a4:=Tryz.isAgg4
 z4:=Tryz.sizeOf4
 v4:=Tryz.zeroValue4
 t5:=Tryz.underlying5
 a5:=Tryz.isAgg5
 z5:=Tryz.sizeOf5
 v5:=Tryz.zeroValue5
 t9:=Tryz.underlying9
 a9:=Tryz.isAgg9
 z9:=Tryz.sizeOf9
 v9:=Tryz.zeroValue9
 t22:=Tryz.underlying30
 a22:=Tryz.isAgg30
 z22:=Tryz.sizeOf30
 v22:=Tryz.zeroValue30
 t25:=Tryz.underlying194
 a25:=Tryz.isAgg194
 z25:=Tryz.sizeOf194
 v25:=Tryz.zeroValue194
 t39:=Tryz.underlying195
 a39:=Tryz.isAgg195
 z39:=Tryz.sizeOf195
 v39:=Tryz.zeroValue195
 t45:=Tryz.underlying344
 a45:=Tryz.isAgg344
 z45:=Tryz.sizeOf344
 v45:=Tryz.zeroValue344
 t46:=Tryz.underlying345
 a46:=Tryz.isAgg345
 z46:=Tryz.sizeOf345
 v46:=Tryz.zeroValue345
 t50:=Tryz.underlying118
 a50:=Tryz.isAgg118
 z50:=Tryz.sizeOf118
 v50:=Tryz.zeroValue118
 t53:=Tryz.underlying351
 a53:=Tryz.isAgg351
 z53:=Tryz.sizeOf351
 v53:=Tryz.zeroValue351
 t55:=Tryz.underlying285
 a55:=Tryz.isAgg285
 z55:=Tryz.sizeOf285
 v55:=Tryz.zeroValue285
 t66:=Tryz.underlying378
 a66:=Tryz.isAgg378
 z66:=Tryz.sizeOf378
 v66:=Tryz.zeroValue378
 t70:=Tryz.underlying382
 a70:=Tryz.isAgg382
 z70:=Tryz.sizeOf382
 v70:=Tryz.zeroValue382
 t76:=Tryz.underlying402
 a76:=Tryz.isAgg402
 z76:=Tryz.sizeOf402
 v76:=Tryz.zeroValue402
 t77:=Tryz.underlying403
 a77:=Tryz.isAgg403
 z77:=Tryz.sizeOf403
 v77:=Tryz.zeroValue403 }
end Go.Proofs.YtakddkhipelmjaaGreat
namespace Go.Proofs.YtakddkhipelmjaaGreat
open Go.RowKit Go.Sort Go.Shelf Go.Deep
instance:Inhabited cF:=⟨⟨ByteArray.empty,ByteArray.empty,0,ByteArray.empty,ByteArray.empty,false⟩⟩
theorem IG (s:cF):∀ u∈eM s,u.oneCell'=true:=by intro u hu;simp only [eM,List.mem_cons,List.not_mem_nil,or_false] at hu;rcases hu with rfl | rfl | rfl | rfl | rfl | rfl<;>simp [Value.oneCell']
theorem YX:mo dR:=⟨pC.lt,pC.dY,fun a b d h=>by
 have:=(ia a b).1 ((lf a b).1 h);unfold fg at this;simp only [Prod.mk.injEq] at this;obtain ⟨h1,h2,h3,h4,h5⟩:=this;unfold dR
 rw [h1,h2,h3,h4,h5]⟩
theorem II (blk cap B:Nat) (l:List cF) (h0:0 < l.length) (hsz:l.length≤1000000) (w:World) (ho:w.ownsRow B 177 6 (.slice (some ⟨blk,0,none⟩) l.length cap) l.length (l.flatMap eM)) :
  Calls Tryz.prog 136 #[.slice (some ⟨blk,0,none⟩) l.length cap,.func (.func 137) #[] #[]] w (pD 177 6 eM dR w B blk cap l) :=
 yM wW 6 Tryz.isAgg177 Tryz.sizeOf177 eM (fun _=>rfl) IG dR YX.swo 137 #[] 177 B blk cap l h0 hsz w ho (enters (P:=Tryz.prog) Tryz.func137 (by kernel_rfl) rfl) (fun W x y=>sJ x y W)
theorem YY (f:Value) (hf:∃ g,f=.func (.func g) #[] #[]) (w:World):Calls Tryz.prog 303 #[.slice none 0 0,.int .i64 0,.int .i64 0,f] w fun e w'=>e=.returned (.tuple #[])∧w=w':=by
 obtain ⟨g,rfl⟩:=hf
 go_in
 go_wp2_with fail
 go_loopw [8] (fun i wr=>i=.int .i64 1∧wr=w) (fun _ _=>0)
 case atStart=>exact ⟨rfl,rfl⟩
 case round =>
  obtain ⟨rfl,rfl⟩:=hrel;go_wp2
  go_end0
  exact ⟨rfl,rfl⟩
theorem Qa (w:World):Calls Tryz.prog 312 #[.int .u64 0] w fun e w'=>e=.returned (.int .i64 0)∧w=w':=by
 go_in
 go_wp2;go_ret;exact ⟨Eq.trans (b:=.returned (.int .i64 (wrap64 (wrap64 (Lib.len8 0))))) rfl (by rw [show wrap64 (wrap64 (Lib.len8 0))=0 by decide +kernel]),rfl⟩
theorem YZ (w:World):Calls Tryz.prog 219 #[.int .u64 0] w fun e w'=>e=.returned (.int .i64 0)∧w=w':=by
 go_in
 go_wp2_with fail;refine (Qa w).mono ?_;rintro e w1 ⟨rfl,rfl⟩;go_wp2;go_ret;exact ⟨by rfl,rfl⟩
theorem Y0 (g:FuncId) (w:World):Calls Tryz.prog 218 #[.slice none 0 0,.int .i64 0,.int .i64 0,.int .i64 0,.func (.func g) #[] #[]] w fun e w'=>e=.returned (.tuple #[])∧w=w':=by
 have C:=gH (YY (.func (.func g) #[] #[]) ⟨g,rfl⟩ w)
 go_in
 go_wp2_with fail
 go_loopw [1,2,3] (fun a b l wr=>a=.int .i64 0∧b=.int .i64 0∧l=.int .i64 0∧wr=w) (fun _ _ _ _=>0)
 case atStart=>exact ⟨rfl,rfl,rfl,rfl⟩
 case round =>
  obtain ⟨rfl,rfl,rfl,rfl⟩:=hrel;go_wp2_with fail;refine C.out.mono ?_;rintro e w1 ⟨rfl,rfl⟩;go_wp2;refine bodyPost_ret (results_none rfl _ _ _) rfl ?_;exact ⟨rfl,rfl⟩
theorem Vd (g:FuncId) (w:World):Calls Tryz.prog 136 #[.slice none 0 0,.func (.func g) #[] #[]] w fun e w'=>e=.returned (.tuple #[])∧w=w':=by
 go_in
 go_wp2_with fail;refine (YZ w).mono ?_;rintro e w1 ⟨rfl,rfl⟩;go_wp2_with fail;refine (Y0 g w).mono ?_;rintro e w1 ⟨rfl,rfl⟩;go_wp2
 go_end0
 exact ⟨rfl,rfl⟩
theorem L5 (hd:Hd) (B:Nat) (l:List cF) (hn:l=[]→hd=⟨none,0,0⟩) (hsz:l.length≤1000000) (w:World) (ho:w.ownsRow B 177 6 (.slice hd.a l.length hd.c) l.length (l.flatMap eM)) :
  Calls Tryz.prog 136 #[.slice hd.a l.length hd.c,.func (.func 137) #[] #[]] w fun e w'=>e=.returned (.tuple #[]) ∧
   ∃ l':List cF,l'.Perm l∧(∀ i j (hi:i < l'.length) (hj:j < l'.length),i < j→¬ dR l'[j] l'[i] < 0)∧w'.ownsRow B 177 6 (.slice hd.a l.length hd.c) l.length (l'.flatMap eM)∧∀ W,ag W w→W.heap.size≤B→ag W w':=by
 cases l with
 | nil =>
  obtain rfl:=hn rfl;refine (Vd 137 w).mono ?_;rintro e w' ⟨rfl,rfl⟩;exact ⟨rfl,[],.nil,fun i j hi=>absurd hi (by simp),ho,fun W a _=>a⟩
 | cons x l =>
  obtain ⟨g,cap,hv,hB,_⟩:=cB ho (by simp);simp only [Value.slice.injEq] at hv;rw [hv.1] at ho ⊢;refine (II g hd.c B (x::l) (by simp) hsz w ho).mono ?_;rintro e w' ⟨rfl,l',h1,h2,h3,h4⟩;exact ⟨rfl,l',h1,h2,h3,fun W a hW=>h4.aN a fun k hk e=>by omega⟩
end Go.Proofs.YtakddkhipelmjaaGreat
namespace Go.Proofs.YtakddkhipelmjaaGreat
open Go.Deep Go.RowKit
def rK (l:List cF):List UInt8→Value:=fun s=>.int .i64 (if s∈l.map ji then 1 else 0)
theorem mU (w:World):(zeroValue 3).run Tryz.prog w=.ok (.int .i64 0) w:=by kernel_rfl
theorem IJ:rK []=fun _=>Value.int .i64 0:=by
 funext s;unfold rK;simp
theorem mV (l:List cF) (g:cF) (hl:∀ x∈l,uw x) (hg:uw g):rK l (ji g)=.int .i64 (if je l g=true then 1 else 0):=by
 unfold rK
 congr 1
 have:(ji g∈l.map ji)↔je l g=true:=by
  rw [rX,List.mem_map,List.mem_map];exact ⟨fun ⟨x,hx,e⟩=>⟨x,hx,(vg x g (hl x hx) hg).1 e⟩,fun ⟨x,hx,e⟩=>⟨x,hx,(vg x g (hl x hx) hg).2 e⟩⟩
 by_cases h:je l g=true
 ·rw [if_pos h,if_pos (this.2 h)]
 ·rw [if_neg h,if_neg fun e=>h (this.1 e)]
theorem yN (l:List cF) (g:cF):rK (l++[g])=fun x=>if x=ji g then .int .i64 1 else rK l x:=by
 funext x
 unfold rK;by_cases h:x=ji g
 ·rw [if_pos h,if_pos (by rw [h];simp)]
 ·rw [if_neg h]
  congr 1
  by_cases h2:x∈l.map ji
  ·rw [if_pos h2,if_pos (by rw [List.map_append];exact List.mem_append.2 (.inl h2))]
  ·rw [if_neg h2,if_neg (by rw [List.map_append,List.mem_append];simpa [h] using h2)]
structure AU (w:World) (bi:Nat) (c:bX) (f:dL→Value) (k:Nat):Prop where
 all:∀ s,f s=.slice none 0 0∨∃ (x:ByteArray) (h:Hd),txt x=s∧f s=h.v∧w.ownsRow (bi+1) 9 1 h.v (eG c.ai x).length ((eG c.ai x).flatMap bT)∧0 < (eG c.ai x).length
 dn:∀ j,j < k→∀ (hj:j < c.af.length),f (txt c.af[j].aI)≠.slice none 0 0
theorem AU.kb {Q:Nat→Prop} {w w':World} {bi:Nat} {c:bX} {f:dL→Value} {k:Nat} (h:AU w bi c f k) (kb:Kb Q w w') (hQ:∀ g,bi+1≤g→g < w.heap.size→¬ Q g):AU w' bi c f k :=
 ⟨fun s=>(h.all s).imp id fun ⟨x,d,e1,e2,ho,hl⟩=>⟨x,d,e1,e2,bB ho kb fun g hg=>hQ g (ho.lt g hg).1 (ho.lt g hg).2,hl⟩,h.dn⟩
theorem AU.aH {w w':World} {bi:Nat} {c:bX} {f:dL→Value} {k:Nat} (h:AU w bi c f k) (a:ag w w'):AU w' bi c f k:=h.kb (Q:=fun _=>False) (Kb.bl a) fun _ _ _ h=>h
theorem AU.at {w:World} {bi:Nat} {c:bX} {f:dL→Value} {k:Nat} (h:AU w bi c f k) {g:ByteArray} (hn:f (txt g)≠.slice none 0 0):∃ d:Hd,f (txt g)=.slice d.a (eG c.ai g).length d.c∧w.ownsRow (bi+1) 9 1 d.v (eG c.ai g).length ((eG c.ai g).flatMap bT)∧0 < (eG c.ai g).length:=by
 rcases h.all (txt g) with e | ⟨x,d,e1,e2,ho,hl⟩
 ·exact absurd e hn
 ·have:=nG e1
  subst this;exact ⟨d,by rw [e2];exact bY ho,ho,hl⟩
theorem AU.put {w w':World} {bi:Nat} {c:bX} {f:dL→Value} {k:Nat} (h:AU w bi c f k) (kb:Kb (fun g=>g=bi) w w') {x:ByteArray} {d:Hd} (ho:w'.ownsRow (bi+1) 9 1 d.v (eG c.ai x).length ((eG c.ai x).flatMap bT)) (hl:0 < (eG c.ai x).length) (hx:∀ (hk:k < c.af.length),c.af[k].aI=x) :
  AU w' bi c (fun s=>if s=txt x then d.v else f s) (k+1):=by
 have hd:d.v≠.slice none 0 0:=by
  rw [bY ho];intro e;simp only [Value.slice.injEq] at e;omega
 have h':=h.kb kb fun g hg _ e=>by omega
 refine ⟨fun s=>?_,fun j hj mv=>?_⟩
 ·by_cases e:s=txt x
  ·exact .inr ⟨x,d,e.symm,by simp only [e,if_true],ho,hl⟩
  ·simp only [if_neg e];exact h'.all s
 ·split
  ·exact hd
  ·rename_i hne
   rcases Nat.lt_or_ge j k with h1 | h1
   ·exact h.dn j h1 mv
   ·have:j=k:=by omega
    subst this;exact absurd (by rw [hx mv]) hne
theorem AU.skip {w:World} {bi:Nat} {c:bX} {f:dL→Value} {k:Nat} (h:AU w bi c f k) (hx:∀ (hk:k < c.af.length),f (txt c.af[k].aI)≠.slice none 0 0):AU w bi c f (k+1) :=
 ⟨h.all,fun j hj mv=>by
  rcases Nat.lt_or_ge j k with h1 | h1
  ·exact h.dn j h1 mv
  ·have:j=k:=by omega
   subst this
   exact hx mv⟩
structure Qb (w wr:World) (bh bi:Nat) (cb:List Value) (c:bX) (l:List cF) (f:dL→Value) (k:Nat):Prop where
 aH:ag w wr
 box:au wr w.heap.size cb
 mh:eH Tryz.prog 189 wr bh l.length (.int .i64 0) (rK l)
 mi:eH Tryz.prog 9 wr bi k (.slice none 0 0) f
 is:AU wr bi c f k
theorem Qb.to {w wr w':World} {bh bi:Nat} {cb:List Value} {c:bX} {l:List cF} {f:dL→Value} {k:Nat} (h:Qb w wr bh bi cb c l f k) (a:ag wr w'):Qb w w' bh bi cb c l f k:=⟨h.aH.trans a,h.box.aH a,h.mh.aH a,h.mi.aH a,h.is.aH a⟩
theorem qU {c:bX} (h:bv c=true) {g:cF} (hg:g∈c.af):0 < (eG c.ai g.aI).length∧eG c.ai g.aI=c.ai.names.filter (bM c.ai.members g.aI):=by
 obtain ⟨_,⟨_,h2,_,_⟩,h3,_⟩:=bL.1 h;have h4:=(li (h3 g hg)).2.2.2.1
 have e:eG c.ai g.aI=c.ai.names.filter (bM c.ai.members g.aI):=by unfold eG;rw [h2,h4];rfl
 refine ⟨List.length_pos_of_mem (a:=g.aI) ?_,e⟩;rw [e];exact List.mem_filter.2 ⟨(jt _ _).1 h4,qV _ _⟩
theorem BF {c:bX} (h:bv c=true) {g:cF} (hg:g∈c.af):(jI c.ah g.ac g.table).ac=g.ac∧(jI c.ah g.ac g.table).name=g.table∧0≤cy c.ah.aa g.ac:=by
 obtain ⟨_,⟨h1,_,_,_⟩,h3,_⟩:=bL.1 h;have h4:=(li (h3 g hg)).1;obtain ⟨q,hq⟩:=Int.eq_ofNat_of_zero_le h4;have hr:bp c.ah.tables g.ac g.table < c.ah.tables.length:=(bk _ _).2
 have hl:q < c.ah.tables.length:=by omega
 have e:=nE hq hl;have hp:=gN _ c.ah.tables q hl hq;simp only [Bool.and_eq_true,lK] at hp;rw [e];refine ⟨hp.1,hp.2,?_⟩
 have hc:bP c.ah c.ah.tables[q]=true:=by
  unfold bw at h1;simp only [Bool.and_eq_true,List.all_eq_true] at h1;exact h1.2.2 _ (List.getElem_mem hl)
 unfold bP at hc;simp only [Bool.and_eq_true,decide_eq_true_eq] at hc;rw [← hp.1];exact hc.1.2
structure L8 (wF wr:World) (bh:Nat) (c:bX) (l:List cF) (hd:Hd):Prop where
 kb:Kb (fun g=>g=bh) wF wr
 mh:eH Tryz.prog 189 wr bh l.length (.int .i64 0) (rK l)
 row:wr.ownsRow wF.heap.size 177 6 hd.v l.length (l.flatMap eM)
 BG:iz c l
 nil:l=[]→hd=⟨none,0,0⟩
theorem L8.to {wF wr w':World} {bh:Nat} {c:bX} {l:List cF} {hd:Hd} (h:L8 wF wr bh c l hd) (a:ag wr w'):L8 wF w' bh c l hd:=⟨h.kb.trans (Kb.bl a),h.mh.aH a,cj h.row a,h.BG,h.nil⟩
theorem L8.next {wF u7 u8:World} {bh:Nat} {c:bX} {l:List cF} {hd:Hd} {g:cF} {gg cap:Nat} {o:Obj} (h:iz c l) (hg:g∈c.af) (yi:je l g=false) (hj:eF c l g=true)
  (h7:Kb (fun g=>g=bh) wF u7∧eH Tryz.prog 189 u7 bh (l++[g]).length (.int .i64 0) (rK (l++[g]))∧u7.ownsRow wF.heap.size 177 6 (.slice hd.a l.length hd.c) l.length (l.flatMap eM)∧wF.heap.size≤u7.heap.size) (zb:bh < wF.heap.size)
  (ho:u8.ownsRow wF.heap.size 177 6 (.slice (some ⟨gg,0,none⟩) (l.length+1) cap) (l.length+1) (l.flatMap eM++eM g)) (hgr:(u7.alloc o).grownBy u8 (Value.slice hd.a l.length hd.c).ownBlock) :
  L8 wF u8 bh c (l++[g]) ⟨some ⟨gg,0,none⟩,l.length+1,cap⟩:=by
 obtain ⟨k7,m7,r7,z7⟩:=h7;have a7:ag u7 (u7.alloc o):=(ag.refl _).alloc _;have k8:=Kb.dF hgr
 have hq:∀ k,(Value.slice hd.a l.length hd.c).ownBlock=some k→wF.heap.size≤k:=fun k e=>(r7.lt k e).1
 refine ⟨?_,(m7.aH a7).kb k8 fun e=>by have:=hq _ e;omega,?_,h.add hg yi hj,fun e=>by simp at e⟩
 ·have k9:Kb (fun k=>k=bh∨(Value.slice hd.a l.length hd.c).ownBlock=some k) wF u8:=((k7.mono fun k _ e=>.inl e).trans (Kb.bl a7)).trans (k8.mono fun k _ e=>.inr e)
  exact k9.mono fun k hk e=>by
   rcases e with e | e
   ·exact e
   ·have:=hq k e;omega
 ·show u8.ownsRow wF.heap.size _ 6 (.slice (some ⟨gg,0,none⟩) (l.length+1) cap) (l++[g]).length ((l++[g]).flatMap eM)
  rw [List.length_append,List.flatMap_append,List.flatMap_cons,List.flatMap_nil,List.append_nil];exact ho
def Er (w:World) (c:bX) (e:Ending) (w':World):Prop:=∃ h:Hd,e=.returned h.v∧ag w w'∧w'.ownsRow w.heap.size 177 6 h.v (cH c).length ((cH c).flatMap eM)
theorem O5 (c:bX) (As:Option Addr) (ay:Nat) (At:Option Addr) (az:Nat) (An:Option Addr) (aC:Nat) (Am:Option Addr) (aJ:Nat) (Ag:Option Addr) (aQ:Nat) (w:World) (H:fp w c As ay At az An aC Am aJ Ag aQ) :
  Calls Tryz.prog 77 #[.agg #[.int .i64 c.ax,.int .i64 c.version,.slice As c.ah.aa.length ay,.slice At c.ah.tables.length az,.slice An c.ai.names.length aC,.slice Am c.ai.members.length aJ,.slice Ag c.af.length aQ]] w (Er w c):=by
 have hlen:=H.n7.len;have sP:=@run_makeMap Tryz.prog;obtain ⟨W,hW⟩:∃ W,W=w.alloc (.cells #[.int .i64 c.ax,.int .i64 c.version,.slice As c.ah.aa.length ay,.slice At c.ah.tables.length az,.slice An c.ai.names.length aC,.slice Am c.ai.members.length aJ,.slice Ag c.af.length aQ] 32):=⟨_,rfl⟩
 have aW:ag w W:=by rw [hW];exact (ag.refl w).alloc _
 have r0:au W (w.heap.size) [.int .i64 c.ax,.int .i64 c.version,.slice As c.ah.aa.length ay,.slice At c.ah.tables.length az,.slice An c.ai.names.length aC,.slice Am c.ai.members.length aJ,.slice Ag c.af.length aQ]:=by rw [hW];exact bj (ag.refl _) (by simp)
 obtain ⟨st,hst⟩:∃ b,bv c=b:=⟨_,rfl⟩;have C1:=gH (show Calls Tryz.prog 87 #[.agg #[.int .i64 c.ax,.int .i64 c.version,.slice As c.ah.aa.length ay,.slice At c.ah.tables.length az,.slice An c.ai.names.length aC,.slice Am c.ai.members.length aJ,.slice Ag c.af.length aQ]] W fun e w''=>e=.returned (.bool st)∧ag W w'' from (Eo c As ay At az An aC Am aJ Ag aQ W (H.aH aW)).mono fun e w'' ⟨he,hw⟩=>⟨he.trans (by rw [hst]),hw⟩);have HST:=gH hst;have HH:=gH H;have bQ:=gH aW;have fO:=gH r0;obtain ⟨x0,x1,x2,x3,x4,x5,x6,xz⟩:=im r0;clear hst H aW r0
 go_in
 go_wp2_with fail;rw [← hW];clear hW
 go_step3
 go_wp2_with fail;refine C1.out.mono ?_;rintro e w1 ⟨rfl,a1⟩;clear C1 x0 x1 x2 x3 x4 x5 x6 xz
 cases st
 case false =>
  have HF:=gH (show cH c=[] by unfold cH;rw [HST.out];rfl);have HA:=gH (bQ.out.trans a1);clear a1;go_wp2;go_ret;exact ⟨⟨none,0,0⟩,rfl,HA.out,by rw [HF.out];exact cO _ _ _ _⟩
 have p0:=fO.out.aH a1;have x6:=p0.cell (j:=6) rfl;have xz:=p0.1;obtain ⟨bh,XS⟩:∃ b,b=w1.heap.size:=⟨_,rfl⟩;obtain ⟨bi,Va⟩:∃ b,b=w1.heap.size+1:=⟨_,rfl⟩;obtain ⟨cb,hcb⟩:∃ cb:List Value,cb=[.int .i64 c.ax,.int .i64 c.version,.slice As c.ah.aa.length ay,.slice At c.ah.tables.length az,.slice An c.ai.names.length aC,.slice Am c.ai.members.length aJ,.slice Ag c.af.length aQ]:=⟨_,rfl⟩;rw [← hcb] at p0;have Ve:=gH hcb;clear hcb
 have S0:=gH (show Qb w ((w1.alloc (.map #[] 0)).alloc (.map #[] 0)) bh bi cb c [] (fun _=>.slice none 0 0) 0 from by
  have a2:ag w1 (w1.alloc (.map #[] 0)):=(ag.refl _).alloc _;have a3:ag (w1.alloc (.map #[] 0)) ((w1.alloc (.map #[] 0)).alloc (.map #[] 0)):=(ag.refl _).alloc _;refine ⟨(bQ.out.trans a1).trans (a2.trans a3),p0.aH (a2.trans a3),?_,?_,fun s=>.inl rfl,fun j hj=>absurd hj (Nat.not_lt_zero j)⟩
  ·rw [XS,IJ];exact (nH w1 _).aH a3
  ·rw [Va]
   have:=nH (P:=Tryz.prog) (k:=9) (w1.alloc (.map #[] 0)) (.slice none 0 0)
   simpa using this)
 have hB:=gH (show w.heap.size < bh∧bh < bi by rw [XS,Va];have:=(bQ.out.trans a1).size;have:=fO.out.1;have:=a1.size;omega);clear a1 p0;go_wp2_with fail;rw [← Va,← XS];have wX:=gH (show bv c=true from HST.out);have aaF:c.af.length≤64:=(bL.1 HST.out).1
 go_loopw [20] (fun i wr=>∃ (k:Nat) (f:dL→Value),k≤c.af.length∧i=.int .i64 k∧Qb w wr bh bi cb c [] f k) (fun i _=>c.af.length - (intOf i).toNat)
 case atStart=>exact ⟨0,_,Nat.zero_le _,rfl,S0.out⟩
 case round =>
  clear S0 x6 xz XS Va;obtain ⟨k,f,hk,rfl,hs⟩:=hrel;have HS:=gH hs;by_cases hlt:k < c.af.length
  ·obtain ⟨b,off,rfl,hb,t0,t1,t2,t3,t4,t5,sg⟩:=jc (dQ hs.aH HH.out.n7) hlt
   obtain ⟨g,hg⟩:∃ g,c.af[k]=g:=⟨_,rfl⟩;rw [hg] at t0 t1 t2 t3 t4 t5 sg;obtain ⟨X,hX⟩:∃ V,V=wr.alloc (.cells #[.string g.ac,.string g.table,.int .i64 g.right,.string g.aI,.string g.to,.bool g.opt] 177):=⟨_,rfl⟩
   have aX:ag wr X:=by rw [hX];exact (ag.refl wr).alloc _
   have SX:=gH (hs.to aX);have RX:=gH (show au X wr.heap.size [.string g.ac,.string g.table,.int .i64 g.right,.string g.aI,.string g.to,.bool g.opt] by rw [hX];exact aU (ag.refl _));have Hb:=gH (show g∈c.af by rw [← hg];exact List.getElem_mem hlt);have HG:=gH (show ∀ (h:k < c.af.length),c.af[k].aI=g.aI from fun _=>by rw [hg]);have Tn:=(hs.to aX).mi.look Tryz.underlying9 Tryz.underlying183 (ll X) g.aI sg.2.2.1.max;have LK:(Instr.lookup 183 (.map (some bi)) (.string g.aI) false).run Tryz.prog X=.ok (f (txt g.aI)) X:=Tn;have wY:=gH sg;by_cases hf:f (txt g.aI)=.slice none 0 0
   ·rw [hf,hX] at LK
    have HF:=gH hf;have Y1:=gH (qU wX.out Hb.out).1;have K3:=gH (show ∀ w',ag X w'→Calls Tryz.prog 131 #[.agg #[.slice An c.ai.names.length aC,.slice Am c.ai.members.length aJ],.string g.aI] w' (FE c.ai g.aI w') from fun w' a=>Qc c.ai An aC Am aJ g.aI w' (aO (SX.out.aH.trans a) HH.out.j0) (cu (SX.out.aH.trans a) HH.out.mem) wY.out.2.2.1)
    have KS:=gH (show ∀ V,ag X V→V.cell? ⟨w.heap.size,4,none⟩=some (.slice An c.ai.names.length aC)∧V.cell? ⟨w.heap.size,5,none⟩=some (.slice Am c.ai.members.length aJ)∧V.cell? ⟨wr.heap.size,3,none⟩=some (.string g.aI) from fun V a=>by
     have p0:=SX.out.box.aH a;rw [Ve.out] at p0
     exact ⟨p0.cell (j:=4) rfl,p0.cell (j:=5) rfl,(RX.out.aH a).cell (j:=3) rfl⟩)
    have zbi:=hs.mi.lt;have ZX:=gH (show wr.heap.size≤X.heap.size from aX.size)
    have Qd:=gH (show ∀ V V',ag X V→V.grownBy V' (some bi)→V'.cell? ⟨w.heap.size,4,none⟩=some (.slice An c.ai.names.length aC)∧V'.cell? ⟨w.heap.size,5,none⟩=some (.slice Am c.ai.members.length aJ)∧V'.cell? ⟨wr.heap.size,3,none⟩=some (.string g.aI) from fun V V' a gr=>by
     obtain ⟨h4,h5,h3⟩:=KS.out V a;have kb:=Kb.dF gr;have:=hB.out
     exact ⟨kb.cell h4 (fun e=>by simp only [Option.some.injEq] at e;omega),kb.cell h5 (fun e=>by simp only [Option.some.injEq] at e;omega),kb.cell h3 (fun e=>by simp only [Option.some.injEq] at e;omega)⟩)
    clear hf hs aX Tn hg sg;go_wp2_with fail;rw [← hX];clear hX t0 t1 t2 t3 t4 t5 LK hb
    go_region_held3 (fun V=>V.cell? ⟨w.heap.size,4,none⟩=some (.slice An c.ai.names.length aC)∧V.cell? ⟨w.heap.size,5,none⟩=some (.slice Am c.ai.members.length aJ)∧V.cell? ⟨wr.heap.size,3,none⟩=some (.string g.aI))
     (first | exact KS.out _ (ag.refl _).drew | exact KS.out _ A5.out | exact K6.out)
     ((go_at_call 131;refine (K3.out _ (ag.refl X).drew).mono ?_;rintro e w5 ⟨d,rfl,a5,Vg⟩;have A5:=gH ((ag.refl X).drew.trans a5);have Y2:=gH (And.intro a5 Vg);clear a5 Vg;obtain ⟨w6,p6,M6,g6⟩:=(SX.out.mi.aH A5.out).put Tryz.underlying9 Tryz.underlying183 (by unfold maxLen;omega) g.aI wY.out.2.2.1.max d.v;have K6:=gH (Qd.out w5 w6 A5.out g6);have O6:=gH (And.intro M6 g6);clear M6 g6))
    have yO:=gH (show Qb w w6 bh bi cb c [] (fun s=>if s=txt g.aI then d.v else f s) (k+1) from by
     have kb:=Kb.dF O6.out.2
     have Vh:Kb (fun g=>g=bi) w5 w6:=kb.mono fun g _ e=>(Option.some.inj e).symm
     have AW:=hB.out;have s5:=SX.out.to A5.out;have zX:bi < X.heap.size:=Nat.lt_of_lt_of_le zbi (by have:=SX.out.aH.size;exact Nat.le_of_lt (Nat.lt_of_lt_of_le zbi (ZX.out)) |> fun _=>ZX.out);have Vg:w5.ownsRow (bi+1) 9 1 d.v (eG c.ai g.aI).length ((eG c.ai g.aI).flatMap bT):=bS Y2.out.2 (by show bi+1≤X.heap.size;omega);refine ⟨Vh.aN s5.aH (fun g hg e=>by omega),Vh.row s5.box (by omega),s5.mh.kb Vh (by omega),O6.out.1,?_⟩
     exact s5.is.put Vh (bB Vg Vh fun g hg e=>by have:=(Vg.lt g hg).1;omega) Y1.out HG.out)
    go_wp2
    go_roundw
    case rel=>exact ⟨k+1,_,by omega,by go_num,yO.out⟩
    case measure=>simp [intOf];omega
   ·obtain ⟨d,hd,ho,hdl⟩:=(hs.to aX).is.at hf
    rw [hd,hX] at LK
    have hd0:¬ (((eG c.ai g.aI).length:Nat):Int)=0:=by omega
    have hd1:((((eG c.ai g.aI).length:Nat):Int)==0)=false:=by simpa using hd0
    have yO:=gH (show Qb w X bh bi cb c [] f (k+1) from ⟨SX.out.aH,SX.out.box,SX.out.mh,SX.out.mi.mono (by omega),SX.out.is.skip fun h=>by rw [HG.out h];exact hf⟩);clear hf hd ho hs aX sg Tn hg hd0;go_wp2
    go_roundw
    case rel=>exact ⟨k+1,f,by omega,by go_num,by rw [← hX];exact yO.out⟩
    case measure=>simp [intOf];omega
  ·have pE:k=c.af.length:=by omega
   subst pE;clear hs;obtain ⟨wF,hwF⟩:∃ V,V=wr:=⟨_,rfl⟩;subst hwF
   have KA:=gH (show ∀ V,Kb (fun g=>g=bh) wF V→ag w V∧au V w.heap.size cb∧eH Tryz.prog 9 V bi c.af.length (.slice none 0 0) f∧AU V bi c f c.af.length from fun V kb=>by
    have hb:=hB.out
    exact ⟨kb.aN HS.out.aH fun g hg e=>by omega,kb.row HS.out.box (by omega),HS.out.mi.kb kb (by omega),HS.out.is.kb kb fun g hg _ e=>by omega⟩)
   have HM0:=gH (show L8 wF wF bh c [] ⟨none,0,0⟩ from ⟨Kb.bl (ag.refl _),HS.out.mh,cO _ _ _ _,iz.nil c,fun _=>rfl⟩);have wZ:=gH (Ej HH.out.n7).2;have p0:=HS.out.box;rw [Ve.out] at p0;have x6:=p0.cell (j:=6) rfl;have xz:=p0.1;have zFw:=gH HS.out.aH.size;clear p0;go_wp2_with fail
   go_step3
   go_wp2_with fail
   go_loopw [7] (fun u7 wr=>∃ (l:List cF) (hd:Hd),u7=.slice hd.a l.length hd.c∧L8 wF wr bh c l hd) (fun u7 _=>c.af.length - (match u7 with | .slice _ n _=>n | _=>0))
   case atStart=>exact ⟨[],⟨none,0,0⟩,rfl,HM0.out⟩
   case round =>
    clear x6 xz HM0;obtain ⟨l,hd,rfl,hm⟩:=hrel;have HM:=gH hm;have rS:=hm.BG.len;obtain ⟨wo,Y3⟩:∃ V,V=wr:=⟨_,rfl⟩;subst Y3;have p0:=(KA.out wo hm.kb).2.1;rw [Ve.out] at p0;have x6:=p0.cell (j:=6) rfl;have xz:=p0.1;clear p0 hm;go_wp2_with fail
    go_loopw [7,45] (fun u7 i wr=>∃ k:Nat,u7=.slice hd.a l.length hd.c∧k≤c.af.length∧i=.int .i64 k∧ag wo wr∧∀ j,j < k→∀ (hj:j < c.af.length),je l c.af[j]=false→eF c l c.af[j]=false) (fun _ i _=>c.af.length - (intOf i).toNat)
    case atStart=>exact ⟨0,rfl,Nat.zero_le _,rfl,ag.refl _,fun j hj=>absurd hj (Nat.not_lt_zero j)⟩
    case round =>
     clear x6 xz;obtain ⟨k,rfl,hk,rfl,ha,pc⟩:=hrel;have L9:=gH ha;have Vi:=gH pc;clear ha pc;by_cases hlt:k < c.af.length
     ·have hm:=HM.out.to L9.out
      obtain ⟨aw,bx,mi,is⟩:=KA.out wr hm.kb;obtain ⟨b,off,rfl,hb,t0,t1,t2,t3,t4,t5,sg⟩:=jc (dQ aw HH.out.n7) hlt;obtain ⟨g,hg⟩:∃ g,c.af[k]=g:=⟨_,rfl⟩;rw [hg] at t0 t1 t2 t3 t4 t5 sg;have Hb:=gH (show g∈c.af by rw [← hg];exact List.getElem_mem hlt);have HG:=gH hg;have wY:=gH sg;rw [Ve.out] at bx;obtain ⟨x0,x1,x2,x3,x4,x5,x6,xz⟩:=im bx;obtain ⟨X,hX⟩:∃ V,V=wr.alloc (.cells #[.string g.ac,.string g.table,.int .i64 g.right,.string g.aI,.string g.to,.bool g.opt] 177):=⟨_,rfl⟩
      have aX:ag wr X:=by rw [hX];exact (ag.refl wr).alloc _
      have RX:=gH (show au X wr.heap.size [.string g.ac,.string g.table,.int .i64 g.right,.string g.aI,.string g.to,.bool g.opt] by rw [hX];exact aU (ag.refl _));have AX:=gH (L9.out.trans aX);have C:=gH (Bx c As ay At az An aC Am aJ (some ⟨b,off,none⟩) aQ g.ac g.table X (br (aw.trans aX) HH.out.tab));have HZR:=gH (show bh < wr.heap.size from hm.mh.lt);have XT:=gH (show bh < wF.heap.size from HS.out.mh.lt);clear aw bx mi is hm hg aX sg;go_wp2_with fail;rw [← hX];clear hX t0 t1 t2 t3 t4 t5 x0 x1 x2 x3 x4 x5 x6 xz hb;refine C.out.mono ?_;rintro e w5 ⟨A2,c2,A3,c3,rfl,a5⟩;have Ma:=gH (BF wX.out Hb.out);obtain ⟨T,hT⟩:∃ T,jI c.ah g.ac g.table=T:=⟨_,rfl⟩;rw [hT] at Ma ⊢;generalize decide (0≤bp c.ah.tables g.ac g.table)=tb;obtain ⟨Y,hY⟩:∃ V,V=w5.alloc (.cells #[.string T.ac,.string T.name,.string T.owner,.slice A2 T.av.length c2,.slice A3 T.rules.length c3] 80):=⟨_,rfl⟩
      have aY:ag w5 Y:=by rw [hY];exact (ag.refl w5).alloc _
      have RY:=gH (show au Y w5.heap.size [.string T.ac,.string T.name,.string T.owner,.slice A2 T.av.length c2,.slice A3 T.rules.length c3] by rw [hY];exact aU (ag.refl _));have AY:=gH (AX.out.trans (a5.trans aY));have RX5:=gH (RX.out.aH a5);have RXY:=gH (RX.out.aH (a5.trans aY));obtain ⟨y0,y1,y2,y3,y4,y5,yz⟩:=mN RX5.out;have Mb:=gH (show eF c l g=(jL c.ah (eG c.ai g.aI) T || gU l (eG c.ai g.aI) T.ac T.name g.right true) by unfold eF;rw [hT,Ma.out.1,Ma.out.2.1]);clear a5 aY hT C;go_wp2_with fail;rw [← hY];clear hY y0 y1 y2 y3 y4 y5 yz;refine (Tm g _).mono ?_;rintro e w6 ⟨rfl,a6⟩;have O6:=gH (HM.out.to (AY.out.trans a6));have A6:=gH (AY.out.trans a6);have Y4:=gH (RXY.out.aH a6);have RY6:=gH (RY.out.aH a6);obtain ⟨Tp,XU,mi6,Y5⟩:=KA.out w6 O6.out.kb;have sI:=gH (show ∀ x∈l,uw x from fun x hx=>wZ.out x (O6.out.BG.sub x hx).mem);have Qe:=O6.out.mh.Ep oG Tryz.underlying182 (mU w6) (lj g) (ji g) (mS g wY.out);rw [mV l g sI.out wY.out] at Qe;have Y6:(Instr.lookup 182 (.map (some bh)) (.agg #[.string g.ac,.string g.table,.int .i64 g.right,.string g.aI,.string g.to]) false).run Tryz.prog w6=.ok (.int .i64 (if je l g=true then 1 else 0)) w6:=Qe;have Vj:=mi6.look Tryz.underlying9 Tryz.underlying183 (ll w6) g.aI wY.out.2.2.1.max;have Vk:(Instr.lookup 183 (.map (some bi)) (.string g.aI) false).run Tryz.prog w6=.ok (f (txt g.aI)) w6:=Vj
      have hfn:f (txt g.aI)≠.slice none 0 0:=by have:=Y5.dn k hlt hlt;rw [HG.out] at this;exact this
      obtain ⟨d,Tl,hod,hdl⟩:=Y5.at hfn;rw [Tl] at Vk
      have HIS:=gH (show ∀ V,Kb (fun g=>g=bh) wF V→∃ (_:True),aA V 1 dg d.a d.c (eG c.ai g.aI)∧(Instr.lookup 183 (.map (some bi)) (.string g.aI) false).run Tryz.prog V=.ok (.slice d.a (eG c.ai g.aI).length d.c) V from fun V kb=>by
       obtain ⟨awV,bxV,miV,isV⟩:=KA.out V kb;obtain ⟨d',Mc,Y7,_⟩:=isV.at hfn
       have e1:d'.a=d.a∧d'.c=d.c:=by rw [Tl] at Mc;simp only [Value.slice.injEq] at Mc;exact ⟨Mc.1.symm,Mc.2.2.symm⟩
       have sn:=fS (aO awV HH.out.j0);have sl:=dC (R:=dg) bT Y7 (fun x hx=>⟨rfl,rfl,sn.2 x (sQ hx)⟩) (by have:=sn.1;have:=sR c.ai g.aI;unfold Small at *;omega);rw [e1.1,e1.2] at sl;have:=miV.look Tryz.underlying9 Tryz.underlying183 (ll V) g.aI wY.out.2.2.1.max
       exact ⟨trivial,sl,this.trans (by rw [show f g.aI.data.toList=f (txt g.aI) from rfl,Tl])⟩)
      clear Qe Vj mi6 Y5 Tl hod hfn a6;rw [Ve.out] at XU;obtain ⟨x0,x1,x2,x3,x4,x5,x6,xz⟩:=im XU;have y3:=Y4.out.cell (j:=3) rfl;have yz:=Y4.out.1;obtain ⟨v0,v1,v2,v3,v4,vz⟩:=lX RY6.out
      cases yi:je l g
      case true =>
       rw [yi,if_pos rfl] at Y6;have Eu:=gH yi;clear yi XU Tp;go_wp2
       go_roundw
       case rel=>exact ⟨k+1,rfl,by omega,by go_num,A6.out,bC (p:=fun j=>∀ (hj:j < c.af.length),je l c.af[j]=false→eF c l c.af[j]=false) Vi.out (fun _ h=>by rw [HG.out,Eu.out] at h;cases h)⟩
       case measure=>simp [intOf];omega
      case false =>
       rw [yi,if_neg (by decide)] at Y6;have Eu:=gH yi;obtain ⟨bb,AW⟩:∃ bb,jL c.ah (eG c.ai g.aI) T=bb:=⟨_,rfl⟩;obtain ⟨gb,hgb⟩:∃ gb,gU l (eG c.ai g.aI) T.ac T.name g.right true=gb:=⟨_,rfl⟩;rw [AW,hgb] at Mb
       have CB:=gH (show Calls Tryz.prog 134 #[.agg #[.int .i64 c.ax,.int .i64 c.version,.slice As c.ah.aa.length ay,.slice At c.ah.tables.length az,.slice An c.ai.names.length aC,.slice Am c.ai.members.length aJ,.slice (some ⟨b,off,none⟩) c.af.length aQ],.slice d.a (eG c.ai g.aI).length d.c,.agg #[.string T.ac,.string T.name,.string T.owner,.slice A2 T.av.length c2,.slice A3 T.rules.length c3]] w6 fun e w''=>e=.returned (.bool bb)∧ag w6 w'' from
        AW▸O3 c As ay At az An aC Am aJ (some ⟨b,off,none⟩) aQ (eG c.ai g.aI) d.a d.c T.ac T.name T.owner A2 _ c2 A3 _ c3 T ⟨rfl,rfl⟩ w6 (HH.out.aH Tp) (HIS.out w6 O6.out.kb).2.1 (by rw [Ma.out.1];exact Ma.out.2.2))
       clear yi XU Tp AW;go_wp2_with fail;refine CB.out.mono ?_;rintro e w7 ⟨rfl,a7⟩;have Hc:=gH (O6.out.to a7);have A7:=gH (A6.out.trans a7);have Y8:=gH (Y4.out.aH a7);have RY7:=gH (RY6.out.aH a7);clear Y6 Vk x0 x1 x2 x3 x4 x5 x6 xz y3 yz v0 v1 v2 v3 v4 vz CB a7;obtain ⟨y0,y1,y2,y3,y4,y5,yz⟩:=mN Y8.out
       cases bb
       case true =>
        have HJ:=gH (show eF c l g=true by rw [Mb.out];rfl);go_wp2_with fail;have zbh:bh < wr.heap.size:=HZR.out
        have KS:=gH (show ∀ V,ag w7 V→V.cell? ⟨wr.heap.size,0,none⟩=some (.string g.ac)∧V.cell? ⟨wr.heap.size,1,none⟩=some (.string g.table)∧V.cell? ⟨wr.heap.size,2,none⟩=some (.int .i64 g.right)∧V.cell? ⟨wr.heap.size,3,none⟩=some (.string g.aI)∧V.cell? ⟨wr.heap.size,4,none⟩=some (.string g.to)∧V.cell? ⟨wr.heap.size,5,none⟩=some (.bool g.opt) from fun V a=>by
         have p:=Y8.out.aH a
         exact ⟨p.cell (j:=0) rfl,p.cell (j:=1) rfl,p.cell (j:=2) rfl,p.cell (j:=3) rfl,p.cell (j:=4) rfl,p.cell (j:=5) rfl⟩)
        have Qd:=gH (show ∀ V V',ag w7 V→V.grownBy V' (some bh)→V'.cell? ⟨wr.heap.size,0,none⟩=some (.string g.ac)∧V'.cell? ⟨wr.heap.size,1,none⟩=some (.string g.table)∧V'.cell? ⟨wr.heap.size,2,none⟩=some (.int .i64 g.right)∧V'.cell? ⟨wr.heap.size,3,none⟩=some (.string g.aI)∧V'.cell? ⟨wr.heap.size,4,none⟩=some (.string g.to)∧V'.cell? ⟨wr.heap.size,5,none⟩=some (.bool g.opt) from fun V V' a gr=>by
         obtain ⟨h0,h1,h2,h3,h4,h5⟩:=KS.out V a;have kb:=Kb.dF gr
         exact ⟨kb.cell h0 (fun e=>by simp only [Option.some.injEq] at e;omega),kb.cell h1 (fun e=>by simp only [Option.some.injEq] at e;omega),kb.cell h2 (fun e=>by simp only [Option.some.injEq] at e;omega),kb.cell h3 (fun e=>by simp only [Option.some.injEq] at e;omega),kb.cell h4 (fun e=>by simp only [Option.some.injEq] at e;omega),kb.cell h5 (fun e=>by simp only [Option.some.injEq] at e;omega)⟩)
        have IK:=gH Hc.out
        have UA:l.length < maxLen:=by unfold maxLen;omega
        clear y0 y1 y2 y3 y4 y5 yz
        go_region_held3 (fun V=>V.cell? ⟨wr.heap.size,0,none⟩=some (.string g.ac)∧V.cell? ⟨wr.heap.size,1,none⟩=some (.string g.table)∧V.cell? ⟨wr.heap.size,2,none⟩=some (.int .i64 g.right)∧V.cell? ⟨wr.heap.size,3,none⟩=some (.string g.aI)∧V.cell? ⟨wr.heap.size,4,none⟩=some (.string g.to)∧V.cell? ⟨wr.heap.size,5,none⟩=some (.bool g.opt))
         (first | exact KS.out _ (ag.refl _).drew | exact KS.out _ A5.out | exact K6.out | exact K7.out)
         ((go_at_call 133;refine (Tm g _).mono ?_;rintro e u5 ⟨rfl,a5⟩;have A5:=gH ((ag.refl w7).drew.trans a5);clear a5;have Qf:=(IK.out.to A5.out).mh.Ep oG Tryz.underlying182 (mU u5) (lj g) (ji g) (mS g wY.out);rw [mV l g sI.out wY.out,Eu.out,if_neg (by decide)] at Qf;unfold lj at Qf;obtain ⟨q0,st,u6,u7,E6,G6,L6,S7,M7,G7⟩:=(IK.out.to A5.out).mh.entry yK Tryz.underlying182 mU UA (lj g) (ji g) (mS g wY.out) (.int .i64 (IntKind.i64.wrap 1));rw [mV l g sI.out wY.out,Eu.out,if_neg (by decide)] at L6;unfold lj at E6 L6;simp only [goInt] at E6 S7;have K6:=gH (Qd.out u5 u6 A5.out G6);have K7:=gH (Qd.out u5 u7 A5.out G7);have IL:=gH (And.intro M7 G7);clear M7 G7 G6))
        all_goals
         have Hc:=gH (show Kb (fun g=>g=bh) wF u7∧eH Tryz.prog 189 u7 bh (l++[g]).length (.int .i64 0) (rK (l++[g]))∧u7.ownsRow wF.heap.size 177 6 (.slice hd.a l.length hd.c) l.length (l.flatMap eM)∧wF.heap.size≤u7.heap.size from by
          have kb:Kb (fun g=>g=bh) u5 u7:=(Kb.dF IL.out.2).mono fun g _ e=>(Option.some.inj e).symm
          have h5:=IK.out.to A5.out;have hr:=h5.row;rw [bY hr] at hr;refine ⟨h5.kb.trans kb,?_,bB hr kb fun g hg e=>by have:=(hr.lt g hg).1;have:=XT.out;omega,Nat.le_trans h5.kb.size kb.size⟩;rw [yN,List.length_append]
          exact IL.out.1)
         obtain ⟨k0,k1,k2,k3,k4,k5⟩:=K7.out;have zu:wr.heap.size < u7.heap.size:=World.block_lt_of_cell? u7 ⟨wr.heap.size,0,none⟩ k0;have zF7:wF.heap.size≤u7.heap.size:=Hc.out.2.2.2
         have AZ:l.length≤1000000:=by omega
         clear E6 L6 S7 Qf
         go_wp2_with (at_builtin;go_must (refine pF rfl _ _ rfl wF.heap.size (.slice hd.a l.length hd.c) l.length (l.flatMap eM) rfl (cj Hc.out.2.2.1 ((ag.refl u7).alloc _)) u7.heap.size g rfl (heap_alloc_new u7 _) AZ (by simp;omega) ?_);intro gg cap' u8 km hgrow hat;have Ev:=gH (And.intro km (And.intro hgrow hat));clear km hgrow hat)
         refine ⟨⟨l++[g],⟨some ⟨gg,0,none⟩,l.length+1,cap'⟩,by simp,L8.next IK.out.BG Hb.out Eu.out HJ.out Hc.out XT.out Ev.out.1 Ev.out.2.1⟩,?_⟩
         show c.af.length - (l.length+1) < c.af.length - l.length
         have:=(IK.out.BG.add Hb.out Eu.out HJ.out).len;rw [List.length_append] at this;simp only [List.length_cons,List.length_nil] at this;omega
       case false =>
        obtain ⟨_,sl7,LK7⟩:=HIS.out w7 Hc.out.kb;obtain ⟨v0,v1,v2,v3,v4,vz⟩:=lX RY7.out;have slG:aA w7 6 gC hd.a hd.c l:=dC eM Hc.out.row (fun x hx=>⟨rfl,rfl,sI.out x hx⟩) (by unfold Small;omega)
        have CG:=gH (show Calls Tryz.prog 135 #[.slice hd.a l.length hd.c,.slice d.a (eG c.ai g.aI).length d.c,.agg #[.string T.ac,.string T.name,.string T.owner,.slice A2 T.av.length c2,.slice A3 T.rules.length c3],.int .i64 g.right,.bool true] w7 fun e w''=>e=.returned (.bool gb)∧ag w7 w'' from
         hgb▸P4 l hd.a hd.c (eG c.ai g.aI) d.a d.c T.ac T.name T.owner A2 _ c2 A3 _ c3 g.right true w7 slG sl7)
        clear slG sl7;go_wp2_with fail;refine CG.out.mono ?_;rintro e w8 ⟨rfl,a8⟩;have HM8:=gH (Hc.out.to a8);have A8:=gH (A7.out.trans a8);have RX8:=gH (Y8.out.aH a8);clear y0 y1 y2 y3 y4 y5 yz v0 v1 v2 v3 v4 vz LK7 CG a8;obtain ⟨y0,y1,y2,y3,y4,y5,yz⟩:=mN RX8.out
        cases gb
        case false =>
         have HJ:=gH (show eF c l g=false by rw [Mb.out];rfl);go_wp2
         go_roundw
         case rel=>exact ⟨k+1,rfl,by omega,by go_num,A8.out,bC (p:=fun j=>∀ (hj:j < c.af.length),je l c.af[j]=false→eF c l c.af[j]=false) Vi.out (fun _ _=>by rw [HG.out,HJ.out])⟩
         case measure=>simp [intOf];omega
        case true =>
         have HJ:=gH (show eF c l g=true by rw [Mb.out];rfl);go_wp2_with fail;have zbh:bh < wr.heap.size:=HZR.out
         have KS:=gH (show ∀ V,ag w8 V→V.cell? ⟨wr.heap.size,0,none⟩=some (.string g.ac)∧V.cell? ⟨wr.heap.size,1,none⟩=some (.string g.table)∧V.cell? ⟨wr.heap.size,2,none⟩=some (.int .i64 g.right)∧V.cell? ⟨wr.heap.size,3,none⟩=some (.string g.aI)∧V.cell? ⟨wr.heap.size,4,none⟩=some (.string g.to)∧V.cell? ⟨wr.heap.size,5,none⟩=some (.bool g.opt) from fun V a=>by
          have p:=RX8.out.aH a
          exact ⟨p.cell (j:=0) rfl,p.cell (j:=1) rfl,p.cell (j:=2) rfl,p.cell (j:=3) rfl,p.cell (j:=4) rfl,p.cell (j:=5) rfl⟩)
         have Qd:=gH (show ∀ V V',ag w8 V→V.grownBy V' (some bh)→V'.cell? ⟨wr.heap.size,0,none⟩=some (.string g.ac)∧V'.cell? ⟨wr.heap.size,1,none⟩=some (.string g.table)∧V'.cell? ⟨wr.heap.size,2,none⟩=some (.int .i64 g.right)∧V'.cell? ⟨wr.heap.size,3,none⟩=some (.string g.aI)∧V'.cell? ⟨wr.heap.size,4,none⟩=some (.string g.to)∧V'.cell? ⟨wr.heap.size,5,none⟩=some (.bool g.opt) from fun V V' a gr=>by
          obtain ⟨h0,h1,h2,h3,h4,h5⟩:=KS.out V a;have kb:=Kb.dF gr
          exact ⟨kb.cell h0 (fun e=>by simp only [Option.some.injEq] at e;omega),kb.cell h1 (fun e=>by simp only [Option.some.injEq] at e;omega),kb.cell h2 (fun e=>by simp only [Option.some.injEq] at e;omega),kb.cell h3 (fun e=>by simp only [Option.some.injEq] at e;omega),kb.cell h4 (fun e=>by simp only [Option.some.injEq] at e;omega),kb.cell h5 (fun e=>by simp only [Option.some.injEq] at e;omega)⟩)
         have IK:=gH HM8.out
         have UA:l.length < maxLen:=by unfold maxLen;omega
         clear y0 y1 y2 y3 y4 y5 yz
         go_region_held3 (fun V=>V.cell? ⟨wr.heap.size,0,none⟩=some (.string g.ac)∧V.cell? ⟨wr.heap.size,1,none⟩=some (.string g.table)∧V.cell? ⟨wr.heap.size,2,none⟩=some (.int .i64 g.right)∧V.cell? ⟨wr.heap.size,3,none⟩=some (.string g.aI)∧V.cell? ⟨wr.heap.size,4,none⟩=some (.string g.to)∧V.cell? ⟨wr.heap.size,5,none⟩=some (.bool g.opt))
          (first | exact KS.out _ (ag.refl _).drew | exact KS.out _ A5.out | exact K6.out | exact K7.out)
          ((go_at_call 133;refine (Tm g _).mono ?_;rintro e u5 ⟨rfl,a5⟩;have A5:=gH ((ag.refl w8).drew.trans a5);clear a5;have Qf:=(IK.out.to A5.out).mh.Ep oG Tryz.underlying182 (mU u5) (lj g) (ji g) (mS g wY.out);rw [mV l g sI.out wY.out,Eu.out,if_neg (by decide)] at Qf;unfold lj at Qf;obtain ⟨q0,st,u6,u7,E6,G6,L6,S7,M7,G7⟩:=(IK.out.to A5.out).mh.entry yK Tryz.underlying182 mU UA (lj g) (ji g) (mS g wY.out) (.int .i64 (IntKind.i64.wrap 1));rw [mV l g sI.out wY.out,Eu.out,if_neg (by decide)] at L6;unfold lj at E6 L6;simp only [goInt] at E6 S7;have K6:=gH (Qd.out u5 u6 A5.out G6);have K7:=gH (Qd.out u5 u7 A5.out G7);have IL:=gH (And.intro M7 G7);clear M7 G7 G6))
         all_goals
          have Hc:=gH (show Kb (fun g=>g=bh) wF u7∧eH Tryz.prog 189 u7 bh (l++[g]).length (.int .i64 0) (rK (l++[g]))∧u7.ownsRow wF.heap.size 177 6 (.slice hd.a l.length hd.c) l.length (l.flatMap eM)∧wF.heap.size≤u7.heap.size from by
           have kb:Kb (fun g=>g=bh) u5 u7:=(Kb.dF IL.out.2).mono fun g _ e=>(Option.some.inj e).symm
           have h5:=IK.out.to A5.out;have hr:=h5.row;rw [bY hr] at hr;refine ⟨h5.kb.trans kb,?_,bB hr kb fun g hg e=>by have:=(hr.lt g hg).1;have:=XT.out;omega,Nat.le_trans h5.kb.size kb.size⟩;rw [yN,List.length_append]
           exact IL.out.1)
          obtain ⟨k0,k1,k2,k3,k4,k5⟩:=K7.out;have zu:wr.heap.size < u7.heap.size:=World.block_lt_of_cell? u7 ⟨wr.heap.size,0,none⟩ k0;have zF7:wF.heap.size≤u7.heap.size:=Hc.out.2.2.2
          have AZ:l.length≤1000000:=by omega
          clear E6 L6 S7 Qf
          go_wp2_with (at_builtin;go_must (refine pF rfl _ _ rfl wF.heap.size (.slice hd.a l.length hd.c) l.length (l.flatMap eM) rfl (cj Hc.out.2.2.1 ((ag.refl u7).alloc _)) u7.heap.size g rfl (heap_alloc_new u7 _) AZ (by simp;omega) ?_);intro gg cap' u8 km hgrow hat;have Ev:=gH (And.intro km (And.intro hgrow hat));clear km hgrow hat)
          refine ⟨⟨l++[g],⟨some ⟨gg,0,none⟩,l.length+1,cap'⟩,by simp,L8.next IK.out.BG Hb.out Eu.out HJ.out Hc.out XT.out Ev.out.1 Ev.out.2.1⟩,?_⟩
          show c.af.length - (l.length+1) < c.af.length - l.length
          have:=(IK.out.BG.add Hb.out Eu.out HJ.out).len;rw [List.length_append] at this;simp only [List.length_cons,List.length_nil] at this;omega
     ·have hm:=HM.out.to L9.out
      have pc:∀ g∈c.af,je l g=false→eF c l g=false:=fun g hg=>by
       obtain ⟨j,hj,rfl⟩:=List.getElem_of_mem hg;exact Vi.out j (by omega) hj
      have hr:=hm.row;rw [bY hr] at hr;have CS:=gH (L5 hd wF.heap.size l hm.nil (by omega) wr hr);have Y9:=gH pc;have AWr:=gH (KA.out wr hm.kb).1;clear hm pc hr;go_wp2_with fail;refine CS.out.mono ?_;rintro e w9 ⟨rfl,l',hp,hs,ho,ha⟩
      have HE:=gH (show l'=cH c from by
       have:=HM.out.BG.sorted (bL.1 wX.out).2.2.2 Y9.out hp (fun i j hi hj pg=>Int.not_lt.2 (hs i j hi hj pg))
       rw [this];unfold cH;rw [if_pos wX.out])
      have HL:=gH (show l'.length=l.length from hp.length_eq);have HA:=gH (ha w AWr.out zFw.out);have HO:=gH ho;clear hp hs ho ha;go_wp2_with fail;rw [Exit.noGoto_ret];go_ret;refine ⟨⟨hd.a,l.length,hd.c⟩,rfl,HA.out,?_⟩;rw [← HE.out];have ho:=HO.out;rw [← HL.out] at ho
      show w9.ownsRow w.heap.size _ 6 (.slice hd.a l.length hd.c) _ _
      rw [← HL.out];exact bS ho zFw.out
end Go.Proofs.YtakddkhipelmjaaGreat
