import Derived.DeepKeys3
import Derived.ChangeKeys
import Derived.WideKeyEntry
import Derived.WalkMore
import Derived.Test.YtakddkhipelmjaaGreatPartH11
set_option maxRecDepth 100000
set_option linter.unusedVariables false
set_option maxHeartbeats 64000000
namespace Go.Proofs.YtakddkhipelmjaaGreat
open Go.Deep Go.RowKit
theorem xj (c:bS) (h:¬ c.ah.length≤64):bH c=false:=by unfold bH;rw [decide_eq_false h];rfl
theorem ip (c:bS) (k:Nat) (hk:k < c.ah.length) (h:gD c c.ah[k]=false):bH c=false:=by
 unfold bH;rw [all_false _ _ k hk h];simp
theorem pD (c:bS) (k:Nat) (hk:k < c.ah.length) (h0:0 < k) (h:0≤eM (c.ah[k - 1]'(by omega)) c.ah[k]):bH c=false:=by
 have h1:k - 1+1 < c.ah.length:=by omega
 have e:(c.ah[k - 1+1]'h1)=c.ah[k]:=by congr 1;omega
 unfold bH;rw [iT _ _ (k - 1) h1 (by rw [e];exact h)];simp
structure SN (w:World) (B3:Nat) (l0:List Value) (p:cD) (wr:World):Prop where
 aA:ag w wr
 box:ai wr w.heap.size l0
 last:ai wr B3 [.string p.af,.string p.table,.int .i64 p.right,.string p.aI,.string p.to]
theorem SN.to {w:World} {B3:Nat} {l0:List Value} {p:cD} {wr w':World} (h:SN w B3 l0 p wr) (a:ag wr w'):SN w B3 l0 p w':=⟨h.aA.trans a,h.box.aA a,h.last.aA a⟩
theorem D8 (a b:cD):kL b a=true↔eM a b=0:=by rw [lW,zK]
theorem Cy (c:bS) (As:Option Addr) (ax:Nat) (At:Option Addr) (aD:Nat) (An:Option Addr) (aH:Nat) (Am:Option Addr) (aL:Nat) (Ag:Option Addr) (aP:Nat) (w:World) (H:gl w c As ax At aD An aH Am aL Ag aP) :
  Calls Tryz.prog 87 #[.agg #[.int .i64 c.av,.int .i64 c.version,.slice As c.aj.ae.length ax,.slice At c.aj.tables.length aD,.slice An c.ar.names.length aH,.slice Am c.ar.members.length aL,.slice Ag c.ah.length aP]] w fun e w'=>e=.returned (.bool (bH c))∧ag w w':=by
 have hlen:=H.qr.len;obtain ⟨W,hW⟩:∃ W,W=w.alloc (.cells #[.int .i64 c.av,.int .i64 c.version,.slice As c.aj.ae.length ax,.slice At c.aj.tables.length aD,.slice An c.ar.names.length aH,.slice Am c.ar.members.length aL,.slice Ag c.ah.length aP] 32):=⟨_,rfl⟩
 have aW:ag w W:=by rw [hW];exact (ag.refl w).alloc _
 have r0:ai W (w.heap.size) [.int .i64 c.av,.int .i64 c.version,.slice As c.aj.ae.length ax,.slice At c.aj.tables.length aD,.slice An c.ar.names.length aH,.slice Am c.ar.members.length aL,.slice Ag c.ah.length aP]:=by rw [hW];exact aR (ag.refl _) (by simp)
 obtain ⟨ck,jL⟩:∃ b,bD c.aj=b:=⟨_,rfl⟩;obtain ⟨rk,sS⟩:∃ b,bI c.ar=b:=⟨_,rfl⟩;obtain ⟨ro,hro⟩:∃ b,eu c.ar.names cI=b:=⟨_,rfl⟩;obtain ⟨ow,how⟩:∃ b,gC c=b:=⟨_,rfl⟩;have HS:=gH (show bH c=(decide (c.ah.length≤64)&&ck&&rk&&ro&&ow&&(c.ah.all (gD c)&&aM eM c.ah)) by unfold bH;rw [jL,sS,hro,how]);have C1:=gH (show ∀ w',ag W w'→Calls Tryz.prog 111 #[.agg #[.slice As c.aj.ae.length ax,.slice At c.aj.tables.length aD]] w' fun e w''=>e=.returned (.int .i64 (if ck=true then 0 else 63))∧ag w' w'' from fun w' a=>(oN c.aj As ax At aD w' (bQ (aW.trans a) H.fS) (bC (aW.trans a) H.tab)).mono fun e w'' ⟨he,hw⟩=>⟨he.trans (by unfold eC;rw [jL]),hw⟩);have C2:=gH (show ∀ w',ag W w'→Calls Tryz.prog 151 #[.agg #[.slice An c.ar.names.length aH,.slice Am c.ar.members.length aL]] w' fun e w''=>e=.returned (.int .i64 (if rk=true then 0 else 1))∧ag w' w'' from fun w' a=>sS▸OC c.ar An aH Am aL w' (aU (aW.trans a) H.kw) (df (aW.trans a) H.mem));have C3:=gH (show ∀ w',ag W w'→Calls Tryz.prog 69 #[.slice An c.ar.names.length aH,.string ⟨#[114,111,111,116]⟩] w' fun e w''=>e=.returned (.bool ro)∧w'=w'' from fun w' a=>hro▸jc An aH c.ar.names cI w' (aU (aW.trans a) H.kw));have C4:=gH (show ∀ w',ag W w'→Calls Tryz.prog 152 #[.agg #[.int .i64 c.av,.int .i64 c.version,.slice As c.aj.ae.length ax,.slice At c.aj.tables.length aD,.slice An c.ar.names.length aH,.slice Am c.ar.members.length aL,.slice Ag c.ah.length aP]] w' fun e w''=>e=.returned (.bool ow)∧ag w' w'' from fun w' a=>how▸Kh c As ax At aD An aH Am aL Ag aP w' (H.aA (aW.trans a)))
 have CN:=gH (show ∀ w',ag w w'→∀ s,Calls Tryz.prog 69 #[.slice An c.ar.names.length aH,.string s] w' fun e w''=>e=.returned (.bool (eu c.ar.names s))∧w'=w'' from fun w' a s=>jc An aH c.ar.names s w' (aU a H.kw));have CT:=gH (show ∀ w',ag w w'→∀ s n,Calls Tryz.prog 132 #[.agg #[.int .i64 c.av,.int .i64 c.version,.slice As c.aj.ae.length ax,.slice At c.aj.tables.length aD,.slice An c.ar.names.length aH,.slice Am c.ar.members.length aL,.slice Ag c.ah.length aP],.string s,.string n] w' (Ox w' c.aj s n) from fun w' a s n=>zJ c As ax At aD An aH Am aL Ag aP s n w' (bC a H.tab));have HH:=gH H;have cu:=gH aW;have kJ:=gH r0;clear jL sS hro how H aW r0
 go_in
 by_cases m64:c.ah.length≤64
 case neg =>
  have WP:(64:Int) < (c.ah.length:Int):=by omega
  have HF:=gH (xj c m64);go_wp2;go_ret;exact ⟨by rw [HF.out];rfl,(ag.refl _).alloc _⟩
 have WP:¬ (64:Int) < (c.ah.length:Int):=by omega
 go_wp2_with fail;rw [← hW];refine (C1.out W (ag.refl W)).mono ?_;rintro e w1 ⟨rfl,a1⟩;clear hW;have H1:=gH a1;have p0:=kJ.out.aA a1;have x2:=p0.cell (j:=2) rfl;have x3:=p0.cell (j:=3) rfl;have x4:=p0.cell (j:=4) rfl;have x5:=p0.cell (j:=5) rfl;have x6:=p0.cell (j:=6) rfl;have x0:=p0.cell (j:=0) rfl;have x1:=p0.cell (j:=1) rfl;have xz:=p0.1;clear a1 p0
 cases ck
 case false =>
  have HF:=gH (show bH c=false by rw [HS.out];simp);go_wp2;go_ret;exact ⟨by rw [HF.out];rfl,cu.out.trans H1.out⟩
 go_wp2_with fail;refine (C2.out w1 H1.out).mono ?_;rintro e w2 ⟨rfl,a2⟩;clear x0 x1 x2 x3 x4 x5 x6 xz;have H2:=gH (H1.out.trans a2);have p0:=kJ.out.aA (H1.out.trans a2);have x2:=p0.cell (j:=2) rfl;have x3:=p0.cell (j:=3) rfl;have x4:=p0.cell (j:=4) rfl;have x5:=p0.cell (j:=5) rfl;have x6:=p0.cell (j:=6) rfl;have x0:=p0.cell (j:=0) rfl;have x1:=p0.cell (j:=1) rfl;have xz:=p0.1;clear a2 p0 H1
 cases rk
 case false =>
  have HF:=gH (show bH c=false by rw [HS.out];simp);go_wp2;go_ret;exact ⟨by rw [HF.out];rfl,cu.out.trans H2.out⟩
 go_wp2_with fail;refine (C3.out w2 H2.out).mono ?_;rintro e w3 ⟨rfl,rfl⟩
 cases ro
 case false =>
  have HF:=gH (show bH c=false by rw [HS.out];simp);go_wp2;go_ret;exact ⟨by rw [HF.out];rfl,cu.out.trans H2.out⟩
 go_wp2_with fail;refine (C4.out w2 H2.out).mono ?_;rintro e w4 ⟨rfl,a4⟩;clear x0 x1 x2 x3 x4 x5 x6 xz;have H4:=gH (H2.out.trans a4);have p0:=kJ.out.aA (H2.out.trans a4);have x6:=p0.cell (j:=6) rfl;have xz:=p0.1;clear a4 p0 H2
 cases ow
 case false =>
  have HF:=gH (show bH c=false by rw [HS.out];simp);go_wp2;go_ret;exact ⟨by rw [HF.out];rfl,cu.out.trans H4.out⟩
 obtain ⟨B3,WQ⟩:∃ B,B=w4.heap.size:=⟨_,rfl⟩
 have zB:w.heap.size+1≤B3:=by have:=kJ.out.1;have:=(cu.out.trans H4.out).size;have:=H4.out.size;omega
 have S0:=gH (show SN w B3 [.int .i64 c.av,.int .i64 c.version,.slice As c.aj.ae.length ax,.slice At c.aj.tables.length aD,.slice An c.ar.names.length aH,.slice Am c.ar.members.length aL,.slice Ag c.ah.length aP] ⟨⟨#[]⟩,⟨#[]⟩,0,⟨#[]⟩,⟨#[]⟩,false⟩ (w4.alloc (.cells #[.string ⟨#[]⟩,.string ⟨#[]⟩,.int .i64 0,.string ⟨#[]⟩,.string ⟨#[]⟩] 189)) from by
  have a:=(ag.refl w4).alloc (.cells #[.string ⟨#[]⟩,.string ⟨#[]⟩,.int .i64 0,.string ⟨#[]⟩,.string ⟨#[]⟩] 189)
  exact ⟨(cu.out.trans H4.out).trans a,(kJ.out.aA H4.out).aA a,by rw [WQ];exact aN (c:=[.string ⟨#[]⟩,.string ⟨#[]⟩,.int .i64 0,.string ⟨#[]⟩,.string ⟨#[]⟩]) (ag.refl _)⟩)
 go_wp2_with fail;rw [← WQ]
 go_loopw [39] (fun i wr=>∃ (k:Nat) (p:cD),k≤c.ah.length∧i=.int .i64 k∧SN w B3 [.int .i64 c.av,.int .i64 c.version,.slice As c.aj.ae.length ax,.slice At c.aj.tables.length aD,.slice An c.ar.names.length aH,.slice Am c.ar.members.length aL,.slice Ag c.ah.length aP] p wr∧(0 < k→∀ (h:k - 1 < c.ah.length),eF p=eF c.ah[k - 1])∧∀ j,j < k→∀ (hj:j < c.ah.length),gD c c.ah[j]=true∧(0 < j→eM (c.ah[j - 1]'(by omega)) c.ah[j] < 0)) (fun i _=>c.ah.length - (intOf i).toNat)
 case atStart=>exact ⟨0,_,Nat.zero_le _,rfl,S0.out,fun h=>absurd h (by omega),fun j hj=>absurd hj (Nat.not_lt_zero j)⟩
 case round =>
  clear x6 xz S0 WQ;obtain ⟨k,p,hk,rfl,hs,hp,hall⟩:=hrel;have HP:=gH hp;have Kj:=gH hall;have SR:=gH hs;by_cases hlt:k < c.ah.length
  case neg =>
   clear hp hall hs
   have HF:=gH (show bH c=true by
    rw [HS.out,decide_eq_true m64,all_true _ _ fun j hj=>(Kj.out j (by omega) hj).1,zL eM c.ah fun j h1 hj=>(Kj.out j (by omega) hj).2 (by omega)];rfl)
   go_wp2;go_ret;exact ⟨by rw [HF.out];rfl,SR.out.aA⟩
  obtain ⟨b,off,rfl,hb,t0,t1,t2,t3,t4,t5,sg⟩:=qT (gB hs.aA HH.out.qr) hlt;obtain ⟨g,hg⟩:∃ g,c.ah[k]=g:=⟨_,rfl⟩;rw [hg] at t0 t1 t2 t3 t4 t5 sg;have p0:=hs.box;obtain ⟨x0,x1,x2,x3,x4,x5,x6,xz⟩:=j7 p0;obtain ⟨G,hG⟩:∃ V,V=wr.alloc (.cells #[.string g.af,.string g.table,.int .i64 g.right,.string g.aI,.string g.to,.bool g.opt] 177):=⟨_,rfl⟩
  have aG:ag wr G:=by rw [hG];exact (ag.refl wr).alloc _
  have SG:=gH (hs.to aG);have RG:=gH (show ai G wr.heap.size [.string g.af,.string g.table,.int .i64 g.right,.string g.aI,.string g.to,.bool g.opt] by rw [hG];exact aN (ag.refl _));have C:=gH (CT.out G (hs.aA.trans aG) g.af g.table);have HG:=gH hg;have zM:=gH (show gD c c.ah[k]=(decide (0≤bt c.aj.tables g.af g.table)&&nN g.right&&!aS g.aI g.to&&eu c.ar.names g.aI&&eu c.ar.names g.to) by rw [hg];rfl);clear hp hall hs hg aG p0 sg;go_wp2_with fail;rw [← hG];clear hG;refine C.out.mono ?_;rintro e w5 ⟨A2,c2,A3,c3,rfl,a5⟩;generalize kR c.aj g.af g.table=T;obtain ⟨tb,JN⟩:∃ tb,decide (0≤bt c.aj.tables g.af g.table)=tb:=⟨_,rfl⟩;obtain ⟨kb,hkb⟩:∃ kb,nN g.right=kb:=⟨_,rfl⟩;obtain ⟨eb,WR⟩:∃ eb,aS g.aI g.to=eb:=⟨_,rfl⟩;obtain ⟨i1,sU⟩:∃ i,eu c.ar.names g.aI=i:=⟨_,rfl⟩;obtain ⟨i2,qs⟩:∃ i,eu c.ar.names g.to=i:=⟨_,rfl⟩;rw [JN,hkb,WR,sU,qs] at zM;rw [JN];have K1:=gH (show ∀ w',Calls Tryz.prog 153 #[.int .i64 g.right] w' fun e w''=>e=.returned (.bool kb)∧w'=w'' from fun w'=>hkb▸SJ g.right w');obtain ⟨X,hX⟩:∃ V,V=w5.alloc (.cells #[.string T.af,.string T.name,.string T.owner,.slice A2 T.au.length c2,.slice A3 T.rules.length c3] 80):=⟨_,rfl⟩
  have aX:ag w5 X:=by rw [hX];exact (ag.refl w5).alloc _
  have SW:=gH (SG.out.to (a5.trans aX));have N1:=gH (show Calls Tryz.prog 69 #[.slice An c.ar.names.length aH,.string g.aI] X fun e w''=>e=.returned (.bool i1)∧X=w'' from sU▸CN.out X SW.out.aA g.aI);have N2:=gH (show Calls Tryz.prog 69 #[.slice An c.ar.names.length aH,.string g.to] X fun e w''=>e=.returned (.bool i2)∧X=w'' from qs▸CN.out X SW.out.aA g.to);have RX:=RG.out.aA (a5.trans aX);clear t0 t1 t2 t3 t4 t5 x0 x1 x2 x3 x4 x5 x6 xz hb;obtain ⟨e0,e1,e2,e3,e4,e5,ez⟩:=Cv RX;have p0:=SW.out.box;have x4:=p0.cell (j:=4) rfl;have x6:=p0.cell (j:=6) rfl;have xz:=p0.1;have y0:=(RG.out.aA a5).cell (j:=0) rfl;have y2:=(RG.out.aA a5).cell (j:=2) rfl;have y3:=(RG.out.aA a5).cell (j:=3) rfl;have y4:=(RG.out.aA a5).cell (j:=4) rfl;have yz:=(RG.out.aA a5).1;have q0:=(SG.out.to a5).box;have v4:=q0.cell (j:=4) rfl;have vz:=q0.1;clear aX RX p0 q0 JN hkb sU qs a5;have aag:(g.aI.toList==g.to.toList)=eb:=WR;clear WR
  cases tb
  case false =>
   have HF:=gH (ip c k hlt (by rw [zM.out];rfl));go_wp2;go_ret;exact ⟨by rw [HF.out];rfl,by rw [← hX];exact SW.out.aA⟩
  cases kb
  case false =>
   have HF:=gH (ip c k hlt (by rw [zM.out];rfl));go_wp2_with fail;refine (K1.out _).mono ?_;rintro e w6 ⟨rfl,rfl⟩;go_wp2;go_ret;exact ⟨by rw [HF.out];rfl,by rw [← hX];exact SW.out.aA⟩
  cases eb
  case true =>
   have HF:=gH (ip c k hlt (by rw [zM.out];rfl));go_wp2_with fail;refine (K1.out _).mono ?_;rintro e w6 ⟨rfl,rfl⟩;go_wp2;go_ret;exact ⟨by rw [HF.out];rfl,by rw [← hX];exact SW.out.aA⟩
  go_wp2_with fail;refine (K1.out _).mono ?_;rintro e w6 ⟨rfl,rfl⟩;clear y0 y2 y3 y4 yz v4 vz;rw [← hX];clear hX;go_wp2_with fail;refine N1.out.mono ?_;rintro e w6 ⟨rfl,rfl⟩
  cases i1
  case false =>
   have HF:=gH (ip c k hlt (by rw [zM.out];rfl));go_wp2;go_ret;exact ⟨by rw [HF.out];rfl,SW.out.aA⟩
  go_wp2_with fail;refine N2.out.mono ?_;rintro e w6 ⟨rfl,rfl⟩
  cases i2
  case false =>
   have HF:=gH (ip c k hlt (by rw [zM.out];rfl));go_wp2;go_ret;exact ⟨by rw [HF.out];rfl,SW.out.aA⟩
  have fV:=gH (show gD c c.ah[k]=true by rw [zM.out];rfl);go_wp2_with fail;by_cases h0:0 < k
  case neg =>
   have w5:decide ((0:Int) < (k:Int))=false:=decide_eq_false (by omega)
   have w6:¬ (0:Int) < (k:Int):=by omega
   have CO:=gH True.intro;have CR:=gH True.intro;refine ay (by kernel_rfl) (by kernel_rfl) ?_
   repeat (go_big_quiet_step ((first | (go_at_call 133;exact Calls.bk (CO.out _)) | (go_at_call 137;exact Calls.bk (CR.out _)))))
   refine wpQuiet_nil ?_;intro _ hw';obtain ⟨x,hw''⟩:=hw';subst hw'';go_wp2_with fail;refine (Q4 g _).mono ?_;rintro e w7 ⟨rfl,a7⟩;have S7:=gH (SW.out.to (((ag.refl _).bV x).trans a7));have r7:=S7.out.last;obtain ⟨d0,d1,d2,d3,d4⟩:=pW r7;obtain ⟨f0,f1,f2,f3,f4⟩:=zo r7;have z7:=r7.1;clear a7 r7;go_wp2
   go_roundw
   case rel =>
    refine ⟨k+1,g,by omega,by go_num,⟨(ie _ _ _ _ _ _ _).aJ S7.out.aA (fun _ _ e=>by omega),(ie _ _ _ _ _ _ _).row S7.out.box (by omega),jb S7.out.last rfl _ _ _ _ _⟩,fun _ h=>by rw [← HG.out];rfl,dG (p:=fun j=>∀ (hj:j < c.ah.length),gD c c.ah[j]=true∧(0 < j→eM (c.ah[j - 1]'(by omega)) c.ah[j] < 0)) Kj.out (fun _=>⟨fV.out,fun h=>absurd h h0⟩)⟩
   case measure=>simp [intOf];omega
  have w5:decide ((0:Int) < (k:Int))=true:=decide_eq_true (by omega)
  have w6:(0:Int) < (k:Int):=by omega
  have mS:k - 1 < c.ah.length:=by omega
  obtain ⟨b',off',hA',hb',s0,s1,s2,s3,s4,s5,_⟩:=qT (gB SW.out.aA HH.out.qr) mS;simp only [Option.some.injEq,Addr.mk.injEq,and_true] at hA';obtain ⟨rfl,rfl⟩:=hA';obtain ⟨p',Kk⟩:∃ p',(c.ah[k - 1]'(by omega))=p':=⟨_,rfl⟩;rw [Kk] at s0 s1 s2 s3 s4 s5;have FJ:=gH Kk;have HPE:=gH (show eF p=eF p' by rw [← Kk];exact HP.out h0 mS);have v1:IntKind.i64.wrap ((k:Int) - 1)=(k:Int) - 1:=IntWalk.i64_in _ (by omega)
  have v2:(0:Int)≤(k:Int) - 1:=by omega
  have v3:((k:Int) - 1).toNat=k - 1:=by omega
  have v4:(k:Int) - 1 < (c.ah.length:Int):=by omega
  have r7:=SW.out.last;obtain ⟨d0,d1,d2,d3,d4⟩:=pW r7;have z7:=r7.1;have CO:=gH (show ∀ x:iM X,Calls Tryz.prog 133 #[.agg #[.string g.af,.string g.table,.int .i64 g.right,.string g.aI,.string g.to,.bool g.opt]] (bV X x) fun e w''=>e=.returned (.agg #[.string g.af,.string g.table,.int .i64 g.right,.string g.aI,.string g.to])∧ag (bV X x) w'' from fun x=>Q4 g _);obtain ⟨z,hz⟩:∃ z,eM p' g=z:=⟨_,rfl⟩;have CR:=gH (show ∀ x:iM X,Calls Tryz.prog 137 #[.agg #[.string p'.af,.string p'.table,.int .i64 p'.right,.string p'.aI,.string p'.to,.bool p'.opt],.agg #[.string g.af,.string g.table,.int .i64 g.right,.string g.aI,.string g.to,.bool g.opt]] (bV X x) fun e w''=>e=.returned (.int .i64 z)∧ag (bV X x) w'' from fun x=>hz▸Ow p' g _);obtain ⟨fb,hfb⟩:∃ fb,my g.af g.table g.right g.aI g.to p.af p.table p.right p.aI p.to=fb:=⟨_,rfl⟩
  have Zv:=gH (show (eM p' g=0)↔fb=true from by
   rw [← hfb,Gr,gm,HPE.out,← gm,D8])
  have HZ:=gH hz;clear r7 Kk hz
  cases fb
  case true =>
   have HF:=gH (pD c k hlt h0 (by rw [FJ.out,HG.out,Zv.out.2 rfl];exact Int.le_refl _));refine ay (by kernel_rfl) (by kernel_rfl) ?_
   repeat (go_big_quiet_step (first | (go_at_call 133;exact Calls.bk (CO.out _)) | (go_at_call 137;exact Calls.bk (CR.out _))))
   refine wpQuiet_nil ?_;intro _ hw';obtain ⟨x,hw''⟩:=hw';subst hw'';go_wp2;go_ret;exact ⟨by rw [HF.out];rfl,(SW.out.to ((ag.refl _).bV x)).aA⟩
  have hz0:z≠0:=fun e=>by have:=Zv.out.1 (HZ.out.trans e);cases this
  by_cases hzp:(0:Int) < z
  ·have HF:=gH (pD c k hlt h0 (by rw [FJ.out,HG.out,HZ.out];omega))
   clear hz0;refine ay (by kernel_rfl) (by kernel_rfl) ?_
   repeat (go_big_quiet_step (first | (go_at_call 133;exact Calls.bk (CO.out _)) | (go_at_call 137;exact Calls.bk (CR.out _))))
   refine wpQuiet_nil ?_;intro _ hw';obtain ⟨x,hw''⟩:=hw';subst hw'';go_wp2;go_ret;exact ⟨by rw [HF.out];rfl,(SW.out.to ((ag.refl _).bV x)).aA⟩
  ·have HLT:=gH (show eM (c.ah[k - 1]'(by omega)) c.ah[k] < 0 by rw [FJ.out,HG.out,HZ.out];omega)
   clear hz0;refine ay (by kernel_rfl) (by kernel_rfl) ?_
   repeat (go_big_quiet_step (first | (go_at_call 133;exact Calls.bk (CO.out _)) | (go_at_call 137;exact Calls.bk (CR.out _))))
   refine wpQuiet_nil ?_;intro _ hw';obtain ⟨x,hw''⟩:=hw';subst hw'';go_wp2_with fail;refine (Q4 g _).mono ?_;rintro e w7 ⟨rfl,a7⟩;have S7:=gH (SW.out.to (((ag.refl _).bV x).trans a7));have r7:=S7.out.last;obtain ⟨d0,d1,d2,d3,d4⟩:=pW r7;obtain ⟨f0,f1,f2,f3,f4⟩:=zo r7;have z7:=r7.1;clear a7 r7;go_wp2
   go_roundw
   case rel =>
    refine ⟨k+1,g,by omega,by go_num,⟨(ie _ _ _ _ _ _ _).aJ S7.out.aA (fun _ _ e=>by omega),(ie _ _ _ _ _ _ _).row S7.out.box (by omega),jb S7.out.last rfl _ _ _ _ _⟩,fun _ h=>by rw [← HG.out];rfl,dG (p:=fun j=>∀ (hj:j < c.ah.length),gD c c.ah[j]=true∧(0 < j→eM (c.ah[j - 1]'(by omega)) c.ah[j] < 0)) Kj.out (fun _=>⟨fV.out,fun _=>HLT.out⟩)⟩
   case measure=>simp [intOf];omega
def qY:bS:=⟨0,0,⟨[],[]⟩,⟨[],[]⟩,[]⟩
def laid (l:List cD) (g:cD):List cD:=if ml l g then l.map (fun y=>if kL y g then { y with opt:=y.opt || g.opt } else y) else cP l (dP eM l g) g
noncomputable def mE (c:bS) (g:cD):bS × Int :=
 if !dU c || !nN g.right || aS g.aI g.to then (qY,1)
 else if bt c.aj.tables g.af g.table < 0 then (qY,61)
 else if !eu c.ar.names g.aI || !eu c.ar.names g.to then (qY,71)
 else if !fy c c.ah g then (qY,91)
 else if decide (64≤c.ah.length)&&!ml c.ah g then (qY,2)
 else ({ c with ah:=laid c.ah g },0)
noncomputable def mG (c:bS) (role s n:ByteArray):Bool:=dU c&&(decide (0≤bt c.aj.tables s n)&&eu c.ar.names role)&&pA c.aj (ea c.ar role) (kR c.aj s n)
theorem gp {l:List cD}:aM eM l=true↔l.Pairwise fun a b=>eM a b < 0:=by
 constructor
 ·exact fun h=>List.pairwise_iff_getElem.2 fun i j hi hj mU=>ed oO.lt h i j hi hj mU
 ·exact fun h=>(cL _ _).2 fun k hk=>List.pairwise_iff_getElem.1 h k (k+1) (by omega) hk (by omega)
theorem bP {c:bS}:bH c=true↔c.ah.length≤64∧(bD c.aj=true∧bI c.ar=true∧eu c.ar.names cI=true∧gC c=true)∧(∀ g∈c.ah,gD c g=true)∧aM eM c.ah=true:=by
 unfold bH;simp only [Bool.and_eq_true,decide_eq_true_eq,List.all_eq_true];exact ⟨fun h=>⟨h.1.1.1.1.1,⟨h.1.1.1.1.2,h.1.1.1.2,h.1.1.2,h.1.2⟩,h.2⟩,fun h=>⟨⟨⟨⟨⟨h.1,h.2.1.1⟩,h.2.1.2.1⟩,h.2.1.2.2.1⟩,h.2.1.2.2.2⟩,h.2.2⟩⟩
theorem dX {c:bS}:dU c=true↔bH c=true∧∀ g∈c.ah,Held c g:=by
 unfold dU;rw [Bool.and_eq_true,beq_iff_eq]
 constructor
 ·rintro ⟨h1,h2⟩
  refine ⟨h1,fun g hg=>?_⟩;unfold cJ at h2;rw [if_pos h1,List.length_filter_eq_length_iff] at h2;exact j8.1 (h2 g hg)
 ·rintro ⟨h1,h2⟩
  refine ⟨h1,?_⟩;unfold cJ;rw [if_pos h1,List.length_filter_eq_length_iff]
  exact fun g hg=>j8.2 (h2 g hg)
theorem qZ {c:bS} (h:bH c=true) {l:List cD} (hl:l.Sublist c.ah):bH { c with ah:=l }=true:=by
 obtain ⟨h1,h2,h3,h4⟩:=bP.1 h;exact bP.2 ⟨Nat.le_trans hl.length_le h1,h2,fun g hg=>h3 g (hl.subset hg),gp.2 ((gp.1 h4).sublist hl)⟩
theorem xk {c c':bS} (ho:c'.aj=c.aj) (hr:c'.ar=c.ar) (f:cD→cD) (hf:∀ x∈c.ah,f x∈c'.ah∧eF (f x)=eF x∧(x.opt=true→(f x).opt=true)):∀ g,Held c g→Held c' (f g):=by
 intro g hg
 induction hg with
 | mk g l hg hl hj ih =>
  obtain ⟨h1,h2,h3⟩:=hf g hg;refine .mk (f g) (l.map f) h1 (fun x hx=>?_) ?_
  ·obtain ⟨y,hy,rfl⟩:=List.mem_map.1 hx
   exact ih y hy
  ·unfold eF at h2
   simp only [Prod.mk.injEq] at h2;obtain ⟨e1,e2,e3,e4,e5⟩:=h2;unfold fy at hj ⊢;rw [ho,hr,e4,e1,e2,e3];rw [Bool.or_eq_true] at hj ⊢
   refine hj.imp id fun hj=>?_
   unfold jK at hj ⊢;rw [List.any_eq_true] at hj ⊢;obtain ⟨x,hx,hx2⟩:=hj;obtain ⟨k1,k2,k3⟩:=hf x (hl x hx).mem;unfold eF at k2;simp only [Prod.mk.injEq] at k2;obtain ⟨d1,d2,d3,d4,d5⟩:=k2;refine ⟨f x,List.mem_map.2 ⟨x,hx,rfl⟩,?_⟩;rw [d1,d2,d3,d5];simp only [Bool.and_eq_true,Bool.not_true,Bool.or_false] at hx2 ⊢;exact ⟨⟨hx2.1.1,k3 hx2.1.2⟩,hx2.2⟩
theorem zN {c:bS} (h:bH c=true):dU { c with ah:=cJ c }=true:=by
 have hs:cJ c=c.ah.filter (mH c):=by unfold cJ;rw [if_pos h]
 refine dX.2 ⟨qZ h (by rw [hs];exact List.filter_sublist),fun g Zw=>?_⟩
 have Zx:g∈c.ah.filter (mH c):=by rw [← hs];exact Zw
 have hh:=j8.1 (List.mem_filter.1 Zx).2;clear Zx Zw
 induction hh with
 | mk g l hg hl hj ih =>
  refine .mk g l ?_ ih hj
  show g∈cJ c
  rw [hs];exact List.mem_filter.2 ⟨hg,j8.2 (.mk g l hg hl hj)⟩
theorem D9 {a b x y:cD} (h1:eF a=eF x) (h2:eF b=eF y):eM a b=eM x y:=by
 unfold eF at h1 h2;simp only [Prod.mk.injEq] at h1 h2;obtain ⟨a1,a2,a3,a4,a5⟩:=h1;obtain ⟨b1,b2,b3,b4,b5⟩:=h2;unfold eM;rw [a1,a2,a3,a4,a5,b1,b2,b3,b4,b5]
theorem oP {c c':bS} (ho:c'.aj=c.aj) (hr:c'.ar=c.ar) {a b:cD} (h:eF a=eF b):gD c' a=gD c b:=by
 unfold eF at h;simp only [Prod.mk.injEq] at h;obtain ⟨a1,a2,a3,a4,a5⟩:=h;unfold gD;rw [ho,hr,a1,a2,a3,a4,a5]
def mV (g y:cD):cD:=if kL y g then { y with opt:=y.opt || g.opt } else y
theorem lp (g y:cD):eF (mV g y)=eF y:=by unfold mV;split<;>rfl
theorem xl (g y:cD) (h:y.opt=true):(mV g y).opt=true:=by unfold mV;split<;>simp [h]
theorem oQ {l:List cD} {g:cD} (h:ml l g=false):∀ y∈l,kL y g=false:=by
 unfold ml at h;rw [List.any_eq_false] at h
 exact fun y hy=>by simpa using h y hy
theorem j9 {l:List cD} {g:cD} (h:ml l g=false):laid l g=cP l (dP eM l g) g:=by unfold laid;rw [h];rfl
theorem kf {l:List cD} {g:cD} (h:ml l g=true):laid l g=l.map (mV g):=by unfold laid;rw [h];rfl
theorem Gs (l:List cD) (g x:cD) (hx:x∈l):mV g x∈laid l g:=by
 cases h:ml l g
 ·rw [j9 h]
  have:mV g x=x:=by unfold mV;rw [oQ h x hx];rfl
  rw [this];exact bK.2 (.inr hx)
 ·rw [kf h];exact List.mem_map.2 ⟨x,hx,rfl⟩
theorem xm {l:List cD} {g x:cD} (h:x∈laid l g):eF x=eF g∨∃ y∈l,x=mV g y:=by
 cases hi:ml l g
 ·rw [j9 hi] at h
  rcases bK.1 h with e | e
  ·exact .inl (by rw [e])
  ·exact .inr ⟨x,e,by unfold mV;rw [oQ hi x e];rfl⟩
 ·rw [kf hi] at h
  obtain ⟨y,hy,e⟩:=List.mem_map.1 h;exact .inr ⟨y,hy,e.symm⟩
theorem zO {l:List cD} {g:cD} (hr:aM eM l=true):aM eM (laid l g)=true:=by
 cases hi:ml l g
 ·rw [j9 hi]
  refine gV oO.lt oO.dN hr fun y hy e=>?_
  have:=oQ hi y hy;rw [(lW _ _).1 e] at this;cases this
 ·rw [kf hi]
  refine gp.2 (List.pairwise_map.2 ((gp.1 hr).imp fun {a b} h=>?_));rw [D9 (lp g a) (lp g b)];exact h
theorem Gt {l:List cD} {g:cD} (h:l.length≤64) (hn:¬ (64≤l.length∧ml l g=false)):(laid l g).length≤64:=by
 cases hi:ml l g
 ·rw [j9 hi,eI _ _ _ (fT _ _ _)]
  have:¬ 64≤l.length:=fun h=>hn ⟨h,hi⟩
  omega
 ·rw [kf hi];simpa using h
structure OD (c:bS) (g:cD) (x:bS):Prop where
 whole:dU c=true
 ok:gD c g=true
 just:fy c c.ah g=true
 room:¬ (64≤c.ah.length∧ml c.ah g=false)
 is:x={ c with ah:=laid c.ah g }
theorem vy {c:bS} {g:cD} (h:(mE c g).2=0):OD c g (mE c g).1:=by
 unfold mE at h ⊢;by_cases h1:(!dU c || !nN g.right || aS g.aI g.to)=true
 ·rw [if_pos h1] at h;exact absurd h (by decide)
 rw [if_neg h1] at h ⊢;by_cases h2:bt c.aj.tables g.af g.table < 0
 ·rw [if_pos h2] at h;exact absurd h (by decide)
 rw [if_neg h2] at h ⊢;by_cases h3:(!eu c.ar.names g.aI || !eu c.ar.names g.to)=true
 ·rw [if_pos h3] at h;exact absurd h (by decide)
 rw [if_neg h3] at h ⊢;by_cases h4:(!fy c c.ah g)=true
 ·rw [if_pos h4] at h;exact absurd h (by decide)
 rw [if_neg h4] at h ⊢;by_cases h5:(decide (64≤c.ah.length)&&!ml c.ah g)=true
 ·rw [if_pos h5] at h;exact absurd h (by decide)
 rw [if_neg h5];simp only [Bool.or_eq_true,not_or,Bool.not_eq_true,Bool.and_eq_true,not_and,decide_eq_true_eq,Bool.not_eq_true',Bool.not_eq_false] at h1 h3 h4 h5;refine ⟨h1.1.1,?_,h4,fun ⟨a,b⟩=>(by have:=h5 a;rw [b] at this;cases this),rfl⟩;unfold gD;rw [h1.1.2,h1.2,h3.1,h3.2,decide_eq_true (show 0≤bt c.aj.tables g.af g.table by omega)];rfl
theorem OD.OE {c:bS} {g:cD} {x:bS} (h:OD c g x):dU x=true:=by
 obtain ⟨h1,h2⟩:=dX.1 h.whole;obtain ⟨k1,k2,k3,k4⟩:=bP.1 h1;have hx:=h.is
 have ho:x.aj=c.aj:=by rw [hx]
 have hr:x.ar=c.ar:=by rw [hx]
 have hg:x.ah=laid c.ah g:=by rw [hx]
 have hm:∀ y∈c.ah,Held x (mV g y):=fun y hy=>xk ho hr (mV g) (fun z hz=>⟨by rw [hg];exact Gs _ _ _ hz,lp _ _,xl _ _⟩) y (h2 y hy)
 refine dX.2 ⟨bP.2 ⟨by rw [hg];exact Gt k1 h.room,by rw [hx];exact k2,fun y hy=>?_,by rw [hg];exact zO k4⟩,fun y hy=>?_⟩
 ·rw [hg] at hy
  rcases xm hy with e | ⟨z,hz,e⟩
  ·rw [oP ho hr e];exact h.ok
  ·rw [oP ho hr (show eF y=eF z by rw [e];exact lp _ _)];exact k3 z hz
 ·rw [hg] at hy
  rcases xm hy with e | ⟨z,hz,e⟩
  ·refine .mk y (c.ah.map (mV g)) (by rw [hg];exact hy) (fun v hv=>?_) ?_
   ·obtain ⟨u,hu,rfl⟩:=List.mem_map.1 hv
    exact hm u hu
   ·have hj:=h.just
    unfold eF at e;simp only [Prod.mk.injEq] at e;obtain ⟨e1,e2,e3,e4,e5⟩:=e;unfold fy at hj ⊢;rw [ho,hr,e4,e1,e2,e3];rw [Bool.or_eq_true] at hj ⊢
    refine hj.imp id fun hj=>?_
    unfold jK at hj ⊢;rw [List.any_eq_true] at hj ⊢;obtain ⟨u,hu,Nl⟩:=hj;refine ⟨mV g u,List.mem_map.2 ⟨u,hu,rfl⟩,?_⟩;have k:=lp g u;unfold eF at k;simp only [Prod.mk.injEq] at k;obtain ⟨d1,d2,d3,d4,d5⟩:=k;rw [d1,d2,d3,d5];simp only [Bool.and_eq_true,Bool.not_true,Bool.or_false] at Nl ⊢;exact ⟨⟨Nl.1.1,xl g u Nl.1.2⟩,Nl.2⟩
  ·rw [e];exact hm z hz
theorem lq {c:bS} {g:cD} (h:gD c g=true):0≤bt c.aj.tables g.af g.table∧nN g.right=true∧aS g.aI g.to=false∧eu c.ar.names g.aI=true∧eu c.ar.names g.to=true:=by
 unfold gD at h;simp only [Bool.and_eq_true,decide_eq_true_eq,Bool.not_eq_true'] at h;exact ⟨h.1.1.1.1,h.1.1.1.2,h.1.1.2,h.1.2,h.2⟩
section
variable {P : Program} {k : TypeId} {w w' : World} {b n : Nat} {z : Value} {f : List UInt8 → Value}
theorem ee.Cz {t e:TypeId} (h:ee P k w b n z f) (K:Maps.Keyed P k) (ht:P.underlying t=some (.map k e)) (hz:(zeroValue e).run P w=.ok z w) (key:Value) (s:List UInt8) (hs:keyOf P k key=some (.string s)) :
  (Instr.lookup t (.map (some b)) key false).run P w=.ok (f s) w:=by
 obtain ⟨D,hD,ho,hf⟩:=h;obtain ⟨v,ps,hrun,hv⟩:=ho.lookup K ht hz (zd:=.held z) (zp:=[]) rfl hs;rw [hf] at hv;unfold xn at hv;simp only [Option.some.injEq,Prod.mk.injEq,DataW.held.injEq] at hv;rw [hrun,hv.1]
theorem ee.WS {t e:TypeId} (h:ee P k w b n z f) (K:Maps.Keyed P k) (ht:P.underlying t=some (.map k e)) (hn:n < maxLen) (key:Value) (s:List UInt8) (hs:keyOf P k key=some (.string s)) (v:Value) :
  ∃ w',(Instr.mapUpdate t (.map (some b)) key v).run P w=.ok () w'∧ee P k w' b (n+1) z (fun x=>if x=s then v else f x)∧w.grownBy w' (some b):=by
 obtain ⟨D,hD,ho,hf⟩:=h;obtain ⟨w',hrun,h1,h2⟩:=ho.update K ht hn hs (val:=v) (d:=.held v) (ps:=[]) rfl;refine ⟨w',hrun,⟨D.put (.string s) (.held v),hD.put _ _,h1,fun x=>?_⟩,h2⟩
 show _=DataW.held (if x=s then v else f x)
 by_cases e:x=s
 ·subst e
  rw [if_pos rfl];exact Maps.atKey_put_same hD (by trivial) _ _
 ·rw [if_neg e,Maps.atKey_put_other (by intro e2;exact e (Lit.string.inj e2))]
  exact hf x
end
def kh (g:cD):Value:=.agg #[.string g.af,.string g.table,.int .i64 g.right,.string g.aI,.string g.to]
def mI (g:cD):List Lit:=[.string g.af.data.toList,.string g.table.data.toList,.int .i64 g.right,.string g.aI.data.toList,.string g.to.data.toList]
def iH (g:cD):List UInt8:=keyBytes (mI g)
theorem mW:Maps.Keyed Tryz.prog 189:=Maps.Keyed.of_law (deep_law (m:=3) (by decide) (by kernel_rfl) (by kernel_rfl) (by kernel_rfl))
theorem Gu {P:Program} {t:TypeId} (h:P.underlying t=some .string) (d:Nat) (s:ByteArray) (hs:s.size≤maxLen):P.keyLits (d+1) t [.string s]=some [.string s.data.toList]:=by simp [Program.keyLits,h,hs]
theorem Gv {P:Program} {t:TypeId} {q:IntKind} (h:P.underlying t=some (.int q)) (d:Nat) (n:Int) (hn:(Lit.int q n).wf=true):P.keyLits (d+1) t [.int q n]=some [.int q n]:=by simp [Program.keyLits,h,hn]
theorem Ea (g:cD) (h:wI g) (d:Nat):Tryz.prog.keyLits (d+2) 189 [.string g.af,.string g.table,.int .i64 g.right,.string g.aI,.string g.to]=some (mI g):=by
 have e1:=fun s hs=>Gu Tryz.underlying9 d s hs
 have e2:=Gv Tryz.underlying43 d g.right h.2.2.2.2
 have k1:Tryz.prog.cellsOf 189=5:=by kernel_rfl
 have k2:Tryz.prog.cellsOf 9=1:=by kernel_rfl
 have k3:Tryz.prog.cellsOf 43=1:=by kernel_rfl
 unfold Program.keyLits;simp only [Tryz.underlying189];simp [k1,k2,k3,e1 _ h.1.max,e1 _ h.2.1.max,e1 _ h.2.2.1.max,e1 _ h.2.2.2.1.max,e2,mI]
theorem lr (g:cD) (h:wI g):keyOf Tryz.prog 189 (kh g)=some (.string (iH g)):=by
 obtain ⟨d,hd⟩:∃ d,Tryz.prog.types.size+1=d+2:=⟨Tryz.prog.types.size - 1,by kernel_rfl⟩
 have k:(Tryz.prog.keyType 189&&(kh g).formed Tryz.prog 189)=true:=by
  rw [Bool.and_eq_true];exact ⟨by kernel_rfl,by unfold kh;kernel_rfl⟩
 have e:=Ea g h d;unfold keyOf;rw [Tryz.underlying189,hd];simp only [k,if_true];unfold kh;simp only [Value.cells];rw [e];rfl
theorem tV (g h:cD) (hg:wI g) (hh:wI h):iH g=iH h↔eF g=eF h:=by
 constructor
 ·intro e
  have:=keyBytes_inj (l:=mI g) (l':=mI h) (by simp [mI,Alike,Lit.sameKind]) (fun a ha=>?_) (fun a ha=>?_) e
  ·unfold mI at this
   simp only [List.cons.injEq,Lit.string.injEq,Lit.int.injEq,and_true,true_and] at this;obtain ⟨e1,e2,e3,e4,e5⟩:=this;unfold eF;rw [lX e1,lX e2,e3,lX e4,lX e5]
  ·simp only [mI,List.mem_cons,List.not_mem_nil,or_false] at ha
   rcases ha with rfl | rfl | rfl | rfl | rfl
   ·simpa [Lit.keyWf] using hg.1.max
   ·simpa [Lit.keyWf] using hg.2.1.max
   ·exact hg.2.2.2.2
   ·simpa [Lit.keyWf] using hg.2.2.1.max
   ·simpa [Lit.keyWf] using hg.2.2.2.1.max
  ·simp only [mI,List.mem_cons,List.not_mem_nil,or_false] at ha
   rcases ha with rfl | rfl | rfl | rfl | rfl
   ·simpa [Lit.keyWf] using hh.1.max
   ·simpa [Lit.keyWf] using hh.2.1.max
   ·exact hh.2.2.2.2
   ·simpa [Lit.keyWf] using hh.2.2.1.max
   ·simpa [Lit.keyWf] using hh.2.2.2.1.max
 ·intro e
  unfold eF at e;simp only [Prod.mk.injEq] at e;obtain ⟨e1,e2,e3,e4,e5⟩:=e;unfold iH mI;rw [e1,e2,e3,e4,e5]
end Go.Proofs.YtakddkhipelmjaaGreat
namespace Go.Proofs.YtakddkhipelmjaaGreat
open Go.RowKit Go.Deep Go.WideElems Go.ChangeMaps
section
variable {P : Program} {k : TypeId} {w w' : World} {b n : Nat} {z : Value} {f : List UInt8 → Value}
theorem Gw {b:Nat} {o:Obj} (hb:w.heap[b]? = some o):setBlock w b o=w:=by
 obtain ⟨h1,h2⟩:=Array.getElem?_eq_some_iff.1 hb;unfold setBlock
 have:w.heap.setIfInBounds b o=w.heap:=by
  apply Array.ext
  ·simp
  ·intro i sU qs
   rw [Array.getElem_setIfInBounds qs]
   split
   ·rename_i e;subst e;exact h2.symm
   ·rfl
 rw [this]
theorem zP {t e:TypeId} (K:WideMaps.KeyLaw P k) (ht:P.underlying t=some (.map k e)) (hz:∀ u:World,(zeroValue e).run P u=.ok z u) {es:Array MapEntry} {clock:Nat} (hb:w.heap[b]? = some (.map es clock)) (F:Fit P k xn es clock) {key:Value} {kl:Lit} (hkey:keyOf P k key=some kl) {v:Value} {w1:World}
  (hE:(Instr.mapEntry t (.map (some b)) key).run P w=.ok v w1):∃ v0,(Instr.lookup t (.map (some b)) key false).run P w=.ok v0 w∧(Instr.lookup t (.map (some b)) key false).run P w1=.ok v0 w1:=by
 have look:∀ (u:World) (l:Array MapEntry) (c:Nat),u.heap[b]? = some (.map l c)→∀ a,(Instr.findKey k key l.toList).run P u=.ok a u→(Instr.lookup t (.map (some b)) key false).run P u=.ok (match a with | some (_,y)=>y | none=>z) u:=fun u l c hu a ha=>by
  cases a with
  | none=>simp [Instr.lookup,run_underlying ht,MapKept.run_getObj_map hu,K.check u _ hkey,ha,hz,Result.andThen]
  | some q=>obtain ⟨j,y⟩:=q;simp [Instr.lookup,run_underlying ht,MapKept.run_getObj_map hu,K.check u _ hkey,ha,Result.andThen]
 rcases K.find w hkey es.toList F.keys with ⟨h1,h2⟩ | ⟨j,e0,h1,h2,h3⟩
 ·have e1:w1=setBlock w b (.map (es.push ⟨key,z,clock⟩) (clock+1)):=by
   simp [Instr.mapEntry,run_underlying ht,MapKept.run_getObj_map hb,K.check w false hkey,h1,hz,MapKept.run_setObj_map _ hb,Result.andThen] at hE;rw [← hE.2];rfl
  have hb1:w1.heap[b]? = some (.map (es.push ⟨key,z,clock⟩) (clock+1)):=by rw [e1];exact heap_setBlock_same hb _
  refine ⟨z,look w es clock hb none h1,?_⟩
  have mS:∀ x∈(es.push ⟨key,z,clock⟩).toList,∃ l,keyOf P k x.key=some l:=fun x hx=>by
   rw [Array.toList_push,List.mem_append,List.mem_singleton] at hx
   rcases hx with hx | rfl
   ·exact F.keys x hx
   ·exact ⟨_,hkey⟩
  rcases K.find w1 hkey _ mS with ⟨g1,g2⟩ | ⟨j',e',g1,g2,g3⟩
  ·exact absurd rfl (g2 ⟨key,z,clock⟩ (by simp))
  ·have hm:e'∈(es.push ⟨key,z,clock⟩).toList:=List.mem_of_getElem? g2
   rw [Array.toList_push,List.mem_append,List.mem_singleton] at hm
   rcases hm with hm | hm
   ·exact absurd g3 (h2 e' hm)
   ·have:=look w1 _ _ hb1 _ g1
    rw [hm] at this;exact this
 ·have hj:es[j]? = some e0:=by simpa using h2
  have SP:es.modify j (fun e=>{ e with key:=key })=es:=by
   apply Array.ext';rw [Array.toList_modify,modify_eq_set _ _ _ _ h2]
   have:({ e0 with key:=key }:MapEntry)=e0:=by rw [← h3]
   rw [this];exact set_self _ _ _ h2
  have e1:w1=w:=by
   simp [Instr.mapEntry,run_underlying ht,MapKept.run_getObj_map hb,K.check w false hkey,h1,hj,h3,K.stays w hkey,SP,MapKept.run_setObj_map _ hb,Result.andThen] at hE;rw [← hE.2];exact Gw hb
  subst e1;exact ⟨_,look _ es clock hb _ h1,look _ es clock hb _ h1⟩
theorem ee.entry {t e:TypeId} (h:ee P k w b n z f) (K:WideMaps.KeyLaw P k) (ht:P.underlying t=some (.map k e)) (hz:∀ u:World,(zeroValue e).run P u=.ok z u) (hn:n < maxLen) (key:Value) (s:List UInt8) (hs:keyOf P k key=some (.string s)) (v:Value) :
  ∃ v0 st w1 w2,(Instr.mapEntry t (.map (some b)) key).run P w=.ok (.tuple #[v0,goInt st]) w1∧w.grownBy w1 (some b)∧(Instr.lookup t (.map (some b)) key false).run P w1=.ok (f s) w1 ∧
   (Instr.entryStore t (.map (some b)) (goInt st) v).run P w1=.ok () w2∧ee P k w2 b (n+1) z (fun x=>if x=s then v else f x)∧w.grownBy w2 (some b):=by
 have hl:=h.Cz (Maps.Keyed.of_law K) ht (hz w) key s hs;obtain ⟨w',hrun,hM,hg⟩:=h.WS (Maps.Keyed.of_law K) ht hn key s hs v;obtain ⟨D,hD,ho,hf⟩:=h;obtain ⟨es,clock,hb,F,hsz,he⟩:=ho;obtain ⟨v0,st,VL,vA,hE,_,hS⟩:=entry_then_store K ht hz hb F hs;have hb1:(setBlock w b (.map VL vA)).heap[b]? = some (.map VL vA):=heap_setBlock_same hb _;obtain ⟨es',clock',hSt,Zy⟩:=hS (setBlock w b (.map VL vA)) v hb1
 have e2:setBlock (setBlock w b (.map VL vA)) b (.map es' clock')=setBlock w b (.map es' clock'):=by
  unfold setBlock;simp
 have e3:w'=setBlock w b (.map es' clock'):=by
  rw [hrun] at Zy
  simpa using Zy
 obtain ⟨u0,k1,k2⟩:=zP K ht hz hb F hs hE
 have e4:u0=f s:=by rw [hl] at k1;simpa using k1.symm
 subst e4;refine ⟨v0,st,_,_,hE,?_,k2,hSt,?_,?_⟩
 ·exact ⟨rfl,rfl,rfl,by simp [setBlock],fun i _ hi=>heap_setBlock_other hb _ (fun e=>hi (by rw [e]))⟩
 ·rw [e2,← e3];exact hM
 ·rw [e2,← e3];exact hg
end
theorem xo:WideMaps.KeyLaw Tryz.prog 189:=deep_law (m:=3) (by decide) (by kernel_rfl) (by kernel_rfl) (by kernel_rfl)
end Go.Proofs.YtakddkhipelmjaaGreat
namespace Go.Proofs.YtakddkhipelmjaaGreat
open Go.Shelf Go.Proofs
def xp:Go.Shelf.Ren:=⟨fun | 6=>136 | 15=>219 | 14=>218 | 28=>311 | 29=>312 | 20=>303 | 21=>304 | 22=>305 | 23=>306 | 24=>307 | 25=>308 | 26=>309 | 27=>310 | 46=>355 | 47=>356 | 48=>357 | 49=>358 | 50=>359 | 57=>393 | n=>n,fun | 22=>30 | 24=>177 | 25=>194 | 3=>3 | 39=>195 | 0=>0 | 53=>351 | 55=>285 | 4=>4 | 46=>345 | 45=>344 | 50=>118 | 5=>5 | 9=>9 | 66=>378 | 70=>382 | 76=>402 | 77=>403 | n=>n,fun | n=>n⟩
theorem vB:Go.Proofs.SlLaysF0.n6 Tryz.prog xp:={
 mixed:=by kernel_rfl
 f6:=⟨Tryz.f136.name,by decide,Tryz.func136.trans (congrArg some (by kernel_rfl))⟩
 f14:=⟨Tryz.f218.name,by decide,Tryz.func218.trans (congrArg some (by kernel_rfl))⟩
 f15:=Tryz.func219.trans (congrArg some (by kernel_rfl))
 f20:=⟨Tryz.f303.name,by decide,Tryz.func303.trans (congrArg some (by kernel_rfl))⟩
 f21:=⟨Tryz.f304.name,by decide,Tryz.func304.trans (congrArg some (by kernel_rfl))⟩
 f22:=⟨Tryz.f305.name,by decide,Tryz.func305.trans (congrArg some (by kernel_rfl))⟩
 f23:=⟨Tryz.f306.name,by decide,Tryz.func306.trans (congrArg some (by kernel_rfl))⟩
 f24:=⟨Tryz.f307.name,by decide,Tryz.func307.trans (congrArg some (by kernel_rfl))⟩
 f25:=⟨Tryz.f308.name,by decide,Tryz.func308.trans (congrArg some (by kernel_rfl))⟩
 f26:=⟨Tryz.f309.name,by decide,Tryz.func309.trans (congrArg some (by kernel_rfl))⟩
 f27:=⟨Tryz.f310.name,by decide,Tryz.func310.trans (congrArg some (by kernel_rfl))⟩
 f28:=Tryz.func311.trans (congrArg some (by kernel_rfl))
 f29:=Tryz.func312.trans (congrArg some (by kernel_rfl))
 f46:=⟨Tryz.f355.name,by decide,Tryz.func355.trans (congrArg some (by kernel_rfl))⟩
 f47:=Tryz.func356.trans (congrArg some (by kernel_rfl))
 f48:=Tryz.func357.trans (congrArg some (by kernel_rfl))
 f49:=⟨Tryz.f358.name,by decide,Tryz.func358.trans (congrArg some (by kernel_rfl))⟩
 f50:=⟨Tryz.f359.name,by decide,Tryz.func359.trans (congrArg some (by kernel_rfl))⟩
 f57:=⟨Tryz.f393.name,by decide,Tryz.func393.trans (congrArg some (by kernel_rfl))⟩
 t0:=Tryz.underlying0
 a0:=Tryz.isAgg0
 z0:=Tryz.sizeOf0
 v0:=Tryz.zeroValue0
 t3:=Tryz.underlying3
 a3:=Tryz.isAgg3
 z3:=Tryz.sizeOf3
 v3:=Tryz.zeroValue3
 t4:=Tryz.underlying4
 a4:=Tryz.isAgg4
 z4:=Tryz.sizeOf4
 v4:=Tryz.zeroValue4
 t5:=Tryz.underlying5
 a5:=Tryz.isAgg5
 z5:=Tryz.sizeOf5
 v5:=Tryz.zeroValue5
 t9:=Tryz.underlying9
 a9:=Tryz.isAgg9
 z9:=Tryz.sizeOf9
 v9:=Tryz.zeroValue9
 t22:=Tryz.underlying30
 a22:=Tryz.isAgg30
 z22:=Tryz.sizeOf30
 v22:=Tryz.zeroValue30
 t25:=Tryz.underlying194
 a25:=Tryz.isAgg194
 z25:=Tryz.sizeOf194
 v25:=Tryz.zeroValue194
 t39:=Tryz.underlying195
 a39:=Tryz.isAgg195
 z39:=Tryz.sizeOf195
 v39:=Tryz.zeroValue195
 t45:=Tryz.underlying344
 a45:=Tryz.isAgg344
 z45:=Tryz.sizeOf344
 v45:=Tryz.zeroValue344
 t46:=Tryz.underlying345
 a46:=Tryz.isAgg345
 z46:=Tryz.sizeOf345
 v46:=Tryz.zeroValue345
 t50:=Tryz.underlying118
 a50:=Tryz.isAgg118
 z50:=Tryz.sizeOf118
 v50:=Tryz.zeroValue118
 t53:=Tryz.underlying351
 a53:=Tryz.isAgg351
 z53:=Tryz.sizeOf351
 v53:=Tryz.zeroValue351
 t55:=Tryz.underlying285
 a55:=Tryz.isAgg285
 z55:=Tryz.sizeOf285
 v55:=Tryz.zeroValue285
 t66:=Tryz.underlying378
 a66:=Tryz.isAgg378
 z66:=Tryz.sizeOf378
 v66:=Tryz.zeroValue378
 t70:=Tryz.underlying382
 a70:=Tryz.isAgg382
 z70:=Tryz.sizeOf382
 v70:=Tryz.zeroValue382
 t76:=Tryz.underlying402
 a76:=Tryz.isAgg402
 z76:=Tryz.sizeOf402
 v76:=Tryz.zeroValue402
 t77:=Tryz.underlying403
 a77:=Tryz.isAgg403
 z77:=Tryz.sizeOf403
 v77:=Tryz.zeroValue403 }
end Go.Proofs.YtakddkhipelmjaaGreat
namespace Go.Proofs.YtakddkhipelmjaaGreat
open Go.RowKit Go.Sort Go.Shelf Go.Deep
instance:Inhabited cD:=⟨⟨ByteArray.empty,ByteArray.empty,0,ByteArray.empty,ByteArray.empty,false⟩⟩
theorem Gx (s:cD):∀ u∈eR s,u.oneCell'=true:=by intro u hu;simp only [eR,List.mem_cons,List.not_mem_nil,or_false] at hu;rcases hu with rfl | rfl | rfl | rfl | rfl | rfl<;>simp [Value.oneCell']
theorem WT:kQ eM:=⟨oO.lt,oO.dN,fun a b d h=>by
 have:=(gm a b).1 ((lW a b).1 h);unfold eF at this;simp only [Prod.mk.injEq] at this;obtain ⟨h1,h2,h3,h4,h5⟩:=this;unfold eM
 rw [h1,h2,h3,h4,h5]⟩
theorem Gy (blk cap B:Nat) (l:List cD) (h0:0 < l.length) (hsz:l.length≤1000000) (w:World) (ho:w.ownsRow B 177 6 (.slice (some ⟨blk,0,none⟩) l.length cap) l.length (l.flatMap eR)) :
  Calls Tryz.prog 136 #[.slice (some ⟨blk,0,none⟩) l.length cap,.func (.func 137) #[] #[]] w (nP 177 6 eR eM w B blk cap l) :=
 xq vB 6 Tryz.isAgg177 Tryz.sizeOf177 eR (fun _=>rfl) Gx eM WT.swo 137 #[] 177 B blk cap l h0 hsz w ho (enters (P:=Tryz.prog) Tryz.func137 (by kernel_rfl) rfl) (fun W x y=>qV x y W)
theorem WU (f:Value) (hf:∃ g,f=.func (.func g) #[] #[]) (w:World):Calls Tryz.prog 303 #[.slice none 0 0,.int .i64 0,.int .i64 0,f] w fun e w'=>e=.returned (.tuple #[])∧w=w':=by
 obtain ⟨g,rfl⟩:=hf
 go_in
 go_wp2_with fail
 go_loopw [8] (fun i wr=>i=.int .i64 1∧wr=w) (fun _ _=>0)
 case atStart=>exact ⟨rfl,rfl⟩
 case round =>
  obtain ⟨rfl,rfl⟩:=hrel;go_wp2
  go_end0
  exact ⟨rfl,rfl⟩
theorem OG (w:World):Calls Tryz.prog 312 #[.int .u64 0] w fun e w'=>e=.returned (.int .i64 0)∧w=w':=by
 go_in
 go_wp2;go_ret;exact ⟨Eq.trans (b:=.returned (.int .i64 (wrap64 (wrap64 (Lib.len8 0))))) rfl (by rw [show wrap64 (wrap64 (Lib.len8 0))=0 by decide +kernel]),rfl⟩
theorem WV (w:World):Calls Tryz.prog 219 #[.int .u64 0] w fun e w'=>e=.returned (.int .i64 0)∧w=w':=by
 go_in
 go_wp2_with fail;refine (OG w).mono ?_;rintro e w1 ⟨rfl,rfl⟩;go_wp2;go_ret;exact ⟨by rfl,rfl⟩
theorem WW (g:FuncId) (w:World):Calls Tryz.prog 218 #[.slice none 0 0,.int .i64 0,.int .i64 0,.int .i64 0,.func (.func g) #[] #[]] w fun e w'=>e=.returned (.tuple #[])∧w=w':=by
 have C:=gH (WU (.func (.func g) #[] #[]) ⟨g,rfl⟩ w)
 go_in
 go_wp2_with fail
 go_loopw [1,2,3] (fun a b l wr=>a=.int .i64 0∧b=.int .i64 0∧l=.int .i64 0∧wr=w) (fun _ _ _ _=>0)
 case atStart=>exact ⟨rfl,rfl,rfl,rfl⟩
 case round =>
  obtain ⟨rfl,rfl,rfl,rfl⟩:=hrel;go_wp2_with fail;refine C.out.mono ?_;rintro e w1 ⟨rfl,rfl⟩;go_wp2;refine bodyPost_ret (results_none rfl _ _ _) rfl ?_;exact ⟨rfl,rfl⟩
theorem SQ (g:FuncId) (w:World):Calls Tryz.prog 136 #[.slice none 0 0,.func (.func g) #[] #[]] w fun e w'=>e=.returned (.tuple #[])∧w=w':=by
 go_in
 go_wp2_with fail;refine (WV w).mono ?_;rintro e w1 ⟨rfl,rfl⟩;go_wp2_with fail;refine (WW g w).mono ?_;rintro e w1 ⟨rfl,rfl⟩;go_wp2
 go_end0
 exact ⟨rfl,rfl⟩
theorem Kl (hd:Hd) (B:Nat) (l:List cD) (hn:l=[]→hd=⟨none,0,0⟩) (hsz:l.length≤1000000) (w:World) (ho:w.ownsRow B 177 6 (.slice hd.a l.length hd.c) l.length (l.flatMap eR)) :
  Calls Tryz.prog 136 #[.slice hd.a l.length hd.c,.func (.func 137) #[] #[]] w fun e w'=>e=.returned (.tuple #[]) ∧
   ∃ l':List cD,l'.Perm l∧(∀ i j (hi:i < l'.length) (hj:j < l'.length),i < j→¬ eM l'[j] l'[i] < 0)∧w'.ownsRow B 177 6 (.slice hd.a l.length hd.c) l.length (l'.flatMap eR)∧∀ W,ag W w→W.heap.size≤B→ag W w':=by
 cases l with
 | nil =>
  obtain rfl:=hn rfl;refine (SQ 137 w).mono ?_;rintro e w' ⟨rfl,rfl⟩;exact ⟨rfl,[],.nil,fun i j hi=>absurd hi (by simp),ho,fun W a _=>a⟩
 | cons x l =>
  obtain ⟨g,cap,hv,hB,_⟩:=bU ho (by simp);simp only [Value.slice.injEq] at hv;rw [hv.1] at ho ⊢;refine (Gy g hd.c B (x::l) (by simp) hsz w ho).mono ?_;rintro e w' ⟨rfl,l',h1,h2,h3,h4⟩;exact ⟨rfl,l',h1,h2,h3,fun W a hW=>h4.aJ a fun k hk e=>by omega⟩
end Go.Proofs.YtakddkhipelmjaaGreat
namespace Go.Proofs.YtakddkhipelmjaaGreat
open Go.Deep Go.RowKit
def pX (l:List cD):List UInt8→Value:=fun s=>.int .i64 (if s∈l.map iH then 1 else 0)
theorem lu (w:World):(zeroValue 3).run Tryz.prog w=.ok (.int .i64 0) w:=by kernel_rfl
theorem Gz:pX []=fun _=>Value.int .i64 0:=by
 funext s;unfold pX;simp
theorem lv (l:List cD) (g:cD) (hl:∀ x∈l,wI x) (hg:wI g):pX l (iH g)=.int .i64 (if ml l g=true then 1 else 0):=by
 unfold pX
 congr 1
 have:(iH g∈l.map iH)↔ml l g=true:=by
  rw [qu,List.mem_map,List.mem_map];exact ⟨fun ⟨x,hx,e⟩=>⟨x,hx,(tV x g (hl x hx) hg).1 e⟩,fun ⟨x,hx,e⟩=>⟨x,hx,(tV x g (hl x hx) hg).2 e⟩⟩
 by_cases h:ml l g=true
 ·rw [if_pos h,if_pos (this.2 h)]
 ·rw [if_neg h,if_neg fun e=>h (this.1 e)]
theorem xr (l:List cD) (g:cD):pX (l++[g])=fun x=>if x=iH g then .int .i64 1 else pX l x:=by
 funext x
 unfold pX;by_cases h:x=iH g
 ·rw [if_pos h,if_pos (by rw [h];simp)]
 ·rw [if_neg h]
  congr 1
  by_cases h2:x∈l.map iH
  ·rw [if_pos h2,if_pos (by rw [List.map_append];exact List.mem_append.2 (.inl h2))]
  ·rw [if_neg h2,if_neg (by rw [List.map_append,List.mem_append];simpa [h] using h2)]
structure yY (w:World) (bi:Nat) (c:bS) (f:dt→Value) (k:Nat):Prop where
 all:∀ s,f s=.slice none 0 0∨∃ (x:ByteArray) (h:Hd),txt x=s∧f s=h.v∧w.ownsRow (bi+1) 9 1 h.v (ea c.ar x).length ((ea c.ar x).flatMap cB)∧0 < (ea c.ar x).length
 dn:∀ j,j < k→∀ (hj:j < c.ah.length),f (txt c.ah[j].aI)≠.slice none 0 0
theorem yY.kb {Q:Nat→Prop} {w w':World} {bi:Nat} {c:bS} {f:dt→Value} {k:Nat} (h:yY w bi c f k) (kb:Kb Q w w') (hQ:∀ g,bi+1≤g→g < w.heap.size→¬ Q g):yY w' bi c f k :=
 ⟨fun s=>(h.all s).imp id fun ⟨x,d,e1,e2,ho,hl⟩=>⟨x,d,e1,e2,br ho kb fun g hg=>hQ g (ho.lt g hg).1 (ho.lt g hg).2,hl⟩,h.dn⟩
theorem yY.aA {w w':World} {bi:Nat} {c:bS} {f:dt→Value} {k:Nat} (h:yY w bi c f k) (a:ag w w'):yY w' bi c f k:=h.kb (Q:=fun _=>False) (Kb.aO a) fun _ _ _ h=>h
theorem yY.at {w:World} {bi:Nat} {c:bS} {f:dt→Value} {k:Nat} (h:yY w bi c f k) {g:ByteArray} (hn:f (txt g)≠.slice none 0 0):∃ d:Hd,f (txt g)=.slice d.a (ea c.ar g).length d.c∧w.ownsRow (bi+1) 9 1 d.v (ea c.ar g).length ((ea c.ar g).flatMap cB)∧0 < (ea c.ar g).length:=by
 rcases h.all (txt g) with e | ⟨x,d,e1,e2,ho,hl⟩
 ·exact absurd e hn
 ·have:=lX e1
  subst this;exact ⟨d,by rw [e2];exact dm ho,ho,hl⟩
theorem yY.put {w w':World} {bi:Nat} {c:bS} {f:dt→Value} {k:Nat} (h:yY w bi c f k) (kb:Kb (fun g=>g=bi) w w') {x:ByteArray} {d:Hd} (ho:w'.ownsRow (bi+1) 9 1 d.v (ea c.ar x).length ((ea c.ar x).flatMap cB)) (hl:0 < (ea c.ar x).length) (hx:∀ (hk:k < c.ah.length),c.ah[k].aI=x) :
  yY w' bi c (fun s=>if s=txt x then d.v else f s) (k+1):=by
 have hd:d.v≠.slice none 0 0:=by
  rw [dm ho];intro e;simp only [Value.slice.injEq] at e;omega
 have h':=h.kb kb fun g hg _ e=>by omega
 refine ⟨fun s=>?_,fun j hj qp=>?_⟩
 ·by_cases e:s=txt x
  ·exact .inr ⟨x,d,e.symm,by simp only [e,if_true],ho,hl⟩
  ·simp only [if_neg e];exact h'.all s
 ·split
  ·exact hd
  ·rename_i hne
   rcases Nat.lt_or_ge j k with h1 | h1
   ·exact h.dn j h1 qp
   ·have:j=k:=by omega
    subst this;exact absurd (by rw [hx qp]) hne
theorem yY.skip {w:World} {bi:Nat} {c:bS} {f:dt→Value} {k:Nat} (h:yY w bi c f k) (hx:∀ (hk:k < c.ah.length),f (txt c.ah[k].aI)≠.slice none 0 0):yY w bi c f (k+1) :=
 ⟨h.all,fun j hj qp=>by
  rcases Nat.lt_or_ge j k with h1 | h1
  ·exact h.dn j h1 qp
  ·have:j=k:=by omega
   subst this
   exact hx qp⟩
structure OH (w wr:World) (bh bi:Nat) (cb:List Value) (c:bS) (l:List cD) (f:dt→Value) (k:Nat):Prop where
 aA:ag w wr
 box:ai wr w.heap.size cb
 mh:ee Tryz.prog 189 wr bh l.length (.int .i64 0) (pX l)
 mi:ee Tryz.prog 9 wr bi k (.slice none 0 0) f
 is:yY wr bi c f k
theorem OH.to {w wr w':World} {bh bi:Nat} {cb:List Value} {c:bS} {l:List cD} {f:dt→Value} {k:Nat} (h:OH w wr bh bi cb c l f k) (a:ag wr w'):OH w w' bh bi cb c l f k:=⟨h.aA.trans a,h.box.aA a,h.mh.aA a,h.mi.aA a,h.is.aA a⟩
theorem xt {c:bS} (h:bH c=true) {g:cD} (hg:g∈c.ah):0 < (ea c.ar g.aI).length∧ea c.ar g.aI=c.ar.names.filter (dI c.ar.members g.aI):=by
 obtain ⟨_,⟨_,h2,_,_⟩,h3,_⟩:=bP.1 h;have h4:=(lq (h3 g hg)).2.2.2.1
 have e:ea c.ar g.aI=c.ar.names.filter (dI c.ar.members g.aI):=by unfold ea;rw [h2,h4];rfl
 refine ⟨List.length_pos_of_mem (a:=g.aI) ?_,e⟩;rw [e];exact List.mem_filter.2 ⟨(ig _ _).1 h4,pE _ _⟩
theorem zQ {c:bS} (h:bH c=true) {g:cD} (hg:g∈c.ah):(kR c.aj g.af g.table).af=g.af∧(kR c.aj g.af g.table).name=g.table∧0≤bY c.aj.ae g.af:=by
 obtain ⟨_,⟨h1,_,_,_⟩,h3,_⟩:=bP.1 h;have h4:=(lq (h3 g hg)).1;obtain ⟨q,hq⟩:=Int.eq_ofNat_of_zero_le h4;have hr:bt c.aj.tables g.af g.table < c.aj.tables.length:=(aT _ _).2
 have hl:q < c.aj.tables.length:=by omega
 have e:=oM hq hl;have hp:=gF _ c.aj.tables q hl hq;simp only [Bool.and_eq_true,lY] at hp;rw [e];refine ⟨hp.1,hp.2,?_⟩
 have hc:cU c.aj c.aj.tables[q]=true:=by
  unfold bD at h1;simp only [Bool.and_eq_true,List.all_eq_true] at h1;exact h1.2.2 _ (List.getElem_mem hl)
 unfold cU at hc;simp only [Bool.and_eq_true,decide_eq_true_eq] at hc;rw [← hp.1];exact hc.1.2
structure Km (wF wr:World) (bh:Nat) (c:bS) (l:List cD) (hd:Hd):Prop where
 kb:Kb (fun g=>g=bh) wF wr
 mh:ee Tryz.prog 189 wr bh l.length (.int .i64 0) (pX l)
 row:wr.ownsRow wF.heap.size 177 6 hd.v l.length (l.flatMap eR)
 Nn:jw c l
 nil:l=[]→hd=⟨none,0,0⟩
theorem Km.to {wF wr w':World} {bh:Nat} {c:bS} {l:List cD} {hd:Hd} (h:Km wF wr bh c l hd) (a:ag wr w'):Km wF w' bh c l hd:=⟨h.kb.trans (Kb.aO a),h.mh.aA a,cA h.row a,h.Nn,h.nil⟩
theorem Km.next {wF u7 u8:World} {bh:Nat} {c:bS} {l:List cD} {hd:Hd} {g:cD} {gg cap:Nat} {o:Obj} (h:jw c l) (hg:g∈c.ah) (wL:ml l g=false) (hj:fy c l g=true)
  (h7:Kb (fun g=>g=bh) wF u7∧ee Tryz.prog 189 u7 bh (l++[g]).length (.int .i64 0) (pX (l++[g]))∧u7.ownsRow wF.heap.size 177 6 (.slice hd.a l.length hd.c) l.length (l.flatMap eR)∧wF.heap.size≤u7.heap.size) (zb:bh < wF.heap.size)
  (ho:u8.ownsRow wF.heap.size 177 6 (.slice (some ⟨gg,0,none⟩) (l.length+1) cap) (l.length+1) (l.flatMap eR++eR g)) (hgr:(u7.alloc o).grownBy u8 (Value.slice hd.a l.length hd.c).ownBlock) :
  Km wF u8 bh c (l++[g]) ⟨some ⟨gg,0,none⟩,l.length+1,cap⟩:=by
 obtain ⟨k7,m7,r7,z7⟩:=h7;have a7:ag u7 (u7.alloc o):=(ag.refl _).alloc _;have k8:=Kb.cZ hgr
 have hq:∀ k,(Value.slice hd.a l.length hd.c).ownBlock=some k→wF.heap.size≤k:=fun k e=>(r7.lt k e).1
 refine ⟨?_,(m7.aA a7).kb k8 fun e=>by have:=hq _ e;omega,?_,h.add hg wL hj,fun e=>by simp at e⟩
 ·have k9:Kb (fun k=>k=bh∨(Value.slice hd.a l.length hd.c).ownBlock=some k) wF u8:=((k7.mono fun k _ e=>.inl e).trans (Kb.aO a7)).trans (k8.mono fun k _ e=>.inr e)
  exact k9.mono fun k hk e=>by
   rcases e with e | e
   ·exact e
   ·have:=hq k e;omega
 ·show u8.ownsRow wF.heap.size _ 6 (.slice (some ⟨gg,0,none⟩) (l.length+1) cap) (l++[g]).length ((l++[g]).flatMap eR)
  rw [List.length_append,List.flatMap_append,List.flatMap_cons,List.flatMap_nil,List.append_nil];exact ho
def Np (w:World) (c:bS) (e:Ending) (w':World):Prop:=∃ h:Hd,e=.returned h.v∧ag w w'∧w'.ownsRow w.heap.size 177 6 h.v (cJ c).length ((cJ c).flatMap eR)
theorem Nq (c:bS) (As:Option Addr) (ax:Nat) (At:Option Addr) (aD:Nat) (An:Option Addr) (aH:Nat) (Am:Option Addr) (aL:Nat) (Ag:Option Addr) (aP:Nat) (w:World) (H:gl w c As ax At aD An aH Am aL Ag aP) :
  Calls Tryz.prog 77 #[.agg #[.int .i64 c.av,.int .i64 c.version,.slice As c.aj.ae.length ax,.slice At c.aj.tables.length aD,.slice An c.ar.names.length aH,.slice Am c.ar.members.length aL,.slice Ag c.ah.length aP]] w (Np w c):=by
 have hlen:=H.qr.len;have Kn:=@run_makeMap Tryz.prog;obtain ⟨W,hW⟩:∃ W,W=w.alloc (.cells #[.int .i64 c.av,.int .i64 c.version,.slice As c.aj.ae.length ax,.slice At c.aj.tables.length aD,.slice An c.ar.names.length aH,.slice Am c.ar.members.length aL,.slice Ag c.ah.length aP] 32):=⟨_,rfl⟩
 have aW:ag w W:=by rw [hW];exact (ag.refl w).alloc _
 have r0:ai W (w.heap.size) [.int .i64 c.av,.int .i64 c.version,.slice As c.aj.ae.length ax,.slice At c.aj.tables.length aD,.slice An c.ar.names.length aH,.slice Am c.ar.members.length aL,.slice Ag c.ah.length aP]:=by rw [hW];exact aR (ag.refl _) (by simp)
 obtain ⟨st,hst⟩:∃ b,bH c=b:=⟨_,rfl⟩;have C1:=gH (show Calls Tryz.prog 87 #[.agg #[.int .i64 c.av,.int .i64 c.version,.slice As c.aj.ae.length ax,.slice At c.aj.tables.length aD,.slice An c.ar.names.length aH,.slice Am c.ar.members.length aL,.slice Ag c.ah.length aP]] W fun e w''=>e=.returned (.bool st)∧ag W w'' from (Cy c As ax At aD An aH Am aL Ag aP W (H.aA aW)).mono fun e w'' ⟨he,hw⟩=>⟨he.trans (by rw [hst]),hw⟩);have HST:=gH hst;have HH:=gH H;have cu:=gH aW;have kJ:=gH r0;obtain ⟨x0,x1,x2,x3,x4,x5,x6,xz⟩:=j7 r0;clear hst H aW r0
 go_in
 go_wp2_with fail;rw [← hW];clear hW
 go_step3
 go_wp2_with fail;refine C1.out.mono ?_;rintro e w1 ⟨rfl,a1⟩;clear C1 x0 x1 x2 x3 x4 x5 x6 xz
 cases st
 case false =>
  have HF:=gH (show cJ c=[] by unfold cJ;rw [HST.out];rfl);have HA:=gH (cu.out.trans a1);clear a1;go_wp2;go_ret;exact ⟨⟨none,0,0⟩,rfl,HA.out,by rw [HF.out];exact cO _ _ _ _⟩
 have p0:=kJ.out.aA a1;have x6:=p0.cell (j:=6) rfl;have xz:=p0.1;obtain ⟨bh,VM⟩:∃ b,b=w1.heap.size:=⟨_,rfl⟩;obtain ⟨bi,SM⟩:∃ b,b=w1.heap.size+1:=⟨_,rfl⟩;obtain ⟨cb,hcb⟩:∃ cb:List Value,cb=[.int .i64 c.av,.int .i64 c.version,.slice As c.aj.ae.length ax,.slice At c.aj.tables.length aD,.slice An c.ar.names.length aH,.slice Am c.ar.members.length aL,.slice Ag c.ah.length aP]:=⟨_,rfl⟩;rw [← hcb] at p0;have SS:=gH hcb;clear hcb
 have S0:=gH (show OH w ((w1.alloc (.map #[] 0)).alloc (.map #[] 0)) bh bi cb c [] (fun _=>.slice none 0 0) 0 from by
  have a2:ag w1 (w1.alloc (.map #[] 0)):=(ag.refl _).alloc _;have a3:ag (w1.alloc (.map #[] 0)) ((w1.alloc (.map #[] 0)).alloc (.map #[] 0)):=(ag.refl _).alloc _;refine ⟨(cu.out.trans a1).trans (a2.trans a3),p0.aA (a2.trans a3),?_,?_,fun s=>.inl rfl,fun j hj=>absurd hj (Nat.not_lt_zero j)⟩
  ·rw [VM,Gz];exact (lZ w1 _).aA a3
  ·rw [SM]
   have:=lZ (P:=Tryz.prog) (k:=9) (w1.alloc (.map #[] 0)) (.slice none 0 0)
   simpa using this)
 have hB:=gH (show w.heap.size < bh∧bh < bi by rw [VM,SM];have:=(cu.out.trans a1).size;have:=kJ.out.1;have:=a1.size;omega);clear a1 p0;go_wp2_with fail;rw [← SM,← VM];have Ko:=gH (show bH c=true from HST.out);have Zz:c.ah.length≤64:=(bP.1 HST.out).1
 go_loopw [20] (fun i wr=>∃ (k:Nat) (f:dt→Value),k≤c.ah.length∧i=.int .i64 k∧OH w wr bh bi cb c [] f k) (fun i _=>c.ah.length - (intOf i).toNat)
 case atStart=>exact ⟨0,_,Nat.zero_le _,rfl,S0.out⟩
 case round =>
  clear S0 x6 xz VM SM;obtain ⟨k,f,hk,rfl,hs⟩:=hrel;have HS:=gH hs;by_cases hlt:k < c.ah.length
  ·obtain ⟨b,off,rfl,hb,t0,t1,t2,t3,t4,t5,sg⟩:=qT (gB hs.aA HH.out.qr) hlt
   obtain ⟨g,hg⟩:∃ g,c.ah[k]=g:=⟨_,rfl⟩;rw [hg] at t0 t1 t2 t3 t4 t5 sg;obtain ⟨X,hX⟩:∃ V,V=wr.alloc (.cells #[.string g.af,.string g.table,.int .i64 g.right,.string g.aI,.string g.to,.bool g.opt] 177):=⟨_,rfl⟩
   have aX:ag wr X:=by rw [hX];exact (ag.refl wr).alloc _
   have SX:=gH (hs.to aX);have RX:=gH (show ai X wr.heap.size [.string g.af,.string g.table,.int .i64 g.right,.string g.aI,.string g.to,.bool g.opt] by rw [hX];exact aN (ag.refl _));have OI:=gH (show g∈c.ah by rw [← hg];exact List.getElem_mem hlt);have HG:=gH (show ∀ (h:k < c.ah.length),c.ah[k].aI=g.aI from fun _=>by rw [hg]);have Q5:=(hs.to aX).mi.look Tryz.underlying9 Tryz.underlying183 (ki X) g.aI sg.2.2.1.max;have LK:(Instr.lookup 183 (.map (some bi)) (.string g.aI) false).run Tryz.prog X=.ok (f (txt g.aI)) X:=Q5;have zR:=gH sg;by_cases hf:f (txt g.aI)=.slice none 0 0
   ·rw [hf,hX] at LK
    have HF:=gH hf;have WX:=gH (xt Ko.out OI.out).1;have K3:=gH (show ∀ w',ag X w'→Calls Tryz.prog 131 #[.agg #[.slice An c.ar.names.length aH,.slice Am c.ar.members.length aL],.string g.aI] w' (Eb c.ar g.aI w') from fun w' a=>OJ c.ar An aH Am aL g.aI w' (aU (SX.out.aA.trans a) HH.out.kw) (df (SX.out.aA.trans a) HH.out.mem) zR.out.2.2.1)
    have KS:=gH (show ∀ V,ag X V→V.cell? ⟨w.heap.size,4,none⟩=some (.slice An c.ar.names.length aH)∧V.cell? ⟨w.heap.size,5,none⟩=some (.slice Am c.ar.members.length aL)∧V.cell? ⟨wr.heap.size,3,none⟩=some (.string g.aI) from fun V a=>by
     have p0:=SX.out.box.aA a;rw [SS.out] at p0
     exact ⟨p0.cell (j:=4) rfl,p0.cell (j:=5) rfl,(RX.out.aA a).cell (j:=3) rfl⟩)
    have ZA:=hs.mi.lt;have ZX:=gH (show wr.heap.size≤X.heap.size from aX.size)
    have OL:=gH (show ∀ V V',ag X V→V.grownBy V' (some bi)→V'.cell? ⟨w.heap.size,4,none⟩=some (.slice An c.ar.names.length aH)∧V'.cell? ⟨w.heap.size,5,none⟩=some (.slice Am c.ar.members.length aL)∧V'.cell? ⟨wr.heap.size,3,none⟩=some (.string g.aI) from fun V V' a gr=>by
     obtain ⟨h4,h5,h3⟩:=KS.out V a;have kb:=Kb.cZ gr;have:=hB.out
     exact ⟨kb.cell h4 (fun e=>by simp only [Option.some.injEq] at e;omega),kb.cell h5 (fun e=>by simp only [Option.some.injEq] at e;omega),kb.cell h3 (fun e=>by simp only [Option.some.injEq] at e;omega)⟩)
    clear hf hs aX Q5 hg sg;go_wp2_with fail;rw [← hX];clear hX t0 t1 t2 t3 t4 t5 LK hb
    go_region_held3 (fun V=>V.cell? ⟨w.heap.size,4,none⟩=some (.slice An c.ar.names.length aH)∧V.cell? ⟨w.heap.size,5,none⟩=some (.slice Am c.ar.members.length aL)∧V.cell? ⟨wr.heap.size,3,none⟩=some (.string g.aI))
     (first | exact KS.out _ (ag.refl _).drew | exact KS.out _ A5.out | exact K6.out)
     ((go_at_call 131;refine (K3.out _ (ag.refl X).drew).mono ?_;rintro e w5 ⟨d,rfl,a5,SU⟩;have A5:=gH ((ag.refl X).drew.trans a5);have HO5:=gH (And.intro a5 SU);clear a5 SU;obtain ⟨w6,p6,M6,g6⟩:=(SX.out.mi.aA A5.out).put Tryz.underlying9 Tryz.underlying183 (by unfold maxLen;omega) g.aI zR.out.2.2.1.max d.v;have K6:=gH (OL.out w5 w6 A5.out g6);have Nr:=gH (And.intro M6 g6);clear M6 g6))
    have xu:=gH (show OH w w6 bh bi cb c [] (fun s=>if s=txt g.aI then d.v else f s) (k+1) from by
     have kb:=Kb.cZ Nr.out.2
     have SV:Kb (fun g=>g=bi) w5 w6:=kb.mono fun g _ e=>(Option.some.inj e).symm
     have FK:=hB.out;have s5:=SX.out.to A5.out;have zX:bi < X.heap.size:=Nat.lt_of_lt_of_le ZA (by have:=SX.out.aA.size;exact Nat.le_of_lt (Nat.lt_of_lt_of_le ZA (ZX.out)) |> fun _=>ZX.out);have SU:w5.ownsRow (bi+1) 9 1 d.v (ea c.ar g.aI).length ((ea c.ar g.aI).flatMap cB):=bM HO5.out.2 (by show bi+1≤X.heap.size;omega);refine ⟨SV.aJ s5.aA (fun g hg e=>by omega),SV.row s5.box (by omega),s5.mh.kb SV (by omega),Nr.out.1,?_⟩
     exact s5.is.put SV (br SU SV fun g hg e=>by have:=(SU.lt g hg).1;omega) WX.out HG.out)
    go_wp2
    go_roundw
    case rel=>exact ⟨k+1,_,by omega,by go_num,xu.out⟩
    case measure=>simp [intOf];omega
   ·obtain ⟨d,hd,ho,hdl⟩:=(hs.to aX).is.at hf
    rw [hd,hX] at LK
    have ZB:¬ (((ea c.ar g.aI).length:Nat):Int)=0:=by omega
    have hd1:((((ea c.ar g.aI).length:Nat):Int)==0)=false:=by simpa using ZB
    have xu:=gH (show OH w X bh bi cb c [] f (k+1) from ⟨SX.out.aA,SX.out.box,SX.out.mh,SX.out.mi.mono (by omega),SX.out.is.skip fun h=>by rw [HG.out h];exact hf⟩);clear hf hd ho hs aX sg Q5 hg ZB;go_wp2
    go_roundw
    case rel=>exact ⟨k+1,f,by omega,by go_num,by rw [← hX];exact xu.out⟩
    case measure=>simp [intOf];omega
  ·have pY:k=c.ah.length:=by omega
   subst pY;clear hs;obtain ⟨wF,hwF⟩:∃ V,V=wr:=⟨_,rfl⟩;subst hwF
   have KA:=gH (show ∀ V,Kb (fun g=>g=bh) wF V→ag w V∧ai V w.heap.size cb∧ee Tryz.prog 9 V bi c.ah.length (.slice none 0 0) f∧yY V bi c f c.ah.length from fun V kb=>by
    have hb:=hB.out
    exact ⟨kb.aJ HS.out.aA fun g hg e=>by omega,kb.row HS.out.box (by omega),HS.out.mi.kb kb (by omega),HS.out.is.kb kb fun g hg _ e=>by omega⟩)
   have ZC:=gH (show Km wF wF bh c [] ⟨none,0,0⟩ from ⟨Kb.aO (ag.refl _),HS.out.mh,cO _ _ _ _,jw.nil c,fun _=>rfl⟩);have yZ:=gH (J8 HH.out.qr).2;have p0:=HS.out.box;rw [SS.out] at p0;have x6:=p0.cell (j:=6) rfl;have xz:=p0.1;have ZE:=gH HS.out.aA.size;clear p0;go_wp2_with fail
   go_step3
   go_wp2_with fail
   go_loopw [7] (fun u7 wr=>∃ (l:List cD) (hd:Hd),u7=.slice hd.a l.length hd.c∧Km wF wr bh c l hd) (fun u7 _=>c.ah.length - (match u7 with | .slice _ n _=>n | _=>0))
   case atStart=>exact ⟨[],⟨none,0,0⟩,rfl,ZC.out⟩
   case round =>
    clear x6 xz ZC;obtain ⟨l,hd,rfl,hm⟩:=hrel;have HM:=gH hm;have pU:=hm.Nn.len;obtain ⟨wo,hwo⟩:∃ V,V=wr:=⟨_,rfl⟩;subst hwo;have p0:=(KA.out wo hm.kb).2.1;rw [SS.out] at p0;have x6:=p0.cell (j:=6) rfl;have xz:=p0.1;clear p0 hm;go_wp2_with fail
    go_loopw [7,45] (fun u7 i wr=>∃ k:Nat,u7=.slice hd.a l.length hd.c∧k≤c.ah.length∧i=.int .i64 k∧ag wo wr∧∀ j,j < k→∀ (hj:j < c.ah.length),ml l c.ah[j]=false→fy c l c.ah[j]=false) (fun _ i _=>c.ah.length - (intOf i).toNat)
    case atStart=>exact ⟨0,rfl,Nat.zero_le _,rfl,ag.refl _,fun j hj=>absurd hj (Nat.not_lt_zero j)⟩
    case round =>
     clear x6 xz;obtain ⟨k,rfl,hk,rfl,ha,pT⟩:=hrel;have WY:=gH ha;have WZ:=gH pT;clear ha pT;by_cases hlt:k < c.ah.length
     ·have hm:=HM.out.to WY.out
      obtain ⟨aw,bx,mi,is⟩:=KA.out wr hm.kb;obtain ⟨b,off,rfl,hb,t0,t1,t2,t3,t4,t5,sg⟩:=qT (gB aw HH.out.qr) hlt;obtain ⟨g,hg⟩:∃ g,c.ah[k]=g:=⟨_,rfl⟩;rw [hg] at t0 t1 t2 t3 t4 t5 sg;have OI:=gH (show g∈c.ah by rw [← hg];exact List.getElem_mem hlt);have HG:=gH hg;have zR:=gH sg;rw [SS.out] at bx;obtain ⟨x0,x1,x2,x3,x4,x5,x6,xz⟩:=j7 bx;obtain ⟨X,hX⟩:∃ V,V=wr.alloc (.cells #[.string g.af,.string g.table,.int .i64 g.right,.string g.aI,.string g.to,.bool g.opt] 177):=⟨_,rfl⟩
      have aX:ag wr X:=by rw [hX];exact (ag.refl wr).alloc _
      have RX:=gH (show ai X wr.heap.size [.string g.af,.string g.table,.int .i64 g.right,.string g.aI,.string g.to,.bool g.opt] by rw [hX];exact aN (ag.refl _));have AX:=gH (WY.out.trans aX);have C:=gH (zJ c As ax At aD An aH Am aL (some ⟨b,off,none⟩) aP g.af g.table X (bC (aw.trans aX) HH.out.tab));have ZF:=gH (show bh < wr.heap.size from hm.mh.lt);have VN:=gH (show bh < wF.heap.size from HS.out.mh.lt);clear aw bx mi is hm hg aX sg;go_wp2_with fail;rw [← hX];clear hX t0 t1 t2 t3 t4 t5 x0 x1 x2 x3 x4 x5 x6 xz hb;refine C.out.mono ?_;rintro e w5 ⟨A2,c2,A3,c3,rfl,a5⟩;have Kp:=gH (zQ Ko.out OI.out);obtain ⟨T,hT⟩:∃ T,kR c.aj g.af g.table=T:=⟨_,rfl⟩;rw [hT] at Kp ⊢;generalize decide (0≤bt c.aj.tables g.af g.table)=tb;obtain ⟨Y,hY⟩:∃ V,V=w5.alloc (.cells #[.string T.af,.string T.name,.string T.owner,.slice A2 T.au.length c2,.slice A3 T.rules.length c3] 80):=⟨_,rfl⟩
      have aY:ag w5 Y:=by rw [hY];exact (ag.refl w5).alloc _
      have RY:=gH (show ai Y w5.heap.size [.string T.af,.string T.name,.string T.owner,.slice A2 T.au.length c2,.slice A3 T.rules.length c3] by rw [hY];exact aN (ag.refl _));have AY:=gH (AX.out.trans (a5.trans aY));have RX5:=gH (RX.out.aA a5);have RXY:=gH (RX.out.aA (a5.trans aY));obtain ⟨y0,y1,y2,y3,y4,y5,yz⟩:=Cv RX5.out;have VO:=gH (show fy c l g=(pA c.aj (ea c.ar g.aI) T || jK l (ea c.ar g.aI) T.af T.name g.right true) by unfold fy;rw [hT,Kp.out.1,Kp.out.2.1]);clear a5 aY hT C;go_wp2_with fail;rw [← hY];clear hY y0 y1 y2 y3 y4 y5 yz;refine (Q4 g _).mono ?_;rintro e w6 ⟨rfl,a6⟩;have Nr:=gH (HM.out.to (AY.out.trans a6));have A6:=gH (AY.out.trans a6);have W9:=gH (RXY.out.aA a6);have ZH:=gH (RY.out.aA a6);obtain ⟨Q6,VP,ZI,Xa⟩:=KA.out w6 Nr.out.kb;have wH:=gH (show ∀ x∈l,wI x from fun x hx=>yZ.out x (Nr.out.Nn.sub x hx).mem);have OO:=Nr.out.mh.Cz mW Tryz.underlying182 (lu w6) (kh g) (iH g) (lr g zR.out);rw [lv l g wH.out zR.out] at OO;have Xb:(Instr.lookup 182 (.map (some bh)) (.agg #[.string g.af,.string g.table,.int .i64 g.right,.string g.aI,.string g.to]) false).run Tryz.prog w6=.ok (.int .i64 (if ml l g=true then 1 else 0)) w6:=OO;have SY:=ZI.look Tryz.underlying9 Tryz.underlying183 (ki w6) g.aI zR.out.2.2.1.max;have S8:(Instr.lookup 183 (.map (some bi)) (.string g.aI) false).run Tryz.prog w6=.ok (f (txt g.aI)) w6:=SY
      have hfn:f (txt g.aI)≠.slice none 0 0:=by have:=Xa.dn k hlt hlt;rw [HG.out] at this;exact this
      obtain ⟨d,Q1,hod,hdl⟩:=Xa.at hfn;rw [Q1] at S8
      have HIS:=gH (show ∀ V,Kb (fun g=>g=bh) wF V→∃ (_:True),az V 1 dC d.a d.c (ea c.ar g.aI)∧(Instr.lookup 183 (.map (some bi)) (.string g.aI) false).run Tryz.prog V=.ok (.slice d.a (ea c.ar g.aI).length d.c) V from fun V kb=>by
       obtain ⟨awV,bxV,miV,isV⟩:=KA.out V kb;obtain ⟨d',Kq,Xc,_⟩:=isV.at hfn
       have e1:d'.a=d.a∧d'.c=d.c:=by rw [Q1] at Kq;simp only [Value.slice.injEq] at Kq;exact ⟨Kq.1.symm,Kq.2.2.symm⟩
       have sn:=iq (aU awV HH.out.kw);have sl:=dS (R:=dC) cB Xc (fun x hx=>⟨rfl,rfl,sn.2 x (q9 hx)⟩) (by have:=sn.1;have:=ra c.ar g.aI;unfold Small at *;omega);rw [e1.1,e1.2] at sl;have:=miV.look Tryz.underlying9 Tryz.underlying183 (ki V) g.aI zR.out.2.2.1.max
       exact ⟨trivial,sl,this.trans (by rw [show f g.aI.data.toList=f (txt g.aI) from rfl,Q1])⟩)
      clear OO SY ZI Xa Q1 hod hfn a6;rw [SS.out] at VP;obtain ⟨x0,x1,x2,x3,x4,x5,x6,xz⟩:=j7 VP;have y3:=W9.out.cell (j:=3) rfl;have yz:=W9.out.1;obtain ⟨v0,v1,v2,v3,v4,vz⟩:=mv ZH.out
      cases wL:ml l g
      case true =>
       rw [wL,if_pos rfl] at Xb;have JO:=gH wL;clear wL VP Q6;go_wp2
       go_roundw
       case rel=>exact ⟨k+1,rfl,by omega,by go_num,A6.out,dG (p:=fun j=>∀ (hj:j < c.ah.length),ml l c.ah[j]=false→fy c l c.ah[j]=false) WZ.out (fun _ h=>by rw [HG.out,JO.out] at h;cases h)⟩
       case measure=>simp [intOf];omega
      case false =>
       rw [wL,if_neg (by decide)] at Xb;have JO:=gH wL;obtain ⟨bb,FK⟩:∃ bb,pA c.aj (ea c.ar g.aI) T=bb:=⟨_,rfl⟩;obtain ⟨gb,hgb⟩:∃ gb,jK l (ea c.ar g.aI) T.af T.name g.right true=gb:=⟨_,rfl⟩;rw [FK,hgb] at VO
       have CB:=gH (show Calls Tryz.prog 134 #[.agg #[.int .i64 c.av,.int .i64 c.version,.slice As c.aj.ae.length ax,.slice At c.aj.tables.length aD,.slice An c.ar.names.length aH,.slice Am c.ar.members.length aL,.slice (some ⟨b,off,none⟩) c.ah.length aP],.slice d.a (ea c.ar g.aI).length d.c,.agg #[.string T.af,.string T.name,.string T.owner,.slice A2 T.au.length c2,.slice A3 T.rules.length c3]] w6 fun e w''=>e=.returned (.bool bb)∧ag w6 w'' from
        FK▸Nk c As ax At aD An aH Am aL (some ⟨b,off,none⟩) aP (ea c.ar g.aI) d.a d.c T.af T.name T.owner A2 _ c2 A3 _ c3 T ⟨rfl,rfl⟩ w6 (HH.out.aA Q6) (HIS.out w6 Nr.out.kb).2.1 (by rw [Kp.out.1];exact Kp.out.2.2))
       clear wL VP Q6 FK;go_wp2_with fail;refine CB.out.mono ?_;rintro e w7 ⟨rfl,a7⟩;have FL:=gH (Nr.out.to a7);have A7:=gH (A6.out.trans a7);have Xd:=gH (W9.out.aA a7);have RY7:=gH (ZH.out.aA a7);clear Xb S8 x0 x1 x2 x3 x4 x5 x6 xz y3 yz v0 v1 v2 v3 v4 vz CB a7;obtain ⟨y0,y1,y2,y3,y4,y5,yz⟩:=Cv Xd.out
       cases bb
       case true =>
        have HJ:=gH (show fy c l g=true by rw [VO.out];rfl);go_wp2_with fail;have zbh:bh < wr.heap.size:=ZF.out
        have KS:=gH (show ∀ V,ag w7 V→V.cell? ⟨wr.heap.size,0,none⟩=some (.string g.af)∧V.cell? ⟨wr.heap.size,1,none⟩=some (.string g.table)∧V.cell? ⟨wr.heap.size,2,none⟩=some (.int .i64 g.right)∧V.cell? ⟨wr.heap.size,3,none⟩=some (.string g.aI)∧V.cell? ⟨wr.heap.size,4,none⟩=some (.string g.to)∧V.cell? ⟨wr.heap.size,5,none⟩=some (.bool g.opt) from fun V a=>by
         have p:=Xd.out.aA a
         exact ⟨p.cell (j:=0) rfl,p.cell (j:=1) rfl,p.cell (j:=2) rfl,p.cell (j:=3) rfl,p.cell (j:=4) rfl,p.cell (j:=5) rfl⟩)
        have OL:=gH (show ∀ V V',ag w7 V→V.grownBy V' (some bh)→V'.cell? ⟨wr.heap.size,0,none⟩=some (.string g.af)∧V'.cell? ⟨wr.heap.size,1,none⟩=some (.string g.table)∧V'.cell? ⟨wr.heap.size,2,none⟩=some (.int .i64 g.right)∧V'.cell? ⟨wr.heap.size,3,none⟩=some (.string g.aI)∧V'.cell? ⟨wr.heap.size,4,none⟩=some (.string g.to)∧V'.cell? ⟨wr.heap.size,5,none⟩=some (.bool g.opt) from fun V V' a gr=>by
         obtain ⟨h0,h1,h2,h3,h4,h5⟩:=KS.out V a;have kb:=Kb.cZ gr
         exact ⟨kb.cell h0 (fun e=>by simp only [Option.some.injEq] at e;omega),kb.cell h1 (fun e=>by simp only [Option.some.injEq] at e;omega),kb.cell h2 (fun e=>by simp only [Option.some.injEq] at e;omega),kb.cell h3 (fun e=>by simp only [Option.some.injEq] at e;omega),kb.cell h4 (fun e=>by simp only [Option.some.injEq] at e;omega),kb.cell h5 (fun e=>by simp only [Option.some.injEq] at e;omega)⟩)
        have GA:=gH FL.out
        have Ta:l.length < maxLen:=by unfold maxLen;omega
        clear y0 y1 y2 y3 y4 y5 yz
        go_region_held3 (fun V=>V.cell? ⟨wr.heap.size,0,none⟩=some (.string g.af)∧V.cell? ⟨wr.heap.size,1,none⟩=some (.string g.table)∧V.cell? ⟨wr.heap.size,2,none⟩=some (.int .i64 g.right)∧V.cell? ⟨wr.heap.size,3,none⟩=some (.string g.aI)∧V.cell? ⟨wr.heap.size,4,none⟩=some (.string g.to)∧V.cell? ⟨wr.heap.size,5,none⟩=some (.bool g.opt))
         (first | exact KS.out _ (ag.refl _).drew | exact KS.out _ A5.out | exact K6.out | exact K7.out)
         ((go_at_call 133;refine (Q4 g _).mono ?_;rintro e u5 ⟨rfl,a5⟩;have A5:=gH ((ag.refl w7).drew.trans a5);clear a5;have OP:=(GA.out.to A5.out).mh.Cz mW Tryz.underlying182 (lu u5) (kh g) (iH g) (lr g zR.out);rw [lv l g wH.out zR.out,JO.out,if_neg (by decide)] at OP;unfold kh at OP;obtain ⟨q0,st,u6,u7,E6,G6,L6,S7,M7,G7⟩:=(GA.out.to A5.out).mh.entry xo Tryz.underlying182 lu Ta (kh g) (iH g) (lr g zR.out) (.int .i64 (IntKind.i64.wrap 1));rw [lv l g wH.out zR.out,JO.out,if_neg (by decide)] at L6;unfold kh at E6 L6;simp only [goInt] at E6 S7;have K6:=gH (OL.out u5 u6 A5.out G6);have K7:=gH (OL.out u5 u7 A5.out G7);have GC:=gH (And.intro M7 G7);clear M7 G7 G6))
        all_goals
         have FL:=gH (show Kb (fun g=>g=bh) wF u7∧ee Tryz.prog 189 u7 bh (l++[g]).length (.int .i64 0) (pX (l++[g]))∧u7.ownsRow wF.heap.size 177 6 (.slice hd.a l.length hd.c) l.length (l.flatMap eR)∧wF.heap.size≤u7.heap.size from by
          have kb:Kb (fun g=>g=bh) u5 u7:=(Kb.cZ GC.out.2).mono fun g _ e=>(Option.some.inj e).symm
          have h5:=GA.out.to A5.out;have hr:=h5.row;rw [dm hr] at hr;refine ⟨h5.kb.trans kb,?_,br hr kb fun g hg e=>by have:=(hr.lt g hg).1;have:=VN.out;omega,Nat.le_trans h5.kb.size kb.size⟩;rw [xr,List.length_append]
          exact GC.out.1)
         obtain ⟨k0,k1,k2,k3,k4,k5⟩:=K7.out;have zu:wr.heap.size < u7.heap.size:=World.block_lt_of_cell? u7 ⟨wr.heap.size,0,none⟩ k0;have zF7:wF.heap.size≤u7.heap.size:=FL.out.2.2.2
         have OQ:l.length≤1000000:=by omega
         clear E6 L6 S7 OP
         go_wp2_with (at_builtin;go_must (refine CE rfl _ _ rfl wF.heap.size (.slice hd.a l.length hd.c) l.length (l.flatMap eR) rfl (cA FL.out.2.2.1 ((ag.refl u7).alloc _)) u7.heap.size g rfl (heap_alloc_new u7 _) OQ (by simp;omega) ?_);intro gg cap' u8 xv hgrow hat;have Tb:=gH (And.intro xv (And.intro hgrow hat));clear xv hgrow hat)
         refine ⟨⟨l++[g],⟨some ⟨gg,0,none⟩,l.length+1,cap'⟩,by simp,Km.next GA.out.Nn OI.out JO.out HJ.out FL.out VN.out Tb.out.1 Tb.out.2.1⟩,?_⟩
         show c.ah.length - (l.length+1) < c.ah.length - l.length
         have:=(GA.out.Nn.add OI.out JO.out HJ.out).len;rw [List.length_append] at this;simp only [List.length_cons,List.length_nil] at this;omega
       case false =>
        obtain ⟨_,ZJ,LK7⟩:=HIS.out w7 FL.out.kb;obtain ⟨v0,v1,v2,v3,v4,vz⟩:=mv RY7.out;have ZK:az w7 6 gy hd.a hd.c l:=dS eR FL.out.row (fun x hx=>⟨rfl,rfl,wH.out x hx⟩) (by unfold Small;omega)
        have CG:=gH (show Calls Tryz.prog 135 #[.slice hd.a l.length hd.c,.slice d.a (ea c.ar g.aI).length d.c,.agg #[.string T.af,.string T.name,.string T.owner,.slice A2 T.au.length c2,.slice A3 T.rules.length c3],.int .i64 g.right,.bool true] w7 fun e w''=>e=.returned (.bool gb)∧ag w7 w'' from
         hgb▸OB l hd.a hd.c (ea c.ar g.aI) d.a d.c T.af T.name T.owner A2 _ c2 A3 _ c3 g.right true w7 ZK ZJ)
        clear ZK ZJ;go_wp2_with fail;refine CG.out.mono ?_;rintro e w8 ⟨rfl,a8⟩;have HM8:=gH (FL.out.to a8);have A8:=gH (A7.out.trans a8);have ZL:=gH (Xd.out.aA a8);clear y0 y1 y2 y3 y4 y5 yz v0 v1 v2 v3 v4 vz LK7 CG a8;obtain ⟨y0,y1,y2,y3,y4,y5,yz⟩:=Cv ZL.out
        cases gb
        case false =>
         have HJ:=gH (show fy c l g=false by rw [VO.out];rfl);go_wp2
         go_roundw
         case rel=>exact ⟨k+1,rfl,by omega,by go_num,A8.out,dG (p:=fun j=>∀ (hj:j < c.ah.length),ml l c.ah[j]=false→fy c l c.ah[j]=false) WZ.out (fun _ _=>by rw [HG.out,HJ.out])⟩
         case measure=>simp [intOf];omega
        case true =>
         have HJ:=gH (show fy c l g=true by rw [VO.out];rfl);go_wp2_with fail;have zbh:bh < wr.heap.size:=ZF.out
         have KS:=gH (show ∀ V,ag w8 V→V.cell? ⟨wr.heap.size,0,none⟩=some (.string g.af)∧V.cell? ⟨wr.heap.size,1,none⟩=some (.string g.table)∧V.cell? ⟨wr.heap.size,2,none⟩=some (.int .i64 g.right)∧V.cell? ⟨wr.heap.size,3,none⟩=some (.string g.aI)∧V.cell? ⟨wr.heap.size,4,none⟩=some (.string g.to)∧V.cell? ⟨wr.heap.size,5,none⟩=some (.bool g.opt) from fun V a=>by
          have p:=ZL.out.aA a
          exact ⟨p.cell (j:=0) rfl,p.cell (j:=1) rfl,p.cell (j:=2) rfl,p.cell (j:=3) rfl,p.cell (j:=4) rfl,p.cell (j:=5) rfl⟩)
         have OL:=gH (show ∀ V V',ag w8 V→V.grownBy V' (some bh)→V'.cell? ⟨wr.heap.size,0,none⟩=some (.string g.af)∧V'.cell? ⟨wr.heap.size,1,none⟩=some (.string g.table)∧V'.cell? ⟨wr.heap.size,2,none⟩=some (.int .i64 g.right)∧V'.cell? ⟨wr.heap.size,3,none⟩=some (.string g.aI)∧V'.cell? ⟨wr.heap.size,4,none⟩=some (.string g.to)∧V'.cell? ⟨wr.heap.size,5,none⟩=some (.bool g.opt) from fun V V' a gr=>by
          obtain ⟨h0,h1,h2,h3,h4,h5⟩:=KS.out V a;have kb:=Kb.cZ gr
          exact ⟨kb.cell h0 (fun e=>by simp only [Option.some.injEq] at e;omega),kb.cell h1 (fun e=>by simp only [Option.some.injEq] at e;omega),kb.cell h2 (fun e=>by simp only [Option.some.injEq] at e;omega),kb.cell h3 (fun e=>by simp only [Option.some.injEq] at e;omega),kb.cell h4 (fun e=>by simp only [Option.some.injEq] at e;omega),kb.cell h5 (fun e=>by simp only [Option.some.injEq] at e;omega)⟩)
         have GA:=gH HM8.out
         have Ta:l.length < maxLen:=by unfold maxLen;omega
         clear y0 y1 y2 y3 y4 y5 yz
         go_region_held3 (fun V=>V.cell? ⟨wr.heap.size,0,none⟩=some (.string g.af)∧V.cell? ⟨wr.heap.size,1,none⟩=some (.string g.table)∧V.cell? ⟨wr.heap.size,2,none⟩=some (.int .i64 g.right)∧V.cell? ⟨wr.heap.size,3,none⟩=some (.string g.aI)∧V.cell? ⟨wr.heap.size,4,none⟩=some (.string g.to)∧V.cell? ⟨wr.heap.size,5,none⟩=some (.bool g.opt))
          (first | exact KS.out _ (ag.refl _).drew | exact KS.out _ A5.out | exact K6.out | exact K7.out)
          ((go_at_call 133;refine (Q4 g _).mono ?_;rintro e u5 ⟨rfl,a5⟩;have A5:=gH ((ag.refl w8).drew.trans a5);clear a5;have OP:=(GA.out.to A5.out).mh.Cz mW Tryz.underlying182 (lu u5) (kh g) (iH g) (lr g zR.out);rw [lv l g wH.out zR.out,JO.out,if_neg (by decide)] at OP;unfold kh at OP;obtain ⟨q0,st,u6,u7,E6,G6,L6,S7,M7,G7⟩:=(GA.out.to A5.out).mh.entry xo Tryz.underlying182 lu Ta (kh g) (iH g) (lr g zR.out) (.int .i64 (IntKind.i64.wrap 1));rw [lv l g wH.out zR.out,JO.out,if_neg (by decide)] at L6;unfold kh at E6 L6;simp only [goInt] at E6 S7;have K6:=gH (OL.out u5 u6 A5.out G6);have K7:=gH (OL.out u5 u7 A5.out G7);have GC:=gH (And.intro M7 G7);clear M7 G7 G6))
         all_goals
          have FL:=gH (show Kb (fun g=>g=bh) wF u7∧ee Tryz.prog 189 u7 bh (l++[g]).length (.int .i64 0) (pX (l++[g]))∧u7.ownsRow wF.heap.size 177 6 (.slice hd.a l.length hd.c) l.length (l.flatMap eR)∧wF.heap.size≤u7.heap.size from by
           have kb:Kb (fun g=>g=bh) u5 u7:=(Kb.cZ GC.out.2).mono fun g _ e=>(Option.some.inj e).symm
           have h5:=GA.out.to A5.out;have hr:=h5.row;rw [dm hr] at hr;refine ⟨h5.kb.trans kb,?_,br hr kb fun g hg e=>by have:=(hr.lt g hg).1;have:=VN.out;omega,Nat.le_trans h5.kb.size kb.size⟩;rw [xr,List.length_append]
           exact GC.out.1)
          obtain ⟨k0,k1,k2,k3,k4,k5⟩:=K7.out;have zu:wr.heap.size < u7.heap.size:=World.block_lt_of_cell? u7 ⟨wr.heap.size,0,none⟩ k0;have zF7:wF.heap.size≤u7.heap.size:=FL.out.2.2.2
          have OQ:l.length≤1000000:=by omega
          clear E6 L6 S7 OP
          go_wp2_with (at_builtin;go_must (refine CE rfl _ _ rfl wF.heap.size (.slice hd.a l.length hd.c) l.length (l.flatMap eR) rfl (cA FL.out.2.2.1 ((ag.refl u7).alloc _)) u7.heap.size g rfl (heap_alloc_new u7 _) OQ (by simp;omega) ?_);intro gg cap' u8 xv hgrow hat;have Tb:=gH (And.intro xv (And.intro hgrow hat));clear xv hgrow hat)
          refine ⟨⟨l++[g],⟨some ⟨gg,0,none⟩,l.length+1,cap'⟩,by simp,Km.next GA.out.Nn OI.out JO.out HJ.out FL.out VN.out Tb.out.1 Tb.out.2.1⟩,?_⟩
          show c.ah.length - (l.length+1) < c.ah.length - l.length
          have:=(GA.out.Nn.add OI.out JO.out HJ.out).len;rw [List.length_append] at this;simp only [List.length_cons,List.length_nil] at this;omega
     ·have hm:=HM.out.to WY.out
      have pT:∀ g∈c.ah,ml l g=false→fy c l g=false:=fun g hg=>by
       obtain ⟨j,hj,rfl⟩:=List.getElem_of_mem hg;exact WZ.out j (by omega) hj
      have hr:=hm.row;rw [dm hr] at hr;have CS:=gH (Kl hd wF.heap.size l hm.nil (by omega) wr hr);have Xe:=gH pT;have AWr:=gH (KA.out wr hm.kb).1;clear hm pT hr;go_wp2_with fail;refine CS.out.mono ?_;rintro e w9 ⟨rfl,l',hp,hs,ho,ha⟩
      have HE:=gH (show l'=cJ c from by
       have:=HM.out.Nn.sorted (bP.1 Ko.out).2.2.2 Xe.out hp (fun i j hi hj mU=>Int.not_lt.2 (hs i j hi hj mU))
       rw [this];unfold cJ;rw [if_pos Ko.out])
      have HL:=gH (show l'.length=l.length from hp.length_eq);have HA:=gH (ha w AWr.out ZE.out);have HO:=gH ho;clear hp hs ho ha;go_wp2_with fail;rw [Exit.noGoto_ret];go_ret;refine ⟨⟨hd.a,l.length,hd.c⟩,rfl,HA.out,?_⟩;rw [← HE.out];have ho:=HO.out;rw [← HL.out] at ho
      show w9.ownsRow w.heap.size _ 6 (.slice hd.a l.length hd.c) _ _
      rw [← HL.out];exact bM ho ZE.out
end Go.Proofs.YtakddkhipelmjaaGreat
