import Derived.Test.YtmflccbnoeaafaaGreatPartC5
namespace Go.Proofs.YtmflccbnoeaafaaGreat
open Go.RowKit Go.Deep
set_option maxRecDepth 100000
set_option linter.unusedVariables false
set_option maxHeartbeats 64000000
def DN:fX:=⟨[],[]⟩
def ky (w:World) (B b:Nat) (f:fX × Int) (e:Ending) (w':World):Prop :=
 e=.returned (.int .i64 f.2)∧Kb (fun g=>B≤g) w w'∧(f.2=0→∃ hn hm:Hd,dY w' B hn hm f.1∧ap w' b [hn.v,hm.v])
noncomputable def eC (r:fX) (f:fX × Int):fX × Int:=if bN r then (if f.2=0 then (f.1,0) else (DN,f.2)) else (DN,1)
def jE (w:World) (f:fX × Int) (e:Ending) (w':World):Prop :=
 ∃ hn hm:Hd,e=.returned (.tuple #[.agg #[hn.v,hm.v],.int .i64 f.2])∧ag w w'∧dY w' w.heap.size hn hm f.1
theorem Af (w:World) (B:Nat):dY w B ⟨none,0,0⟩ ⟨none,0,0⟩ DN:=⟨dl _ _ _ _,dl _ _ _ _,fun g hg=>by simp [Hd.blk] at hg⟩
theorem ql (r:fX) (An:Option Addr) (aI:Nat) (Am:Option Addr) (aK:Nat) (g:FuncId) (ar:Array Value) (f:fX × Int) (w:World) (hn:aL w 1 dK An aI r.names) (hm:aL w 2 ia Am aK r.members)
  (bR:∀ (args:Array Value) (w:World),(callFunc g args).run Tryz.prog w=.ok (.enter g args) w)
  (uQ:bN r=true→∀ (w1:World) (B b:Nat) (hn hm:Hd),ag w w1→w.heap.size≤B→dY w1 B hn hm r→ap w1 b [hn.v,hm.v]→B≤b→b∉hn.blk→b∉hm.blk→Calls Tryz.prog g (#[.pointer (some ⟨b,0,none⟩)]++ar) w1 (ky w1 B b f)) :
  Calls Tryz.prog 135 #[.agg #[.slice An r.names.length aI,.slice Am r.members.length aK],.func (.func g) #[] ar] w (jE w (eC r f)):=by
 have l1:w.heap.size < w.heap.size+1:=by omega
 have l2:w.heap.size < w.heap.size+1+1:=by omega
 obtain ⟨W,hW⟩:∃ W,W=(w.alloc (.cells #[.slice An r.names.length aI,.slice Am r.members.length aK] 29)).alloc (.cells #[.slice none 0 0,.slice none 0 0] 29):=⟨_,rfl⟩
 have aW:ag w W:=by rw [hW];exact ((ag.refl w).alloc _).alloc _
 have r1:ap W w.heap.size [.slice An r.names.length aI,.slice Am r.members.length aK]:=by rw [hW];exact (dV w [.slice An r.names.length aI,.slice Am r.members.length aK] 29).az ((ag.refl _).alloc _)
 have r2:ap W (w.heap.size+1) [.slice none 0 0,.slice none 0 0]:=by
  rw [hW];have:=dV (w.alloc (.cells #[.slice An r.names.length aI,.slice Am r.members.length aK] 29)) [.slice none 0 0,.slice none 0 0] 29
  simpa using this
 have zW:W.heap.size=w.heap.size+2:=by rw [hW];simp
 obtain ⟨q,hq⟩:∃ q,bN r=q:=⟨_,rfl⟩;have C1:=gH (fun w' (a:ag w w')=>hq▸Hg r An aI Am aK w' (aM a hn) (bJ a hm))
 have HB:=gH (show q=true→r.names.length≤16∧r.members.length≤256 from fun h=>by
  have h2:bN r=true:=by rw [hq];exact h
  unfold bN at h2;simp only [Bool.and_eq_true,decide_eq_true_eq] at h2
  exact ⟨h2.1.1.1.1,h2.1.1.1.2⟩)
 have HE:=gH (show eC r f=if q then (if f.2=0 then (f.1,0) else (DN,f.2)) else (DN,1) by unfold eC;rw [hq]);have GY:=gH (fun (h:q=true)=>uQ (by rw [hq];exact h));have NW:=gH (And.intro hn hm);have br:=gH aW;have HR:=gH (And.intro r1 r2);have lc:=gH zW
 have K1:=gH (show ∀ w',ag W w'→(w'.cell? ⟨w.heap.size,0,none⟩=some (.slice An r.names.length aI)∧w'.cell? ⟨w.heap.size,1,none⟩=some (.slice Am r.members.length aK)∧w'.cell? ⟨w.heap.size+1,0,none⟩=some (.slice none 0 0)∧w'.cell? ⟨w.heap.size+1,1,none⟩=some (.slice none 0 0)∧w'.frozen? ⟨w.heap.size+1,0,none⟩=false∧w'.frozen? ⟨w.heap.size+1,1,none⟩=false∧w.heap.size < w'.heap.size∧w.heap.size+1 < w'.heap.size) from fun w' a=>by
  have q1:=r1.az a;have q2:=r2.az a
  exact ⟨q1.cell (j:=0) rfl,q1.cell (j:=1) rfl,q2.cell (j:=0) rfl,q2.cell (j:=1) rfl,q2.2.2 0 (by simp),q2.2.2 1 (by simp),q1.1,q2.1⟩)
 clear hq hn hm aW r1 r2 zW uQ
 go_enter Tryz.func135,Tryz.ntmps135
 go_wp2_with fail;rw [← hW];clear hW;refine (C1.out W br.out).mono ?_;rintro e w1 ⟨rfl,a1⟩;have cG:=gH a1;obtain ⟨k1,k2,k3,k4,k5,k6,k7,k8⟩:=K1.out w1 a1;clear a1
 cases q
 ·have HP:=gH (show jE w (eC r f) (.returned (.tuple #[.agg #[.slice none 0 0,.slice none 0 0],.int .i64 1])) ((w1.setCell ⟨w.heap.size+1,0,none⟩ (.slice none 0 0)).setCell ⟨w.heap.size+1,1,none⟩ (.slice none 0 0)) from by
   rw [HE.out]
   exact ⟨⟨none,0,0⟩,⟨none,0,0⟩,rfl,((br.out.trans cG.out).setCell _ _ (by show w.heap.size≤w.heap.size+1;omega)).setCell _ _ (by show w.heap.size≤w.heap.size+1;omega),Af _ _⟩)
  go_wp2_with fail;refine bodyPost_ret (results_cell_tmp (v:=.agg #[.slice none 0 0,.slice none 0 0]) rfl _ rfl (fT (dg (HR.out.2.az cG.out) rfl _ _))) rfl ?_;exact HP.out
 have hb:=HB.out (by first | trivial | rfl);have D1:=gH (fun w' (a:ag w1 w')=>iq An aI r.names w' w' (ag.refl _) (aM ((br.out.trans cG.out).trans a) NW.out.1) (by have:=hb.1;omega));have D2:=gH (fun w' (a:ag w1 w')=>nI Am aK r.members w' w' (ag.refl _) (bJ ((br.out.trans cG.out).trans a) NW.out.2) (by have:=hb.2;omega));have KS:=gH (show ∀ w',ag w1 w'→(ag w1 w'∧w'.cell? ⟨w.heap.size,0,none⟩=some (.slice An r.names.length aI)∧w'.cell? ⟨w.heap.size,1,none⟩=some (.slice Am r.members.length aK)) from fun w' a=>⟨a,a.cell_kept k1,a.cell_kept k2⟩);clear hb;go_wp2_with fail
 go_region_held3 (fun w'=>ag w1 w'∧w'.cell? ⟨w.heap.size,0,none⟩=some (.slice An r.names.length aI)∧w'.cell? ⟨w.heap.size,1,none⟩=some (.slice Am r.members.length aK))
  ((refine KS.out _ ?_;first
   | exact (ag.refl _).drew
   | exact ((ag.refl _).alloc _).drew
   | exact q5
   | exact q5.alloc _
   | exact (q5.setCell ⟨w4.heap.size,0,none⟩ _ q4.size).setCell ⟨w4.heap.size,1,none⟩ _ q4.size
   | exact (q5.setCell ⟨w1.heap.size,0,none⟩ _ (Nat.le_refl _)).setCell ⟨w1.heap.size,1,none⟩ _ (Nat.le_refl _)
   | exact q4
   | exact q4.alloc _))
  ((first | (go_at_call 52;refine (D1.out _ (And.left (by assumption:ag w1 _∧_))).mono ?_;rintro e w4 ⟨v4,LD,rfl,a4,o4,h4⟩;have q4:ag w1 w4:=(by first | exact (ag.refl w1).drew.trans a4 | exact ((ag.refl w1).alloc _).drew.trans a4);(try ((with_reducible have hx4:=cJ ((ag.refl _).drew.trans a4));obtain ⟨hb4,hf4,AL,Rf,HH4⟩:=hx4));rw [fG h4] at o4;clear h4;obtain ⟨A4,c4,hv4⟩:=dw o4;subst hv4) | (go_at_call 53;refine (D2.out _ (And.left (by assumption:ag w1 _∧_))).mono ?_;rintro e w5 ⟨v5,O3,rfl,a5,o5,h5⟩;have q5:ag w1 w5:=(by first | exact q4.trans a5 | exact (q4.alloc _).trans a5);(try (have hx6:=Kt hb4 hf4 AL.1 a5;obtain ⟨hb6,hf6,Xy,hy6⟩:=hx6));(try ((with_reducible have hx5:=cJ a5);obtain ⟨nW,NM,VW,hy5,HH5⟩:=hx5));rw [nJ h5] at o5;clear h5;obtain ⟨A5,c5,O4⟩:=dw o5;subst O4)))
 focus
  obtain ⟨Wn,Kr⟩:∃ Wn,Wn=w5.alloc (.cells #[.slice A4 r.names.length c4,.slice A5 r.members.length c5] 29):=⟨_,rfl⟩;obtain ⟨b,hb⟩:∃ b,b=w5.heap.size:=⟨_,rfl⟩
  have FB:ap Wn b [.slice A4 r.names.length c4,.slice A5 r.members.length c5]:=by rw [Kr,hb];exact dV w5 [.slice A4 r.names.length c4,.slice A5 r.members.length c5] 29
  have FK:Kb (fun g=>g=b) w5 Wn:=by rw [Kr];exact Kb.aH ((ag.refl w5).alloc _)
  have FS:w1.heap.size≤b:=by rw [hb];exact q5.size
  have UF:ag w4 w5:=a5
 rotate_left
 focus
  obtain ⟨Wn,Kr⟩:∃ Wn,Wn=(w5.setCell ⟨w4.heap.size,0,none⟩ (.slice A4 r.names.length c4)).setCell ⟨w4.heap.size,1,none⟩ (.slice A5 r.members.length c5):=⟨_,rfl⟩;obtain ⟨b,hb⟩:∃ b,b=w4.heap.size:=⟨_,rfl⟩
  have Yh:ap w5 b [.slice none 0 0,.slice none 0 0]:=by rw [hb];exact ⟨VW.1,fun j hj=>by rw [nW];simp,fun j hj=>NM j⟩
  have FB:ap Wn b [.slice A4 r.names.length c4,.slice A5 r.members.length c5]:=by rw [Kr,← hb];exact dg Yh rfl _ _
  have FK:Kb (fun g=>g=b) w5 Wn:=by rw [Kr,← hb];exact (Kb.set _ _ _ _).trans (Kb.set _ _ _ _)
  have FS:w1.heap.size≤b:=by rw [hb];exact q4.size
  have UF:ag w4 w5:=((ag.refl w4).alloc _).trans a5
 rotate_left
 focus
  obtain ⟨Wn,Kr⟩:∃ Wn,Wn=(w5.setCell ⟨w1.heap.size,0,none⟩ (.slice A4 r.names.length c4)).setCell ⟨w1.heap.size,1,none⟩ (.slice A5 r.members.length c5):=⟨_,rfl⟩;obtain ⟨b,hb⟩:∃ b,b=w1.heap.size:=⟨_,rfl⟩
  have Yh:ap w5 b [.slice none 0 0,.slice none 0 0]:=by rw [hb];exact ⟨Xy.1,fun j hj=>by rw [hb6];simp,fun j hj=>hf6 j⟩
  have FB:ap Wn b [.slice A4 r.names.length c4,.slice A5 r.members.length c5]:=by rw [Kr,← hb];exact dg Yh rfl _ _
  have FK:Kb (fun g=>g=b) w5 Wn:=by rw [Kr,← hb];exact (Kb.set _ _ _ _).trans (Kb.set _ _ _ _)
  have FS:w1.heap.size≤b:=by rw [hb];exact Nat.le_refl _
  have UF:ag w4 w5:=a5
 rotate_left
 all_goals
  have s45:=UF.size;have s4:=a4.size
  (try simp at s4)
  have L4:∀ g,(Hd.mk A4 r.names.length c4).v.ownBlock=some g→w1.heap.size≤g∧g < w4.heap.size∧g≠b:=fun g hg=>by
   have h8:=o4.lt g hg
   (try simp at h8)
   omega
  have L5:∀ g,(Hd.mk A5 r.members.length c5).v.ownBlock=some g→w4.heap.size≤g∧g < w5.heap.size∧g≠b:=fun g hg=>by
   have h8:=o5.lt g hg
   (try simp at h8)
   omega
  have FA:ag w1 Wn:=FK.aZ q5 (fun g hg e=>by have e:g=b:=e;omega);have p4:w5.ownsRow w1.heap.size 9 1 (Hd.mk A4 r.names.length c4).v r.names.length (r.names.flatMap bY):=iF (bu o4 UF) (fun g hg=>(L4 g hg).1);have p5:w5.ownsRow w1.heap.size 103 2 (Hd.mk A5 r.members.length c5).v r.members.length (r.members.flatMap fP):=iF o5 (fun g hg=>by have:=(L5 g hg).1;have:=q4.size;omega)
  have FR:dY Wn w1.heap.size ⟨A4,r.names.length,c4⟩ ⟨A5,r.members.length,c5⟩ r:=⟨aP p4 FK (fun g hg=>(L4 g hg).2.2),aP p5 FK (fun g hg=>(L5 g hg).2.2),fun g hg gl=>by
   have h8:=(L4 g (Hd.au.1 hg)).2.1;have h9:=(L5 g (Hd.au.1 gl)).1
   omega⟩
  have CD:=gH (GY.out (by first | trivial | rfl) Wn w1.heap.size b ⟨A4,r.names.length,c4⟩ ⟨A5,r.members.length,c5⟩ ((br.out.trans cG.out).trans FA) (br.out.trans cG.out).size FR FB FS (fun h=>(L4 b (Hd.au.1 h)).2.2 rfl) (fun h=>(L5 b (Hd.au.1 h)).2.2 rfl));have K6:=gH (show ∀ w6,Kb (fun g=>w1.heap.size≤g) Wn w6→ag w1 w6 from fun w6 kb=>kb.aZ FA (fun g hg h=>by omega));have Yi:=gH (show w.heap.size+2≤w1.heap.size by have:=lc.out;have:=cG.out.size;omega);rw [← Kr]
  (try rw [← hb])
  clear Kr hb FB FK FS UF s45 s4 L4 L5 FA p4 p5 FR a4 a5 o4 o5 q4 q5 k1 k2 k3 k4 k5 k6 k7 k8;go_wp2_with fail;refine CD.out.mono ?_;rintro e w6 ⟨rfl,kb,Yj⟩;have a6:=K6.out w6 kb;have nX:=gH (cG.out.trans a6);obtain ⟨k1,k2,k3,k4,k5,k6,k7,k8⟩:=K1.out w6 nX.out;clear a6 kb;obtain ⟨f1,f2⟩:=f;by_cases h0:f2=0
  ·subst h0
   obtain ⟨⟨UG,UH,UI⟩,⟨UJ,UK,UL⟩,fj,row⟩:=Yj rfl;have z0:=row.cell (j:=0) rfl;have z1:=row.cell (j:=1) rfl;have zz:=row.1
   have HP:=gH (show jE w (eC r (f1,0)) (.returned (.tuple #[.agg #[(Hd.mk UG UH UI).v,(Hd.mk UJ UK UL).v],.int .i64 0])) ((w6.setCell ⟨w.heap.size+1,0,none⟩ (Hd.mk UG UH UI).v).setCell ⟨w.heap.size+1,1,none⟩ (Hd.mk UJ UK UL).v) from by
    rw [HE.out];have k9:=(Kb.set w6 (w.heap.size+1) 0 (Hd.mk UG UH UI).v).trans (Kb.set _ (w.heap.size+1) 1 (Hd.mk UJ UK UL).v);refine ⟨⟨UG,UH,UI⟩,⟨UJ,UK,UL⟩,rfl,((br.out.trans nX.out).setCell _ _ (by show w.heap.size≤w.heap.size+1;omega)).setCell _ _ (by show w.heap.size≤w.heap.size+1;omega),?_⟩;have r9:=fj.down (B':=w.heap.size) (by have:=Yi.out;omega)
    exact ⟨aP r9.fK k9 (fun g hg e=>by have e:g=w.heap.size+1:=e;have:=(fj.fK.lt g hg).1;have:=Yi.out;omega),aP r9.mem k9 (fun g hg e=>by have e:g=w.heap.size+1:=e;have:=(fj.mem.lt g hg).1;have:=Yi.out;omega),fj.mU⟩)
   simp only [Hd.v] at z0 z1 HP;clear Yj fj row;go_wp2_with fail;refine bodyPost_ret (results_cell_tmp (v:=.agg #[.slice UG UH UI,.slice UJ UK UL]) rfl _ rfl (fT (dg (HR.out.2.az nX.out) rfl _ _))) rfl ?_;exact HP.out
  ·have HP:=gH (show jE w (eC r (f1,f2)) (.returned (.tuple #[.agg #[.slice none 0 0,.slice none 0 0],.int .i64 f2])) ((w6.setCell ⟨w.heap.size+1,0,none⟩ (.slice none 0 0)).setCell ⟨w.heap.size+1,1,none⟩ (.slice none 0 0)) from by
    rw [HE.out];simp only [if_true,if_neg h0]
    exact ⟨⟨none,0,0⟩,⟨none,0,0⟩,rfl,((br.out.trans nX.out).setCell _ _ (by show w.heap.size≤w.heap.size+1;omega)).setCell _ _ (by show w.heap.size≤w.heap.size+1;omega),Af _ _⟩)
   have h0b:(f2==0)=false:=by simpa using h0
   clear Yj;go_wp2_with fail;refine bodyPost_ret (results_cell_tmp (v:=.agg #[.slice none 0 0,.slice none 0 0]) rfl _ rfl (fT (dg (HR.out.2.az nX.out) rfl _ _))) rfl ?_;exact HP.out
theorem Qt (A:Option Addr) (cap:Nat) (l:List em) (g:FuncId) (ar:Array Value) (p:em→Bool) (w:World) (h:aL w 2 ia A cap l) (bR:∀ (args:Array Value) (w:World),(callFunc g args).run Tryz.prog w=.ok (.enter g args) w)
  (hp:∀ w',ag w w'→∀ i (hi:i < l.length),Calls Tryz.prog g (#[.agg #[.string l[i].role,.string l[i].of]]++ar) w' fun e w''=>e=.returned (.bool (p l[i]))∧ag w' w'') :
  Calls Tryz.prog 201 #[.slice A l.length cap,.func (.func g) #[] ar] w fun e w'=>e=.returned (.int .i64 (bK p l))∧ag w w':=by
 have hlen:=h.len;have HC:=gH hp;clear hp
 go_enter Tryz.func201,Tryz.ntmps201
 go_wp2_with fail
 go_loopw [8] (fun i wr=>∃ k:Nat,k≤l.length∧i=.int .i64 k∧ag w wr∧∀ j,j < k→∀ (hj:j < l.length),p l[j]=false) (fun i _=>l.length - (intOf i).toNat)
 case atStart=>exact ⟨0,Nat.zero_le _,rfl,ag.refl _,fun j hj=>absurd hj (Nat.not_lt_zero j)⟩
 case round =>
  obtain ⟨k,hk,rfl,ha,hp⟩:=hrel;have HA:=gH ha;have HP:=gH hp;clear hp;by_cases hlt:k < l.length
  ·have eT:=bJ ha h
   clear ha;obtain ⟨b,off,rfl,hb,c0,c1,hs,hs2⟩:=ku eT hlt;have HK:=gH (HC.out wr HA.out k hlt);clear eT;obtain ⟨q,hq⟩:∃ q,p l[k]=q:=⟨_,rfl⟩;rw [hq] at HK;have HQ:=gH hq;clear hq
   cases q
   ·go_wp2_with fail
    refine HK.out.mono ?_;rintro e w1 ⟨rfl,a1⟩;have cG:=gH (HA.out.trans a1);clear a1;go_wp2_with fail
    go_roundw
    case rel=>exact ⟨k+1,by omega,by go_num,cG.out,er (p:=fun j=>∀ (hj:j < l.length),p l[j]=false) HP.out (fun _=>HQ.out)⟩
    case measure=>simp [intOf];omega
   ·go_wp2_with fail
    refine HK.out.mono ?_;rintro e w1 ⟨rfl,a1⟩;have cG:=gH (HA.out.trans a1);clear a1;go_wp2_with fail;go_ret;exact ⟨by rw [fR p l k hlt HQ.out (fun i hi=>HP.out i hi (by omega))];rfl,cG.out⟩
  ·clear ha
   go_wp2_with fail;go_ret;exact ⟨by rw [gJ p l (fun i hi=>HP.out i (by omega) hi)];rfl,HA.out⟩
theorem MC (A:Option Addr) (cap:Nat) (l:List em) (g:FuncId) (ar:Array Value) (p:em→Bool) (w:World) (h:aL w 2 ia A cap l) (bR:∀ (args:Array Value) (w:World),(callFunc g args).run Tryz.prog w=.ok (.enter g args) w)
  (hp:∀ w',ag w w'→∀ i (hi:i < l.length),Calls Tryz.prog g (#[.agg #[.string l[i].role,.string l[i].of]]++ar) w' fun e w''=>e=.returned (.bool (p l[i]))∧ag w' w'') :
  Calls Tryz.prog 138 #[.slice A l.length cap,.func (.func g) #[] ar] w fun e w'=>e=.returned (.bool (l.any p))∧ag w w':=by
 have C:=gH (Qt A cap l g ar p w h bR hp);have HE:=gH (iV p l);obtain ⟨i,hi⟩:∃ i,bK p l=i:=⟨_,rfl⟩;rw [hi] at C HE;clear hi hp
 go_enter Tryz.func138,Tryz.ntmps138
 go_wp2_with fail;refine C.out.mono ?_;rintro e w1 ⟨rfl,a1⟩;have HA:=gH a1;clear a1;go_wp2_with fail;go_ret;exact ⟨by rw [← HE.out];rfl,HA.out⟩
def oz (name:ByteArray) (m:em):Bool:=bk m.role name || bk m.of name
theorem Qu (m:em) (name:ByteArray) (bn:Nat) (w:World) (hc:w.cell? ⟨bn,0,none⟩=some (.string name)) :
  Calls Tryz.prog 139 (#[.agg #[.string m.role,.string m.of]]++#[.pointer (some ⟨bn,0,none⟩)]) w fun e w'=>e=.returned (.bool (oz name m))∧ag w w':=by
 have hz:bn < w.heap.size:=World.block_lt_of_cell? w ⟨bn,0,none⟩ hc
 have hz1:bn < w.heap.size+1:=by omega
 obtain ⟨p,hp⟩:∃ p,bk m.role name=p:=⟨_,rfl⟩;obtain ⟨q,hq⟩:∃ q,bk m.of name=q:=⟨_,rfl⟩;have hp2:(m.role.toList==name.toList)=p:=hp;have hq2:(m.of.toList==name.toList)=q:=hq;have HU:=gH (show oz name m=(p || q) by unfold oz;rw [hp,hq]);clear hp hq
 show Calls Tryz.prog 139 #[.agg #[.string m.role,.string m.of],.pointer (some ⟨bn,0,none⟩)] w _
 cases p
 all_goals
  cases q
  all_goals
   go_enter Tryz.func139,Tryz.ntmps139
   go_wp2_with fail;go_ret;exact ⟨by rw [HU.out];rfl,(ag.refl _).alloc _⟩
end Go.Proofs.YtmflccbnoeaafaaGreat
namespace Go.Proofs.YtmflccbnoeaafaaGreat
set_option maxRecDepth 100000
set_option linter.unusedVariables false
set_option maxHeartbeats 64000000
def cN {α:Type} (c:α→α→Int) (l:List α) (x:α):Nat:=l.countP fun y=>decide (c y x < 0)
theorem ma {α:Type} (p:α→Bool):∀ (l:List α) (i:Nat),i≤l.length→(∀ t (h:t < l.length),t < i→p l[t]=true)→(∀ t (h:t < l.length),i≤t→p l[t]=false)→l.countP p=i
 | [],i,hi,_,_=>by simp at hi;simp [hi]
 | a::r,0,_,_,h2=>by
  rw [List.countP_eq_zero];intro x hx;obtain ⟨t,ht,rfl⟩:=List.getElem_of_mem hx;rw [h2 t ht (Nat.zero_le _)];simp
 | a::r,i+1,hi,h1,h2=>by
  have ha:p a=true:=h1 0 (by simp) (Nat.succ_pos _);rw [List.countP_cons_of_pos ha,ma p r i (by simpa using hi) (fun t h ht=>h1 (t+1) (by simpa using h) (by omega)) (fun t h ht=>h2 (t+1) (by simpa using h) (by omega))]
theorem eh {α:Type} {c:α→α→Int} (tr:∀ a b d,c a b < 0→c b d < 0→c a d < 0) {l:List α} (h:aN c l=true):∀ (a b:Nat) (ha:a < l.length) (hb:b < l.length),a < b→c l[a] l[b] < 0:=by
 intro a b
 induction b with
 | zero=>intro ha hb hab;omega
 | succ b ih =>
  intro ha hb hab;have h1:=(dh c l).1 h b hb
  rcases Nat.lt_or_ge a b with h2 | h2
  ·exact tr _ _ _ (ih ha (by omega) h2) h1
  ·have:a=b:=by omega
   subst this;exact h1
theorem pu {α:Type} {c:α→α→Int} (tr:∀ a b d,c a b < 0→c b d < 0→c a d < 0) {l:List α} (h:aN c l=true) (x:α) (a b:Nat) (ha:a < l.length) (hb:b < l.length) (hab:a≤b) (hx:c l[b] x < 0):c l[a] x < 0:=by
 rcases Nat.lt_or_ge a b with h2 | h2
 ·exact tr _ _ _ (eh tr h a b ha hb h2) hx
 ·have:a=b:=by omega
  subst this;exact hx
theorem fD {α:Type} (c:α→α→Int) (l:List α) (x:α):cN c l x≤l.length:=List.countP_le_length
def b8 {α:Type} (c:α→α→Int) (l:List α) (x:α):Bool:=match l[cN c l x]? with | some y=>decide (c y x=0) | none=>false
def bQ {α:Type} (l:List α) (p:Nat) (x:α):List α:=l.take p++[x]++l.drop p
theorem fQ {α:Type} {c:α→α→Int} {l:List α} {x:α} (h:b8 c l x=true):cN c l x < l.length:=by
 unfold b8 at h
 rcases Nat.lt_or_ge (cN c l x) l.length with h1 | h1
 ·exact h1
 ·rw [List.getElem?_eq_none h1] at h;cases h
structure uu {α:Type} (c:α→α→Int):Prop where
 tr:∀ a b d,c a b < 0→c b d < 0→c a d < 0
 dU:∀ a b,c a b = - c b a
 Og:∀ a b,c a b=0→a=b
theorem uu.refl {α:Type} {c:α→α→Int} (o:uu c) (a:α):c a a=0:=by have:=o.dU a a;omega
theorem JW {α:Type} (p:α→Bool) (l:List α) (mono:∀ a b (ha:a < l.length) (hb:b < l.length),a≤b→p l[b]=true→p l[a]=true):∀ n,n≤l.length→∃ i,i≤n∧(∀ t (h:t < l.length),t < i→p l[t]=true)∧(∀ t (h:t < l.length),i≤t→t < n→p l[t]=false):=by
 intro n
 induction n with
 | zero=>intro _;exact ⟨0,Nat.le_refl _,fun t _ h=>absurd h (Nat.not_lt_zero t),fun t _ _ h=>absurd h (Nat.not_lt_zero t)⟩
 | succ n ih =>
  intro hn;obtain ⟨i,hi,h1,h2⟩:=ih (by omega)
  cases hp:p (l[n]'(by omega))
  ·refine ⟨i,by omega,h1,fun t ht h3 h4=>?_⟩
   rcases Nat.lt_or_ge t n with h5 | h5
   ·exact h2 t ht h3 h5
   ·have:t=n:=by omega
    subst this;exact hp
  ·refine ⟨n+1,Nat.le_refl _,fun t ht h3=>mono t n ht (by omega) (by omega) hp,fun t ht h3 h4=>by omega⟩
theorem lU {α:Type} {c:α→α→Int} (tr:∀ a b d,c a b < 0→c b d < 0→c a d < 0) {l:List α} (h:aN c l=true) (x:α):(∀ t (h:t < l.length),t < cN c l x→c l[t] x < 0)∧(∀ t (h:t < l.length),cN c l x≤t→¬ c l[t] x < 0):=by
 obtain ⟨i,hi,h1,h2⟩:=JW (fun y=>decide (c y x < 0)) l (fun a b ha hb hab hx=>decide_eq_true (pu tr h x a b ha hb hab (of_decide_eq_true hx))) l.length (Nat.le_refl _)
 have hp:cN c l x=i:=ma _ l i hi h1 fun t ht hit=>h2 t ht hit ht
 rw [hp];exact ⟨fun t ht hl=>of_decide_eq_true (h1 t ht hl),fun t ht hl=>of_decide_eq_false (h2 t ht hl ht)⟩
theorem F9 {α:Type} {c:α→α→Int} (o:uu c) {l:List α} (h:aN c l=true) (x:α):(∀ t (h:t < l.length),t < cN c l x→c l[t] x < 0)∧(∀ t (h:t < l.length),cN c l x≤t→¬ c l[t] x < 0):=lU o.tr h x
theorem wh {α:Type} {c:α→α→Int} (o:uu c) {l:List α} (h:aN c l=true) (x:α):b8 c l x=true↔x∈l:=by
 obtain ⟨h1,h2⟩:=F9 o h x;unfold b8
 constructor
 ·intro ht
  split at ht
  ·next y hy =>
   have:=o.Og _ _ (of_decide_eq_true ht);subst this;exact List.mem_of_getElem? hy
  ·cases ht
 ·intro hx
  obtain ⟨t,ht,he⟩:=List.getElem_of_mem hx
  have h3:cN c l x≤t:=by
   rcases Nat.lt_or_ge t (cN c l x) with h4 | h4
   ·have:=h1 t ht h4;rw [he,o.refl] at this;omega
   ·exact h4
  have h4:cN c l x=t:=by
   rcases Nat.lt_or_ge (cN c l x) t with h5 | h5
   ·have:=eh o.tr h _ t (by omega) ht h5
    rw [he] at this;exact absurd this (h2 _ (by omega) (Nat.le_refl _))
   ·omega
  rw [h4,List.getElem?_eq_getElem ht,he];exact decide_eq_true (o.refl x)
theorem Ga {α:Type} {c:α→α→Int} (tr:∀ a b d,c a b < 0→c b d < 0→c a d < 0) (dU:∀ a b,c a b = - c b a) {l:List α} (hr:aN c l=true) {x:α} (hn:∀ y∈l,c y x≠0) (t:Nat) (ht:t < l.length):decide (c x l[t] < 0)=decide (cN c l x≤t):=by
 obtain ⟨h1,h2⟩:=lU tr hr x
 rcases Nat.lt_or_ge t (cN c l x) with h3 | h3
 ·have h4:=h1 t ht h3
  have h5:=dU x l[t];rw [decide_eq_false (by omega),decide_eq_false (by omega)]
 ·have h4:=h2 t ht h3
  have h5:=dU x l[t];have h6:=hn l[t] (List.getElem_mem ht);rw [decide_eq_true (by omega),decide_eq_true h3]
theorem Gb {α:Type} {c:α→α→Int} (o:uu c) {l:List α} (hr:aN c l=true) {x:α} (h:b8 c l x=false):∀ y∈l,c y x≠0:=fun y hy e=>by
 have:=o.Og _ _ e;subst this;rw [(wh o hr y).2 hy] at h;cases h
theorem iT {α:Type} {c:α→α→Int} (tr:∀ a b d,c a b < 0→c b d < 0→c a d < 0) (dU:∀ a b,c a b = - c b a) {l:List α} (hr:aN c l=true) {x:α} (hn:∀ y∈l,c y x≠0):aN c (bQ l (cN c l x) x)=true:=by
 have hp:=fD c l x;obtain ⟨h1,h2⟩:=lU tr hr x;have h3:=Ga tr dU hr hn;generalize cN c l x=p at *;rw [dh];intro k hk;unfold bQ at *
 have hlen:(l.take p).length=p:=by simp;omega
 have g1:∀ t,t < p→(l.take p++[x]++l.drop p)[t]? = l[t]? := fun t ht=>by
  rw [List.getElem?_append_left (by simp;omega),List.getElem?_append_left (by omega),List.getElem?_take_of_lt ht]
 have g2:(l.take p++[x]++l.drop p)[p]? = some x:=by
  rw [List.getElem?_append_left (by simp;omega),List.getElem?_append_right (by omega),hlen];simp
 have g3:∀ t,p < t→(l.take p++[x]++l.drop p)[t]? = l[t - 1]? := fun t ht=>by
  rw [List.getElem?_append_right (by simp;omega)];simp only [List.length_append,hlen,List.length_singleton,List.getElem?_drop]
  congr 1;omega
 have hl2:(l.take p++[x]++l.drop p).length=l.length+1:=by simp;omega
 generalize hL:l.take p++[x]++l.drop p=L at *
 rcases Nat.lt_trichotomy (k+1) p with h5 | h5 | h5
 ·have e1:=g1 k (by omega)
  have e2:=g1 (k+1) h5;rw [List.getElem?_eq_getElem (by omega),List.getElem?_eq_getElem (by omega)] at e1 e2;simp only [Option.some.injEq] at e1 e2;rw [e1,e2];exact (dh c l).1 hr k (by omega)
 ·have e1:=g1 k (by omega)
  subst h5;rw [List.getElem?_eq_getElem (by omega),List.getElem?_eq_getElem (by omega)] at e1;rw [List.getElem?_eq_getElem (by omega)] at g2;simp only [Option.some.injEq] at e1 g2;rw [e1,g2];exact h1 k (by omega) (by omega)
 ·rcases Nat.lt_or_ge p k with h6 | h6
  ·have e1:=g3 k h6
   have e2:=g3 (k+1) h5;rw [List.getElem?_eq_getElem (by omega),List.getElem?_eq_getElem (by omega)] at e1 e2;simp only [Option.some.injEq] at e1 e2;rw [e1,e2];have:=(dh c l).1 hr (k - 1) (by omega)
   have oF:k - 1+1=k:=by omega
   simp only [oF] at this;exact this
  ·have:k=p:=by omega
   subst this;have e2:=g3 (k+1) h5;rw [List.getElem?_eq_getElem (by omega),List.getElem?_eq_getElem (by omega)] at e2;rw [List.getElem?_eq_getElem (by omega)] at g2;simp only [Option.some.injEq,Nat.add_sub_cancel] at e2 g2;rw [e2,g2];exact of_decide_eq_true ((h3 k (by omega)).trans (decide_eq_true (Nat.le_refl _)))
theorem vH {α:Type} {c:α→α→Int} (o:uu c) {l:List α} (hr:aN c l=true) {x:α} (h:b8 c l x=false):aN c (bQ l (cN c l x) x)=true:=iT o.tr o.dU hr (Gb o hr h)
theorem cj {α:Type} {l:List α} {p:Nat} {x y:α}:y∈bQ l p x↔y=x∨y∈l:=by
 unfold bQ
 conv=>rhs;rw [← List.take_append_drop p l]
 simp only [List.mem_append,List.mem_singleton]
 grind
theorem eI {α:Type} (l:List α) (p:Nat) (x:α) (h:p≤l.length):(bQ l p x).length=l.length+1:=by unfold bQ;simp;omega
end Go.Proofs.YtmflccbnoeaafaaGreat
namespace Go.Proofs.YtmflccbnoeaafaaGreat
open Go.RowKit Go.Deep
set_option maxRecDepth 100000
set_option linter.unusedVariables false
set_option maxHeartbeats 64000000
structure II {α:Type} (c:α→α→Int) (l:List α) (x:α) (lo hi:Nat):Prop where
 le:lo≤hi
 hl:hi≤l.length
 less:∀ t (h:t < l.length),t < lo→c l[t] x < 0
 more:∀ t (h:t < l.length),hi≤t→¬ c l[t] x < 0
theorem II.pos {α:Type} {c:α→α→Int} {l:List α} {x:α} {lo:Nat} (h:II c l x lo lo):cN c l x=lo :=
 ma _ l lo h.hl (fun t ht hl=>decide_eq_true (h.less t ht hl)) (fun t ht hl=>decide_eq_false (h.more t ht hl))
theorem II.right {α:Type} {c:α→α→Int} (tr:∀ a b d,c a b < 0→c b d < 0→c a d < 0) {l:List α} {x:α} {lo hi m:Nat} (h:II c l x lo hi) (hr:aN c l=true) (hm:m < hi) (h1:c (l[m]'(by have:=h.hl;omega)) x < 0):II c l x (m+1) hi :=
 ⟨by omega,h.hl,fun t ht hl=>pu tr hr x t m ht (by have:=h.hl;omega) (by omega) h1,h.more⟩
theorem II.left {α:Type} {c:α→α→Int} (tr:∀ a b d,c a b < 0→c b d < 0→c a d < 0) {l:List α} {x:α} {lo hi m:Nat} (h:II c l x lo hi) (hr:aN c l=true) (Tf:lo≤m) (hm:m < hi) (h1:¬ c (l[m]'(by have:=h.hl;omega)) x < 0):II c l x lo m :=
 ⟨Tf,by have:=h.hl;omega,h.less,fun t ht hl h2=>h1 (pu tr hr x m t (by have:=h.hl;omega) ht hl h2)⟩
theorem xE (a b d:ByteArray) (h1:bw a b < 0) (h2:bw b d < 0):bw a d < 0:=lG h1 h2
theorem MD (s:ByteArray) (w:World):Calls Tryz.prog 221 #[.string s] w fun e w'=>e=.returned (.bool false)∧w=w':=by
 go_enter Tryz.func221,Tryz.ntmps221
 go_wp2_with fail;go_ret;exact ⟨rfl,rfl⟩
theorem Ei (s:ByteArray) (w:World):Calls Tryz.prog 200 #[.string s] w fun e w'=>e=.returned (.bool false)∧w=w':=by
 go_enter Tryz.func200,Tryz.ntmps200
 go_wp2_with fail;go_ret;exact ⟨rfl,rfl⟩
theorem UM (a b:ByteArray) (w:World):Calls Tryz.prog 199 #[.string a,.string b] w fun e w'=>e=.returned (.bool (VO a b))∧w=w':=by
 go_enter Tryz.func199,Tryz.ntmps199
 go_wp2_with (go_at_call 221;refine (MD _ _).mono ?_;rintro e w4 ⟨rfl,rfl⟩)
 go_ret;exact ⟨rfl,rfl⟩
theorem Z4 (A:Option Addr) (cap:Nat) (l:List ByteArray) (x:ByteArray) (w:World) (h:aL w 1 dK A cap l) (hr:aN bw l=true) :
  Calls Tryz.prog 137 #[.slice A l.length cap,.string x] w fun e w'=>e=.returned (.tuple #[.int .i64 (cN bw l x),.bool (b8 bw l x)])∧w=w':=by
 have hlen:=h.len;have HR:=gH hr;have HH:=gH h;clear hr h
 go_enter Tryz.func137,Tryz.ntmps137
 go_wp2_with fail
 go_loop [7,8] (fun u7 u8=>∃ lo hi:Nat,u7=.int .i64 lo∧u8=.int .i64 hi∧II bw l x lo hi) (fun u7 u8=>(intOf u8).toNat - (intOf u7).toNat)
 case atStart=>exact ⟨0,l.length,rfl,rfl,⟨Nat.zero_le _,Nat.le_refl _,fun t _ h=>absurd h (Nat.not_lt_zero t),fun t h1 h2=>by omega⟩⟩
 case round =>
  obtain ⟨lo,hi,rfl,rfl,hI⟩:=hrel;have HI:=gH hI;have hle:=hI.le;have Zf:=hI.hl;clear hI;by_cases hlt:lo < hi
  ·have hm:(lo+hi) / 2 < l.length:=by omega
   obtain ⟨b,off,rfl,hb,c0,hs⟩:=gw HH.out hm;obtain ⟨y,hy⟩:∃ y,l[(lo+hi) / 2]=y:=⟨_,rfl⟩;rw [hy] at c0 hs;obtain ⟨q,hq⟩:∃ q,VO y x=q:=⟨_,rfl⟩;have C:=gH (hq▸UM y x w);have HY:=gH (show decide (bw (l[(lo+hi) / 2]'hm) x < 0)=q by rw [hy,MB];exact hq);clear hy hq
   cases q
   ·have HN:=gH (HI.out.left xE HR.out (m:=(lo+hi) / 2) (by omega) (by omega) (of_decide_eq_false HY.out))
    go_wp2_with (go_at_call 199;refine C.out.mono ?_;rintro e w4 ⟨rfl,rfl⟩)
    go_round
    case rel=>exact ⟨lo,(lo+hi) / 2,rfl,by rw [show ((lo:Int)+(hi:Int)) / 2=(((lo+hi) / 2:Nat):Int) by omega],HN.out⟩
    case measure=>simp [intOf];omega
   ·have HN:=gH (HI.out.right xE HR.out (m:=(lo+hi) / 2) (by omega) (of_decide_eq_true HY.out))
    go_wp2_with (go_at_call 199;refine C.out.mono ?_;rintro e w4 ⟨rfl,rfl⟩)
    go_round
    case rel=>exact ⟨(lo+hi) / 2+1,hi,by rw [show ((lo:Int)+(hi:Int)) / 2+1=(((lo+hi) / 2+1:Nat):Int) by omega],rfl,HN.out⟩
    case measure=>simp [intOf];omega
  ·have Tt:hi=lo:=by omega
   subst Tt;have HP:=gH (HI.out.pos);by_cases hn:hi < l.length
   ·obtain ⟨b,off,rfl,hb,c0,hs⟩:=gw HH.out hn
    obtain ⟨y,hy⟩:∃ y,l[hi]=y:=⟨_,rfl⟩;rw [hy] at c0 hs;obtain ⟨q,hq⟩:∃ q,bk y x=q:=⟨_,rfl⟩;have hq2:(y.toList==x.toList)=q:=hq
    have HT:=gH (show b8 bw l x=q by
     unfold b8;rw [HP.out,List.getElem?_eq_getElem hn,hy,← hq]
     show decide (bw y x=0)=bk y x
     have:=gu y x
     cases h2:bk y x
     ·rw [h2] at this;exact decide_eq_false (fun h3=>by have:=this.1 h3;cases this)
     ·exact decide_eq_true (this.2 h2))
    clear hy hq
    cases q
    ·go_wp2_with (go_at_call 200;refine (Ei _ _).mono ?_;rintro e w4 ⟨rfl,rfl⟩)
     go_ret2
     exact ⟨by rw [HP.out,HT.out];rfl,rfl⟩
    ·go_wp2_with (go_at_call 200;refine (Ei _ _).mono ?_;rintro e w4 ⟨rfl,rfl⟩)
     go_ret2
     exact ⟨by rw [HP.out,HT.out];rfl,rfl⟩
   ·have HT:=gH (show b8 bw l x=false by
     unfold b8
     rw [HP.out,List.getElem?_eq_none (by omega)])
    go_wp2_with fail
    go_ret2
    exact ⟨by rw [HP.out,HT.out];rfl,rfl⟩
theorem sD (a b d:em) (h1:eV a b < 0) (h2:eV b d < 0):eV a d < 0:=by
 unfold eV iQ at *;by_cases e1:bw a.role b.role=0
 ·have q1:txt a.role=txt b.role:=(lT _ _).1 ((gu _ _).1 e1)
  have f1:bw a.role d.role=bw b.role d.role:=by unfold bw;unfold txt at q1;rw [q1]
  simp only [e1,beq_self_eq_true,if_true] at h1;by_cases e2:bw b.role d.role=0
  ·simp only [e2,beq_self_eq_true,if_true] at h2
   simp only [f1,e2,beq_self_eq_true,if_true];exact lG h1 h2
  ·have Ka:(bw b.role d.role==0)=false:=by simpa using e2
   simp only [Ka,Bool.false_eq_true,if_false] at h2;simp only [f1,Ka,Bool.false_eq_true,if_false];exact h2
 ·have Od:(bw a.role b.role==0)=false:=by simpa using e1
  simp only [Od,Bool.false_eq_true,if_false] at h1;by_cases e2:bw b.role d.role=0
  ·have q1:txt b.role=txt d.role:=(lT _ _).1 ((gu _ _).1 e2)
   have f1:bw a.role d.role=bw a.role b.role:=by unfold bw;unfold txt at q1;rw [q1]
   simp only [f1,Od,Bool.false_eq_true,if_false];exact h1
  ·have Ka:(bw b.role d.role==0)=false:=by simpa using e2
   simp only [Ka,Bool.false_eq_true,if_false] at h2;have h3:=lG h1 h2
   have e3':(bw a.role d.role==0)=false:=by simp;omega
   simp only [e3',Bool.false_eq_true,if_false];exact h3
theorem Z5 (A:Option Addr) (cap:Nat) (l:List em) (x:em) (w:World) (h:aL w 2 ia A cap l) (hr:aN eV l=true) :
  Calls Tryz.prog 147 #[.slice A l.length cap,.agg #[.string x.role,.string x.of],.func (.func 116) #[] #[]] w fun e w'=>e=.returned (.tuple #[.int .i64 (cN eV l x),.bool (b8 eV l x)])∧ag w w':=by
 have hlen:=h.len;have HR:=gH hr;have HH:=gH h;clear hr h
 go_enter Tryz.func147,Tryz.ntmps147
 go_wp2_with fail
 go_loopw [9,10] (fun u7 u8 wr=>∃ lo hi:Nat,u7=.int .i64 lo∧u8=.int .i64 hi∧II eV l x lo hi∧ag (w.alloc (.cells #[.string x.role,.string x.of] 103)) wr) (fun u7 u8 _=>(intOf u8).toNat - (intOf u7).toNat)
 case atStart=>exact ⟨0,l.length,rfl,rfl,⟨Nat.zero_le _,Nat.le_refl _,fun t _ h=>absurd h (Nat.not_lt_zero t),fun t h1 h2=>by omega⟩,ag.refl _⟩
 case round =>
  obtain ⟨lo,hi,rfl,rfl,hI,ha⟩:=hrel;have HI:=gH hI;have hle:=hI.le;have Zf:=hI.hl;obtain ⟨gv,mC,hz,qu,HA⟩:=cJ ha;have mg:=gH ha;have y0:=gv 0;have y1:=gv 1;simp only [List.getElem?_toArray,List.getElem?_cons_succ,List.getElem?_cons_zero] at y0 y1;have yz:=hz.1;clear hI ha gv mC hz qu;by_cases hlt:lo < hi
  ·have hm:(lo+hi) / 2 < l.length:=by omega
   obtain ⟨b,off,rfl,hb,c0,c1,hs1,hs2⟩:=ku (bJ HA.out HH.out) hm;obtain ⟨y,hy⟩:∃ y,l[(lo+hi) / 2]=y:=⟨_,rfl⟩;rw [hy] at c0 c1 hs1 hs2;obtain ⟨q,hq⟩:∃ q,eV y x=q:=⟨_,rfl⟩;have C:=gH (show ∀ z:ii wr,_ from fun z=>hq▸CX y x (bH wr z));have HY:=gH (show eV (l[(lo+hi) / 2]'hm) x=q by rw [hy];exact hq);clear hy hq;have w1:IntKind.i64.wrap ((lo:Int)+(hi:Int))=(lo:Int)+(hi:Int):=IntWalk.i64_in _ (by omega);by_cases LG:q < 0
   ·have HN:=gH (HI.out.right sD HR.out (m:=(lo+hi) / 2) (by omega) (by rw [HY.out];exact LG))
    have Q9:decide (q < 0)=true:=decide_eq_true LG;go_wp2_with fail;refine av (by kernel_rfl) (by kernel_rfl) ?_
    repeat (go_big_quiet_step ((exact Calls.bD (C.out _))))
    refine wpQuiet_nil ?_;intro _ hw';obtain ⟨z,hw''⟩:=hw';subst hw'';go_wp2_with fail
    go_roundw
    case rel=>exact ⟨(lo+hi) / 2+1,hi,by rw [show ((lo:Int)+(hi:Int)) / 2+1=(((lo+hi) / 2+1:Nat):Int) by omega],rfl,HN.out,mg.out.bH z⟩
    case measure=>simp [intOf];omega
   ·have HN:=gH (HI.out.left sD HR.out (m:=(lo+hi) / 2) (by omega) (by omega) (by rw [HY.out];exact LG))
    have Q9:decide (q < 0)=false:=decide_eq_false LG;go_wp2_with fail;refine av (by kernel_rfl) (by kernel_rfl) ?_
    repeat (go_big_quiet_step ((exact Calls.bD (C.out _))))
    refine wpQuiet_nil ?_;intro _ hw';obtain ⟨z,hw''⟩:=hw';subst hw'';go_wp2_with fail
    go_roundw
    case rel=>exact ⟨lo,(lo+hi) / 2,rfl,by rw [show ((lo:Int)+(hi:Int)) / 2=(((lo+hi) / 2:Nat):Int) by omega],HN.out,mg.out.bH z⟩
    case measure=>simp [intOf];omega
  ·have Tt:hi=lo:=by omega
   subst Tt;have HP:=gH (HI.out.pos);by_cases hn:hi < l.length
   ·have xJ:decide ((hi:Int) < (l.length:Int))=true:=decide_eq_true (by omega)
    obtain ⟨b,off,rfl,hb,c0,c1,hs1,hs2⟩:=ku (bJ HA.out HH.out) hn;obtain ⟨y,hy⟩:∃ y,l[hi]=y:=⟨_,rfl⟩;rw [hy] at c0 c1 hs1 hs2;obtain ⟨q,hq⟩:∃ q,eV y x=q:=⟨_,rfl⟩;have C:=gH (show ∀ z:ii wr,_ from fun z=>hq▸CX y x (bH wr z))
    have HT:=gH (show b8 eV l x=(q==0) by
     unfold b8;rw [HP.out,List.getElem?_eq_getElem hn,hy]
     show decide (eV y x=0)=_
     rw [hq];rfl)
    clear hy hq;go_wp2_with fail;refine av (by kernel_rfl) (by kernel_rfl) ?_
    repeat (go_big_quiet_step ((exact Calls.bD (C.out _))))
    refine wpQuiet_nil ?_;intro _ hw';obtain ⟨z,hw''⟩:=hw';subst hw'';go_wp2_with fail
    go_ret2
    exact ⟨by rw [HP.out,HT.out];rfl,HA.out.bH z⟩
   ·have xJ:decide ((hi:Int) < (l.length:Int))=false:=decide_eq_false (by omega)
    have HT:=gH (show b8 eV l x=false by
     unfold b8
     rw [HP.out,List.getElem?_eq_none (by omega)])
    go_wp2_with fail;refine av (by kernel_rfl) (by kernel_rfl) ?_
    repeat (go_big_quiet_step (fail))
    refine wpQuiet_nil ?_;intro _ hw';obtain ⟨z,hw''⟩:=hw';subst hw'';go_wp2_with fail
    go_ret2
    exact ⟨by rw [HP.out,HT.out];rfl,HA.out.bH z⟩
end Go.Proofs.YtmflccbnoeaafaaGreat
