import Derived.Test.YtakddkhipelmjaaGreatPartF11
import Derived.Test.YtakddkhipelmjaaGreatPartF14
set_option maxRecDepth 100000
set_option linter.unusedVariables false
set_option maxHeartbeats 64000000
namespace Go.Proofs.YtakddkhipelmjaaGreat
open Go.Deep Go.RowKit
theorem FM {c:bX} {l:List cF} (h:iz c l) (hst:bv c=true) (hc:∀ g∈c.af,je l g=false→eF c l g=false):c.af.filter (je l)=cH c:=by
 unfold cH;rw [if_pos hst]
 refine List.filter_congr fun g hg=>?_
 have:=h.all (bL.1 hst).2.2.2 hc g hg
 cases h1:je l g
 ·cases h2:mQ c g
  ·rfl
  ·rw [this.2 (iG.1 h2)] at h1;cases h1
 ·exact (iG.2 (this.1 h1)).symm
theorem Vt (c:bX) (As:Option Addr) (ay:Nat) (At:Option Addr) (az:Nat) (An:Option Addr) (aC:Nat) (Am:Option Addr) (aJ:Nat) (Ag:Option Addr) (aQ:Nat) (w:World) (H:fp w c As ay At az An aC Am aJ Ag aQ) :
  Calls Tryz.prog 86 #[.agg #[.int .i64 c.ax,.int .i64 c.version,.slice As c.ah.aa.length ay,.slice At c.ah.tables.length az,.slice An c.ai.names.length aC,.slice Am c.ai.members.length aJ,.slice Ag c.af.length aQ]] w (Er w c):=by
 have hlen:=H.n7.len;obtain ⟨W,hW⟩:∃ W,W=w.alloc (.cells #[.int .i64 c.ax,.int .i64 c.version,.slice As c.ah.aa.length ay,.slice At c.ah.tables.length az,.slice An c.ai.names.length aC,.slice Am c.ai.members.length aJ,.slice Ag c.af.length aQ] 32):=⟨_,rfl⟩
 have aW:ag w W:=by rw [hW];exact (ag.refl w).alloc _
 have r0:au W (w.heap.size) [.int .i64 c.ax,.int .i64 c.version,.slice As c.ah.aa.length ay,.slice At c.ah.tables.length az,.slice An c.ai.names.length aC,.slice Am c.ai.members.length aJ,.slice Ag c.af.length aQ]:=by rw [hW];exact bj (ag.refl _) (by simp)
 obtain ⟨st,hst⟩:∃ b,bv c=b:=⟨_,rfl⟩;have C1:=gH (show Calls Tryz.prog 85 #[.agg #[.int .i64 c.ax,.int .i64 c.version,.slice As c.ah.aa.length ay,.slice At c.ah.tables.length az,.slice An c.ai.names.length aC,.slice Am c.ai.members.length aJ,.slice Ag c.af.length aQ]] W fun e w''=>e=.returned (.bool st)∧ag W w'' from (Ey c As ay At az An aC Am aJ Ag aQ W (H.aH aW)).mono fun e w'' ⟨he,hw⟩=>⟨he.trans (by rw [hst]),hw⟩);have HST:=gH hst;have HH:=gH (H.aH aW);have bQ:=gH aW;have fO:=gH r0;obtain ⟨x0,x1,x2,x3,x4,x5,x6,xz⟩:=im r0;clear hst H aW r0
 go_in
 go_wp2_with fail;rw [← hW];clear hW;refine C1.out.mono ?_;rintro e w1 ⟨rfl,a1⟩;have A1:=gH a1;clear C1 x0 x1 x2 x3 x4 x5 x6 xz a1
 cases st
 case false =>
  have HF:=gH (show cH c=[] by unfold cH;rw [HST.out];rfl);go_wp2;go_ret;exact ⟨⟨none,0,0⟩,rfl,bQ.out.trans A1.out,by rw [HF.out];exact cO _ _ _ _⟩
 have wX:=gH (show bv c=true from HST.out);have wZ:=gH (Ej HH.out.n7).2;have h64:c.af.length≤64:=(bL.1 HST.out).1;have sP:=gH (show c.ai.members.length*16≤140737488351000 by have:=(oJ (bL.1 HST.out).2.1.2.1).2;omega);go_wp2_with fail
 go_loopw [3,4] (fun u3 u4 wr=>∃ (n:Int) (l:List cF) (hd:Hd),u3=.slice hd.a l.length hd.c∧u4=.int .i64 n ∧ -1≤n∧n≤l.length∧yS w1 wr hd l∧iz c l∧(n=l.length→∀ g∈c.af,je l g=false→eF c l g=false)) (fun _ u4 _=>c.af.length+2 - (intOf u4+1).toNat)
 case atStart=>exact ⟨-1,[],⟨none,0,0⟩,rfl,rfl,by omega,by simp,yS.start w1,iz.nil c,fun h=>by simp at h⟩
 case round =>
  obtain ⟨n,l,hd,rfl,rfl,hn1,Ez,hg,hf,pc⟩:=hrel;have HG:=gH hg;have HF:=gH hf;have Vi:=gH pc;have rS:=hf.len;obtain ⟨wo,Y3⟩:∃ V,V=wr:=⟨_,rfl⟩;subst Y3;clear hg hf pc;by_cases hlt:n < (l.length:Int)
  ·go_wp2_with fail
   go_loopw [3,5] (fun u3 u5 wr=>∃ (k:Nat) (l':List cF) (xi:Hd),u3=.slice xi.a l'.length xi.c∧u5=.int .i64 k∧k≤c.af.length∧l.length≤l'.length∧yS w1 wr xi l'∧iz c l'∧(l.length=l'.length→∀ j,j < k→∀ (hj:j < c.af.length),je l' c.af[j]=false→eF c l' c.af[j]=false)) (fun _ u5 _=>c.af.length - (intOf u5).toNat)
   case atStart=>exact ⟨0,l,hd,rfl,rfl,Nat.zero_le _,Nat.le_refl _,HG.out,HF.out,fun _ j hj=>absurd hj (Nat.not_lt_zero j)⟩
   case round =>
    obtain ⟨k,l',xi,rfl,rfl,hk,hle,qh,hf',Qy⟩:=hrel;have Lv:=gH qh;have Ts:=gH hf';have Qz:=gH Qy;have aaS:=hf'.len;have ar:=A1.out.trans qh.1;have p0:=fO.out.aH ar;obtain ⟨x0,x1,x2,x3,x4,x5,x6,xz⟩:=im p0;by_cases fd:k < c.af.length
    case neg =>
     have pE:k=c.af.length:=by omega
     have yF:=gH (show (l.length:Int)=(l'.length:Int)→∀ g∈c.af,je l' g=false→eF c l' g=false from fun e g hg=>by
      obtain ⟨j,hj,rfl⟩:=List.getElem_of_mem hg
      exact Qz.out (by omega) j (by omega) hj)
     clear qh hf' Qy ar p0;go_wp2
     go_roundw
     case rel=>exact ⟨l.length,l',xi,rfl,rfl,by omega,by omega,Lv.out,Ts.out,yF.out⟩
     case measure=>simp [intOf];omega
    obtain ⟨b,off,rfl,hb,t0,t1,t2,t3,t4,t5,sg⟩:=jc (dQ ar HH.out.n7) fd;obtain ⟨g,pd⟩:∃ g,c.af[k]=g:=⟨_,rfl⟩;rw [pd] at t0 t1 t2 t3 t4 t5 sg;have Hb:=gH (show g∈c.af by rw [← pd];exact List.getElem_mem fd);have XZ:=gH pd;have wY:=gH sg;obtain ⟨X,hX⟩:∃ V,V=wr.alloc (.cells #[.string g.ac,.string g.table,.int .i64 g.right,.string g.aI,.string g.to,.bool g.opt] 177):=⟨_,rfl⟩
    have aX:ag wr X:=by rw [hX];exact (ag.refl wr).alloc _
    have RX:=gH (show au X wr.heap.size [.string g.ac,.string g.table,.int .i64 g.right,.string g.aI,.string g.to,.bool g.opt] by rw [hX];exact aU (ag.refl _));have GX:=gH (Lv.out.aH aX);have AX:=gH (ar.trans aX);have sI:=gH (show ∀ x∈l',uw x from fun x hx=>wZ.out x (Ts.out.sub x hx).mem);obtain ⟨ii,QA⟩:∃ b,je l' g=b:=⟨_,rfl⟩;have CI:=gH (show Calls Tryz.prog 148 #[.slice xi.a l'.length xi.c,.agg #[.string g.ac,.string g.table,.int .i64 g.right,.string g.aI,.string g.to,.bool g.opt]] X fun e w''=>e=.returned (.bool ii)∧ag X w'' from QA▸Vn l' xi.a xi.c g X (GX.out.sl sI.out (by omega)));have Zg:=gH QA
    have Mb:=gH (show eF c l' g=(jL c.ah (fT c g.aI) (jI c.ah g.ac g.table) || gU l' (fT c g.aI) g.ac g.table g.right true) by
     unfold eF;rw [(qU wX.out Hb.out).2];rfl)
    clear qh hf' Qy ar p0 aX pd sg QA;go_wp2_with fail;rw [← hX];clear hX t0 t1 t2 t3 t4 t5 x0 x1 x2 x3 x4 x5 x6 xz hb;refine CI.out.mono ?_;rintro e w5 ⟨rfl,a5⟩;have A5:=gH (AX.out.trans a5);have G5:=gH (GX.out.aH a5);have R5:=gH (RX.out.aH a5);have p0:=fO.out.aH A5.out;have p1:=R5.out;clear a5 CI
    cases ii
    case true =>
     clear p0 p1;go_wp2
     go_roundw
     case rel =>
      refine ⟨k+1,l',xi,rfl,by go_num,by omega,hle,G5.out,Ts.out,fun e j hj mv=>?_⟩
      rcases Nat.lt_or_ge j k with h1 | h1
      ·exact Qz.out e j h1 mv
      ·have:j=k:=by omega
       subst this;rw [XZ.out,Zg.out];intro h;cases h
     case measure=>simp [intOf];omega
    obtain ⟨bb,AW⟩:∃ bb,jL c.ah (fT c g.aI) (jI c.ah g.ac g.table)=bb:=⟨_,rfl⟩;obtain ⟨gb,hgb⟩:∃ gb,gU l' (fT c g.aI) g.ac g.table g.right true=gb:=⟨_,rfl⟩;rw [AW,hgb] at Mb;have HGB:=gH hgb;have h4:0≤bp c.ah.tables g.ac g.table:=(li ((bL.1 wX.out).2.2.1 g Hb.out)).1
    have CB:=gH (show Calls Tryz.prog 149 #[.agg #[.int .i64 c.ax,.int .i64 c.version,.slice As c.ah.aa.length ay,.slice At c.ah.tables.length az,.slice An c.ai.names.length aC,.slice Am c.ai.members.length aJ,.slice (some ⟨b,off,none⟩) c.af.length aQ],.string g.aI,.string g.ac,.string g.table] w5 fun e w''=>e=.returned (.bool bb)∧ag w5 w'' from
     AW▸Vr c As ay At az An aC Am aJ (some ⟨b,off,none⟩) aQ g.aI g.ac g.table w5 (HH.out.aH A5.out) wY.out.2.2.1 wX.out h4)
    obtain ⟨x0,x1,x2,x3,x4,x5,x6,xz⟩:=im p0;obtain ⟨y0,y1,y2,y3,y4,y5,yz⟩:=mN p1;clear p0 p1 AW hgb h4;go_wp2_with fail;refine CB.out.mono ?_;rintro e w6 ⟨rfl,a6⟩;have A6:=gH (A5.out.trans a6);have G6:=gH (G5.out.aH a6);have R6:=gH (R5.out.aH a6);have p0:=fO.out.aH A6.out;have p1:=R6.out;clear a6 CB x0 x1 x2 x3 x4 x5 x6 xz y0 y1 y2 y3 y4 y5 yz;obtain ⟨x0,x1,x2,x3,x4,x5,x6,xz⟩:=im p0;obtain ⟨y0,y1,y2,y3,y4,y5,yz⟩:=mN p1
    have AZ:l'.length≤1000000:=by omega
    cases bb
    case true =>
     have HJ:=gH (show eF c l' g=true by rw [Mb.out];rfl);have zw1:w1.heap.size≤w6.heap.size:=G6.out.1.size;clear p0 p1
     go_wp2_with (at_builtin;go_must (refine pF rfl _ _ rfl w1.heap.size (.slice xi.a l'.length xi.c) l'.length (l'.flatMap eM) rfl (cj G6.out.own ((ag.refl w6).alloc _)) w6.heap.size g rfl (heap_alloc_new w6 _) AZ (by simp;omega) ?_);intro gg cap' u8 km hgrow hat;have Ev:=gH (And.intro km hgrow);clear km hgrow hat)
     have G8:=gH (G6.out.grow ((ag.refl w6).alloc _) Ev.out.1 Ev.out.2);have F8:=gH (Ts.out.add Hb.out Zg.out HJ.out);go_wp2
     go_roundw
     case rel=>exact ⟨k+1,l'++[g],⟨some ⟨gg,0,none⟩,l'.length+1,cap'⟩,by simp,by go_num,by omega,by simp;omega,G8.out,F8.out,fun e=>by simp at e;omega⟩
     case measure=>simp [intOf];omega
    case false =>
     have CG:=gH (show Calls Tryz.prog 150 #[.agg #[.int .i64 c.ax,.int .i64 c.version,.slice As c.ah.aa.length ay,.slice At c.ah.tables.length az,.slice An c.ai.names.length aC,.slice Am c.ai.members.length aJ,.slice (some ⟨b,off,none⟩) c.af.length aQ],.slice xi.a l'.length xi.c,.string g.aI,.string g.ac,.string g.table,.int .i64 g.right,.bool true] w6 fun e w''=>e=.returned (.bool gb)∧ag w6 w'' from
      HGB.out▸Qq c As ay At az An aC Am aJ (some ⟨b,off,none⟩) aQ l' xi.a xi.c g.aI g.ac g.table g.right true w6 (HH.out.aH A6.out) (G6.out.sl sI.out (by omega)) wY.out.2.2.1 sP.out)
     clear p0 p1;go_wp2_with fail;refine CG.out.mono ?_;rintro e w7 ⟨rfl,a7⟩;have A7:=gH (A6.out.trans a7);have G7:=gH (G6.out.aH a7);have R7:=gH (R6.out.aH a7);have p1:=R7.out;clear a7 CG x0 x1 x2 x3 x4 x5 x6 xz y0 y1 y2 y3 y4 y5 yz;obtain ⟨y0,y1,y2,y3,y4,y5,yz⟩:=mN p1;clear p1
     cases gb
     case false =>
      have HJ:=gH (show eF c l' g=false by rw [Mb.out];rfl);go_wp2
      go_roundw
      case rel =>
       refine ⟨k+1,l',xi,rfl,by go_num,by omega,hle,G7.out,Ts.out,fun e j hj mv=>?_⟩
       rcases Nat.lt_or_ge j k with h1 | h1
       ·exact Qz.out e j h1 mv
       ·have:j=k:=by omega
        subst this
        rw [XZ.out];exact fun _=>HJ.out
      case measure=>simp [intOf];omega
     case true =>
      have HJ:=gH (show eF c l' g=true by rw [Mb.out];rfl);have zw1:w1.heap.size≤w7.heap.size:=G7.out.1.size
      go_wp2_with (at_builtin;go_must (refine pF rfl _ _ rfl w1.heap.size (.slice xi.a l'.length xi.c) l'.length (l'.flatMap eM) rfl (cj G7.out.own ((ag.refl w7).alloc _)) w7.heap.size g rfl (heap_alloc_new w7 _) AZ (by simp;omega) ?_);intro gg cap' u8 km hgrow hat;have Ev:=gH (And.intro km hgrow);clear km hgrow hat)
      have G8:=gH (G7.out.grow ((ag.refl w7).alloc _) Ev.out.1 Ev.out.2);have F8:=gH (Ts.out.add Hb.out Zg.out HJ.out);go_wp2
      go_roundw
      case rel=>exact ⟨k+1,l'++[g],⟨some ⟨gg,0,none⟩,l'.length+1,cap'⟩,by simp,by go_num,by omega,by simp;omega,G8.out,F8.out,fun e=>by simp at e;omega⟩
      case measure=>simp [intOf];omega
  ·have Vu:n=(l.length:Int):=by omega
   have HFI:=gH (FM HF.out wX.out (Vi.out Vu));have sI:=gH (show ∀ x∈l,uw x from fun x hx=>wZ.out x (HF.out.sub x hx).mem);subst Vu;go_wp2_with fail
   go_loopw [7,8] (fun u7 u8 wr=>∃ (k:Nat) (g:Hd),u7=.slice g.a ((c.af.take k).filter (je l)).length g.c∧u8=.int .i64 k∧k≤c.af.length∧yS wo wr g ((c.af.take k).filter (je l))) (fun _ u8 _=>c.af.length - (intOf u8).toNat)
   case atStart=>exact ⟨0,⟨none,0,0⟩,rfl,rfl,Nat.zero_le _,yS.start wo⟩
   case round =>
    obtain ⟨k,gh,rfl,rfl,hk,qh⟩:=hrel;have Lv:=gH qh;have ar:=A1.out.trans (HG.out.1.trans qh.1);have p0:=fO.out.aH ar;have x6:=p0.cell (j:=6) rfl;have xz:=p0.1;by_cases fd:k < c.af.length
    case neg =>
     have pE:(c.af.take k)=c.af:=List.take_of_length_le (by omega);have HE:=gH (show (c.af.take k).filter (je l)=cH c by rw [pE];exact HFI.out);have AR:=gH ar;clear qh ar p0 pE;rw [HE.out] at Lv ⊢;go_wp2;go_ret;refine ⟨gh,by have:=bY Lv.out.2;rw [this];rfl,bQ.out.trans AR.out,bS Lv.out.2 ?_⟩;have h1:=bQ.out.size;have h2:=(A1.out.trans HG.out.1).size;omega
    obtain ⟨b,off,rfl,hb,t0,t1,t2,t3,t4,t5,sg⟩:=jc (dQ ar HH.out.n7) fd;obtain ⟨g,pd⟩:∃ g,c.af[k]=g:=⟨_,rfl⟩;rw [pd] at t0 t1 t2 t3 t4 t5;obtain ⟨ii,QA⟩:∃ b,je l g=b:=⟨_,rfl⟩;have CI:=gH (show Calls Tryz.prog 148 #[.slice hd.a l.length hd.c,.agg #[.string g.ac,.string g.table,.int .i64 g.right,.string g.aI,.string g.to,.bool g.opt]] wr fun e w''=>e=.returned (.bool ii)∧ag wr w'' from QA▸Vn l hd.a hd.c g _ ((HG.out.aH Lv.out.1).sl sI.out (by omega)));have HN:=gH (show (c.af.take (k+1)).filter (je l)=(c.af.take k).filter (je l)++(if ii then [g] else []) by rw [pI fd,pd,QA]);have iW:((c.af.take k).filter (je l)).length≤c.af.length:=Nat.le_trans (List.length_filter_le _ _) (by rw [List.length_take];omega);obtain ⟨m,hm⟩:∃ m,(c.af.take k).filter (je l)=m:=⟨_,rfl⟩;rw [hm] at Lv HN iW ⊢;have XZ:=gH pd;clear qh ar p0 pd QA hm;have wY:=gH sg;clear sg
    cases ii
    all_goals
     go_wp2_with fail;refine CI.out.mono ?_;rintro e w5 ⟨rfl,a5⟩
    ·have A5:=gH a5
     clear a5;go_wp2
     go_roundw
     case rel=>exact ⟨k+1,gh,by rw [HN.out];simp,by go_num,by omega,by rw [HN.out];simpa using Lv.out.aH A5.out⟩
     case measure=>simp [intOf];omega
    ·have G5:=gH (Lv.out.aH a5)
     have Zh:=A1.out.trans (HG.out.1.trans G5.out.1);have p0:=fO.out.aH Zh;clear x6 xz t0 t1 t2 t3 t4 t5 hb CI a5;have x6:=p0.cell (j:=6) rfl;have xz:=p0.1;obtain ⟨b',off',hA',hb,t0,t1,t2,t3,t4,t5,_⟩:=jc (dQ Zh HH.out.n7) fd;simp only [Option.some.injEq,Addr.mk.injEq,and_true] at hA';obtain ⟨rfl,rfl⟩:=hA';rw [XZ.out] at t0 t1 t2 t3 t4 t5
     have AZ:m.length≤1000000:=by omega
     have zw1:wo.heap.size≤w5.heap.size:=G5.out.1.size;clear p0 Zh
     go_wp2_with (at_builtin;go_must (refine pF rfl _ _ rfl wo.heap.size (.slice gh.a m.length gh.c) m.length (m.flatMap eM) rfl (cj G5.out.own ((ag.refl w5).alloc _)) w5.heap.size g rfl (heap_alloc_new w5 _) AZ (by simp;omega) ?_);intro gg cap' u8 km hgrow hat;have Ev:=gH (And.intro km hgrow);clear km hgrow hat)
     have G8:=gH (G5.out.grow ((ag.refl w5).alloc _) Ev.out.1 Ev.out.2);go_wp2
     go_roundw
     case rel=>exact ⟨k+1,⟨some ⟨gg,0,none⟩,m.length+1,cap'⟩,by rw [HN.out];simp,by go_num,by omega,by rw [HN.out];simpa using G8.out⟩
     case measure=>simp [intOf];omega
theorem QB (c:bX) (As:Option Addr) (ay:Nat) (At:Option Addr) (az:Nat) (An:Option Addr) (aC:Nat) (Am:Option Addr) (aJ:Nat) (Ag:Option Addr) (aQ:Nat) (w:World) (H:fp w c As ay At az An aC Am aJ Ag aQ) :
  Calls Tryz.prog 58 #[.agg #[.int .i64 c.ax,.int .i64 c.version,.slice As c.ah.aa.length ay,.slice At c.ah.tables.length az,.slice An c.ai.names.length aC,.slice Am c.ai.members.length aJ,.slice Ag c.af.length aQ]] w fun e w'=>e=.returned (.bool (dO c))∧ag w w':=by
 obtain ⟨W,hW⟩:∃ W,W=w.alloc (.cells #[.int .i64 c.ax,.int .i64 c.version,.slice As c.ah.aa.length ay,.slice At c.ah.tables.length az,.slice An c.ai.names.length aC,.slice Am c.ai.members.length aJ,.slice Ag c.af.length aQ] 32):=⟨_,rfl⟩
 have aW:ag w W:=by rw [hW];exact (ag.refl w).alloc _
 have r0:au W (w.heap.size) [.int .i64 c.ax,.int .i64 c.version,.slice As c.ah.aa.length ay,.slice At c.ah.tables.length az,.slice An c.ai.names.length aC,.slice Am c.ai.members.length aJ,.slice Ag c.af.length aQ]:=by rw [hW];exact bj (ag.refl _) (by simp)
 obtain ⟨st,hst⟩:∃ b,bv c=b:=⟨_,rfl⟩;have CS:=gH (show ∀ V,ag W V→Calls Tryz.prog 85 #[.agg #[.int .i64 c.ax,.int .i64 c.version,.slice As c.ah.aa.length ay,.slice At c.ah.tables.length az,.slice An c.ai.names.length aC,.slice Am c.ai.members.length aJ,.slice Ag c.af.length aQ]] V fun e w''=>e=.returned (.bool st)∧ag V w'' from fun V a=>(Ey c As ay At az An aC Am aJ Ag aQ V (H.aH (aW.trans a))).mono fun e w'' ⟨he,hw⟩=>⟨he.trans (by rw [hst]),hw⟩);have CH:=gH (show ∀ V,ag W V→Calls Tryz.prog 86 #[.agg #[.int .i64 c.ax,.int .i64 c.version,.slice As c.ah.aa.length ay,.slice At c.ah.tables.length az,.slice An c.ai.names.length aC,.slice Am c.ai.members.length aJ,.slice Ag c.af.length aQ]] V (Er V c) from fun V a=>Vt c As ay At az An aC Am aJ Ag aQ V (H.aH (aW.trans a)))
 have KS:=gH (show ∀ V,ag W V→ag W V∧V.cell? ⟨w.heap.size,0,none⟩=some (.int .i64 c.ax)∧V.cell? ⟨w.heap.size,1,none⟩=some (.int .i64 c.version)∧V.cell? ⟨w.heap.size,2,none⟩=some (.slice As c.ah.aa.length ay)∧V.cell? ⟨w.heap.size,3,none⟩=some (.slice At c.ah.tables.length az)∧V.cell? ⟨w.heap.size,4,none⟩=some (.slice An c.ai.names.length aC)∧V.cell? ⟨w.heap.size,5,none⟩=some (.slice Am c.ai.members.length aJ)∧V.cell? ⟨w.heap.size,6,none⟩=some (.slice Ag c.af.length aQ) from fun V a=>by
  have p:=r0.aH a
  exact ⟨a,p.cell (j:=0) rfl,p.cell (j:=1) rfl,p.cell (j:=2) rfl,p.cell (j:=3) rfl,p.cell (j:=4) rfl,p.cell (j:=5) rfl,p.cell (j:=6) rfl⟩)
 have HST:=gH hst;have bQ:=gH aW;clear hst H aW r0
 go_in
 go_wp2_with fail;rw [← hW];clear hW
 cases st
 case false =>
  have HF:=gH (vh HST.out);obtain ⟨_,x0,x1,x2,x3,x4,x5,x6⟩:=KS.out W (ag.refl W);have xz:w.heap.size < W.heap.size:=World.block_lt_of_cell? W ⟨w.heap.size,0,none⟩ x0;refine aj (by kernel_rfl) (by kernel_rfl) ?_
  repeat (go_big_quiet_step ((go_at_call 85;exact Calls.aL (CS.out _ ((ag.refl W).bt _)))))
  refine wpQuiet_nil ?_;intro _ hw';obtain ⟨y,hw''⟩:=hw';subst hw'';go_wp2;go_ret;exact ⟨by rw [HF.out];rfl,bQ.out.bt y⟩
 case true =>
  have HW:=gH (show dO c=((cH c).length==c.af.length) by unfold dO;rw [HST.out];rfl)
  go_region_held3 (fun V=>ag W V∧V.cell? ⟨w.heap.size,0,none⟩=some (.int .i64 c.ax)∧V.cell? ⟨w.heap.size,1,none⟩=some (.int .i64 c.version)∧V.cell? ⟨w.heap.size,2,none⟩=some (.slice As c.ah.aa.length ay)∧V.cell? ⟨w.heap.size,3,none⟩=some (.slice At c.ah.tables.length az)∧V.cell? ⟨w.heap.size,4,none⟩=some (.slice An c.ai.names.length aC)∧V.cell? ⟨w.heap.size,5,none⟩=some (.slice Am c.ai.members.length aJ)∧V.cell? ⟨w.heap.size,6,none⟩=some (.slice Ag c.af.length aQ))
   (first | exact KS.out _ (ag.refl _).drew | exact KS.out _ A5.out | exact KS.out _ A6.out)
   ((first | (go_at_call 85;refine (CS.out _ (ag.refl W).drew).mono ?_;rintro e w5 ⟨rfl,a5⟩;have A5:=gH ((ag.refl W).drew.trans a5);clear a5) | (go_at_call 86;refine (CH.out w5 A5.out).mono ?_;rintro e w6 ⟨h,rfl,a6,Za⟩;have A6:=gH (A5.out.trans a6);clear a6;rw [bY Za])))
  go_wp2;go_ret;refine ⟨Eq.trans (b:=.returned (.bool _)) rfl (cP (bZ ?_)),bQ.out.trans A6.out⟩;rw [HW.out,Bool.eq_iff_iff,beq_iff_eq,beq_iff_eq];omega
noncomputable def dh (c:bX):Bool:=decide (0≤c.ax)&&decide (c.ax≤1000)&&decide (0≤c.version)&&decide (c.version≤1000000000)&&dO c
def jP:bX:=⟨0,0,⟨[],[]⟩,⟨[cE],[]⟩,[]⟩
theorem qY:bG jP.ai=true:=by
 unfold bG jP;simp only [List.all_nil,Bool.and_true]
 decide +kernel
theorem BN:dO jP=true:=eP.2 ⟨bL.2 ⟨by decide,⟨by decide +kernel,qY,by decide +kernel,by decide +kernel⟩,fun g hg=>by simp [jP] at hg,rfl⟩,fun g hg=>by simp [jP] at hg⟩
theorem sX:dh jP=true:=by unfold dh;rw [BN];rfl
def Zi (w:World) (e:Ending) (w':World):Prop:=∃ b,e=.returned (.agg #[.int .i64 0,.int .i64 0,.slice none 0 0,.slice none 0 0,.slice (some ⟨b,0,none⟩) 1 1,.slice none 0 0,.slice none 0 0])∧ag w w'∧fp w' jP none 0 none 0 (some ⟨b,0,none⟩) 1 none 0 none 0
theorem Vv (w:World):Calls Tryz.prog 44 #[] w (Zi w):=by
 have l1:w.heap.size < w.heap.size+1:=by omega
 have l2:w.heap.size < w.heap.size+1+1:=by omega
 go_in
 go_wp2_with fail
 (try simp only [Exit.inBlock,Exit.then])
 have a6:=((ag.refl w).alloc (.cells #[.int .i64 0,.int .i64 0,.slice none 0 0,.slice none 0 0,.slice (some ⟨w.heap.size+1,0,none⟩) 1 1,.slice none 0 0,.slice none 0 0] 32)).alloc (.cells #[.string ⟨#[114,111,111,116]⟩] 9);refine bodyPost_ret (bE (v:=.agg #[.int .i64 0,.int .i64 0,.slice none 0 0,.slice none 0 0,.slice (some ⟨w.heap.size+1,0,none⟩) 1 1,.slice none 0 0,.slice none 0 0]) rfl _ rfl ?hl) rfl ?_
 case hl=>exact nI (au.up (bj (ag.refl _) rfl))
 refine ⟨_,rfl,a6,df,df,?n,df,df⟩
 case n=>exact Ib _ [.string ⟨#[114,111,111,116]⟩] #[.string ⟨#[114,111,111,116]⟩] (by first | (simp;done) | (simp;omega)) (by intro o;(repeat (refine (World.cell?_alloc_past _ _ _ (by first | (simp;done) | (simp;omega))).trans ?_));exact World.cell?_alloc_at _ _ _ _ (by simp)) rfl rfl ⟨rfl,by unfold Small;decide⟩ (by omega)
theorem EA (c:bX) (As:Option Addr) (ay:Nat) (At:Option Addr) (az:Nat) (An:Option Addr) (aC:Nat) (Am:Option Addr) (aJ:Nat) (Ag:Option Addr) (aQ:Nat) (w:World) (H:fp w c As ay At az An aC Am aJ Ag aQ) :
  Calls Tryz.prog 22 #[.agg #[.int .i64 c.ax,.int .i64 c.version,.slice As c.ah.aa.length ay,.slice At c.ah.tables.length az,.slice An c.ai.names.length aC,.slice Am c.ai.members.length aJ,.slice Ag c.af.length aQ]] w fun e w'=>e=.returned (.int .i64 (if dh c=true then 0 else 1))∧ag w w':=by
 obtain ⟨W,hW⟩:∃ W,W=w.alloc (.cells #[.int .i64 c.ax,.int .i64 c.version,.slice As c.ah.aa.length ay,.slice At c.ah.tables.length az,.slice An c.ai.names.length aC,.slice Am c.ai.members.length aJ,.slice Ag c.af.length aQ] 32):=⟨_,rfl⟩
 have aW:ag w W:=by rw [hW];exact (ag.refl w).alloc _
 have r0:au W (w.heap.size) [.int .i64 c.ax,.int .i64 c.version,.slice As c.ah.aa.length ay,.slice At c.ah.tables.length az,.slice An c.ai.names.length aC,.slice Am c.ai.members.length aJ,.slice Ag c.af.length aQ]:=by rw [hW];exact bj (ag.refl _) (by simp)
 obtain ⟨b,hb⟩:∃ b,dO c=b:=⟨_,rfl⟩;obtain ⟨rc,qZ⟩:∃ b,dh c=b:=⟨_,rfl⟩;obtain ⟨zz,hzz⟩:∃ z:Int,(if dh c=true then (0:Int) else 1)=z:=⟨_,rfl⟩;obtain ⟨z,hz⟩:∃ z:Int,(if dO c=true then (0:Int) else 1)=z:=⟨_,rfl⟩;have C1:=gH (show Calls Tryz.prog 45 #[.agg #[.int .i64 c.ax,.int .i64 c.version,.slice As c.ah.aa.length ay,.slice At c.ah.tables.length az,.slice An c.ai.names.length aC,.slice Am c.ai.members.length aJ,.slice Ag c.af.length aQ]] W fun e w''=>e=.returned (.int .i64 z)∧ag W w'' from (Qg c As ay At az An aC Am aJ Ag aQ W (H.aH aW)).mono fun e w'' ⟨he,hw⟩=>⟨he.trans (by rw [hz]),hw⟩);have jN:=gH (show rc=(decide (0≤c.ax)&&decide (c.ax≤1000)&&decide (0≤c.version)&&decide (c.version≤1000000000)&&b) by rw [← qZ];unfold dh;rw [hb]);have HZ:=gH (show z=if b=true then (0:Int) else 1 from by rw [← hz,hb]);have Vw:=gH (show zz=if rc=true then (0:Int) else 1 from by rw [← hzz,qZ]);have bQ:=gH aW;obtain ⟨ep,xj⟩:∃ e,c.ax=e:=⟨_,rfl⟩;obtain ⟨ve,I1⟩:∃ e,c.version=e:=⟨_,rfl⟩;obtain ⟨x0,x1,x2,x3,x4,x5,x6,xz⟩:=im r0;rw [hzz];rw [xj,I1] at jN C1;rw [xj] at x0;rw [I1] at x1;rw [xj,I1] at hW;rw [xj,I1];clear H aW r0 hb xj I1 qZ hz hzz;by_cases h0:0≤ep
 case neg =>
  have g0:ep < 0:=by omega
  have HR:=gH (show rc=false from by rw [jN.out,decide_eq_false h0];simp);have HW:=gH hW;clear h0 hW
  go_in
  go_wp2;go_ret;exact ⟨by rw [Vw.out,HR.out];rfl,by rw [← HW.out];exact bQ.out⟩
 have g0:¬ ep < 0:=by omega
 by_cases h1:ep≤1000
 case neg =>
  have g1:1000 < ep:=by omega
  have HR:=gH (show rc=false from by rw [jN.out,decide_eq_false h1];simp);have HW:=gH hW;clear h1 hW
  go_in
  go_wp2;go_ret;exact ⟨by rw [Vw.out,HR.out];rfl,by rw [← HW.out];exact bQ.out⟩
 have g1:¬ 1000 < ep:=by omega
 by_cases h2:0≤ve
 case neg =>
  have g2:ve < 0:=by omega
  have HR:=gH (show rc=false from by rw [jN.out,decide_eq_false h2];simp);have HW:=gH hW;clear h2 hW
  go_in
  go_wp2;go_ret;exact ⟨by rw [Vw.out,HR.out];rfl,by rw [← HW.out];exact bQ.out⟩
 have g2:¬ ve < 0:=by omega
 by_cases h3:ve≤1000000000
 case neg =>
  have g3:1000000000 < ve:=by omega
  have HR:=gH (show rc=false from by rw [jN.out,decide_eq_false h3];simp);have HW:=gH hW;clear h3 hW
  go_in
  go_wp2;go_ret;exact ⟨by rw [Vw.out,HR.out];rfl,by rw [← HW.out];exact bQ.out⟩
 have g3:¬ 1000000000 < ve:=by omega
 have HR:=gH (show rc=b from by rw [jN.out,decide_eq_true h0,decide_eq_true h1,decide_eq_true h2,decide_eq_true h3];rfl);clear jN
 go_in
 go_wp2_with fail;rw [← hW];clear hW;refine C1.out.mono ?_;rintro e w1 ⟨rfl,a1⟩;have A1:=gH (bQ.out.trans a1);clear a1;go_wp2;go_ret;exact ⟨by rw [Vw.out,HR.out,HZ.out];rfl,A1.out⟩
theorem I2 (c:bX) (As:Option Addr) (ay:Nat) (At:Option Addr) (az:Nat) (An:Option Addr) (aC:Nat) (Am:Option Addr) (aJ:Nat) (Ag:Option Addr) (aQ:Nat) (w:World) (H:fp w c As ay At az An aC Am aJ Ag aQ) :
  Calls Tryz.prog 41 #[.agg #[.int .i64 c.ax,.int .i64 c.version,.slice As c.ah.aa.length ay,.slice At c.ah.tables.length az,.slice An c.ai.names.length aC,.slice Am c.ai.members.length aJ,.slice Ag c.af.length aQ]] w fun e w'=>e=.returned (.bool (dh c))∧ag w w':=by
 obtain ⟨W,hW⟩:∃ W,W=w.alloc (.cells #[.int .i64 c.ax,.int .i64 c.version,.slice As c.ah.aa.length ay,.slice At c.ah.tables.length az,.slice An c.ai.names.length aC,.slice Am c.ai.members.length aJ,.slice Ag c.af.length aQ] 32):=⟨_,rfl⟩
 have aW:ag w W:=by rw [hW];exact (ag.refl w).alloc _
 have r0:au W (w.heap.size) [.int .i64 c.ax,.int .i64 c.version,.slice As c.ah.aa.length ay,.slice At c.ah.tables.length az,.slice An c.ai.names.length aC,.slice Am c.ai.members.length aJ,.slice Ag c.af.length aQ]:=by rw [hW];exact bj (ag.refl _) (by simp)
 obtain ⟨b,hb⟩:∃ b,dO c=b:=⟨_,rfl⟩;obtain ⟨rc,qZ⟩:∃ b,dh c=b:=⟨_,rfl⟩;have C1:=gH (show Calls Tryz.prog 58 #[.agg #[.int .i64 c.ax,.int .i64 c.version,.slice As c.ah.aa.length ay,.slice At c.ah.tables.length az,.slice An c.ai.names.length aC,.slice Am c.ai.members.length aJ,.slice Ag c.af.length aQ]] W fun e w''=>e=.returned (.bool b)∧ag W w'' from (QB c As ay At az An aC Am aJ Ag aQ W (H.aH aW)).mono fun e w'' ⟨he,hw⟩=>⟨he.trans (by rw [hb]),hw⟩);have jN:=gH (show rc=(decide (0≤c.ax)&&decide (c.ax≤1000)&&decide (0≤c.version)&&decide (c.version≤1000000000)&&b) by rw [← qZ];unfold dh;rw [hb]);have bQ:=gH aW;obtain ⟨ep,xj⟩:∃ e,c.ax=e:=⟨_,rfl⟩;obtain ⟨ve,I1⟩:∃ e,c.version=e:=⟨_,rfl⟩;obtain ⟨x0,x1,x2,x3,x4,x5,x6,xz⟩:=im r0;rw [qZ];rw [xj,I1] at jN C1;rw [xj] at x0;rw [I1] at x1;rw [xj,I1] at hW;rw [xj,I1];clear H aW r0 hb xj I1 qZ;by_cases h0:0≤ep
 case neg =>
  have g0:ep < 0:=by omega
  have HR:=gH (show rc=false from by rw [jN.out,decide_eq_false h0];simp);have HW:=gH hW;clear h0 hW
  go_in
  go_wp2;go_ret;exact ⟨by rw [HR.out];rfl,by rw [← HW.out];exact bQ.out⟩
 have g0:¬ ep < 0:=by omega
 by_cases h1:ep≤1000
 case neg =>
  have g1:1000 < ep:=by omega
  have HR:=gH (show rc=false from by rw [jN.out,decide_eq_false h1];simp);have HW:=gH hW;clear h1 hW
  go_in
  go_wp2;go_ret;exact ⟨by rw [HR.out];rfl,by rw [← HW.out];exact bQ.out⟩
 have g1:¬ 1000 < ep:=by omega
 by_cases h2:0≤ve
 case neg =>
  have g2:ve < 0:=by omega
  have HR:=gH (show rc=false from by rw [jN.out,decide_eq_false h2];simp);have HW:=gH hW;clear h2 hW
  go_in
  go_wp2;go_ret;exact ⟨by rw [HR.out];rfl,by rw [← HW.out];exact bQ.out⟩
 have g2:¬ ve < 0:=by omega
 by_cases h3:ve≤1000000000
 case neg =>
  have g3:1000000000 < ve:=by omega
  have HR:=gH (show rc=false from by rw [jN.out,decide_eq_false h3];simp);have HW:=gH hW;clear h3 hW
  go_in
  go_wp2;go_ret;exact ⟨by rw [HR.out];rfl,by rw [← HW.out];exact bQ.out⟩
 have g3:¬ 1000000000 < ve:=by omega
 have HR:=gH (show rc=b from by rw [jN.out,decide_eq_true h0,decide_eq_true h1,decide_eq_true h2,decide_eq_true h3];rfl);clear jN
 go_in
 go_wp2_with fail;rw [← hW];clear hW;refine C1.out.mono ?_;rintro e w1 ⟨rfl,a1⟩;have A1:=gH (bQ.out.trans a1);clear a1
 cases b
 all_goals
  go_wp2;go_ret;exact ⟨by rw [HR.out];rfl,A1.out⟩
theorem aA.kb {α:Type} {P:Nat→Prop} {w w':World} {size:Nat} {R:World→List Value→α→Prop} {A:Option Addr} {cap:Nat} {l:List α} (h:aA w size R A cap l) (k:Kb P w w') (hP:∀ b off,A=some ⟨b,off,none⟩→0 < l.length→¬ P b) (hR:∀ cs x,R w cs x→R w' cs x):aA w' size R A cap l :=
 ⟨h.1,h.2.1,fun i hi=>by
  obtain ⟨b,off,cs,hA,hb,hl,hr,hc⟩:=h.2.2 i hi;have e:=k.block b hb (hP b off hA (by omega));refine ⟨b,off,cs,hA,Nat.lt_of_lt_of_le hb k.size,hl,hR _ _ hr,fun j hj=>?_⟩;rw [← hc j hj];unfold World.cell?
  simp only [e]⟩
noncomputable def fB (m:gD):Bool:=decide (m.aR.length≤4)&&decide (m.bN.length≤64)&&lH m.last 0 1000000000&&dh m.cat&&kB iw.aD (mn m.cat.ax m.cat.version) m.aR&&kB gS.seq (lI m.cat.ax m.last) m.bN
structure iX (w:World) (m:gD) (As:Option Addr) (ay:Nat) (At:Option Addr) (az:Nat) (An:Option Addr) (aC:Nat) (Am:Option Addr) (aJ:Nat) (Ag:Option Addr) (aQ:Nat) (Ad:Option Addr) (fW:Nat) (Al:Option Addr) (fD:Nat):Prop where
 cat:fp w m.cat As ay At az An aC Am aJ Ag aQ
 EB:aA w 5 fQ Ad fW m.aR
 Bb:aA w 4 fY Al fD m.bN
theorem iX.aH {w w':World} {m:gD} {As:Option Addr} {ay:Nat} {At:Option Addr} {az:Nat} {An:Option Addr} {aC:Nat} {Am:Option Addr} {aJ:Nat} {Ag:Option Addr} {aQ:Nat} {Ad:Option Addr} {fW:Nat} {Al:Option Addr} {fD:Nat} (h:iX w m As ay At az An aC Am aJ Ag aQ Ad fW Al fD) (a:ag w w'):iX w' m As ay At az An aC Am aJ Ag aQ Ad fW Al fD:=⟨h.cat.aH a,jF a h.EB,jG a h.Bb⟩
theorem jQ {w:World} {p:Nat} {a b c d e f g h i j:Value} (R:au w p [a,b,c,d,e,f,g,h,i,j]):w.cell? ⟨p,0,none⟩=some a∧w.cell? ⟨p,1,none⟩=some b∧w.cell? ⟨p,2,none⟩=some c∧w.cell? ⟨p,3,none⟩=some d∧w.cell? ⟨p,4,none⟩=some e∧w.cell? ⟨p,5,none⟩=some f∧w.cell? ⟨p,6,none⟩=some g∧w.cell? ⟨p,7,none⟩=some h∧w.cell? ⟨p,8,none⟩=some i∧w.cell? ⟨p,9,none⟩=some j∧p < w.heap.size:=⟨R.cell (j:=0) rfl,R.cell (j:=1) rfl,R.cell (j:=2) rfl,R.cell (j:=3) rfl,R.cell (j:=4) rfl,R.cell (j:=5) rfl,R.cell (j:=6) rfl,R.cell (j:=7) rfl,R.cell (j:=8) rfl,R.cell (j:=9) rfl,R.1⟩
theorem FN {W:World} {p:Nat} {a b c d e f g h i j:Value} (R:au W p [a,b,c,d,e,f,g,h,i,j]):(loadVar 36 ⟨p,0,none⟩).run Tryz.prog W=.ok (.agg #[a,b,c,d,e,f,g,h,i,j]) W:=by
 obtain ⟨e0,e1,e2,e3,e4,e5,e6,e7,e8,e9,_⟩:=jQ R;have h1:=FO W p 0 (by rw [e0];rfl) (by rw [e1];rfl) (by rw [e2];rfl) (by rw [e3];rfl) (by rw [e4];rfl) (by rw [e5];rfl) (by rw [e6];rfl) (by rw [e7];rfl) (by rw [e8];rfl) (by rw [e9];rfl);rw [e0,e1,e2,e3,e4,e5,e6,e7,e8,e9] at h1;exact h1
def ux:gD:=⟨jP,[],[],0⟩
theorem BO:fB ux=true:=by unfold fB;rw [show ux.cat=jP from rfl,sX];rfl
def Vx (w:World) (e:Ending) (w':World):Prop:=∃ b,e=.returned (.agg #[.int .i64 0,.int .i64 0,.slice none 0 0,.slice none 0 0,.slice (some ⟨b,0,none⟩) 1 1,.slice none 0 0,.slice none 0 0,.slice none 0 0,.slice none 0 0,.int .i64 0])∧ag w w'∧iX w' ux none 0 none 0 (some ⟨b,0,none⟩) 1 none 0 none 0 none 0 none 0
theorem Zj (w:World):Calls Tryz.prog 18 #[] w (Vx w):=by
 obtain ⟨W,hW⟩:∃ W,W=w.alloc (.cells #[.int .i64 0,.int .i64 0,.slice none 0 0,.slice none 0 0,.slice none 0 0,.slice none 0 0,.slice none 0 0,.slice none 0 0,.slice none 0 0,.int .i64 0] 36):=⟨_,rfl⟩
 have aW:ag w W:=by rw [hW];exact (ag.refl w).alloc _
 have r0:au W w.heap.size [.int .i64 0,.int .i64 0,.slice none 0 0,.slice none 0 0,.slice none 0 0,.slice none 0 0,.slice none 0 0,.slice none 0 0,.slice none 0 0,.int .i64 0]:=by rw [hW];exact aU (ag.refl _)
 have HR:=gH r0;have bQ:=gH aW;clear r0 aW
 go_in
 go_wp2_with fail;rw [← hW];clear hW;refine (Vv _).mono ?_;rintro e w1 ⟨b,rfl,a1,H1⟩;have R1:=HR.out.aH a1;obtain ⟨x0,x1,x2,x3,x4,x5,x6,x7,x8,x9,xz⟩:=jQ R1;obtain ⟨f0,f1,f2,f3,f4,f5,f6,f7,f8,f9⟩:=Uk R1;have HH:=gH H1;have HA:=gH (bQ.out.trans a1);have uy:=gH R1;clear a1 H1 R1;go_wp2_with fail;obtain ⟨F,hF⟩:∃ F,F=(((((((((w1.setCell ⟨w.heap.size,0,none⟩ (.int .i64 0)).setCell ⟨w.heap.size,1,none⟩ (.int .i64 0)).setCell ⟨w.heap.size,2,none⟩ (.slice none 0 0)).setCell ⟨w.heap.size,3,none⟩ (.slice none 0 0)).setCell ⟨w.heap.size,4,none⟩ (.slice (some ⟨b,0,none⟩) 1 1)).setCell ⟨w.heap.size,5,none⟩ (.slice none 0 0)).setCell ⟨w.heap.size,6,none⟩ (.slice none 0 0)).setCell ⟨w.heap.size,7,none⟩ (.slice none 0 0)).setCell ⟨w.heap.size,8,none⟩ (.slice none 0 0)).setCell ⟨w.heap.size,9,none⟩ (.int .i64 0):=⟨_,rfl⟩
 have kF:Kb (fun g=>g=w.heap.size) w1 F:=by rw [hF];exact (((((((((Kb.set _ _ _ _).trans (Kb.set _ _ _ _)).trans (Kb.set _ _ _ _)).trans (Kb.set _ _ _ _)).trans (Kb.set _ _ _ _)).trans (Kb.set _ _ _ _)).trans (Kb.set _ _ _ _)).trans (Kb.set _ _ _ _)).trans (Kb.set _ _ _ _)).trans (Kb.set _ _ _ _)
 have rF:au F w.heap.size [.int .i64 0,.int .i64 0,.slice none 0 0,.slice none 0 0,.slice (some ⟨b,0,none⟩) 1 1,.slice none 0 0,.slice none 0 0,.slice none 0 0,.slice none 0 0,.int .i64 0]:=by rw [hF];exact (((((((((uy.out.set 0 _ (by simp)).set 1 _ (by simp)).set 2 _ (by simp)).set 3 _ (by simp)).set 4 _ (by simp)).set 5 _ (by simp)).set 6 _ (by simp)).set 7 _ (by simp)).set 8 _ (by simp)).set 9 _ (by simp)
 rw [← hF];refine bodyPost_ret (bE (v:=.agg #[.int .i64 0,.int .i64 0,.slice none 0 0,.slice none 0 0,.slice (some ⟨b,0,none⟩) 1 1,.slice none 0 0,.slice none 0 0,.slice none 0 0,.slice none 0 0,.int .i64 0]) rfl _ rfl (FN rF)) rfl ?_;refine ⟨b,rfl,kF.aN HA.out (fun g hg e=>by have e:g=w.heap.size:=e;omega),⟨⟨df,df,HH.out.j0.kb kF (fun b' off e _ h=>?_) (fun _ _ h=>h),df,df⟩,df,df⟩⟩;simp only [Option.some.injEq,Addr.mk.injEq,and_true] at e;obtain ⟨rfl,rfl⟩:=e;have h:b=w.heap.size:=h;obtain ⟨b',off',hA',_,c0,_⟩:=er HH.out.j0 (show 0 < ux.cat.ai.names.length by decide);simp only [Option.some.injEq,Addr.mk.injEq,and_true] at hA';obtain ⟨rfl,rfl⟩:=hA';subst h;have c1:=uy.out.cell (j:=0) rfl;rw [Nat.add_zero,c1] at c0
 cases c0
theorem I3 (m:gD) (As:Option Addr) (ay:Nat) (At:Option Addr) (az:Nat) (An:Option Addr) (aC:Nat) (Am:Option Addr) (aJ:Nat) (Ag:Option Addr) (aQ:Nat) (Ad:Option Addr) (fW:Nat) (Al:Option Addr) (fD:Nat) (w:World) (H:iX w m As ay At az An aC Am aJ Ag aQ Ad fW Al fD) :
  Calls Tryz.prog 9 #[.agg #[.int .i64 m.cat.ax,.int .i64 m.cat.version,.slice As m.cat.ah.aa.length ay,.slice At m.cat.ah.tables.length az,.slice An m.cat.ai.names.length aC,.slice Am m.cat.ai.members.length aJ,.slice Ag m.cat.af.length aQ,.slice Ad m.aR.length fW,.slice Al m.bN.length fD,.int .i64 m.last]] w fun e w'=>e=.returned (.int .i64 (if fB m=true then 0 else 1))∧ag w w':=by
 obtain ⟨W,hW⟩:∃ W,W=(w.alloc (.cells #[.int .i64 m.cat.ax,.int .i64 m.cat.version,.slice As m.cat.ah.aa.length ay,.slice At m.cat.ah.tables.length az,.slice An m.cat.ai.names.length aC,.slice Am m.cat.ai.members.length aJ,.slice Ag m.cat.af.length aQ,.slice Ad m.aR.length fW,.slice Al m.bN.length fD,.int .i64 m.last] 36)).alloc (.cells #[.int .i64 m.cat.ax,.int .i64 m.cat.version,.slice As m.cat.ah.aa.length ay,.slice At m.cat.ah.tables.length az,.slice An m.cat.ai.names.length aC,.slice Am m.cat.ai.members.length aJ,.slice Ag m.cat.af.length aQ] 32):=⟨_,rfl⟩
 have aW:ag w W:=by rw [hW];exact ((ag.refl w).alloc _).alloc _
 have r0:au W (w.heap.size) [.int .i64 m.cat.ax,.int .i64 m.cat.version,.slice As m.cat.ah.aa.length ay,.slice At m.cat.ah.tables.length az,.slice An m.cat.ai.names.length aC,.slice Am m.cat.ai.members.length aJ,.slice Ag m.cat.af.length aQ,.slice Ad m.aR.length fW,.slice Al m.bN.length fD,.int .i64 m.last]:=by rw [hW];exact au.up (bj (ag.refl _) (by simp))
 have r1:au W (w.heap.size+1) [.int .i64 m.cat.ax,.int .i64 m.cat.version,.slice As m.cat.ah.aa.length ay,.slice At m.cat.ah.tables.length az,.slice An m.cat.ai.names.length aC,.slice Am m.cat.ai.members.length aJ,.slice Ag m.cat.af.length aQ]:=by rw [hW];exact bj (ag.refl _) (by simp)
 have hlen:=H.EB.len;have fq:=H.Bb.len;have El:=enters (P:=Tryz.prog) Tryz.func25 (by kernel_rfl) rfl;have qQ:=enters (P:=Tryz.prog) Tryz.func29 (by kernel_rfl) rfl;obtain ⟨b2,hb2⟩:∃ b,lH m.last 0 1000000000=b:=⟨_,rfl⟩;obtain ⟨b3,hb3⟩:∃ b,dh m.cat=b:=⟨_,rfl⟩;obtain ⟨o1,nT⟩:∃ b,kB iw.aD (mn m.cat.ax m.cat.version) m.aR=b:=⟨_,rfl⟩;obtain ⟨o2,Hh⟩:∃ b,kB gS.seq (lI m.cat.ax m.last) m.bN=b:=⟨_,rfl⟩;have HR:=gH (show fB m=(decide (m.aR.length≤4)&&decide (m.bN.length≤64)&&b2&&b3&&o1&&o2) by unfold fB;rw [hb2,hb3,nT,Hh]);have C2:=gH (fun V=>hb2▸iL m.last 0 1000000000 V);obtain ⟨z3,hz3⟩:∃ z:Int,(if dh m.cat=true then (0:Int) else 1)=z:=⟨_,rfl⟩;have Bp:=gH (show (b3=true∧z3=0)∨(b3=false∧z3=1) from by rw [← hz3,hb3];cases b3<;>simp);have C3:=gH (show Calls Tryz.prog 22 #[.agg #[.int .i64 m.cat.ax,.int .i64 m.cat.version,.slice As m.cat.ah.aa.length ay,.slice At m.cat.ah.tables.length az,.slice An m.cat.ai.names.length aC,.slice Am m.cat.ai.members.length aJ,.slice Ag m.cat.af.length aQ]] W fun e w''=>e=.returned (.int .i64 z3)∧ag W w'' from (EA m.cat As ay At az An aC Am aJ Ag aQ W (H.cat.aH aW)).mono fun e w'' ⟨he,hw⟩=>⟨he.trans (by rw [hz3]),hw⟩)
 have C4:=gH (show ∀ V,ag W V→Calls Tryz.prog 23 #[.slice Ad m.aR.length fW,.func (.func 24) #[] #[],.func (.func 25) #[] #[.pointer (some ⟨w.heap.size+1,0,none⟩)]] V fun e w''=>e=.returned (.bool o1)∧ag V w'' from fun V a =>
  nT▸Bq Ad fW m.aR 25 #[.pointer (some ⟨w.heap.size+1,0,none⟩)] (mn m.cat.ax m.cat.version) V (jF (aW.trans a) H.EB) El (fun V' a' d=>by
   have r:=r1.aH (a.trans a')
   exact U3 d (w.heap.size+1) m.cat.ax m.cat.version V' r.1 (Nat.lt_succ_of_lt r.1) (r.cell (j:=0) rfl) (r.cell (j:=1) rfl)))
 have C5:=gH (show ∀ V,ag W V→Calls Tryz.prog 27 #[.slice Al m.bN.length fD,.func (.func 28) #[] #[],.func (.func 29) #[] #[.pointer (some ⟨w.heap.size,0,none⟩),.pointer (some ⟨w.heap.size+1,0,none⟩)]] V fun e w''=>e=.returned (.bool o2)∧ag V w'' from fun V a =>
  Hh▸Bu Al fD m.bN 29 #[.pointer (some ⟨w.heap.size,0,none⟩),.pointer (some ⟨w.heap.size+1,0,none⟩)] (lI m.cat.ax m.last) V (jG (aW.trans a) H.Bb) qQ (fun V' a' d=>by
   have r:=r1.aH (a.trans a');have s:=r0.aH (a.trans a')
   exact U4 d w.heap.size (w.heap.size+1) m.cat.ax m.last V' r.1 (Nat.lt_succ_of_lt r.1) s.1 (Nat.lt_succ_of_lt s.1) (r.cell (j:=0) rfl) (s.cell (j:=9) rfl)))
 have bQ:=gH aW;have QC:=gH r0;have By0:=gH r1;clear hb2 hb3 nT Hh hz3 H r0 r1 aW El qQ;obtain ⟨x0,x1,x2,x3,x4,x5,x6,x7,x8,x9⟩:=uX QC.out;have xz:=QC.out.1;obtain ⟨y0,y1,y2,y3,y4,y5,y6,yz⟩:=im By0.out;by_cases h0:m.aR.length≤4
 case neg =>
  have HV:=gH (show (if fB m=true then (0:Int) else 1)=1 by rw [HR.out,decide_eq_false h0];rfl)
  have g0:¬ (m.aR.length:Int)≤4:=by omega
  rw [HV.out];clear h0
  go_in
  go_wp2_with fail;rw [← hW];clear hW;go_wp2;go_ret;exact ⟨rfl,bQ.out⟩
 have g0:(m.aR.length:Int)≤4:=by omega
 by_cases h1:m.bN.length≤64
 case neg =>
  have HV:=gH (show (if fB m=true then (0:Int) else 1)=1 by rw [HR.out,decide_eq_true h0,decide_eq_false h1];rfl)
  have g1:¬ (m.bN.length:Int)≤64:=by omega
  rw [HV.out];clear h0 h1
  go_in
  go_wp2_with fail;rw [← hW];clear hW;go_wp2;go_ret;exact ⟨rfl,bQ.out⟩
 have g1:(m.bN.length:Int)≤64:=by omega
 have HE:=gH (show fB m=(b2&&b3&&o1&&o2) by rw [HR.out,decide_eq_true h0,decide_eq_true h1];rfl);clear h0 h1 HR;obtain ⟨zz,hzz⟩:∃ z:Int,(if fB m=true then (0:Int) else 1)=z:=⟨_,rfl⟩;have HZ:=gH (show zz=if (b2&&b3&&o1&&o2)=true then 0 else 1 from by rw [← hzz,HE.out]);rw [hzz];clear hzz
 go_in
 go_wp2_with fail;rw [← hW];clear hW;go_wp2_with fail;refine (C2.out _).mono ?_;rintro e w9 ⟨rfl,rfl⟩
 cases b2
 case false =>
  go_wp2;go_ret;exact ⟨by rw [HZ.out];rfl,bQ.out⟩
 go_wp2_with fail;refine C3.out.mono ?_;rintro e w1 ⟨rfl,a1⟩;clear C3;have AX1:=gH a1;clear x0 x1 x2 x3 x4 x5 x6 x7 x8 x9 xz y0 y1 y2 y3 y4 y5 y6 yz;have Pa:=gH (QC.out.aH a1);have By1:=gH (By0.out.aH a1);have Pb:=gH (bQ.out.trans a1);clear a1;obtain ⟨x0,x1,x2,x3,x4,x5,x6,x7,x8,x9⟩:=uX Pa.out;have xz:=Pa.out.1;obtain ⟨y0,y1,y2,y3,y4,y5,y6,yz⟩:=im By1.out
 rcases Bp.out with ⟨rfl,rfl⟩ | ⟨rfl,rfl⟩
 case inr =>
  go_wp2;go_ret;exact ⟨by rw [HZ.out];rfl,Pb.out⟩
 go_wp2_with fail;refine (C4.out _ AX1.out).mono ?_;rintro e w2 ⟨rfl,a2⟩;have AX2:=gH (AX1.out.trans a2);clear x0 x1 x2 x3 x4 x5 x6 x7 x8 x9 xz y0 y1 y2 y3 y4 y5 y6 yz;have Bx2:=gH (Pa.out.aH a2);have By2:=gH (By1.out.aH a2);have AT2:=gH (Pb.out.trans a2);clear a2;obtain ⟨x0,x1,x2,x3,x4,x5,x6,x7,x8,x9⟩:=uX Bx2.out;have xz:=Bx2.out.1;obtain ⟨y0,y1,y2,y3,y4,y5,y6,yz⟩:=im By2.out
 cases o1
 case false =>
  go_wp2;go_ret;exact ⟨by rw [HZ.out];rfl,AT2.out⟩
 go_wp2_with fail;refine (C5.out _ AX2.out).mono ?_;rintro e w3 ⟨rfl,a3⟩;have A3:=gH (AT2.out.trans a3);clear a3
 cases o2
 all_goals
  go_wp2;go_ret;exact ⟨by rw [HZ.out];rfl,A3.out⟩
theorem ed.at {w:World} {cs:List Value} {m:gD} (h:ed w cs m):∃ As ay At az An aC Am aJ Ag aQ Ad fW Al fD,cs=[.int .i64 m.cat.ax,.int .i64 m.cat.version,.slice As m.cat.ah.aa.length ay,.slice At m.cat.ah.tables.length az,.slice An m.cat.ai.names.length aC,.slice Am m.cat.ai.members.length aJ,.slice Ag m.cat.af.length aQ,.slice Ad m.aR.length fW,.slice Al m.bN.length fD,.int .i64 m.last]∧iX w m As ay At az An aC Am aJ Ag aQ Ad fW Al fD:=by
 obtain ⟨c7,Ad,cd,Al,cl,rfl,⟨As,c1,At,c2,An,c3,Am,c4,Ag,c5,rfl,h1,h2,h3,h4,h5⟩,h6,h7⟩:=h;exact ⟨As,c1,At,c2,An,c3,Am,c4,Ag,c5,Ad,cd,Al,cl,rfl,⟨h1,h2,h3,h4,h5⟩,h6,h7⟩
theorem iX.w {w:World} {m:gD} {As:Option Addr} {ay:Nat} {At:Option Addr} {az:Nat} {An:Option Addr} {aC:Nat} {Am:Option Addr} {aJ:Nat} {Ag:Option Addr} {aQ:Nat} {Ad:Option Addr} {fW:Nat} {Al:Option Addr} {fD:Nat} (h:iX w m As ay At az An aC Am aJ Ag aQ Ad fW Al fD):ed w [.int .i64 m.cat.ax,.int .i64 m.cat.version,.slice As m.cat.ah.aa.length ay,.slice At m.cat.ah.tables.length az,.slice An m.cat.ai.names.length aC,.slice Am m.cat.ai.members.length aJ,.slice Ag m.cat.af.length aQ,.slice Ad m.aR.length fW,.slice Al m.bN.length fD,.int .i64 m.last] m :=
 ⟨_,Ad,fW,Al,fD,rfl,⟨As,ay,At,az,An,aC,Am,aJ,Ag,aQ,rfl,h.cat.gT,h.cat.tab,h.cat.j0,h.cat.mem,h.cat.n7⟩,h.EB,h.Bb⟩
theorem ed.aH {w w':World} {cs:List Value} {m:gD} (h:ed w cs m) (a:ag w w'):ed w' cs m:=by
 obtain ⟨As,c1,At,c2,An,c3,Am,c4,Ag,c5,Ad,cd,Al,cl,rfl,h9⟩:=h.at
 exact iX.w (iX.aH h9 a)
theorem ed.len {w:World} {cs:List Value} {m:gD} (h:ed w cs m):cs.length=10:=by
 obtain ⟨As,c1,At,c2,An,c3,Am,c4,Ag,c5,Ad,cd,Al,cl,rfl,h⟩:=h.at
 rfl
theorem ed.one {w:World} {cs:List Value} {m:gD} (h:ed w cs m):∀ u∈cs,u.oneCell'=true:=by
 obtain ⟨As,c1,At,c2,An,c3,Am,c4,Ag,c5,Ad,cd,Al,cl,rfl,h⟩:=h.at
 simp [Value.oneCell']
theorem uu.down {w W w':World} {l:Bt} {e:Ending} (a:ag w W) (h:uu W l e w'):uu w l e w':=by
 obtain ⟨a2,m,c,rfl,o⟩:=h;exact ⟨a.trans a2,m,c,rfl,bS o a.size⟩
def eD (B:Nat) (w:World) (cs:List Value) (m:gD):Prop:=∃ S:Nat→Prop,(∀ j,S j→B≤j∧j < w.heap.size)∧gZ S ed w cs m
theorem eD.of {B:Nat} {S:Nat→Prop} {w:World} {cs:List Value} {m:gD} (hS:∀ j,S j→B≤j) (h:gZ S ed w cs m):eD B w cs m :=
 ⟨fun j=>S j∧j < w.heap.size,fun j e=>⟨hS j e.1,e.2⟩,fun V k=>h V (k.mono fun j hj e e'=>e ⟨e',hj⟩)⟩
theorem eD.w {B:Nat} {w:World} {cs:List Value} {m:gD} (h:eD B w cs m):ed w cs m:=by
 obtain ⟨S,_,h⟩:=h;exact h w (Kb.refl _ _)
theorem eD.down {B B':Nat} {w:World} {cs:List Value} {m:gD} (h:eD B w cs m) (hb:B'≤B):eD B' w cs m:=by
 obtain ⟨S,hS,h⟩:=h;exact ⟨S,fun j e=>⟨Nat.le_trans hb (hS j e).1,(hS j e).2⟩,h⟩
theorem eD.kb {B:Nat} {P:Nat→Prop} {w w':World} {cs:List Value} {m:gD} (h:eD B w cs m) (k:Kb P w w') (hP:∀ j,P j→j < B∨w.heap.size≤j):eD B w' cs m:=by
 obtain ⟨S,hS,h⟩:=h;exact ⟨S,fun j e=>⟨(hS j e).1,Nat.lt_of_lt_of_le (hS j e).2 k.size⟩,fun V kv=>h V ((k.mono fun j hj e e'=>by have:=hS j e';have:=hP j e;omega).trans kv)⟩
theorem eD.aH {B:Nat} {w w':World} {cs:List Value} {m:gD} (h:eD B w cs m) (a:ag w w'):eD B w' cs m:=h.kb (P:=fun _=>False) (Kb.bl a) fun j e=>e.elim
theorem jg {w:World} {p:Nat} {zs cs:List Value} {m:gD} (r:au w p zs) (hz:zs.length=10) (h:ed w cs m) :
  (qN ⟨p,0,none⟩ (.agg cs.toArray)).run Tryz.prog w=.ok () (w.setCells p 0 cs)∧au (w.setCells p 0 cs) p cs∧(lW ⟨p,0,none⟩).run Tryz.prog (w.setCells p 0 cs)=.ok (.agg cs.toArray) (w.setCells p 0 cs)∧Kb (fun g=>g=p) w (w.setCells p 0 cs):=by
 have r2:au (w.setCells p 0 cs) p cs:=by simpa using eW cs w [] zs r (by rw [h.len,hz])
 exact ⟨kh (T:=36) (k:=10) (by kernel_rfl) r hz h.len h.one,r2,fZ (T:=36) Tryz.underlying36 (by kernel_rfl) r2 h.len,cX p cs w 0⟩
theorem I4 (x:gD) (cs:List Value) (w:World) (H:ed w cs x) (ok:nZ x) (hl:(jq x).length≤90000000) :
  Calls Tryz.prog 47 #[.agg cs.toArray] w (uu w (jq x)):=by
 obtain ⟨As,c1,At,c2,An,c3,Am,c4,Ag,c5,Ad,cd,Al,cl,rfl,h⟩:=H.at
 obtain ⟨W,hW⟩:∃ W,W=w.alloc (.cells #[.int .i64 x.cat.ax,.int .i64 x.cat.version,.slice As x.cat.ah.aa.length c1,.slice At x.cat.ah.tables.length c2,.slice An x.cat.ai.names.length c3,.slice Am x.cat.ai.members.length c4,.slice Ag x.cat.af.length c5,.slice Ad x.aR.length cd,.slice Al x.bN.length cl,.int .i64 x.last] 36):=⟨_,rfl⟩
 have aW:ag w W:=by rw [hW];exact (ag.refl w).alloc _
 have r0:au W w.heap.size [.int .i64 x.cat.ax,.int .i64 x.cat.version,.slice As x.cat.ah.aa.length c1,.slice At x.cat.ah.tables.length c2,.slice An x.cat.ai.names.length c3,.slice Am x.cat.ai.members.length c4,.slice Ag x.cat.af.length c5,.slice Ad x.aR.length cd,.slice Al x.bN.length cl,.int .i64 x.last]:=by rw [hW];exact aU (ag.refl _)
 have h2:=h.aH aW;have C:=gH (LR x As c1 At c2 An c3 Am c4 Ag c5 Ad cd Al cl W ok h2.cat.gT h2.cat.tab h2.cat.j0 h2.cat.mem h2.cat.n7 h2.EB h2.Bb hl);have HA:=gH aW;obtain ⟨x0,x1,x2,x3,x4,x5,x6,x7,x8,x9,xz⟩:=jQ r0;clear r0 h h2 H aW
 show Calls _ _ #[.agg #[_,_,_,_,_,_,_,_,_,_]] _ _
 go_in
 go_wp2_with fail;rw [← hW];clear hW
 (try go_wp2_with fail)
 refine C.out.mono ?_;rintro e w2 h9;have h9:=uu.down HA.out h9;obtain ⟨a2,p,c,rfl,o⟩:=h9;have HO:=gH (show uu w (jq x) (.returned (.tuple #[.slice (some ⟨p,0,none⟩) (jq x).length c,.int .i64 0])) w2 from ⟨a2,p,c,rfl,o⟩);clear a2 o;go_wp2
 go_ret2
 exact HO.out
theorem I5 (l:Bt) (x:gD) (A:Option Addr) (c:Nat) (hl:l.length≤1000000000) (w:World) (hx:aA w 1 wQ A c l) (hd:nS l=some (x,[])) :
  Calls Tryz.prog 48 #[.slice A l.length c] w fun e w'=>ag w w'∧∃ cs,e=.returned (.tuple #[.agg cs.toArray,.int .i64 0])∧eD w.heap.size w' cs x:=by
 obtain ⟨W,hW⟩:∃ W,W=w.alloc (.cells dN.toArray 36):=⟨_,rfl⟩
 have aW:ag w W:=by rw [hW];exact (ag.refl w).alloc _
 have zW:W.heap.size=w.heap.size+1:=by rw [hW];simp
 have r0:au W w.heap.size dN:=by rw [hW];exact aU (ag.refl _)
 have C:=gH (hd▸LS l A c hl W (hx.aH aW fun _ _ h=>h));have HA:=gH (And.intro aW (And.intro r0 zW))
 delta dN at hW
 clear r0 aW hx zW
 go_in
 go_wp2_with fail;rw [← hW];clear hW
 (try go_wp2_with fail)
 refine C.out.mono ?_;rintro e w2 ⟨a2,S,cs,sn,rfl,hh⟩;obtain ⟨aW,r0,zW⟩:=HA.out;have r2:=r0.aH a2;have hm:ed w2 cs x:=hh w2 (Kb.refl _ _);obtain ⟨s1,r3,s2,kb⟩:=jg r2 rfl hm;have hm3:eD w.heap.size (w2.setCells w.heap.size 0 cs) cs x:=((eD.of sn hh).kb kb fun j e=>.inl (by have e:j=_:=e;omega)).down aW.size;have HE:=gH (And.intro (kb.aN (aW.trans a2) fun g _ e=>by have e:g=_:=e;omega) hm3);have HS2:=gH s2;have f0:=r2.1;clear a2 sn hh r2 hm r3 kb hm3 r0 zW s2;go_wp2;refine bodyPost_ret (results_cell_tmp (v:=.agg cs.toArray) rfl _ rfl HS2.out) rfl ?_;exact ⟨HE.out.1,cs,rfl,HE.out.2⟩
def Vy (w:World) (m:gD) (e:Ending) (w':World):Prop:=ag w w'∧∃ cs,e=.returned (.agg cs.toArray)∧eD w.heap.size w' cs m
theorem Zk (x:gD) (cs:List Value) (w:World) (H:ed w cs x) (ok:nZ x) (hl:(jq x).length≤90000000) :
  Calls Tryz.prog 32 #[.agg cs.toArray] w (Vy w x):=by
 obtain ⟨As,c1,At,c2,An,c3,Am,c4,Ag,c5,Ad,cd,Al,cl,rfl,h⟩:=H.at
 obtain ⟨W,hW⟩:∃ W,W=(w.alloc (.cells #[.int .i64 x.cat.ax,.int .i64 x.cat.version,.slice As x.cat.ah.aa.length c1,.slice At x.cat.ah.tables.length c2,.slice An x.cat.ai.names.length c3,.slice Am x.cat.ai.members.length c4,.slice Ag x.cat.af.length c5,.slice Ad x.aR.length cd,.slice Al x.bN.length cl,.int .i64 x.last] 36)).alloc (.cells #[.int .i64 0,.int .i64 0,.slice none 0 0,.slice none 0 0,.slice none 0 0,.slice none 0 0,.slice none 0 0,.slice none 0 0,.slice none 0 0,.int .i64 0] 36):=⟨_,rfl⟩
 have aW:ag w W:=by rw [hW];exact ((ag.refl w).alloc _).alloc _
 have zW:W.heap.size=w.heap.size+2:=by rw [hW];simp
 have r0:au W w.heap.size [.int .i64 x.cat.ax,.int .i64 x.cat.version,.slice As x.cat.ah.aa.length c1,.slice At x.cat.ah.tables.length c2,.slice An x.cat.ai.names.length c3,.slice Am x.cat.ai.members.length c4,.slice Ag x.cat.af.length c5,.slice Ad x.aR.length cd,.slice Al x.bN.length cl,.int .i64 x.last]:=by rw [hW];exact au.up (bj (ag.refl _) (by simp))
 have r1:au W (w.heap.size+1) dN:=by rw [hW];exact bj (ag.refl _) (by simp)
 have C:=gH (show Calls Tryz.prog 47 #[.agg #[.int .i64 x.cat.ax,.int .i64 x.cat.version,.slice As x.cat.ah.aa.length c1,.slice At x.cat.ah.tables.length c2,.slice An x.cat.ai.names.length c3,.slice Am x.cat.ai.members.length c4,.slice Ag x.cat.af.length c5,.slice Ad x.aR.length cd,.slice Al x.bN.length cl,.int .i64 x.last]] W (uu W (jq x)) from I4 x _ W (H.aH aW) ok hl);have HA:=gH (And.intro aW (And.intro r1 zW));obtain ⟨x0,x1,x2,x3,x4,x5,x6,x7,x8,x9,xz⟩:=jQ r0;clear r0 h H r1 zW
 show Calls _ _ #[.agg #[_,_,_,_,_,_,_,_,_,_]] _ _
 go_in
 go_wp2_with fail;rw [← hW];clear hW
 (try go_wp2_with fail)
 refine C.out.mono ?_;rintro e w2 ⟨a2,p,c,rfl,o⟩
 have G:=gH (show Calls Tryz.prog 48 #[.slice (some ⟨p,0,none⟩) (jq x).length c] w2 _ from by
  obtain ⟨A9,c9,e9,sl⟩:=yj Fo wQ (fun _=>rfl) o (fun _ _=>rfl) (by unfold Small;omega);simp only [Value.slice.injEq,true_and] at e9;obtain ⟨rfl,rfl⟩:=e9
  exact I5 (jq x) x _ c (by omega) w2 sl (by have:=QD x [] ok;rwa [List.append_nil] at this))
 have iy:=gH a2;clear a2 o x0 x1 x2 x3 x4 x5 x6 x7 x8 x9 xz;go_wp2_with fail;refine G.out.mono ?_;rintro e w3 ⟨a3,iv,rfl,m3⟩;obtain ⟨aW,r1,zW⟩:=HA.out;have aZ:=(ag.refl w3).alloc (.cells #[.int .i64 0,.int .i64 0,.slice none 0 0,.slice none 0 0,.slice none 0 0,.slice none 0 0,.slice none 0 0,.slice none 0 0,.slice none 0 0,.int .i64 0] 36);obtain ⟨s1,r3,s2,kb⟩:=jg (aU (w:=w3) (c:=dN) (t:=36) (ag.refl _)) rfl (m3.aH aZ).w;have a23:ag W w3:=iy.out.trans a3;have hs:=a23.size
 have aF:ag W ((w3.alloc (.cells dN.toArray 36)).setCells w3.heap.size 0 iv):=kb.aN (a23.trans aZ) fun g hg e=>by have e:g=_:=e;omega
 have mF:eD w2.heap.size ((w3.alloc (.cells dN.toArray 36)).setCells w3.heap.size 0 iv) iv x:=m3.aH (kb.aN aZ fun g hg e=>by have e:g=_:=e;omega);obtain ⟨s3,r4,s4,Lx⟩:=jg (r1.aH aF) rfl mF.w;have HE:=gH (And.intro (Lx.aN (aW.trans aF) fun g hg e=>by have e:g=_:=e;omega) ((mF.kb Lx fun j e=>.inl (by have e:j=_:=e;have:=iy.out.size;omega)).down (B':=w.heap.size) (by have:=iy.out.size;omega)));have Tt:=gH s4;unfold dN at s1 s2 s3;clear a3 m3 r1 zW aZ r3 kb a23 hs aF mF r4 s4 Lx aW;go_wp2;refine bodyPost_ret (bE (v:=.agg iv.toArray) rfl _ rfl Tt.out) rfl ?_;exact ⟨HE.out.1,iv,rfl,HE.out.2⟩
structure QE where
 kind:Int
 aP:ByteArray
 ac:ByteArray
 table:ByteArray
 name:ByteArray
 role:ByteArray
 A:Option Addr
 n:Nat
 c:Nat
 cU:ByteArray
 cN:Int
 A2:Option Addr
 n2:Nat
 c2:Nat
 low:Int
 high:Int
 rs:ByteArray
 rt:ByteArray
 rk:ByteArray
 right:Int
 opt:Bool
structure vk where
 kind:Int
 aD:Int
 number:Int
 cmd:QE
 node:Int
 ask:Int
 seq:Int
def FP (x:QE):Prop:=(x.aP.size≤140737488351232∧x.ac.size≤140737488351232∧x.table.size≤140737488351232∧x.name.size≤140737488351232∧x.role.size≤140737488351232)∧x.cU.size≤140737488351232∧x.rs.size≤140737488351232∧x.rt.size≤140737488351232∧x.rk.size≤140737488351232
def EC (x:QE):Bool:=yT x.cU x.cN x.n2 x.low x.high x.rs x.rt x.rk&&(x.kind==0)&&(emp x.aP&&emp x.ac&&emp x.table&&emp x.name&&emp x.role)&&decide (x.n=0)&&(x.right==0)&&!x.opt
def uA (o:vk):Bool:=(o.aD==0)&&(o.number==0)&&EC o.cmd
def xk (o:vk):Bool :=
 if o.kind=1 then lH o.aD 1 4&&oA o.number&&(o.node==0)&&(o.ask==0)&&(o.seq==0)
 else if o.kind=2 then uA o&&yy o.node&&oA o.ask&&(o.seq==0)
 else if o.kind=3 then uA o&&yy o.node&&oA o.seq&&(o.ask==0)
 else if o.kind=4 then uA o&&oA o.seq&&(o.node==0)&&(o.ask==0)
 else false
theorem Vz (x:QE) (sm:FP x) (w:World):Calls Tryz.prog 60 #[.agg #[.int .i64 x.kind,.string x.aP,.string x.ac,.string x.table,.string x.name,.string x.role,.slice x.A x.n x.c,.string x.cU,.int .i64 x.cN,.slice x.A2 x.n2 x.c2,.int .i64 x.low,.int .i64 x.high,.string x.rs,.string x.rt,.string x.rk,.int .i64 x.right,.bool x.opt]] w fun e w'=>e=.returned (.bool (EC x))∧ag w w':=by
 obtain ⟨kind,aP,ac,table,name,role,A,n,c,cU,cN,A2,n2,c2,low,high,rs,rt,rk,right,opt⟩:=x;obtain ⟨⟨h1,h2,h3,h4,h5⟩,h6,h7,h8,h9⟩:=sm;simp only at h1 h2 h3 h4 h5 h6 h7 h8 h9 ⊢;have HB:=gH (show EC ⟨kind,aP,ac,table,name,role,A,n,c,cU,cN,A2,n2,c2,low,high,rs,rt,rk,right,opt⟩=((decide (n2=0)&&emp cU&&emp rs&&emp rt&&emp rk&&(cN==0)&&(low==0)&&(high==0))&&(kind==0)&&(emp aP&&emp ac&&emp table&&emp name&&emp role)&&decide (n=0)&&(right==0)&&!opt) from rfl)
 have e1:w.heap.size < w.heap.size+1:=by omega
 have HA:=gH (show ∀ o1,ag w (w.alloc o1) from fun o1=>(ag.refl _).alloc _);have iy:=gH (show ∀ o1 o2,ag w ((w.alloc o1).alloc o2) from fun o1 o2=>((ag.refl _).alloc _).alloc _)
 go_in
 go_wp2_with fail
 all_goals
  go_ret;refine ⟨Eq.trans (b:=.returned (.bool _)) rfl (cP (bZ ?_)),by first | exact iy.out _ _ | exact HA.out _⟩;rw [HB.out];clear HB HA iy
  simp_all [emp,iY]
theorem Mg (o:vk) (sm:FP o.cmd) (w:World):Calls Tryz.prog 46 #[.agg #[.int .i64 o.kind,.int .i64 o.aD,.int .i64 o.number,.int .i64 o.cmd.kind,.string o.cmd.aP,.string o.cmd.ac,.string o.cmd.table,.string o.cmd.name,.string o.cmd.role,.slice o.cmd.A o.cmd.n o.cmd.c,.string o.cmd.cU,.int .i64 o.cmd.cN,.slice o.cmd.A2 o.cmd.n2 o.cmd.c2,.int .i64 o.cmd.low,.int .i64 o.cmd.high,.string o.cmd.rs,.string o.cmd.rt,.string o.cmd.rk,.int .i64 o.cmd.right,.bool o.cmd.opt,.int .i64 o.node,.int .i64 o.ask,.int .i64 o.seq]] w fun e w'=>e=.returned (.bool (uA o))∧ag w w':=by
 obtain ⟨kind,aD,number,cmd,node,ask,seq⟩:=o;simp only at sm ⊢;obtain ⟨b,hb⟩:∃ b,EC cmd=b:=⟨_,rfl⟩;have CB:=gH (fun V=>hb▸Vz cmd sm V);have HR:=gH (show uA (vk.mk kind aD number cmd node ask seq)=((aD==0)&&(number==0)&&b) by unfold uA;rw [hb]);have HA:=gH (show ∀ o1,ag w (w.alloc o1) from fun o1=>(ag.refl _).alloc _);clear hb;by_cases h1:aD=0
 case neg =>
  have HV:=gH (show uA (vk.mk kind aD number cmd node ask seq)=false by rw [HR.out];simp [h1])
  go_in
  go_wp2;go_ret;exact ⟨by rw [HV.out];rfl,HA.out _⟩
 subst h1;by_cases h2:number=0
 case neg =>
  have HV:=gH (show uA (vk.mk kind 0 number cmd node ask seq)=false by rw [HR.out];simp [h2])
  go_in
  go_wp2;go_ret;exact ⟨by rw [HV.out];rfl,HA.out _⟩
 subst h2;have HV:=gH (show uA (vk.mk kind 0 0 cmd node ask seq)=b by rw [HR.out];rfl);clear HR
 go_in
 go_wp2_with fail;refine (CB.out _).mono ?_;rintro e w1 ⟨rfl,a1⟩;have A1:=gH ((HA.out _).trans a1);clear a1;go_wp2;go_ret;exact ⟨by rw [HV.out];rfl,A1.out⟩
theorem Zl (o:vk) (sm:FP o.cmd) (w:World):Calls Tryz.prog 31 #[.agg #[.int .i64 o.kind,.int .i64 o.aD,.int .i64 o.number,.int .i64 o.cmd.kind,.string o.cmd.aP,.string o.cmd.ac,.string o.cmd.table,.string o.cmd.name,.string o.cmd.role,.slice o.cmd.A o.cmd.n o.cmd.c,.string o.cmd.cU,.int .i64 o.cmd.cN,.slice o.cmd.A2 o.cmd.n2 o.cmd.c2,.int .i64 o.cmd.low,.int .i64 o.cmd.high,.string o.cmd.rs,.string o.cmd.rt,.string o.cmd.rk,.int .i64 o.cmd.right,.bool o.cmd.opt,.int .i64 o.node,.int .i64 o.ask,.int .i64 o.seq]] w fun e w'=>e=.returned (.bool (xk o))∧ag w w':=by
 obtain ⟨kind,aD,number,cmd,node,ask,seq⟩:=o;simp only at sm ⊢;obtain ⟨s,hs⟩:∃ b,uA (vk.mk kind aD number cmd node ask seq)=b:=⟨_,rfl⟩;obtain ⟨b1,hb1⟩:∃ b,lH aD 1 4=b:=⟨_,rfl⟩;obtain ⟨b2,hb2⟩:∃ b,oA number=b:=⟨_,rfl⟩;obtain ⟨b3,hb3⟩:∃ b,yy node=b:=⟨_,rfl⟩;obtain ⟨b4,hb4⟩:∃ b,oA ask=b:=⟨_,rfl⟩;obtain ⟨b5,Pc⟩:∃ b,oA seq=b:=⟨_,rfl⟩;have C1:=gH (fun V=>hb1▸iL aD 1 4 V);have C2:=gH (fun V=>hb2▸pu number V);have C3:=gH (fun V=>hb3▸OY node V);have C4:=gH (fun V=>hb4▸pu ask V);have C5:=gH (fun V=>Pc▸pu seq V);have CS:=gH (fun V=>hs▸Mg (vk.mk kind aD number cmd node ask seq) sm V);obtain ⟨r,hr⟩:∃ b,xk (vk.mk kind aD number cmd node ask seq)=b:=⟨_,rfl⟩;have HR:=gH (show r=(if kind=1 then b1&&b2&&(node==0)&&(ask==0)&&(seq==0) else if kind=2 then s&&b3&&b4&&(seq==0) else if kind=3 then s&&b3&&b5&&(ask==0) else if kind=4 then s&&b5&&(node==0)&&(ask==0) else false) by rw [← hr,← hs,← hb1,← hb2,← hb3,← hb4,← Pc];rfl);have HA:=gH (show ∀ o1,ag w (w.alloc o1) from fun o1=>(ag.refl _).alloc _);rw [hr];clear hs hb1 hb2 hb3 hb4 Pc hr;by_cases h1:kind=1
 case pos =>
  subst h1;have HV:=gH (show r=(b1&&b2&&(node==0)&&(ask==0)&&(seq==0)) by rw [HR.out,if_pos rfl]);clear HR
  go_in
  go_wp2_with fail;refine (C1.out _).mono ?_;rintro e w1 ⟨rfl,rfl⟩
  cases b1
  case false =>
   go_wp2;go_ret;exact ⟨by rw [HV.out];first | rfl | simp,HA.out _⟩
  go_wp2_with fail;refine (C2.out _).mono ?_;rintro e w2 ⟨rfl,rfl⟩
  cases b2
  case false =>
   go_wp2;go_ret;exact ⟨by rw [HV.out];first | rfl | simp,HA.out _⟩
  go_wp2_with fail
  all_goals
   go_ret;refine ⟨Eq.trans (b:=.returned (.bool _)) rfl (cP (bZ ?_)),HA.out _⟩;rw [HV.out]
   simp_all
 by_cases h2:kind=2
 case pos =>
  subst h2;have HV:=gH (show r=(s&&b3&&b4&&(seq==0)) by rw [HR.out,if_neg (by decide),if_pos rfl]);clear HR
  go_in
  obtain ⟨W,hW⟩:∃ W,W=w.alloc (.cells #[.int .i64 2,.int .i64 aD,.int .i64 number,.int .i64 cmd.kind,.string cmd.aP,.string cmd.ac,.string cmd.table,.string cmd.name,.string cmd.role,.slice cmd.A cmd.n cmd.c,.string cmd.cU,.int .i64 cmd.cN,.slice cmd.A2 cmd.n2 cmd.c2,.int .i64 cmd.low,.int .i64 cmd.high,.string cmd.rs,.string cmd.rt,.string cmd.rk,.int .i64 cmd.right,.bool cmd.opt,.int .i64 node,.int .i64 ask,.int .i64 seq] 60):=⟨_,rfl⟩
  have aW:ag w W:=by rw [hW];exact (ag.refl _).alloc _
  have r0:au W w.heap.size [.int .i64 2,.int .i64 aD,.int .i64 number,.int .i64 cmd.kind,.string cmd.aP,.string cmd.ac,.string cmd.table,.string cmd.name,.string cmd.role,.slice cmd.A cmd.n cmd.c,.string cmd.cU,.int .i64 cmd.cN,.slice cmd.A2 cmd.n2 cmd.c2,.int .i64 cmd.low,.int .i64 cmd.high,.string cmd.rs,.string cmd.rt,.string cmd.rk,.int .i64 cmd.right,.bool cmd.opt,.int .i64 node,.int .i64 ask,.int .i64 seq]:=by rw [hW];exact aU (ag.refl _)
  go_wp2_with fail;rw [← hW];clear hW;refine (CS.out _).mono ?_;rintro e w7 ⟨rfl,a7⟩;have A7:=gH (aW.trans a7);have R1:=r0.aH a7;have x20:=R1.cell (j:=20) rfl;have x21:=R1.cell (j:=21) rfl;have x22:=R1.cell (j:=22) rfl;have xz:=R1.1;clear R1 r0 aW a7
  cases s
  case false =>
   go_wp2;go_ret;exact ⟨by rw [HV.out];first | rfl | simp,A7.out⟩
  go_wp2_with fail;refine (C3.out _).mono ?_;rintro e w3 ⟨rfl,rfl⟩
  cases b3
  case false =>
   go_wp2;go_ret;exact ⟨by rw [HV.out];first | rfl | simp,A7.out⟩
  go_wp2_with fail;refine (C4.out _).mono ?_;rintro e w4 ⟨rfl,rfl⟩
  cases b4
  case false =>
   go_wp2;go_ret;exact ⟨by rw [HV.out];first | rfl | simp,A7.out⟩
  go_wp2_with fail
  all_goals
   go_ret;refine ⟨Eq.trans (b:=.returned (.bool _)) rfl (cP (bZ ?_)),A7.out⟩;rw [HV.out]
   simp_all
 by_cases h3:kind=3
 case pos =>
  subst h3;have HV:=gH (show r=(s&&b3&&b5&&(ask==0)) by rw [HR.out,if_neg (by decide),if_neg (by decide),if_pos rfl]);clear HR
  go_in
  obtain ⟨W,hW⟩:∃ W,W=w.alloc (.cells #[.int .i64 3,.int .i64 aD,.int .i64 number,.int .i64 cmd.kind,.string cmd.aP,.string cmd.ac,.string cmd.table,.string cmd.name,.string cmd.role,.slice cmd.A cmd.n cmd.c,.string cmd.cU,.int .i64 cmd.cN,.slice cmd.A2 cmd.n2 cmd.c2,.int .i64 cmd.low,.int .i64 cmd.high,.string cmd.rs,.string cmd.rt,.string cmd.rk,.int .i64 cmd.right,.bool cmd.opt,.int .i64 node,.int .i64 ask,.int .i64 seq] 60):=⟨_,rfl⟩
  have aW:ag w W:=by rw [hW];exact (ag.refl _).alloc _
  have r0:au W w.heap.size [.int .i64 3,.int .i64 aD,.int .i64 number,.int .i64 cmd.kind,.string cmd.aP,.string cmd.ac,.string cmd.table,.string cmd.name,.string cmd.role,.slice cmd.A cmd.n cmd.c,.string cmd.cU,.int .i64 cmd.cN,.slice cmd.A2 cmd.n2 cmd.c2,.int .i64 cmd.low,.int .i64 cmd.high,.string cmd.rs,.string cmd.rt,.string cmd.rk,.int .i64 cmd.right,.bool cmd.opt,.int .i64 node,.int .i64 ask,.int .i64 seq]:=by rw [hW];exact aU (ag.refl _)
  go_wp2_with fail;rw [← hW];clear hW;refine (CS.out _).mono ?_;rintro e w7 ⟨rfl,a7⟩;have A7:=gH (aW.trans a7);have R1:=r0.aH a7;have x20:=R1.cell (j:=20) rfl;have x21:=R1.cell (j:=21) rfl;have x22:=R1.cell (j:=22) rfl;have xz:=R1.1;clear R1 r0 aW a7
  cases s
  case false =>
   go_wp2;go_ret;exact ⟨by rw [HV.out];first | rfl | simp,A7.out⟩
  go_wp2_with fail;refine (C3.out _).mono ?_;rintro e w3 ⟨rfl,rfl⟩
  cases b3
  case false =>
   go_wp2;go_ret;exact ⟨by rw [HV.out];first | rfl | simp,A7.out⟩
  go_wp2_with fail;refine (C5.out _).mono ?_;rintro e w5 ⟨rfl,rfl⟩
  cases b5
  case false =>
   go_wp2;go_ret;exact ⟨by rw [HV.out];first | rfl | simp,A7.out⟩
  go_wp2_with fail
  all_goals
   go_ret;refine ⟨Eq.trans (b:=.returned (.bool _)) rfl (cP (bZ ?_)),A7.out⟩;rw [HV.out]
   simp_all
 by_cases h4:kind=4
 case pos =>
  subst h4;have HV:=gH (show r=(s&&b5&&(node==0)&&(ask==0)) by rw [HR.out,if_neg (by decide),if_neg (by decide),if_neg (by decide),if_pos rfl]);clear HR
  go_in
  obtain ⟨W,hW⟩:∃ W,W=w.alloc (.cells #[.int .i64 4,.int .i64 aD,.int .i64 number,.int .i64 cmd.kind,.string cmd.aP,.string cmd.ac,.string cmd.table,.string cmd.name,.string cmd.role,.slice cmd.A cmd.n cmd.c,.string cmd.cU,.int .i64 cmd.cN,.slice cmd.A2 cmd.n2 cmd.c2,.int .i64 cmd.low,.int .i64 cmd.high,.string cmd.rs,.string cmd.rt,.string cmd.rk,.int .i64 cmd.right,.bool cmd.opt,.int .i64 node,.int .i64 ask,.int .i64 seq] 60):=⟨_,rfl⟩
  have aW:ag w W:=by rw [hW];exact (ag.refl _).alloc _
  have r0:au W w.heap.size [.int .i64 4,.int .i64 aD,.int .i64 number,.int .i64 cmd.kind,.string cmd.aP,.string cmd.ac,.string cmd.table,.string cmd.name,.string cmd.role,.slice cmd.A cmd.n cmd.c,.string cmd.cU,.int .i64 cmd.cN,.slice cmd.A2 cmd.n2 cmd.c2,.int .i64 cmd.low,.int .i64 cmd.high,.string cmd.rs,.string cmd.rt,.string cmd.rk,.int .i64 cmd.right,.bool cmd.opt,.int .i64 node,.int .i64 ask,.int .i64 seq]:=by rw [hW];exact aU (ag.refl _)
  go_wp2_with fail;rw [← hW];clear hW;refine (CS.out _).mono ?_;rintro e w7 ⟨rfl,a7⟩;have A7:=gH (aW.trans a7);have R1:=r0.aH a7;have x20:=R1.cell (j:=20) rfl;have x21:=R1.cell (j:=21) rfl;have x22:=R1.cell (j:=22) rfl;have xz:=R1.1;clear R1 r0 aW a7
  cases s
  case false =>
   go_wp2;go_ret;exact ⟨by rw [HV.out];first | rfl | simp,A7.out⟩
  go_wp2_with fail;refine (C5.out _).mono ?_;rintro e w5 ⟨rfl,rfl⟩
  cases b5
  case false =>
   go_wp2;go_ret;exact ⟨by rw [HV.out];first | rfl | simp,A7.out⟩
  go_wp2_with fail
  all_goals
   go_ret;refine ⟨Eq.trans (b:=.returned (.bool _)) rfl (cP (bZ ?_)),A7.out⟩;rw [HV.out]
   simp_all
 have HV:=gH (show r=false by rw [HR.out,if_neg h1,if_neg h2,if_neg h3,if_neg h4]);clear HR
 go_in
 go_wp2;go_ret;exact ⟨by rw [HV.out];first | rfl | simp,HA.out _⟩
def uS (k:Int):Bool:=k==1 || k==2 || k==3 || k==4 || k==5 || k==6 || k==7 || k==8 || k==9 || k==14 || k==15
def uT (k:Int):Bool:=k==3 || k==4 || k==5 || k==6 || k==7 || k==8 || k==9 || k==14 || k==15
def uN (k:Int):Bool:=k==6 || k==8 || k==12 || k==13
def uR (k:Int):Bool:=k==9 || k==10 || k==11 || k==12 || k==13 || k==14 || k==15
def I6 (k:Int):Bool:=decide (1≤k)&&decide (k≤15)
theorem kinds (k:Int) (h:I6 k=true):k=1∨k=2∨k=3∨k=4∨k=5∨k=6∨k=7∨k=8∨k=9∨k=10∨k=11∨k=12∨k=13∨k=14∨k=15:=by
 simp [I6] at h;omega
theorem VA (k:Int) (h:I6 k=false):(k==1)=false∧(k==2)=false∧(k==3)=false∧(k==4)=false∧(k==5)=false∧(k==6)=false∧(k==7)=false∧(k==8)=false∧(k==9)=false∧(k==10)=false∧(k==11)=false∧(k==12)=false∧(k==13)=false∧(k==14)=false∧(k==15)=false:=by
 simp [I6] at h;simp;omega
theorem Mh (k:Int) (h:I6 k=false):uS k=false∧uT k=false∧uN k=false∧uR k=false:=by
 obtain ⟨h1,h2,h3,h4,h5,h6,h7,h8,h9,h10,h11,D6,D7,GZ,G0⟩:=VA k h;simp [uS,uT,uN,uR,h1,h2,h3,h4,h5,h6,h7,h8,h9,h10,h11,D6,D7,GZ,G0]
theorem I7 (k:Int) (aP ac table name role:ByteArray) (vc:Value) (r0 r1 r2 r3 r4 r5 r6 r7:Value) (right opt:Value) (w:World) :
  Calls Tryz.prog 106 #[.agg #[.int .i64 k,.string aP,.string ac,.string table,.string name,.string role,vc,r0,r1,r2,r3,r4,r5,r6,r7,right,opt]] w
   fun e w'=>e=.returned (.tuple #[.agg #[.string ac,.string table,.string name,.string role],.agg #[.bool (uS k),.bool (uT k),.bool (uN k),.bool (uR k)],.bool (I6 k)])∧ag w w':=by
 cases hk:I6 k
 ·obtain ⟨u1,u2,u3,u4⟩:=Mh k hk
  have H:=gH (And.intro u1 (And.intro u2 (And.intro u3 u4)));clear u1 u2 u3 u4;obtain ⟨h1,h2,h3,h4,h5,h6,h7,h8,h9,h10,h11,D6,D7,GZ,G0⟩:=VA k hk;clear hk
  go_in
  go_wp2_with fail;obtain ⟨u1,u2,u3,u4⟩:=H.out;refine bodyPost_ret (v:=.tuple #[.agg #[.string ac,.string table,.string name,.string role],.agg #[.bool false,.bool false,.bool false,.bool false],.bool false]) (by simp [results,Tryz.results106,go_sem]) rfl ⟨by rw [u1,u2,u3,u4],?_⟩
  repeat (first | exact ag.refl _ | apply ag.alloc | apply ag.bt | apply ag.drew | apply ag.drewN)
 ·have hk2:=kinds k hk
  clear hk
  rcases hk2 with rfl | rfl | rfl | rfl | rfl | rfl | rfl | rfl | rfl | rfl | rfl | rfl | rfl | rfl | rfl
  all_goals
   go_in
   go_wp2;refine bodyPost_ret (v:=.tuple #[.agg #[.string ac,.string table,.string name,.string role],.agg #[.bool _,.bool _,.bool _,.bool _],.bool true]) (by simp [results,Tryz.results106,go_sem];decide) rfl ⟨rfl,?_⟩
   repeat (first | exact ag.refl _ | apply ag.alloc | apply ag.bt | apply ag.drew | apply ag.drewN)
def eK (u:Bool) (s:ByteArray):Bool:=if u then bA s else emp s
theorem FQ (s:ByteArray) (h:emp s=true):bA s=false:=by
 unfold emp at h;rw [isEmpty_iff] at h;simp [bA];intro h0;simp at h;subst h;simp at h0
def yU (k:Int) (n:Nat) (bare:Bool) (right:Int) (opt:Bool):Bool :=
 if k==3 then bare&&right==0&&!opt
 else if k==5 then bare&&right==0&&!opt&&((n:Int)==1)
 else if k==7 then n==0&&right==0&&!opt
 else if k==14 || k==15 then (right==1 || right==2)&&bare&&n==0&&(k==14 || !opt)
 else bare&&n==0&&right==0&&!opt
def FR (k:Int) (aP ac table name role:ByteArray) (n:Nat) (bare:Bool) (right:Int) (opt:Bool):Bool :=
 I6 k&&bA aP&&eK (uS k) ac&&eK (uT k) table&&eK (uN k) name&&eK (uR k) role&&yU k n bare right opt
theorem kn (b:Bool) (s:ByteArray):(b=true∧s.toList.isEmpty=true∧s.toList=[]∧eK b s=false)∨(b=true∧s.toList.isEmpty=false∧(¬ s.toList=[])∧bA s=false∧eK b s=false) ∨
  (b=true∧s.toList.isEmpty=false∧(¬ s.toList=[])∧bA s=true∧eK b s=true)∨(b=false∧s.toList.isEmpty=true∧s.toList=[]∧eK b s=true)∨(b=false∧s.toList.isEmpty=false∧(¬ s.toList=[])∧eK b s=false):=by
 have hne:=FQ s;unfold emp at hne
 cases b<;>cases he:s.toList.isEmpty<;>simp_all [eK,emp]
theorem Mi (k:Int) (aP ac table name role:ByteArray) (A:Option Addr) (n c:Nat) (cU:ByteArray) (cN:Int) (A2:Option Addr) (n2 c2:Nat) (low high:Int) (rs rt rk:ByteArray) (right:Int) (opt:Bool) (w:World) (b0 b1 b2 b3 ok bb:Bool)
  (ha:aP.size≤maxLen) (hs:ac.size≤maxLen) (ht:table.size≤maxLen) (hn:name.size≤maxLen) (hr:role.size≤maxLen)
  (vn:Hid (∀ w,Calls Tryz.prog 106 #[.agg #[.int .i64 k,.string aP,.string ac,.string table,.string name,.string role,.slice A n c,.string cU,.int .i64 cN,.slice A2 n2 c2,.int .i64 low,.int .i64 high,.string rs,.string rt,.string rk,.int .i64 right,.bool opt]] w fun e w'=>e=.returned (.tuple #[.agg #[.string ac,.string table,.string name,.string role],.agg #[.bool b0,.bool b1,.bool b2,.bool b3],.bool ok])∧ag w w'))
  (ED:Hid (∀ w,Calls Tryz.prog 108 #[.agg #[.string cU,.int .i64 cN,.slice A2 n2 c2,.int .i64 low,.int .i64 high,.string rs,.string rt,.string rk]] w fun e w'=>e=.returned (.bool bb)∧ag w w')) (hK:ok=false) :
  Calls Tryz.prog 68 #[.agg #[.int .i64 k,.string aP,.string ac,.string table,.string name,.string role,.slice A n c,.string cU,.int .i64 cN,.slice A2 n2 c2,.int .i64 low,.int .i64 high,.string rs,.string rt,.string rk,.int .i64 right,.bool opt]] w fun e w'=>e=.returned (.bool (false))∧ag w w':=by
 go_in
 go_wp2_with (first | (go_at_call 106;refine (vn.out _).mono ?_;rintro e w1 ⟨rfl,mq⟩;obtain ⟨fH,_,hz,mr,HA⟩:=cz mq;clear mq))
 go_ret;refine ⟨rfl,?_⟩
 repeat (first | exact HA.out | apply ag.alloc | apply ag.bt | apply ag.drew | apply ag.drewN)
theorem Mj (k:Int) (aP ac table name role:ByteArray) (A:Option Addr) (n c:Nat) (cU:ByteArray) (cN:Int) (A2:Option Addr) (n2 c2:Nat) (low high:Int) (rs rt rk:ByteArray) (right:Int) (opt:Bool) (w:World) (b0 b1 b2 b3 ok bb:Bool)
  (ha:aP.size≤maxLen) (hs:ac.size≤maxLen) (ht:table.size≤maxLen) (hn:name.size≤maxLen) (hr:role.size≤maxLen)
  (vn:Hid (∀ w,Calls Tryz.prog 106 #[.agg #[.int .i64 k,.string aP,.string ac,.string table,.string name,.string role,.slice A n c,.string cU,.int .i64 cN,.slice A2 n2 c2,.int .i64 low,.int .i64 high,.string rs,.string rt,.string rk,.int .i64 right,.bool opt]] w fun e w'=>e=.returned (.tuple #[.agg #[.string ac,.string table,.string name,.string role],.agg #[.bool b0,.bool b1,.bool b2,.bool b3],.bool ok])∧ag w w'))
  (ED:Hid (∀ w,Calls Tryz.prog 108 #[.agg #[.string cU,.int .i64 cN,.slice A2 n2 c2,.int .i64 low,.int .i64 high,.string rs,.string rt,.string rk]] w fun e w'=>e=.returned (.bool bb)∧ag w w')) (hK:ok=true) (hA:bA aP=false) :
  Calls Tryz.prog 68 #[.agg #[.int .i64 k,.string aP,.string ac,.string table,.string name,.string role,.slice A n c,.string cU,.int .i64 cN,.slice A2 n2 c2,.int .i64 low,.int .i64 high,.string rs,.string rt,.string rk,.int .i64 right,.bool opt]] w fun e w'=>e=.returned (.bool (false))∧ag w w':=by
 go_in
 go_wp2_with (first | (go_at_call 106;refine (vn.out _).mono ?_;rintro e w1 ⟨rfl,mq⟩;obtain ⟨fH,_,hz,mr,HA⟩:=cz mq;clear mq) | (go_at_call 107;refine (cI _ _ (by assumption)).mono ?_;rintro e w' ⟨rfl,rfl⟩))
 go_ret;refine ⟨rfl,?_⟩
 repeat (first | exact HA.out | apply ag.alloc | apply ag.bt | apply ag.drew | apply ag.drewN)
theorem Mk (k:Int) (aP ac table name role:ByteArray) (A:Option Addr) (n c:Nat) (cU:ByteArray) (cN:Int) (A2:Option Addr) (n2 c2:Nat) (low high:Int) (rs rt rk:ByteArray) (right:Int) (opt:Bool) (w:World) (b0 b1 b2 b3 ok bb:Bool)
  (ha:aP.size≤maxLen) (hs:ac.size≤maxLen) (ht:table.size≤maxLen) (hn:name.size≤maxLen) (hr:role.size≤maxLen)
  (vn:Hid (∀ w,Calls Tryz.prog 106 #[.agg #[.int .i64 k,.string aP,.string ac,.string table,.string name,.string role,.slice A n c,.string cU,.int .i64 cN,.slice A2 n2 c2,.int .i64 low,.int .i64 high,.string rs,.string rt,.string rk,.int .i64 right,.bool opt]] w fun e w'=>e=.returned (.tuple #[.agg #[.string ac,.string table,.string name,.string role],.agg #[.bool b0,.bool b1,.bool b2,.bool b3],.bool ok])∧ag w w'))
  (ED:Hid (∀ w,Calls Tryz.prog 108 #[.agg #[.string cU,.int .i64 cN,.slice A2 n2 c2,.int .i64 low,.int .i64 high,.string rs,.string rt,.string rk]] w fun e w'=>e=.returned (.bool bb)∧ag w w')) (hK:ok=true) (hA:bA aP=true) :
  Calls Tryz.prog 68 #[.agg #[.int .i64 k,.string aP,.string ac,.string table,.string name,.string role,.slice A n c,.string cU,.int .i64 cN,.slice A2 n2 c2,.int .i64 low,.int .i64 high,.string rs,.string rt,.string rk,.int .i64 right,.bool opt]] w fun e w'=>e=.returned (.bool (eK b0 ac&&eK b1 table&&eK b2 name&&eK b3 role&&yU k n bb right opt))∧ag w w':=by
 have i0:∀ w,(Instr.index 150 (.agg #[.string ac,.string table,.string name,.string role]) (.int .i64 0)).run Tryz.prog w=.ok (.string ac) w:=fun _=>by kernel_rfl
 have i1:∀ w,(Instr.index 150 (.agg #[.string ac,.string table,.string name,.string role]) (.int .i64 1)).run Tryz.prog w=.ok (.string table) w:=fun _=>by kernel_rfl
 have i2:∀ w,(Instr.index 150 (.agg #[.string ac,.string table,.string name,.string role]) (.int .i64 2)).run Tryz.prog w=.ok (.string name) w:=fun _=>by kernel_rfl
 have i3:∀ w,(Instr.index 150 (.agg #[.string ac,.string table,.string name,.string role]) (.int .i64 3)).run Tryz.prog w=.ok (.string role) w:=fun _=>by kernel_rfl
 go_in
 go_wp2_with (first | (go_at_call 106;refine (vn.out _).mono ?_;rintro e w1 ⟨rfl,mq⟩;obtain ⟨fH,ly,hz,mr,HA⟩:=cz mq;have gj:=gH mq;clear mq) | (go_at_call 107;refine (cI _ _ (by assumption)).mono ?_;rintro e w' ⟨rfl,rfl⟩))
 go_loop [24] (fun i=>∃ j:Nat,j≤4∧i=.int .i64 j∧(1≤j→eK b0 ac=true)∧(2≤j→eK b1 table=true)∧(3≤j→eK b2 name=true)∧(4≤j→eK b3 role=true)) (fun i=>4 - (intOf i).toNat)
 case atStart=>exact ⟨0,by omega,rfl,by omega,by omega,by omega,by omega⟩
 case round =>
  obtain ⟨j,hj,rfl,hf⟩:=hrel;have HF:=gH hf;clear hf
  have mv:j=0∨j=1∨j=2∨j=3∨j=4:=by omega
  clear hj
  rcases mv with rfl | rfl | rfl | rfl | rfl
  ·rcases kn b0 ac with ⟨hb,e1,e2,hx⟩ | ⟨hb,e1,e2,hN,hx⟩ | ⟨hb,e1,e2,hN,hx⟩ | ⟨hb,e1,e2,hx⟩ | ⟨hb,e1,e2,hx⟩
   all_goals
    subst hb;have HX:=gH hx;clear hx
    go_wp2_with (first | (go_at_call 107;refine (cI _ _ (by assumption)).mono ?_;rintro e w' ⟨rfl,rfl⟩))
   ·go_ret
    exact ⟨by rw [HX.out];simp,by repeat (first | exact HA.out | apply ag.alloc)⟩
   ·go_ret
    exact ⟨by rw [HX.out];simp,by repeat (first | exact HA.out | apply ag.alloc)⟩
   ·go_round
    case rel=>exact ⟨1,by omega,rfl,fun _=>HX.out,fun h=>absurd h (by omega),fun h=>absurd h (by omega),fun h=>absurd h (by omega)⟩
    case measure=>simp [intOf]
   ·go_round
    case rel=>exact ⟨1,by omega,rfl,fun _=>HX.out,fun h=>absurd h (by omega),fun h=>absurd h (by omega),fun h=>absurd h (by omega)⟩
    case measure=>simp [intOf]
   ·go_ret
    exact ⟨by rw [HX.out];simp,by repeat (first | exact HA.out | apply ag.alloc)⟩
  ·rcases kn b1 table with ⟨hb,e1,e2,hx⟩ | ⟨hb,e1,e2,hN,hx⟩ | ⟨hb,e1,e2,hN,hx⟩ | ⟨hb,e1,e2,hx⟩ | ⟨hb,e1,e2,hx⟩
   all_goals
    subst hb;have HX:=gH hx;clear hx
    go_wp2_with (first | (go_at_call 107;refine (cI _ _ (by assumption)).mono ?_;rintro e w' ⟨rfl,rfl⟩))
   ·go_ret
    exact ⟨by rw [HX.out];simp,by repeat (first | exact HA.out | apply ag.alloc)⟩
   ·go_ret
    exact ⟨by rw [HX.out];simp,by repeat (first | exact HA.out | apply ag.alloc)⟩
   ·go_round
    case rel=>exact ⟨2,by omega,rfl,fun _=>HF.out.1 (by omega),fun _=>HX.out,fun h=>absurd h (by omega),fun h=>absurd h (by omega)⟩
    case measure=>simp [intOf]
   ·go_round
    case rel=>exact ⟨2,by omega,rfl,fun _=>HF.out.1 (by omega),fun _=>HX.out,fun h=>absurd h (by omega),fun h=>absurd h (by omega)⟩
    case measure=>simp [intOf]
   ·go_ret
    exact ⟨by rw [HX.out];simp,by repeat (first | exact HA.out | apply ag.alloc)⟩
  ·rcases kn b2 name with ⟨hb,e1,e2,hx⟩ | ⟨hb,e1,e2,hN,hx⟩ | ⟨hb,e1,e2,hN,hx⟩ | ⟨hb,e1,e2,hx⟩ | ⟨hb,e1,e2,hx⟩
   all_goals
    subst hb;have HX:=gH hx;clear hx
    go_wp2_with (first | (go_at_call 107;refine (cI _ _ (by assumption)).mono ?_;rintro e w' ⟨rfl,rfl⟩))
   ·go_ret
    exact ⟨by rw [HX.out];simp,by repeat (first | exact HA.out | apply ag.alloc)⟩
   ·go_ret
    exact ⟨by rw [HX.out];simp,by repeat (first | exact HA.out | apply ag.alloc)⟩
   ·go_round
    case rel=>exact ⟨3,by omega,rfl,fun _=>HF.out.1 (by omega),fun _=>HF.out.2.1 (by omega),fun _=>HX.out,fun h=>absurd h (by omega)⟩
    case measure=>simp [intOf]
   ·go_round
    case rel=>exact ⟨3,by omega,rfl,fun _=>HF.out.1 (by omega),fun _=>HF.out.2.1 (by omega),fun _=>HX.out,fun h=>absurd h (by omega)⟩
    case measure=>simp [intOf]
   ·go_ret
    exact ⟨by rw [HX.out];simp,by repeat (first | exact HA.out | apply ag.alloc)⟩
  ·rcases kn b3 role with ⟨hb,e1,e2,hx⟩ | ⟨hb,e1,e2,hN,hx⟩ | ⟨hb,e1,e2,hN,hx⟩ | ⟨hb,e1,e2,hx⟩ | ⟨hb,e1,e2,hx⟩
   all_goals
    subst hb;have HX:=gH hx;clear hx
    go_wp2_with (first | (go_at_call 107;refine (cI _ _ (by assumption)).mono ?_;rintro e w' ⟨rfl,rfl⟩))
   ·go_ret
    exact ⟨by rw [HX.out];simp,by repeat (first | exact HA.out | apply ag.alloc)⟩
   ·go_ret
    exact ⟨by rw [HX.out];simp,by repeat (first | exact HA.out | apply ag.alloc)⟩
   ·go_round
    case rel=>exact ⟨4,by omega,rfl,fun _=>HF.out.1 (by omega),fun _=>HF.out.2.1 (by omega),fun _=>HF.out.2.2.1 (by omega),fun _=>HX.out⟩
    case measure=>simp [intOf]
   ·go_round
    case rel=>exact ⟨4,by omega,rfl,fun _=>HF.out.1 (by omega),fun _=>HF.out.2.1 (by omega),fun _=>HF.out.2.2.1 (by omega),fun _=>HX.out⟩
    case measure=>simp [intOf]
   ·go_ret
    exact ⟨by rw [HX.out];simp,by repeat (first | exact HA.out | apply ag.alloc)⟩
  ·clear i0 i1 i2 i3
   go_wp2_with (first | (go_at_call 108;refine (ED.out _).mono ?_;rintro e w2 ⟨rfl,mq⟩;obtain ⟨VB,Zm,hz2,Zn,iy⟩:=cz (((gj.out.alloc _).alloc _).trans mq);clear mq fH ly hz mr))
   all_goals
    go_ret;refine ⟨Eq.trans (b:=.returned (.bool _)) rfl (cP (bZ ?_)),?_⟩
    ·rw [HF.out.1 (by omega),HF.out.2.1 (by omega),HF.out.2.2.1 (by omega),HF.out.2.2.2 (by omega)]
     clear HF HA gj vn ED
     simp_all [yU]
    ·repeat (first | exact HA.out | exact iy.out | apply ag.alloc)
theorem xl (k:Int) (aP ac table name role:ByteArray) (A:Option Addr) (n c:Nat) (cU:ByteArray) (cN:Int) (A2:Option Addr) (n2 c2:Nat) (low high:Int) (rs rt rk:ByteArray) (right:Int) (opt:Bool) (w:World)
  (ha:aP.size≤maxLen) (hs:ac.size≤maxLen) (ht:table.size≤maxLen) (hn:name.size≤maxLen) (hr:role.size≤maxLen)
  (h1:cU.size≤140737488351232) (h2:rs.size≤140737488351232) (h3:rt.size≤140737488351232) (h4:rk.size≤140737488351232) :
  Calls Tryz.prog 68 #[.agg #[.int .i64 k,.string aP,.string ac,.string table,.string name,.string role,.slice A n c,.string cU,.int .i64 cN,.slice A2 n2 c2,.int .i64 low,.int .i64 high,.string rs,.string rt,.string rk,.int .i64 right,.bool opt]] w
   fun e w'=>e=.returned (.bool (FR k aP ac table name role n (yT cU cN n2 low high rs rt rk) right opt))∧ag w w':=by
 have hu:=gH (fun w=>I7 k aP ac table name role (.slice A n c) (.string cU) (.int .i64 cN) (.slice A2 n2 c2) (.int .i64 low) (.int .i64 high) (.string rs) (.string rt) (.string rk) (.int .i64 right) (.bool opt) w);have hb:=gH (fun w=>I8 cU cN A2 n2 c2 low high rs rt rk w h1 h2 h3 h4)
 cases hK:I6 k
 ·refine (Mi k aP ac table name role A n c cU cN A2 n2 c2 low high rs rt rk right opt w _ _ _ _ _ _ ha hs ht hn hr hu hb hK).mono ?_
  rintro e w' ⟨rfl,h⟩;exact ⟨by simp [FR,hK],h⟩
 ·cases hN:bA aP
  ·refine (Mj k aP ac table name role A n c cU cN A2 n2 c2 low high rs rt rk right opt w _ _ _ _ _ _ ha hs ht hn hr hu hb hK hN).mono ?_
   rintro e w' ⟨rfl,h⟩;exact ⟨by simp [FR,hN],h⟩
  ·refine (Mk k aP ac table name role A n c cU cN A2 n2 c2 low high rs rt rk right opt w _ _ _ _ _ _ ha hs ht hn hr hu hb hK hN).mono ?_
   rintro e w' ⟨rfl,h⟩;exact ⟨by simp [FR,hK,hN],h⟩
def vo (s:ByteArray) (u:Bool):Bool:=if u then bA s else emp s
theorem EE (k:Int) (aP ac table name role:ByteArray) (n:Nat) (bb:Bool) (right:Int) (opt:Bool) :
  FR k aP ac table name role n bb right opt=(I6 k&&bA aP&&vo ac (uS k)&&vo table (uT k)&&vo name (uN k)&&vo role (uR k)&&yU k n bb right opt):=rfl
def pJ (k cN:Int):Bool:=k==2 || k==4 || k==6 || k==9 || k==11 || k==13 || k==15 || (k==7&&cN != 1)
theorem sY (k:Int) (aP ac table name role:ByteArray) (A:Option Addr) (n c:Nat) (cU:ByteArray) (cN:Int) (A2:Option Addr) (n2 c2:Nat) (low high:Int) (rs rt rk:ByteArray) (right:Int) (opt:Bool) (w:World) :
  Calls Tryz.prog 76 #[.agg #[.int .i64 k,.string aP,.string ac,.string table,.string name,.string role,.slice A n c,.string cU,.int .i64 cN,.slice A2 n2 c2,.int .i64 low,.int .i64 high,.string rs,.string rt,.string rk,.int .i64 right,.bool opt]] w fun e w'=>e=.returned (.bool (pJ k cN))∧ag w w':=by
 go_in
 go_wp2_with fail
 all_goals
  go_ret;refine ⟨Eq.trans (b:=.returned (.bool _)) rfl (cP (bZ ?_)),?_⟩
  ·simp_all [pJ]
  ·repeat (first | exact ag.refl _ | apply ag.alloc)
theorem yV (k:Int) (aP ac table name role:ByteArray) (A:Option Addr) (n c:Nat) (cU:ByteArray) (cN:Int) (A2:Option Addr) (n2 c2:Nat) (low high:Int) (rs rt rk:ByteArray) (right:Int) (opt:Bool) (w:World) (m:Bool) (BP:Hid (∀ w,Calls Tryz.prog 68 #[.agg #[.int .i64 k,.string aP,.string ac,.string table,.string name,.string role,.slice A n c,.string cU,.int .i64 cN,.slice A2 n2 c2,.int .i64 low,.int .i64 high,.string rs,.string rt,.string rk,.int .i64 right,.bool opt]] w fun e w'=>e=.returned (.bool m)∧ag w w')) :
  Calls Tryz.prog 50 #[.agg #[.int .i64 k,.string aP,.string ac,.string table,.string name,.string role,.slice A n c,.string cU,.int .i64 cN,.slice A2 n2 c2,.int .i64 low,.int .i64 high,.string rs,.string rt,.string rk,.int .i64 right,.bool opt]] w fun e w'=>e=.returned (.bool (m&&pJ k cN))∧ag w w':=by
 have Zo:=gH (fun w=>sY k aP ac table name role A n c cU cN A2 n2 c2 low high rs rt rk right opt w)
 cases m
 all_goals
  go_in
  go_wp2_with (first | (go_at_call 68;refine (BP.out _).mono ?_;rintro e w1 ⟨rfl,mq⟩;obtain ⟨fH,ly,hz,mr,HA⟩:=cz mq;clear mq) | (go_at_call 76;refine (Zo.out _).mono ?_;rintro e w2 ⟨rfl,Pd⟩;have iy:=gH (HA.out.trans Pd);clear Pd))
  go_ret;refine ⟨Eq.trans (b:=.returned (.bool _)) rfl (cP (bZ ?_)),?_⟩
  ·simp
  ·repeat (first | exact iy.out | exact HA.out | apply ag.alloc)
section
variable {w : World} {B B' g n c i : Nat} {hs : Hd} {L : Lay}
end
end Go.Proofs.YtakddkhipelmjaaGreat
