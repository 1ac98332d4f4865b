import Derived.WalkMore
import Derived.Test.YtmflccbnoeaafaaGreatPartC13
namespace Go.Proofs.YtmflccbnoeaafaaGreat
open Go.RowKit Go.Deep
set_option maxRecDepth 100000
set_option linter.unusedVariables false
set_option maxHeartbeats 64000000
def rY (l:List cB):List UInt8→Value:=fun s=>.int .i64 (if s∈l.map jC then 1 else 0)
theorem mO (w:World):(zeroValue 3).run Tryz.prog w=.ok (.int .i64 0) w:=by kernel_rfl
theorem Hn:rY []=fun _=>Value.int .i64 0:=by
 funext s;unfold rY;simp
theorem mP (l:List cB) (g:cB) (hl:∀ x∈l,oL x) (hg:oL g):rY l (jC g)=.int .i64 (if mv l g=true then 1 else 0):=by
 unfold rY
 congr 1
 have:(jC g∈l.map jC)↔mv l g=true:=by
  rw [sq,List.mem_map,List.mem_map];exact ⟨fun ⟨x,hx,e⟩=>⟨x,hx,(vd x g (hl x hx) hg).1 e⟩,fun ⟨x,hx,e⟩=>⟨x,hx,(vd x g (hl x hx) hg).2 e⟩⟩
 by_cases h:mv l g=true
 ·rw [if_pos h,if_pos (this.2 h)]
 ·rw [if_neg h,if_neg fun e=>h (this.1 e)]
theorem yB (l:List cB) (g:cB):rY (l++[g])=fun x=>if x=jC g then .int .i64 1 else rY l x:=by
 funext x
 unfold rY;by_cases h:x=jC g
 ·rw [if_pos h,if_pos (by rw [h];simp)]
 ·rw [if_neg h]
  congr 1
  by_cases h2:x∈l.map jC
  ·rw [if_pos h2,if_pos (by rw [List.map_append];exact List.mem_append.2 (.inl h2))]
  ·rw [if_neg h2,if_neg (by rw [List.map_append,List.mem_append];simpa [h] using h2)]
structure Ay (w:World) (bi:Nat) (c:bW) (f:dR→Value) (k:Nat):Prop where
 all:∀ s,f s=.slice none 0 0∨∃ (x:ByteArray) (h:Hd),txt x=s∧f s=h.v∧w.ownsRow (bi+1) 9 1 h.v (cT c.aj x).length ((cT c.aj x).flatMap bY)∧0 < (cT c.aj x).length
 dn:∀ j,j < k→∀ (hj:j < c.af.length),f (txt c.af[j].aC)≠.slice none 0 0
theorem Ay.kb {Q:Nat→Prop} {w w':World} {bi:Nat} {c:bW} {f:dR→Value} {k:Nat} (h:Ay w bi c f k) (kb:Kb Q w w') (hQ:∀ g,bi+1≤g→g < w.heap.size→¬ Q g):Ay w' bi c f k :=
 ⟨fun s=>(h.all s).imp id fun ⟨x,d,e1,e2,ho,hl⟩=>⟨x,d,e1,e2,aP ho kb fun g hg=>hQ g (ho.lt g hg).1 (ho.lt g hg).2,hl⟩,h.dn⟩
theorem Ay.az {w w':World} {bi:Nat} {c:bW} {f:dR→Value} {k:Nat} (h:Ay w bi c f k) (a:ag w w'):Ay w' bi c f k:=h.kb (Q:=fun _=>False) (Kb.aH a) fun _ _ _ h=>h
theorem Ay.at {w:World} {bi:Nat} {c:bW} {f:dR→Value} {k:Nat} (h:Ay w bi c f k) {g:ByteArray} (hn:f (txt g)≠.slice none 0 0):∃ d:Hd,f (txt g)=.slice d.a (cT c.aj g).length d.c∧w.ownsRow (bi+1) 9 1 d.v (cT c.aj g).length ((cT c.aj g).flatMap bY)∧0 < (cT c.aj g).length:=by
 rcases h.all (txt g) with e | ⟨x,d,e1,e2,ho,hl⟩
 ·exact absurd e hn
 ·have:=nC e1
  subst this;exact ⟨d,by rw [e2];exact bL ho,ho,hl⟩
theorem Ay.put {w w':World} {bi:Nat} {c:bW} {f:dR→Value} {k:Nat} (h:Ay w bi c f k) (kb:Kb (fun g=>g=bi) w w') {x:ByteArray} {d:Hd} (ho:w'.ownsRow (bi+1) 9 1 d.v (cT c.aj x).length ((cT c.aj x).flatMap bY)) (hl:0 < (cT c.aj x).length) (hx:∀ (hk:k < c.af.length),c.af[k].aC=x) :
  Ay w' bi c (fun s=>if s=txt x then d.v else f s) (k+1):=by
 have hd:d.v≠.slice none 0 0:=by
  rw [bL ho];intro e;simp only [Value.slice.injEq] at e;omega
 have h':=h.kb kb fun g hg _ e=>by omega
 refine ⟨fun s=>?_,fun j hj qB=>?_⟩
 ·by_cases e:s=txt x
  ·exact .inr ⟨x,d,e.symm,by simp only [e,if_true],ho,hl⟩
  ·simp only [if_neg e];exact h'.all s
 ·split
  ·exact hd
  ·rename_i hne
   rcases Nat.lt_or_ge j k with h1 | h1
   ·exact h.dn j h1 qB
   ·have:j=k:=by omega
    subst this;exact absurd (by rw [hx qB]) hne
theorem Ay.skip {w:World} {bi:Nat} {c:bW} {f:dR→Value} {k:Nat} (h:Ay w bi c f k) (hx:∀ (hk:k < c.af.length),f (txt c.af[k].aC)≠.slice none 0 0):Ay w bi c f (k+1) :=
 ⟨h.all,fun j hj qB=>by
  rcases Nat.lt_or_ge j k with h1 | h1
  ·exact h.dn j h1 qB
  ·have:j=k:=by omega
   subst this
   exact hx qB⟩
structure Oq (w wr:World) (bh bi:Nat) (cb:List Value) (c:bW) (l:List cB) (f:dR→Value) (k:Nat):Prop where
 az:ag w wr
 box:ap wr w.heap.size cb
 mh:eL Tryz.prog 114 wr bh l.length (.int .i64 0) (rY l)
 mi:eL Tryz.prog 9 wr bi k (.slice none 0 0) f
 is:Ay wr bi c f k
theorem Oq.to {w wr w':World} {bh bi:Nat} {cb:List Value} {c:bW} {l:List cB} {f:dR→Value} {k:Nat} (h:Oq w wr bh bi cb c l f k) (a:ag wr w'):Oq w w' bh bi cb c l f k:=⟨h.az.trans a,h.box.az a,h.mh.az a,h.mi.az a,h.is.az a⟩
theorem yC {c:bW} (h:bM c=true) {g:cB} (hg:g∈c.af):0 < (cT c.aj g.aC).length∧cT c.aj g.aC=c.aj.names.filter (dI c.aj.members g.aC):=by
 obtain ⟨_,⟨_,h2,_,_⟩,h3,_⟩:=bO.1 h;have h4:=(ll (h3 g hg)).2.2.2.1
 have e:cT c.aj g.aC=c.aj.names.filter (dI c.aj.members g.aC):=by unfold cT;rw [h2,h4];rfl
 refine ⟨List.length_pos_of_mem (a:=g.aC) ?_,e⟩;rw [e];exact List.mem_filter.2 ⟨(iB _ _).1 h4,rG _ _⟩
theorem Bi {c:bW} (h:bM c=true) {g:cB} (hg:g∈c.af):(iK c.ai g.aa g.table).aa=g.aa∧(iK c.ai g.aa g.table).name=g.table∧0≤cE c.ai.ae g.aa:=by
 obtain ⟨_,⟨h1,_,_,_⟩,h3,_⟩:=bO.1 h;have h4:=(ll (h3 g hg)).1;obtain ⟨q,hq⟩:=Int.eq_ofNat_of_zero_le h4;have hr:bj c.ai.tables g.aa g.table < c.ai.tables.length:=(bg _ _).2
 have hl:q < c.ai.tables.length:=by omega
 have e:=nB hq hl;have hp:=gY _ c.ai.tables q hl hq;simp only [Bool.and_eq_true,kB] at hp;rw [e];refine ⟨hp.1,hp.2,?_⟩
 have hc:dB c.ai c.ai.tables[q]=true:=by
  unfold bF at h1;simp only [Bool.and_eq_true,List.all_eq_true] at h1;exact h1.2.2 _ (List.getElem_mem hl)
 unfold dB at hc;simp only [Bool.and_eq_true,decide_eq_true_eq] at hc;rw [← hp.1];exact hc.1.2
structure K4 (wF wr:World) (bh:Nat) (c:bW) (l:List cB) (hd:Hd):Prop where
 kb:Kb (fun g=>g=bh) wF wr
 mh:eL Tryz.prog 114 wr bh l.length (.int .i64 0) (rY l)
 row:wr.ownsRow wF.heap.size 106 6 hd.v l.length (l.flatMap cC)
 Nj:kD c l
 nil:l=[]→hd=⟨none,0,0⟩
theorem K4.to {wF wr w':World} {bh:Nat} {c:bW} {l:List cB} {hd:Hd} (h:K4 wF wr bh c l hd) (a:ag wr w'):K4 wF w' bh c l hd:=⟨h.kb.trans (Kb.aH a),h.mh.az a,bu h.row a,h.Nj,h.nil⟩
theorem K4.next {wF u7 u8:World} {bh:Nat} {c:bW} {l:List cB} {hd:Hd} {g:cB} {gg cap:Nat} {o:Obj} (h:kD c l) (hg:g∈c.af) (mb:mv l g=false) (hj:fM c l g=true)
  (h7:Kb (fun g=>g=bh) wF u7∧eL Tryz.prog 114 u7 bh (l++[g]).length (.int .i64 0) (rY (l++[g]))∧u7.ownsRow wF.heap.size 106 6 (.slice hd.a l.length hd.c) l.length (l.flatMap cC)∧wF.heap.size≤u7.heap.size) (zb:bh < wF.heap.size)
  (ho:u8.ownsRow wF.heap.size 106 6 (.slice (some ⟨gg,0,none⟩) (l.length+1) cap) (l.length+1) (l.flatMap cC++cC g)) (hgr:(u7.alloc o).grownBy u8 (Value.slice hd.a l.length hd.c).ownBlock) :
  K4 wF u8 bh c (l++[g]) ⟨some ⟨gg,0,none⟩,l.length+1,cap⟩:=by
 obtain ⟨k7,m7,r7,z7⟩:=h7;have a7:ag u7 (u7.alloc o):=(ag.refl _).alloc _;have k8:=Kb.ey hgr
 have hq:∀ k,(Value.slice hd.a l.length hd.c).ownBlock=some k→wF.heap.size≤k:=fun k e=>(r7.lt k e).1
 refine ⟨?_,(m7.az a7).kb k8 fun e=>by have:=hq _ e;omega,?_,h.add hg mb hj,fun e=>by simp at e⟩
 ·have k9:Kb (fun k=>k=bh∨(Value.slice hd.a l.length hd.c).ownBlock=some k) wF u8:=((k7.mono fun k _ e=>.inl e).trans (Kb.aH a7)).trans (k8.mono fun k _ e=>.inr e)
  exact k9.mono fun k hk e=>by
   rcases e with e | e
   ·exact e
   ·have:=hq k e;omega
 ·show u8.ownsRow wF.heap.size _ 6 (.slice (some ⟨gg,0,none⟩) (l.length+1) cap) (l++[g]).length ((l++[g]).flatMap cC)
  rw [List.length_append,List.flatMap_append,List.flatMap_cons,List.flatMap_nil,List.append_nil];exact ho
def Nk (w:World) (c:bW) (e:Ending) (w':World):Prop:=∃ h:Hd,e=.returned h.v∧ag w w'∧w'.ownsRow w.heap.size 106 6 h.v (cH c).length ((cH c).flatMap cC)
theorem Nl (c:bW) (As:Option Addr) (ar:Nat) (At:Option Addr) (ax:Nat) (An:Option Addr) (aI:Nat) (Am:Option Addr) (aK:Nat) (Ag:Option Addr) (aS:Nat) (w:World) (H:eH w c As ar At ax An aI Am aK Ag aS) :
  Calls Tryz.prog 26 #[.agg #[.int .i64 c.aA,.int .i64 c.version,.slice As c.ai.ae.length ar,.slice At c.ai.tables.length ax,.slice An c.aj.names.length aI,.slice Am c.aj.members.length aK,.slice Ag c.af.length aS]] w (Nk w c):=by
 have hlen:=H.kv.len;have Q4:=@run_makeMap Tryz.prog;obtain ⟨W,hW⟩:∃ W,W=w.alloc (.cells #[.int .i64 c.aA,.int .i64 c.version,.slice As c.ai.ae.length ar,.slice At c.ai.tables.length ax,.slice An c.aj.names.length aI,.slice Am c.aj.members.length aK,.slice Ag c.af.length aS] 32):=⟨_,rfl⟩
 have aW:ag w W:=by rw [hW];exact (ag.refl w).alloc _
 have r0:ap W (w.heap.size) [.int .i64 c.aA,.int .i64 c.version,.slice As c.ai.ae.length ar,.slice At c.ai.tables.length ax,.slice An c.aj.names.length aI,.slice Am c.aj.members.length aK,.slice Ag c.af.length aS]:=by rw [hW];exact bv (ag.refl _) (by simp)
 obtain ⟨st,hst⟩:∃ b,bM c=b:=⟨_,rfl⟩;have C1:=gH (show Calls Tryz.prog 62 #[.agg #[.int .i64 c.aA,.int .i64 c.version,.slice As c.ai.ae.length ar,.slice At c.ai.tables.length ax,.slice An c.aj.names.length aI,.slice Am c.aj.members.length aK,.slice Ag c.af.length aS]] W fun e w''=>e=.returned (.bool st)∧ag W w'' from (Dv c As ar At ax An aI Am aK Ag aS W (H.az aW)).mono fun e w'' ⟨he,hw⟩=>⟨he.trans (by rw [hst]),hw⟩);have HST:=gH hst;have HH:=gH H;have br:=gH aW;have je:=gH r0;obtain ⟨x0,x1,x2,x3,x4,x5,x6,xz⟩:=dM r0;clear hst H aW r0
 go_enter Tryz.func26,Tryz.ntmps26
 go_wp2_with fail;rw [← hW];clear hW
 go_step3
 go_wp2_with fail;refine C1.out.mono ?_;rintro e w1 ⟨rfl,a1⟩;clear C1 x0 x1 x2 x3 x4 x5 x6 xz
 cases st
 case false =>
  have HF:=gH (show cH c=[] by unfold cH;rw [HST.out];rfl);have HA:=gH (br.out.trans a1);clear a1;go_wp2_with fail;go_ret;exact ⟨⟨none,0,0⟩,rfl,HA.out,by rw [HF.out];exact dl _ _ _ _⟩
 have p0:=je.out.az a1;have x6:=p0.cell (j:=6) rfl;have xz:=p0.1;obtain ⟨bh,Vg⟩:∃ b,b=w1.heap.size:=⟨_,rfl⟩;obtain ⟨bi,Sx⟩:∃ b,b=w1.heap.size+1:=⟨_,rfl⟩;obtain ⟨cb,hcb⟩:∃ cb:List Value,cb=[.int .i64 c.aA,.int .i64 c.version,.slice As c.ai.ae.length ar,.slice At c.ai.tables.length ax,.slice An c.aj.names.length aI,.slice Am c.aj.members.length aK,.slice Ag c.af.length aS]:=⟨_,rfl⟩;rw [← hcb] at p0;have SB:=gH hcb;clear hcb
 have S0:=gH (show Oq w ((w1.alloc (.map #[] 0)).alloc (.map #[] 0)) bh bi cb c [] (fun _=>.slice none 0 0) 0 from by
  have a2:ag w1 (w1.alloc (.map #[] 0)):=(ag.refl _).alloc _;have a3:ag (w1.alloc (.map #[] 0)) ((w1.alloc (.map #[] 0)).alloc (.map #[] 0)):=(ag.refl _).alloc _;refine ⟨(br.out.trans a1).trans (a2.trans a3),p0.az (a2.trans a3),?_,?_,fun s=>.inl rfl,fun j hj=>absurd hj (Nat.not_lt_zero j)⟩
  ·rw [Vg,Hn];exact (nE w1 _).az a3
  ·rw [Sx]
   have:=nE (P:=Tryz.prog) (k:=9) (w1.alloc (.map #[] 0)) (.slice none 0 0)
   simpa using this)
 have hB:=gH (show w.heap.size < bh∧bh < bi by rw [Vg,Sx];have:=(br.out.trans a1).size;have:=je.out.1;have:=a1.size;omega);clear a1 p0;go_wp2_with fail;rw [← Sx,← Vg];have K5:=gH (show bM c=true from HST.out);have YE:c.af.length≤64:=(bO.1 HST.out).1
 go_loopw [20] (fun i wr=>∃ (k:Nat) (f:dR→Value),k≤c.af.length∧i=.int .i64 k∧Oq w wr bh bi cb c [] f k) (fun i _=>c.af.length - (intOf i).toNat)
 case atStart=>exact ⟨0,_,Nat.zero_le _,rfl,S0.out⟩
 case round =>
  clear S0 x6 xz Vg Sx;obtain ⟨k,f,hk,rfl,hs⟩:=hrel;have HS:=gH hs;by_cases hlt:k < c.af.length
  ·obtain ⟨b,off,rfl,hb,t0,t1,t2,t3,t4,t5,sg⟩:=mL (eZ hs.az HH.out.kv) hlt
   obtain ⟨g,hg⟩:∃ g,c.af[k]=g:=⟨_,rfl⟩;rw [hg] at t0 t1 t2 t3 t4 t5 sg;obtain ⟨X,hX⟩:∃ V,V=wr.alloc (.cells #[.string g.aa,.string g.table,.int .i64 g.right,.string g.aC,.string g.to,.bool g.opt] 106):=⟨_,rfl⟩
   have aX:ag wr X:=by rw [hX];exact (ag.refl wr).alloc _
   have SX:=gH (hs.to aX);have RX:=gH (show ap X wr.heap.size [.string g.aa,.string g.table,.int .i64 g.right,.string g.aC,.string g.to,.bool g.opt] by rw [hX];exact aO (ag.refl _));have Ot:=gH (show g∈c.af by rw [← hg];exact List.getElem_mem hlt);have HG:=gH (show ∀ (h:k < c.af.length),c.af[k].aC=g.aC from fun _=>by rw [hg]);have Q5:=(hs.to aX).mi.look Tryz.underlying9 Tryz.underlying112 (ln X) g.aC sg.2.2.1.max;have LK:(Instr.lookup 112 (.map (some bi)) (.string g.aC) false).run Tryz.prog X=.ok (f (txt g.aC)) X:=Q5;have Bj:=gH sg;by_cases hf:f (txt g.aC)=.slice none 0 0
   ·rw [hf,hX] at LK
    have HF:=gH hf;have Wm:=gH (yC K5.out Ot.out).1;have K3:=gH (show ∀ w',ag X w'→Calls Tryz.prog 32 #[.agg #[.slice An c.aj.names.length aI,.slice Am c.aj.members.length aK],.string g.aC] w' (yD c.aj g.aC w') from fun w' a=>Ho c.aj An aI Am aK g.aC w' (aM (SX.out.az.trans a) HH.out.fK) (bJ (SX.out.az.trans a) HH.out.mem) Bj.out.2.2.1)
    have KS:=gH (show ∀ V,ag X V→V.cell? ⟨w.heap.size,4,none⟩=some (.slice An c.aj.names.length aI)∧V.cell? ⟨w.heap.size,5,none⟩=some (.slice Am c.aj.members.length aK)∧V.cell? ⟨wr.heap.size,3,none⟩=some (.string g.aC) from fun V a=>by
     have p0:=SX.out.box.az a;rw [SB.out] at p0
     exact ⟨p0.cell (j:=4) rfl,p0.cell (j:=5) rfl,(RX.out.az a).cell (j:=3) rfl⟩)
    have YF:=hs.mi.lt;have ZX:=gH (show wr.heap.size≤X.heap.size from aX.size)
    have Ou:=gH (show ∀ V V',ag X V→V.grownBy V' (some bi)→V'.cell? ⟨w.heap.size,4,none⟩=some (.slice An c.aj.names.length aI)∧V'.cell? ⟨w.heap.size,5,none⟩=some (.slice Am c.aj.members.length aK)∧V'.cell? ⟨wr.heap.size,3,none⟩=some (.string g.aC) from fun V V' a gr=>by
     obtain ⟨h4,h5,h3⟩:=KS.out V a;have kb:=Kb.ey gr;have:=hB.out
     exact ⟨kb.cell h4 (fun e=>by simp only [Option.some.injEq] at e;omega),kb.cell h5 (fun e=>by simp only [Option.some.injEq] at e;omega),kb.cell h3 (fun e=>by simp only [Option.some.injEq] at e;omega)⟩)
    clear hf hs aX Q5 hg sg;go_wp2_with fail;rw [← hX];clear hX t0 t1 t2 t3 t4 t5 LK hb
    go_region_held3 (fun V=>V.cell? ⟨w.heap.size,4,none⟩=some (.slice An c.aj.names.length aI)∧V.cell? ⟨w.heap.size,5,none⟩=some (.slice Am c.aj.members.length aK)∧V.cell? ⟨wr.heap.size,3,none⟩=some (.string g.aC))
     (first | exact KS.out _ (ag.refl _).drew | exact KS.out _ A5.out | exact K6.out)
     ((go_at_call 32;refine (K3.out _ (ag.refl X).drew).mono ?_;rintro e w5 ⟨d,rfl,a5,SC⟩;have A5:=gH ((ag.refl X).drew.trans a5);have HO5:=gH (And.intro a5 SC);clear a5 SC;obtain ⟨w6,p6,M6,g6⟩:=(SX.out.mi.az A5.out).put Tryz.underlying9 Tryz.underlying112 (by unfold maxLen;omega) g.aC Bj.out.2.2.1.max d.v;have K6:=gH (Ou.out w5 w6 A5.out g6);have Nn:=gH (And.intro M6 g6);clear M6 g6))
    have yE:=gH (show Oq w w6 bh bi cb c [] (fun s=>if s=txt g.aC then d.v else f s) (k+1) from by
     have kb:=Kb.ey Nn.out.2
     have SD:Kb (fun g=>g=bi) w5 w6:=kb.mono fun g _ e=>(Option.some.inj e).symm
     have ol:=hB.out;have s5:=SX.out.to A5.out;have zX:bi < X.heap.size:=Nat.lt_of_lt_of_le YF (by have:=SX.out.az.size;exact Nat.le_of_lt (Nat.lt_of_lt_of_le YF (ZX.out)) |> fun _=>ZX.out);have SC:w5.ownsRow (bi+1) 9 1 d.v (cT c.aj g.aC).length ((cT c.aj g.aC).flatMap bY):=bV HO5.out.2 (by show bi+1≤X.heap.size;omega);refine ⟨SD.aZ s5.az (fun g hg e=>by omega),SD.row s5.box (by omega),s5.mh.kb SD (by omega),Nn.out.1,?_⟩
     exact s5.is.put SD (aP SC SD fun g hg e=>by have:=(SC.lt g hg).1;omega) Wm.out HG.out)
    go_wp2_with fail
    go_roundw
    case rel=>exact ⟨k+1,_,by omega,by go_num,yE.out⟩
    case measure=>simp [intOf];omega
   ·obtain ⟨d,hd,ho,hdl⟩:=(hs.to aX).is.at hf
    rw [hd,hX] at LK
    have YG:¬ (((cT c.aj g.aC).length:Nat):Int)=0:=by omega
    have YH:((((cT c.aj g.aC).length:Nat):Int)==0)=false:=by simpa using YG
    have yE:=gH (show Oq w X bh bi cb c [] f (k+1) from ⟨SX.out.az,SX.out.box,SX.out.mh,SX.out.mi.mono (by omega),SX.out.is.skip fun h=>by rw [HG.out h];exact hf⟩);clear hf hd ho hs aX sg Q5 hg YG;go_wp2_with fail
    go_roundw
    case rel=>exact ⟨k+1,f,by omega,by go_num,by rw [← hX];exact yE.out⟩
    case measure=>simp [intOf];omega
  ·have uh:k=c.af.length:=by omega
   subst uh;clear hs;obtain ⟨wF,hwF⟩:∃ V,V=wr:=⟨_,rfl⟩;subst hwF
   have KA:=gH (show ∀ V,Kb (fun g=>g=bh) wF V→ag w V∧ap V w.heap.size cb∧eL Tryz.prog 9 V bi c.af.length (.slice none 0 0) f∧Ay V bi c f c.af.length from fun V kb=>by
    have hb:=hB.out
    exact ⟨kb.aZ HS.out.az fun g hg e=>by omega,kb.row HS.out.box (by omega),HS.out.mi.kb kb (by omega),HS.out.is.kb kb fun g hg _ e=>by omega⟩)
   have YI:=gH (show K4 wF wF bh c [] ⟨none,0,0⟩ from ⟨Kb.aH (ag.refl _),HS.out.mh,dl _ _ _ _,kD.nil c,fun _=>rfl⟩);have nU:=gH (KG HH.out.kv).2;have p0:=HS.out.box;rw [SB.out] at p0;have x6:=p0.cell (j:=6) rfl;have xz:=p0.1;have YJ:=gH HS.out.az.size;clear p0;go_wp2_with fail
   go_step3
   go_wp2_with fail
   go_loopw [7] (fun u7 wr=>∃ (l:List cB) (hd:Hd),u7=.slice hd.a l.length hd.c∧K4 wF wr bh c l hd) (fun u7 _=>c.af.length - (match u7 with | .slice _ n _=>n | _=>0))
   case atStart=>exact ⟨[],⟨none,0,0⟩,rfl,YI.out⟩
   case round =>
    clear x6 xz YI;obtain ⟨l,hd,rfl,hm⟩:=hrel;have HM:=gH hm;have rQ:=hm.Nj.len;obtain ⟨wo,hwo⟩:∃ V,V=wr:=⟨_,rfl⟩;subst hwo;have p0:=(KA.out wo hm.kb).2.1;rw [SB.out] at p0;have x6:=p0.cell (j:=6) rfl;have xz:=p0.1;clear p0 hm;go_wp2_with fail
    go_loopw [7,45] (fun u7 i wr=>∃ k:Nat,u7=.slice hd.a l.length hd.c∧k≤c.af.length∧i=.int .i64 k∧ag wo wr∧∀ j,j < k→∀ (hj:j < c.af.length),mv l c.af[j]=false→fM c l c.af[j]=false) (fun _ i _=>c.af.length - (intOf i).toNat)
    case atStart=>exact ⟨0,rfl,Nat.zero_le _,rfl,ag.refl _,fun j hj=>absurd hj (Nat.not_lt_zero j)⟩
    case round =>
     clear x6 xz;obtain ⟨k,rfl,hk,rfl,ha,nu⟩:=hrel;have Hp:=gH ha;have Wo:=gH nu;clear ha nu;by_cases hlt:k < c.af.length
     ·have hm:=HM.out.to Hp.out
      obtain ⟨aw,bx,mi,is⟩:=KA.out wr hm.kb;obtain ⟨b,off,rfl,hb,t0,t1,t2,t3,t4,t5,sg⟩:=mL (eZ aw HH.out.kv) hlt;obtain ⟨g,hg⟩:∃ g,c.af[k]=g:=⟨_,rfl⟩;rw [hg] at t0 t1 t2 t3 t4 t5 sg;have Ot:=gH (show g∈c.af by rw [← hg];exact List.getElem_mem hlt);have HG:=gH hg;have Bj:=gH sg;rw [SB.out] at bx;obtain ⟨x0,x1,x2,x3,x4,x5,x6,xz⟩:=dM bx;obtain ⟨X,hX⟩:∃ V,V=wr.alloc (.cells #[.string g.aa,.string g.table,.int .i64 g.right,.string g.aC,.string g.to,.bool g.opt] 106):=⟨_,rfl⟩
      have aX:ag wr X:=by rw [hX];exact (ag.refl wr).alloc _
      have RX:=gH (show ap X wr.heap.size [.string g.aa,.string g.table,.int .i64 g.right,.string g.aC,.string g.to,.bool g.opt] by rw [hX];exact aO (ag.refl _));have AX:=gH (Hp.out.trans aX);have C:=gH (sX c As ar At ax An aI Am aK (some ⟨b,off,none⟩) aS g.aa g.table X (aQ (aw.trans aX) HH.out.tab));have Vh:=gH (show bh < wr.heap.size from hm.mh.lt);have Vi:=gH (show bh < wF.heap.size from HS.out.mh.lt);clear aw bx mi is hm hg aX sg;go_wp2_with fail;rw [← hX];clear hX t0 t1 t2 t3 t4 t5 x0 x1 x2 x3 x4 x5 x6 xz hb;refine C.out.mono ?_;rintro e w5 ⟨A2,c2,A3,c3,rfl,a5⟩;have K8:=gH (Bi K5.out Ot.out);obtain ⟨T,hT⟩:∃ T,iK c.ai g.aa g.table=T:=⟨_,rfl⟩;rw [hT] at K8 ⊢;generalize decide (0≤bj c.ai.tables g.aa g.table)=tb;obtain ⟨Y,hY⟩:∃ V,V=w5.alloc (.cells #[.string T.aa,.string T.name,.string T.owner,.slice A2 T.ak.length c2,.slice A3 T.rules.length c3] 53):=⟨_,rfl⟩
      have aY:ag w5 Y:=by rw [hY];exact (ag.refl w5).alloc _
      have RY:=gH (show ap Y w5.heap.size [.string T.aa,.string T.name,.string T.owner,.slice A2 T.ak.length c2,.slice A3 T.rules.length c3] by rw [hY];exact aO (ag.refl _));have AY:=gH (AX.out.trans (a5.trans aY));have RX5:=gH (RX.out.az a5);have RXY:=gH (RX.out.az (a5.trans aY));obtain ⟨y0,y1,y2,y3,y4,y5,yz⟩:=j0 RX5.out;have Vj:=gH (show fM c l g=(jA c.ai (cT c.aj g.aC) T || fC l (cT c.aj g.aC) T.aa T.name g.right true) by unfold fM;rw [hT,K8.out.1,K8.out.2.1]);clear a5 aY hT C;go_wp2_with fail;rw [← hY];clear hY y0 y1 y2 y3 y4 y5 yz;refine (Q2 g _).mono ?_;rintro e w6 ⟨rfl,a6⟩;have Nn:=gH (HM.out.to (AY.out.trans a6));have A6:=gH (AY.out.trans a6);have Wp:=gH (RXY.out.az a6);have YK:=gH (RY.out.az a6);obtain ⟨Q6,Vk,YL,Wq⟩:=KA.out w6 Nn.out.kb;have Gn:=gH (show ∀ x∈l,oL x from fun x hx=>nU.out x (Nn.out.Nj.sub x hx).mem);have Ov:=Nn.out.mh.Dw oN Tryz.underlying111 (mO w6) (lm g) (jC g) (mN g Bj.out);rw [mP l g Gn.out Bj.out] at Ov;have Ws:(Instr.lookup 111 (.map (some bh)) (.agg #[.string g.aa,.string g.table,.int .i64 g.right,.string g.aC,.string g.to]) false).run Tryz.prog w6=.ok (.int .i64 (if mv l g=true then 1 else 0)) w6:=Ov;have SE:=YL.look Tryz.underlying9 Tryz.underlying112 (ln w6) g.aC Bj.out.2.2.1.max;have SF:(Instr.lookup 112 (.map (some bi)) (.string g.aC) false).run Tryz.prog w6=.ok (f (txt g.aC)) w6:=SE
      have hfn:f (txt g.aC)≠.slice none 0 0:=by have:=Wq.dn k hlt hlt;rw [HG.out] at this;exact this
      obtain ⟨d,SH,hod,hdl⟩:=Wq.at hfn;rw [SH] at SF
      have HIS:=gH (show ∀ V,Kb (fun g=>g=bh) wF V→∃ (_:True),aL V 1 dK d.a d.c (cT c.aj g.aC)∧(Instr.lookup 112 (.map (some bi)) (.string g.aC) false).run Tryz.prog V=.ok (.slice d.a (cT c.aj g.aC).length d.c) V from fun V kb=>by
       obtain ⟨awV,bxV,miV,isV⟩:=KA.out V kb;obtain ⟨d',K9,Wt,_⟩:=isV.at hfn
       have e1:d'.a=d.a∧d'.c=d.c:=by rw [SH] at K9;simp only [Value.slice.injEq] at K9;exact ⟨K9.1.symm,K9.2.2.symm⟩
       have sn:=gT (aM awV HH.out.fK);have sl:=en (R:=dK) bY Wt (fun x hx=>⟨rfl,rfl,sn.2 x (mQ hx)⟩) (by have:=sn.1;have:=mR c.aj g.aC;unfold Small at *;omega);rw [e1.1,e1.2] at sl;have:=miV.look Tryz.underlying9 Tryz.underlying112 (ln V) g.aC Bj.out.2.2.1.max
       exact ⟨trivial,sl,this.trans (by rw [show f g.aC.data.toList=f (txt g.aC) from rfl,SH])⟩)
      clear Ov SE YL Wq SH hod hfn a6;rw [SB.out] at Vk;obtain ⟨x0,x1,x2,x3,x4,x5,x6,xz⟩:=dM Vk;have y3:=Wp.out.cell (j:=3) rfl;have yz:=Wp.out.1;obtain ⟨v0,v1,v2,v3,v4,vz⟩:=rv YK.out
      cases mb:mv l g
      case true =>
       rw [mb,if_pos rfl] at Ws;have Ke:=gH mb;clear mb Vk Q6;go_wp2_with fail
       go_roundw
       case rel=>exact ⟨k+1,rfl,by omega,by go_num,A6.out,er (p:=fun j=>∀ (hj:j < c.af.length),mv l c.af[j]=false→fM c l c.af[j]=false) Wo.out (fun _ h=>by rw [HG.out,Ke.out] at h;cases h)⟩
       case measure=>simp [intOf];omega
      case false =>
       rw [mb,if_neg (by decide)] at Ws;have Ke:=gH mb;obtain ⟨bb,ol⟩:∃ bb,jA c.ai (cT c.aj g.aC) T=bb:=⟨_,rfl⟩;obtain ⟨gb,hgb⟩:∃ gb,fC l (cT c.aj g.aC) T.aa T.name g.right true=gb:=⟨_,rfl⟩;rw [ol,hgb] at Vj
       have CB:=gH (show Calls Tryz.prog 35 #[.agg #[.int .i64 c.aA,.int .i64 c.version,.slice As c.ai.ae.length ar,.slice At c.ai.tables.length ax,.slice An c.aj.names.length aI,.slice Am c.aj.members.length aK,.slice (some ⟨b,off,none⟩) c.af.length aS],.slice d.a (cT c.aj g.aC).length d.c,.agg #[.string T.aa,.string T.name,.string T.owner,.slice A2 T.ak.length c2,.slice A3 T.rules.length c3]] w6 fun e w''=>e=.returned (.bool bb)∧ag w6 w'' from
        ol▸Du c As ar At ax An aI Am aK (some ⟨b,off,none⟩) aS (cT c.aj g.aC) d.a d.c T.aa T.name T.owner A2 _ c2 A3 _ c3 T ⟨rfl,rfl⟩ w6 (HH.out.az Q6) (HIS.out w6 Nn.out.kb).2.1 (by rw [K8.out.1];exact K8.out.2.2))
       clear mb Vk Q6 ol;go_wp2_with fail;refine CB.out.mono ?_;rintro e w7 ⟨rfl,a7⟩;have Gp:=gH (Nn.out.to a7);have A7:=gH (A6.out.trans a7);have Wu:=gH (Wp.out.az a7);have RY7:=gH (YK.out.az a7);clear Ws SF x0 x1 x2 x3 x4 x5 x6 xz y3 yz v0 v1 v2 v3 v4 vz CB a7;obtain ⟨y0,y1,y2,y3,y4,y5,yz⟩:=j0 Wu.out
       cases bb
       case true =>
        have HJ:=gH (show fM c l g=true by rw [Vj.out];rfl);go_wp2_with fail;have zbh:bh < wr.heap.size:=Vh.out
        have KS:=gH (show ∀ V,ag w7 V→V.cell? ⟨wr.heap.size,0,none⟩=some (.string g.aa)∧V.cell? ⟨wr.heap.size,1,none⟩=some (.string g.table)∧V.cell? ⟨wr.heap.size,2,none⟩=some (.int .i64 g.right)∧V.cell? ⟨wr.heap.size,3,none⟩=some (.string g.aC)∧V.cell? ⟨wr.heap.size,4,none⟩=some (.string g.to)∧V.cell? ⟨wr.heap.size,5,none⟩=some (.bool g.opt) from fun V a=>by
         have p:=Wu.out.az a
         exact ⟨p.cell (j:=0) rfl,p.cell (j:=1) rfl,p.cell (j:=2) rfl,p.cell (j:=3) rfl,p.cell (j:=4) rfl,p.cell (j:=5) rfl⟩)
        have Ou:=gH (show ∀ V V',ag w7 V→V.grownBy V' (some bh)→V'.cell? ⟨wr.heap.size,0,none⟩=some (.string g.aa)∧V'.cell? ⟨wr.heap.size,1,none⟩=some (.string g.table)∧V'.cell? ⟨wr.heap.size,2,none⟩=some (.int .i64 g.right)∧V'.cell? ⟨wr.heap.size,3,none⟩=some (.string g.aC)∧V'.cell? ⟨wr.heap.size,4,none⟩=some (.string g.to)∧V'.cell? ⟨wr.heap.size,5,none⟩=some (.bool g.opt) from fun V V' a gr=>by
         obtain ⟨h0,h1,h2,h3,h4,h5⟩:=KS.out V a;have kb:=Kb.ey gr
         exact ⟨kb.cell h0 (fun e=>by simp only [Option.some.injEq] at e;omega),kb.cell h1 (fun e=>by simp only [Option.some.injEq] at e;omega),kb.cell h2 (fun e=>by simp only [Option.some.injEq] at e;omega),kb.cell h3 (fun e=>by simp only [Option.some.injEq] at e;omega),kb.cell h4 (fun e=>by simp only [Option.some.injEq] at e;omega),kb.cell h5 (fun e=>by simp only [Option.some.injEq] at e;omega)⟩)
        have Hq:=gH Gp.out
        have Wv:l.length < maxLen:=by unfold maxLen;omega
        clear y0 y1 y2 y3 y4 y5 yz
        go_region_held3 (fun V=>V.cell? ⟨wr.heap.size,0,none⟩=some (.string g.aa)∧V.cell? ⟨wr.heap.size,1,none⟩=some (.string g.table)∧V.cell? ⟨wr.heap.size,2,none⟩=some (.int .i64 g.right)∧V.cell? ⟨wr.heap.size,3,none⟩=some (.string g.aC)∧V.cell? ⟨wr.heap.size,4,none⟩=some (.string g.to)∧V.cell? ⟨wr.heap.size,5,none⟩=some (.bool g.opt))
         (first | exact KS.out _ (ag.refl _).drew | exact KS.out _ A5.out | exact K6.out | exact K7.out)
         ((go_at_call 63;refine (Q2 g _).mono ?_;rintro e u5 ⟨rfl,a5⟩;have A5:=gH ((ag.refl w7).drew.trans a5);clear a5;have Ow:=(Hq.out.to A5.out).mh.Dw oN Tryz.underlying111 (mO u5) (lm g) (jC g) (mN g Bj.out);rw [mP l g Gn.out Bj.out,Ke.out,if_neg (by decide)] at Ow;unfold lm at Ow;obtain ⟨q0,st,u6,u7,E6,G6,L6,S7,M7,G7⟩:=(Hq.out.to A5.out).mh.entry yy Tryz.underlying111 mO Wv (lm g) (jC g) (mN g Bj.out) (.int .i64 (IntKind.i64.wrap 1));rw [mP l g Gn.out Bj.out,Ke.out,if_neg (by decide)] at L6;unfold lm at E6 L6;simp only [goInt] at E6 S7;have K6:=gH (Ou.out u5 u6 A5.out G6);have K7:=gH (Ou.out u5 u7 A5.out G7);have Hr:=gH (And.intro M7 G7);clear M7 G7 G6))
        all_goals
         have Gp:=gH (show Kb (fun g=>g=bh) wF u7∧eL Tryz.prog 114 u7 bh (l++[g]).length (.int .i64 0) (rY (l++[g]))∧u7.ownsRow wF.heap.size 106 6 (.slice hd.a l.length hd.c) l.length (l.flatMap cC)∧wF.heap.size≤u7.heap.size from by
          have kb:Kb (fun g=>g=bh) u5 u7:=(Kb.ey Hr.out.2).mono fun g _ e=>(Option.some.inj e).symm
          have h5:=Hq.out.to A5.out;have hr:=h5.row;rw [bL hr] at hr;refine ⟨h5.kb.trans kb,?_,aP hr kb fun g hg e=>by have:=(hr.lt g hg).1;have:=Vi.out;omega,Nat.le_trans h5.kb.size kb.size⟩;rw [yB,List.length_append]
          exact Hr.out.1)
         obtain ⟨k0,k1,k2,k3,k4,k5⟩:=K7.out;have zu:wr.heap.size < u7.heap.size:=World.block_lt_of_cell? u7 ⟨wr.heap.size,0,none⟩ k0;have zF7:wF.heap.size≤u7.heap.size:=Gp.out.2.2.2
         have La:l.length≤1000000:=by omega
         clear E6 L6 S7 Ow
         go_wp2_with (at_builtin;go_must (refine Dx rfl _ _ rfl wF.heap.size (.slice hd.a l.length hd.c) l.length (l.flatMap cC) rfl (bu Gp.out.2.2.1 ((ag.refl u7).alloc _)) u7.heap.size g rfl (heap_alloc_new u7 _) La (by simp;omega) ?_);intro gg cap' u8 yF hgrow hat;have SJ:=gH (And.intro yF (And.intro hgrow hat));clear yF hgrow hat)
         refine ⟨⟨l++[g],⟨some ⟨gg,0,none⟩,l.length+1,cap'⟩,by simp,K4.next Hq.out.Nj Ot.out Ke.out HJ.out Gp.out Vi.out SJ.out.1 SJ.out.2.1⟩,?_⟩
         show c.af.length - (l.length+1) < c.af.length - l.length
         have:=(Hq.out.Nj.add Ot.out Ke.out HJ.out).len;rw [List.length_append] at this;simp only [List.length_cons,List.length_nil] at this;omega
       case false =>
        obtain ⟨_,YM,LK7⟩:=HIS.out w7 Gp.out.kb;obtain ⟨v0,v1,v2,v3,v4,vz⟩:=rv RY7.out;have YN:aL w7 6 mr hd.a hd.c l:=en cC Gp.out.row (fun x hx=>⟨rfl,rfl,Gn.out x hx⟩) (by unfold Small;omega)
        have CG:=gH (show Calls Tryz.prog 36 #[.slice hd.a l.length hd.c,.slice d.a (cT c.aj g.aC).length d.c,.agg #[.string T.aa,.string T.name,.string T.owner,.slice A2 T.ak.length c2,.slice A3 T.rules.length c3],.int .i64 g.right,.bool true] w7 fun e w''=>e=.returned (.bool gb)∧ag w7 w'' from
         hgb▸Bc l hd.a hd.c (cT c.aj g.aC) d.a d.c T.aa T.name T.owner A2 _ c2 A3 _ c3 g.right true w7 YN YM)
        clear YN YM;go_wp2_with fail;refine CG.out.mono ?_;rintro e w8 ⟨rfl,a8⟩;have HM8:=gH (Gp.out.to a8);have A8:=gH (A7.out.trans a8);have YO:=gH (Wu.out.az a8);clear y0 y1 y2 y3 y4 y5 yz v0 v1 v2 v3 v4 vz LK7 CG a8;obtain ⟨y0,y1,y2,y3,y4,y5,yz⟩:=j0 YO.out
        cases gb
        case false =>
         have HJ:=gH (show fM c l g=false by rw [Vj.out];rfl);go_wp2_with fail
         go_roundw
         case rel=>exact ⟨k+1,rfl,by omega,by go_num,A8.out,er (p:=fun j=>∀ (hj:j < c.af.length),mv l c.af[j]=false→fM c l c.af[j]=false) Wo.out (fun _ _=>by rw [HG.out,HJ.out])⟩
         case measure=>simp [intOf];omega
        case true =>
         have HJ:=gH (show fM c l g=true by rw [Vj.out];rfl);go_wp2_with fail;have zbh:bh < wr.heap.size:=Vh.out
         have KS:=gH (show ∀ V,ag w8 V→V.cell? ⟨wr.heap.size,0,none⟩=some (.string g.aa)∧V.cell? ⟨wr.heap.size,1,none⟩=some (.string g.table)∧V.cell? ⟨wr.heap.size,2,none⟩=some (.int .i64 g.right)∧V.cell? ⟨wr.heap.size,3,none⟩=some (.string g.aC)∧V.cell? ⟨wr.heap.size,4,none⟩=some (.string g.to)∧V.cell? ⟨wr.heap.size,5,none⟩=some (.bool g.opt) from fun V a=>by
          have p:=YO.out.az a
          exact ⟨p.cell (j:=0) rfl,p.cell (j:=1) rfl,p.cell (j:=2) rfl,p.cell (j:=3) rfl,p.cell (j:=4) rfl,p.cell (j:=5) rfl⟩)
         have Ou:=gH (show ∀ V V',ag w8 V→V.grownBy V' (some bh)→V'.cell? ⟨wr.heap.size,0,none⟩=some (.string g.aa)∧V'.cell? ⟨wr.heap.size,1,none⟩=some (.string g.table)∧V'.cell? ⟨wr.heap.size,2,none⟩=some (.int .i64 g.right)∧V'.cell? ⟨wr.heap.size,3,none⟩=some (.string g.aC)∧V'.cell? ⟨wr.heap.size,4,none⟩=some (.string g.to)∧V'.cell? ⟨wr.heap.size,5,none⟩=some (.bool g.opt) from fun V V' a gr=>by
          obtain ⟨h0,h1,h2,h3,h4,h5⟩:=KS.out V a;have kb:=Kb.ey gr
          exact ⟨kb.cell h0 (fun e=>by simp only [Option.some.injEq] at e;omega),kb.cell h1 (fun e=>by simp only [Option.some.injEq] at e;omega),kb.cell h2 (fun e=>by simp only [Option.some.injEq] at e;omega),kb.cell h3 (fun e=>by simp only [Option.some.injEq] at e;omega),kb.cell h4 (fun e=>by simp only [Option.some.injEq] at e;omega),kb.cell h5 (fun e=>by simp only [Option.some.injEq] at e;omega)⟩)
         have Hq:=gH HM8.out
         have Wv:l.length < maxLen:=by unfold maxLen;omega
         clear y0 y1 y2 y3 y4 y5 yz
         go_region_held3 (fun V=>V.cell? ⟨wr.heap.size,0,none⟩=some (.string g.aa)∧V.cell? ⟨wr.heap.size,1,none⟩=some (.string g.table)∧V.cell? ⟨wr.heap.size,2,none⟩=some (.int .i64 g.right)∧V.cell? ⟨wr.heap.size,3,none⟩=some (.string g.aC)∧V.cell? ⟨wr.heap.size,4,none⟩=some (.string g.to)∧V.cell? ⟨wr.heap.size,5,none⟩=some (.bool g.opt))
          (first | exact KS.out _ (ag.refl _).drew | exact KS.out _ A5.out | exact K6.out | exact K7.out)
          ((go_at_call 63;refine (Q2 g _).mono ?_;rintro e u5 ⟨rfl,a5⟩;have A5:=gH ((ag.refl w8).drew.trans a5);clear a5;have Ow:=(Hq.out.to A5.out).mh.Dw oN Tryz.underlying111 (mO u5) (lm g) (jC g) (mN g Bj.out);rw [mP l g Gn.out Bj.out,Ke.out,if_neg (by decide)] at Ow;unfold lm at Ow;obtain ⟨q0,st,u6,u7,E6,G6,L6,S7,M7,G7⟩:=(Hq.out.to A5.out).mh.entry yy Tryz.underlying111 mO Wv (lm g) (jC g) (mN g Bj.out) (.int .i64 (IntKind.i64.wrap 1));rw [mP l g Gn.out Bj.out,Ke.out,if_neg (by decide)] at L6;unfold lm at E6 L6;simp only [goInt] at E6 S7;have K6:=gH (Ou.out u5 u6 A5.out G6);have K7:=gH (Ou.out u5 u7 A5.out G7);have Hr:=gH (And.intro M7 G7);clear M7 G7 G6))
         all_goals
          have Gp:=gH (show Kb (fun g=>g=bh) wF u7∧eL Tryz.prog 114 u7 bh (l++[g]).length (.int .i64 0) (rY (l++[g]))∧u7.ownsRow wF.heap.size 106 6 (.slice hd.a l.length hd.c) l.length (l.flatMap cC)∧wF.heap.size≤u7.heap.size from by
           have kb:Kb (fun g=>g=bh) u5 u7:=(Kb.ey Hr.out.2).mono fun g _ e=>(Option.some.inj e).symm
           have h5:=Hq.out.to A5.out;have hr:=h5.row;rw [bL hr] at hr;refine ⟨h5.kb.trans kb,?_,aP hr kb fun g hg e=>by have:=(hr.lt g hg).1;have:=Vi.out;omega,Nat.le_trans h5.kb.size kb.size⟩;rw [yB,List.length_append]
           exact Hr.out.1)
          obtain ⟨k0,k1,k2,k3,k4,k5⟩:=K7.out;have zu:wr.heap.size < u7.heap.size:=World.block_lt_of_cell? u7 ⟨wr.heap.size,0,none⟩ k0;have zF7:wF.heap.size≤u7.heap.size:=Gp.out.2.2.2
          have La:l.length≤1000000:=by omega
          clear E6 L6 S7 Ow
          go_wp2_with (at_builtin;go_must (refine Dx rfl _ _ rfl wF.heap.size (.slice hd.a l.length hd.c) l.length (l.flatMap cC) rfl (bu Gp.out.2.2.1 ((ag.refl u7).alloc _)) u7.heap.size g rfl (heap_alloc_new u7 _) La (by simp;omega) ?_);intro gg cap' u8 yF hgrow hat;have SJ:=gH (And.intro yF (And.intro hgrow hat));clear yF hgrow hat)
          refine ⟨⟨l++[g],⟨some ⟨gg,0,none⟩,l.length+1,cap'⟩,by simp,K4.next Hq.out.Nj Ot.out Ke.out HJ.out Gp.out Vi.out SJ.out.1 SJ.out.2.1⟩,?_⟩
          show c.af.length - (l.length+1) < c.af.length - l.length
          have:=(Hq.out.Nj.add Ot.out Ke.out HJ.out).len;rw [List.length_append] at this;simp only [List.length_cons,List.length_nil] at this;omega
     ·have hm:=HM.out.to Hp.out
      have nu:∀ g∈c.af,mv l g=false→fM c l g=false:=fun g hg=>by
       obtain ⟨j,hj,rfl⟩:=List.getElem_of_mem hg;exact Wo.out j (by omega) hj
      have hr:=hm.row;rw [bL hr] at hr;have CS:=gH (K0 hd wF.heap.size l hm.nil (by omega) wr hr);have Ww:=gH nu;have AWr:=gH (KA.out wr hm.kb).1;clear hm nu hr;go_wp2_with fail;refine CS.out.mono ?_;rintro e w9 ⟨rfl,l',hp,hs,ho,ha⟩
      have HE:=gH (show l'=cH c from by
       have:=HM.out.Nj.sorted (bO.1 K5.out).2.2.2 Ww.out hp (fun i j hi hj px=>Int.not_lt.2 (hs i j hi hj px))
       rw [this];unfold cH;rw [if_pos K5.out])
      have HL:=gH (show l'.length=l.length from hp.length_eq);have HA:=gH (ha w AWr.out YJ.out);have HO:=gH ho;clear hp hs ho ha;go_wp2_with fail;rw [Exit.noGoto_ret];go_ret;refine ⟨⟨hd.a,l.length,hd.c⟩,rfl,HA.out,?_⟩;rw [← HE.out];have ho:=HO.out;rw [← HL.out] at ho
      show w9.ownsRow w.heap.size _ 6 (.slice hd.a l.length hd.c) _ _
      rw [← HL.out];exact bV ho YJ.out
theorem EW {c:bW} (h:bM c=false):dH c=false:=by unfold dH;rw [h];rfl
theorem wJ (c:bW) (As:Option Addr) (ar:Nat) (At:Option Addr) (ax:Nat) (An:Option Addr) (aI:Nat) (Am:Option Addr) (aK:Nat) (Ag:Option Addr) (aS:Nat) (w:World) (H:eH w c As ar At ax An aI Am aK Ag aS) :
  Calls Tryz.prog 34 #[.agg #[.int .i64 c.aA,.int .i64 c.version,.slice As c.ai.ae.length ar,.slice At c.ai.tables.length ax,.slice An c.aj.names.length aI,.slice Am c.aj.members.length aK,.slice Ag c.af.length aS]] w fun e w'=>e=.returned (.bool (dH c))∧ag w w':=by
 obtain ⟨W,hW⟩:∃ W,W=w.alloc (.cells #[.int .i64 c.aA,.int .i64 c.version,.slice As c.ai.ae.length ar,.slice At c.ai.tables.length ax,.slice An c.aj.names.length aI,.slice Am c.aj.members.length aK,.slice Ag c.af.length aS] 32):=⟨_,rfl⟩
 have aW:ag w W:=by rw [hW];exact (ag.refl w).alloc _
 have r0:ap W (w.heap.size) [.int .i64 c.aA,.int .i64 c.version,.slice As c.ai.ae.length ar,.slice At c.ai.tables.length ax,.slice An c.aj.names.length aI,.slice Am c.aj.members.length aK,.slice Ag c.af.length aS]:=by rw [hW];exact bv (ag.refl _) (by simp)
 obtain ⟨st,hst⟩:∃ b,bM c=b:=⟨_,rfl⟩;have CS:=gH (show ∀ V,ag W V→Calls Tryz.prog 62 #[.agg #[.int .i64 c.aA,.int .i64 c.version,.slice As c.ai.ae.length ar,.slice At c.ai.tables.length ax,.slice An c.aj.names.length aI,.slice Am c.aj.members.length aK,.slice Ag c.af.length aS]] V fun e w''=>e=.returned (.bool st)∧ag V w'' from fun V a=>(Dv c As ar At ax An aI Am aK Ag aS V (H.az (aW.trans a))).mono fun e w'' ⟨he,hw⟩=>⟨he.trans (by rw [hst]),hw⟩);have CH:=gH (show ∀ V,ag W V→Calls Tryz.prog 26 #[.agg #[.int .i64 c.aA,.int .i64 c.version,.slice As c.ai.ae.length ar,.slice At c.ai.tables.length ax,.slice An c.aj.names.length aI,.slice Am c.aj.members.length aK,.slice Ag c.af.length aS]] V (Nk V c) from fun V a=>Nl c As ar At ax An aI Am aK Ag aS V (H.az (aW.trans a)))
 have KS:=gH (show ∀ V,ag W V→ag W V∧V.cell? ⟨w.heap.size,0,none⟩=some (.int .i64 c.aA)∧V.cell? ⟨w.heap.size,1,none⟩=some (.int .i64 c.version)∧V.cell? ⟨w.heap.size,2,none⟩=some (.slice As c.ai.ae.length ar)∧V.cell? ⟨w.heap.size,3,none⟩=some (.slice At c.ai.tables.length ax)∧V.cell? ⟨w.heap.size,4,none⟩=some (.slice An c.aj.names.length aI)∧V.cell? ⟨w.heap.size,5,none⟩=some (.slice Am c.aj.members.length aK)∧V.cell? ⟨w.heap.size,6,none⟩=some (.slice Ag c.af.length aS) from fun V a=>by
  have p:=r0.az a
  exact ⟨a,p.cell (j:=0) rfl,p.cell (j:=1) rfl,p.cell (j:=2) rfl,p.cell (j:=3) rfl,p.cell (j:=4) rfl,p.cell (j:=5) rfl,p.cell (j:=6) rfl⟩)
 have HST:=gH hst;have br:=gH aW;clear hst H aW r0
 go_enter Tryz.func34,Tryz.ntmps34
 go_wp2_with fail;rw [← hW];clear hW
 cases st
 case false =>
  have HF:=gH (EW HST.out);obtain ⟨_,x0,x1,x2,x3,x4,x5,x6⟩:=KS.out W (ag.refl W);have xz:w.heap.size < W.heap.size:=World.block_lt_of_cell? W ⟨w.heap.size,0,none⟩ x0;refine av (by kernel_rfl) (by kernel_rfl) ?_
  repeat (go_big_quiet_step ((go_at_call 62;exact Calls.bD (CS.out _ ((ag.refl W).bH _)))))
  refine wpQuiet_nil ?_;intro _ hw';obtain ⟨y,hw''⟩:=hw';subst hw'';go_wp2_with fail;go_ret;exact ⟨by rw [HF.out];rfl,br.out.bH y⟩
 case true =>
  have HW:=gH (show dH c=((cH c).length==c.af.length) by unfold dH;rw [HST.out];rfl)
  go_region_held3 (fun V=>ag W V∧V.cell? ⟨w.heap.size,0,none⟩=some (.int .i64 c.aA)∧V.cell? ⟨w.heap.size,1,none⟩=some (.int .i64 c.version)∧V.cell? ⟨w.heap.size,2,none⟩=some (.slice As c.ai.ae.length ar)∧V.cell? ⟨w.heap.size,3,none⟩=some (.slice At c.ai.tables.length ax)∧V.cell? ⟨w.heap.size,4,none⟩=some (.slice An c.aj.names.length aI)∧V.cell? ⟨w.heap.size,5,none⟩=some (.slice Am c.aj.members.length aK)∧V.cell? ⟨w.heap.size,6,none⟩=some (.slice Ag c.af.length aS))
   (first | exact KS.out _ (ag.refl _).drew | exact KS.out _ A5.out | exact KS.out _ A6.out)
   ((first | (go_at_call 62;refine (CS.out _ (ag.refl W).drew).mono ?_;rintro e w5 ⟨rfl,a5⟩;have A5:=gH ((ag.refl W).drew.trans a5);clear a5) | (go_at_call 26;refine (CH.out w5 A5.out).mono ?_;rintro e w6 ⟨h,rfl,a6,ho6⟩;have A6:=gH (A5.out.trans a6);clear a6;rw [bL ho6])))
  go_wp2_with fail;go_ret;refine ⟨Eq.trans (b:=.returned (.bool _)) rfl (eD (dF ?_)),br.out.trans A6.out⟩;rw [HW.out,Bool.eq_iff_iff,beq_iff_eq,beq_iff_eq];omega
theorem Ox (c:bW) (As:Option Addr) (ar:Nat) (At:Option Addr) (ax:Nat) (An:Option Addr) (aI:Nat) (Am:Option Addr) (aK:Nat) (Ag:Option Addr) (aS:Nat) (w:World) (H:eH w c As ar At ax An aI Am aK Ag aS) :
  Calls Tryz.prog 30 #[.agg #[.int .i64 c.aA,.int .i64 c.version,.slice As c.ai.ae.length ar,.slice At c.ai.tables.length ax,.slice An c.aj.names.length aI,.slice Am c.aj.members.length aK,.slice Ag c.af.length aS]] w fun e w'=>e=.returned (.int .i64 (if dH c=true then 0 else 1))∧ag w w':=by
 obtain ⟨W,hW⟩:∃ W,W=w.alloc (.cells #[.int .i64 c.aA,.int .i64 c.version,.slice As c.ai.ae.length ar,.slice At c.ai.tables.length ax,.slice An c.aj.names.length aI,.slice Am c.aj.members.length aK,.slice Ag c.af.length aS] 32):=⟨_,rfl⟩
 have aW:ag w W:=by rw [hW];exact (ag.refl w).alloc _
 have r0:ap W (w.heap.size) [.int .i64 c.aA,.int .i64 c.version,.slice As c.ai.ae.length ar,.slice At c.ai.tables.length ax,.slice An c.aj.names.length aI,.slice Am c.aj.members.length aK,.slice Ag c.af.length aS]:=by rw [hW];exact bv (ag.refl _) (by simp)
 obtain ⟨b,hb⟩:∃ b,dH c=b:=⟨_,rfl⟩;have C:=gH (show Calls Tryz.prog 34 #[.agg #[.int .i64 c.aA,.int .i64 c.version,.slice As c.ai.ae.length ar,.slice At c.ai.tables.length ax,.slice An c.aj.names.length aI,.slice Am c.aj.members.length aK,.slice Ag c.af.length aS]] W fun e w''=>e=.returned (.bool b)∧ag W w'' from (wJ c As ar At ax An aI Am aK Ag aS W (H.az aW)).mono fun e w'' ⟨he,hw⟩=>⟨he.trans (by rw [hb]),hw⟩);rw [hb];have br:=gH aW;obtain ⟨x0,x1,x2,x3,x4,x5,x6,xz⟩:=dM r0;clear hb H aW r0
 go_enter Tryz.func30,Tryz.ntmps30
 go_wp2_with fail;rw [← hW];clear hW;refine C.out.mono ?_;rintro e w1 ⟨rfl,a1⟩;have HA:=gH (br.out.trans a1);clear a1
 cases b<;>(go_wp2_with fail;go_ret;exact ⟨rfl,HA.out⟩)
theorem mS {c:bW} (h:bM c=true) {s n:ByteArray} (h4:0≤bj c.ai.tables s n):(iK c.ai s n).aa=s∧(iK c.ai s n).name=n∧0≤cE c.ai.ae s:=by
 obtain ⟨_,⟨h1,_,_,_⟩,h3,_⟩:=bO.1 h;obtain ⟨q,hq⟩:=Int.eq_ofNat_of_zero_le h4;have hr:bj c.ai.tables s n < c.ai.tables.length:=(bg _ _).2
 have hl:q < c.ai.tables.length:=by omega
 have e:=nB hq hl;have hp:=gY _ c.ai.tables q hl hq;simp only [Bool.and_eq_true,kB] at hp;rw [e];refine ⟨hp.1,hp.2,?_⟩
 have hc:dB c.ai c.ai.tables[q]=true:=by
  unfold bF at h1;simp only [Bool.and_eq_true,List.all_eq_true] at h1;exact h1.2.2 _ (List.getElem_mem hl)
 unfold dB at hc;simp only [Bool.and_eq_true,decide_eq_true_eq] at hc;rw [← hp.1];exact hc.1.2
theorem Np (c:bW) (As:Option Addr) (ar:Nat) (At:Option Addr) (ax:Nat) (An:Option Addr) (aI:Nat) (Am:Option Addr) (aK:Nat) (Ag:Option Addr) (aS:Nat) (role s n:ByteArray) (lp:Small role.size) (w:World) (H:eH w c As ar At ax An aI Am aK Ag aS) :
  Calls Tryz.prog 48 #[.agg #[.int .i64 c.aA,.int .i64 c.version,.slice As c.ai.ae.length ar,.slice At c.ai.tables.length ax,.slice An c.aj.names.length aI,.slice Am c.aj.members.length aK,.slice Ag c.af.length aS],.string role,.string s,.string n] w fun e w'=>e=.returned (.bool (ji c role s n))∧ag w w':=by
 obtain ⟨W,hW⟩:∃ W,W=w.alloc (.cells #[.int .i64 c.aA,.int .i64 c.version,.slice As c.ai.ae.length ar,.slice At c.ai.tables.length ax,.slice An c.aj.names.length aI,.slice Am c.aj.members.length aK,.slice Ag c.af.length aS] 32):=⟨_,rfl⟩
 have aW:ag w W:=by rw [hW];exact (ag.refl w).alloc _
 have r0:ap W (w.heap.size) [.int .i64 c.aA,.int .i64 c.version,.slice As c.ai.ae.length ar,.slice At c.ai.tables.length ax,.slice An c.aj.names.length aI,.slice Am c.aj.members.length aK,.slice Ag c.af.length aS]:=by rw [hW];exact bv (ag.refl _) (by simp)
 obtain ⟨tb,uY⟩:∃ b,decide (0≤bj c.ai.tables s n)=b:=⟨_,rfl⟩;obtain ⟨wb,Lb⟩:∃ b,dH c=b:=⟨_,rfl⟩;obtain ⟨cb,hcb⟩:∃ b,dQ c.aj.names role=b:=⟨_,rfl⟩;obtain ⟨T,hT⟩:∃ T,iK c.ai s n=T:=⟨_,rfl⟩;obtain ⟨bb,ol⟩:∃ b,jA c.ai (cT c.aj role) T=b:=⟨_,rfl⟩;have ej:=gH (show ji c role s n=(wb&&(tb&&cb)&&bb) by unfold ji;rw [uY,Lb,hcb,hT,ol])
 have CT:=gH (show Calls Tryz.prog 31 #[.agg #[.int .i64 c.aA,.int .i64 c.version,.slice As c.ai.ae.length ar,.slice At c.ai.tables.length ax,.slice An c.aj.names.length aI,.slice Am c.aj.members.length aK,.slice Ag c.af.length aS],.string s,.string n] W fun e w''=>∃ (A2:Option Addr) (c2:Nat) (A3:Option Addr) (c3:Nat),e=.returned (.tuple #[.agg #[.string T.aa,.string T.name,.string T.owner,.slice A2 T.ak.length c2,.slice A3 T.rules.length c3],.bool tb])∧ag W w'' from by
  have:=sX c As ar At ax An aI Am aK Ag aS s n W (aQ aW H.tab);unfold Hf at this;rw [hT,uY] at this
  exact this)
 have CA:=gH (show ∀ V,ag W V→Calls Tryz.prog 32 #[.agg #[.slice An c.aj.names.length aI,.slice Am c.aj.members.length aK],.string role] V (yD c.aj role V) from fun V a=>Ho c.aj An aI Am aK role V (aM (aW.trans a) H.fK) (bJ (aW.trans a) H.mem) lp);have CW:=gH (show ∀ V,ag W V→Calls Tryz.prog 34 #[.agg #[.int .i64 c.aA,.int .i64 c.version,.slice As c.ai.ae.length ar,.slice At c.ai.tables.length ax,.slice An c.aj.names.length aI,.slice Am c.aj.members.length aK,.slice Ag c.af.length aS]] V fun e w''=>e=.returned (.bool wb)∧ag V w'' from fun V a=>(wJ c As ar At ax An aI Am aK Ag aS V (H.az (aW.trans a))).mono fun e w'' ⟨he,hw⟩=>⟨he.trans (by rw [Lb]),hw⟩);have CN:=gH (show ∀ V,ag W V→Calls Tryz.prog 18 #[.slice An c.aj.names.length aI,.string role] V fun e w''=>e=.returned (.bool cb)∧V=w'' from fun V a=>hcb▸fY An aI c.aj.names role V (aM (aW.trans a) H.fK))
 have SK:=gH (show wb=true→tb=true→T.aa=s∧T.name=n∧0≤cE c.ai.ae s from fun h1 h2=>by
  rw [← hT]
  exact mS (cZ.1 (Lb.trans h1)).1 (of_decide_eq_true (uY.trans h2)))
 have HH:=gH H;have br:=gH aW;have je:=gH r0;have yG:=gH ol;obtain ⟨x0,x1,x2,x3,x4,x5,x6,xz⟩:=dM r0;clear uY Lb hcb hT ol H aW r0
 go_enter Tryz.func48,Tryz.ntmps48
 go_wp2_with fail;rw [← hW];clear hW;refine CT.out.mono ?_;rintro e w1 ⟨A2,c2,A3,c3,rfl,a1⟩;obtain ⟨Y,hY⟩:∃ V,V=w1.alloc (.cells #[.string T.aa,.string T.name,.string T.owner,.slice A2 T.ak.length c2,.slice A3 T.rules.length c3] 53):=⟨_,rfl⟩
 have aY:ag w1 Y:=by rw [hY];exact (ag.refl w1).alloc _
 have RY:=gH (show ap Y w1.heap.size [.string T.aa,.string T.name,.string T.owner,.slice A2 T.ak.length c2,.slice A3 T.rules.length c3] by rw [hY];exact aO (ag.refl _));have AY:=gH (a1.trans aY);have p1:=je.out.az a1;clear x0 x1 x2 x3 x4 x5 x6 xz CT;have x4:=p1.cell (j:=4) rfl;have x5:=p1.cell (j:=5) rfl;have xz:=p1.1;clear a1 aY p1;go_wp2_with fail;rw [← hY];clear hY;refine (CA.out Y AY.out).mono ?_;rintro e w2 ⟨h,rfl,a2,ho⟩;have Dy:=gH (AY.out.trans a2);have SL:=gH (RY.out.az a2);have HO:=gH ho;have eT:=bL ho;rw [eT];have p1:=je.out.az Dy.out;clear x4 x5 xz a2 ho eT CA;obtain ⟨x0,x1,x2,x3,x4,x5,x6,xz⟩:=dM p1;clear p1
 cases tb
 case false =>
  go_wp2_with fail;go_ret;exact ⟨by rw [ej.out];cases wb<;>rfl,br.out.trans Dy.out⟩
 go_wp2_with fail;refine (CW.out w2 Dy.out).mono ?_;rintro e w3 ⟨rfl,a3⟩;have yH:=gH (Dy.out.trans a3);have Q7:=gH (SL.out.az a3);have Wx:=gH (bu HO.out a3);have p1:=je.out.az yH.out;clear x0 x1 x2 x3 x4 x5 x6 xz a3 HO SL;obtain ⟨x0,x1,x2,x3,x4,x5,x6,xz⟩:=dM p1;clear p1
 cases wb
 case false =>
  go_wp2_with fail;go_ret;exact ⟨by rw [ej.out];rfl,br.out.trans yH.out⟩
 go_wp2_with fail;refine (CN.out w3 yH.out).mono ?_;rintro e w9 ⟨rfl,rfl⟩
 cases cb
 case false =>
  go_wp2_with fail;go_ret;exact ⟨by rw [ej.out];rfl,br.out.trans yH.out⟩
 obtain ⟨ts,tn,hsc⟩:=SK.out (by first | trivial | rfl) (by first | trivial | rfl);have sn:=gT (aM (br.out.trans yH.out) HH.out.fK);have SM:=mR c.aj role;have sl:=en (R:=dK) bY Wx.out (fun x hx=>⟨rfl,rfl,sn.2 x (mQ hx)⟩) (by have:=sn.1;unfold Small at *;omega)
 have CB:=gH (show Calls Tryz.prog 35 #[.agg #[.int .i64 c.aA,.int .i64 c.version,.slice As c.ai.ae.length ar,.slice At c.ai.tables.length ax,.slice An c.aj.names.length aI,.slice Am c.aj.members.length aK,.slice Ag c.af.length aS],.slice h.a (cT c.aj role).length h.c,.agg #[.string T.aa,.string T.name,.string T.owner,.slice A2 T.ak.length c2,.slice A3 T.rules.length c3]] w3 fun e w''=>e=.returned (.bool bb)∧ag w3 w'' from
  yG.out▸Du c As ar At ax An aI Am aK Ag aS (cT c.aj role) h.a h.c T.aa T.name T.owner A2 _ c2 A3 _ c3 T ⟨rfl,rfl⟩ w3 (HH.out.az (br.out.trans yH.out)) sl (by rw [ts];exact hsc))
 obtain ⟨v0,v1,v2,v3,v4,vz⟩:=rv Q7.out;clear ts tn hsc sn SM sl;go_wp2_with fail;refine CB.out.mono ?_;rintro e w4 ⟨rfl,a4⟩;have A4:=gH (yH.out.trans a4);clear a4;go_wp2_with fail;go_ret;exact ⟨by rw [ej.out];rfl,br.out.trans A4.out⟩
theorem dr {W:World} {p:Nat} {a b c d e f g:Value} (h:ap W p [a,b,c,d,e,f,g]):(loadVar 32 ⟨p,0,none⟩).run Tryz.prog W=.ok (.agg #[a,b,c,d,e,f,g]) W:=by
 have e0:=h.cell (j:=0) rfl;have e1:=h.cell (j:=1) rfl;have e2:=h.cell (j:=2) rfl;have e3:=h.cell (j:=3) rfl;have e4:=h.cell (j:=4) rfl;have e5:=h.cell (j:=5) rfl;have e6:=h.cell (j:=6) rfl;have h1:=Eo W p 0 (by rw [e0];rfl) (by rw [e1];rfl) (by rw [e2];rfl) (by rw [e3];rfl) (by rw [e4];rfl) (by rw [e5];rfl) (by rw [e6];rfl);rw [e0,e1,e2,e3,e4,e5,e6] at h1;exact h1
theorem cO {w:World} {p:Nat} {xs:List Value} (h:ap w p xs) (hl:xs.length=7) (v0 v1 v2 v3 v4 v5 v6:Value):ap (((((((w.setCell ⟨p,0,none⟩ v0).setCell ⟨p,1,none⟩ v1).setCell ⟨p,2,none⟩ v2).setCell ⟨p,3,none⟩ v3).setCell ⟨p,4,none⟩ v4).setCell ⟨p,5,none⟩ v5).setCell ⟨p,6,none⟩ v6) p [v0,v1,v2,v3,v4,v5,v6]:=by
 match xs,hl with
 | [a,b,c,d,e,f,g],_=>exact ((((((h.set 0 _ (by simp)).set 1 _ (by simp)).set 2 _ (by simp)).set 3 _ (by simp)).set 4 _ (by simp)).set 5 _ (by simp)).set 6 _ (by simp)
theorem dG (w:World) (p:Nat) (v0 v1 v2 v3 v4 v5 v6:Value):Kb (fun g=>g=p) w (((((((w.setCell ⟨p,0,none⟩ v0).setCell ⟨p,1,none⟩ v1).setCell ⟨p,2,none⟩ v2).setCell ⟨p,3,none⟩ v3).setCell ⟨p,4,none⟩ v4).setCell ⟨p,5,none⟩ v5).setCell ⟨p,6,none⟩ v6) :=
 ((((((Kb.set _ _ _ _).trans (Kb.set _ _ _ _)).trans (Kb.set _ _ _ _)).trans (Kb.set _ _ _ _)).trans (Kb.set _ _ _ _)).trans (Kb.set _ _ _ _)).trans (Kb.set _ _ _ _)
end Go.Proofs.YtmflccbnoeaafaaGreat
namespace Go.Proofs.YtmflccbnoeaafaaGreat
open Go.RowKit
set_option maxRecDepth 100000
set_option linter.unusedVariables false
set_option maxHeartbeats 64000000
@[go_sem ↓] theorem Gq (w:World) (s:ByteArray) (k:Int) (b:Bool) :
  (binOp .neq 98 (.agg #[.string s,.int .i64 k,.bool b]) (.agg #[.string s,.int .i64 k,.bool b])).run Tryz.prog w=.ok (.bool false) w:=by
 rw [run_neq_struct];go_simp;try rfl
@[go_sem ↓] theorem Gr (w:World) (s t:ByteArray) :
  (binOp .neq 61 (.agg #[.string s,.string t]) (.agg #[.string s,.string t])).run Tryz.prog w=.ok (.bool false) w:=by
 rw [run_neq_struct];go_simp;try rfl
end Go.Proofs.YtmflccbnoeaafaaGreat
namespace Go.Proofs.YtmflccbnoeaafaaGreat
open Go.RowKit Go.Deep
set_option maxRecDepth 100000
set_option linter.unusedVariables false
set_option maxHeartbeats 64000000
@[go_sem ↓] theorem Gs (w:World) (s t:ByteArray) :
  (binOp .neq 103 (.agg #[.string s,.string t]) (.agg #[.string s,.string t])).run Tryz.prog w=.ok (.bool false) w:=by
 rw [run_neq_struct];go_simp;try rfl
theorem dY.kb {P:Nat→Prop} {w w':World} {B:Nat} {hn hm:Hd} {r:fX} (h:dY w B hn hm r) (k:Kb P w w') (hp:∀ g,g∈hn.blk∨g∈hm.blk→¬ P g):dY w' B hn hm r :=
 ⟨aP h.fK k fun g hg=>hp g (.inl (Hd.au.2 hg)),aP h.mem k fun g hg=>hp g (.inr (Hd.au.2 hg)),h.mU⟩
theorem dY.lt {w:World} {B:Nat} {hn hm:Hd} {r:fX} (h:dY w B hn hm r):∀ g,g∈hn.blk∨g∈hm.blk→B≤g∧g < w.heap.size:=fun g hg=>by
 rcases hg with h1 | h1
 ·exact h.fK.lt g (Hd.au.1 h1)
 ·exact h.mem.lt g (Hd.au.1 h1)
structure dc (w:World) (B:Nat) (c:bW) (hs ht hn hm hg:Hd) (L:List ay):Prop where
 obj:bC w B hs ht c.ai.ae L
 Lc:L.map ay.t=c.ai.tables
 Hs:dY w B hn hm c.aj
 kv:w.ownsRow B 106 6 hg.v c.af.length (c.af.flatMap cC)
 mU:∀ g∈hs.blk++(ht.blk++L.flatMap ay.bI),¬ (g∈hn.blk∨g∈hm.blk)∧g∉hg.blk
 th:∀ g,g∈hn.blk∨g∈hm.blk→g∉hg.blk
def xK (c:bW):Prop:=kA c.ai∧kO c.aj∧Small (c.af.length*16)∧∀ g∈c.af,oL g
theorem eH.sm {w:World} {c:bW} {As:Option Addr} {ar:Nat} {At:Option Addr} {ax:Nat} {An:Option Addr} {aI:Nat} {Am:Option Addr} {aK:Nat} {Ag:Option Addr} {aS:Nat} (h:eH w c As ar At ax An aI Am aK Ag aS):xK c :=
 ⟨⟨iy h.gQ,iz h.tab⟩,tj h.fK h.mem,kP h.kv fun _ _ h=>h.2⟩
theorem dc.az {w w':World} {B:Nat} {c:bW} {hs ht hn hm hg:Hd} {L:List ay} (h:dc w B c hs ht hn hm hg L) (a:ag w w'):dc w' B c hs ht hn hm hg L:=⟨h.obj.az a,h.Lc,h.Hs.az a,bu h.kv a,h.mU,h.th⟩
theorem dc.at {w:World} {B:Nat} {c:bW} {hs ht hn hm hg:Hd} {L:List ay} (h:dc w B c hs ht hn hm hg L) (sm:xK c):eH w c hs.a hs.c ht.a ht.c hn.a hn.c hm.a hm.c hg.a hg.c:=by
 have e1:fL c.ai.ae L=c.ai:=by unfold fL;rw [h.Lc]
 have h1:=h.obj.Ld (by rw [e1];exact sm.1);have h2:=h.obj.tabs (by rw [e1];exact sm.1);rw [h.Lc] at h2;exact ⟨h1,h2,h.Hs.names sm.2.1,h.Hs.Ht sm.2.1,en cC h.kv (fun g hm=>⟨rfl,rfl,sm.2.2.2 g hm⟩) sm.2.2.1⟩
def lq (c:bW) (hs ht hn hm hg:Hd):Value:=.agg #[.int .i64 c.aA,.int .i64 c.version,.slice hs.a c.ai.ae.length hs.c,.slice ht.a c.ai.tables.length ht.c,.slice hn.a c.aj.names.length hn.c,.slice hm.a c.aj.members.length hm.c,.slice hg.a c.af.length hg.c]
def Nq (c:bW) (w:World) (e:Ending) (w':World):Prop:=∃ hs ht hn hm hg L,e=.returned (lq c hs ht hn hm hg)∧ag w w'∧dc w' w.heap.size c hs ht hn hm hg L
end Go.Proofs.YtmflccbnoeaafaaGreat
namespace Go.Proofs.YtmflccbnoeaafaaGreat
open Go.RowKit
set_option maxRecDepth 100000
set_option linter.unusedVariables false
set_option maxHeartbeats 64000000
def Dz (l:List cu):Prop:=∀ t∈l,t.ak.length≤3000∧t.rules.length≤3000∧∀ r∈t.rules,r.ak.length≤3000
theorem Dz.snoc {l:List cu} {k:Nat} (hk:k < l.length) (h:Dz (l.take k)) (h1:l[k].ak.length≤3000) (h2:l[k].rules.length≤3000) (h3:∀ r∈l[k].rules,r.ak.length≤3000):Dz (l.take (k+1)):=by
 intro t ht;rw [List.take_succ_eq_append_getElem hk,List.mem_append,List.mem_singleton] at ht
 rcases ht with ht | rfl
 ·exact h t ht
 ·exact ⟨h1,h2,h3⟩
theorem wK {α:Type} {l:List α} {k:Nat} (hk:k < l.length) {P:α→Prop} (h:∀ r∈l.take k,P r) (h1:P l[k]):∀ r∈l.take (k+1),P r:=by
 intro r hr;rw [List.take_succ_eq_append_getElem hk,List.mem_append,List.mem_singleton] at hr
 rcases hr with hr | rfl
 ·exact h r hr
 ·exact h1
structure Wy (c:bW):Prop where
 obj:N8 c.ai
 fK:c.aj.names.length≤3000
 mem:c.aj.members.length≤3000
 kv:c.af.length≤3000
def Oy (w:World) (c:bW) (e:Ending) (w':World):Prop:=∃ b:Bool,e=.returned (.bool b)∧(b=false→Wy c)∧ag w w'
theorem Hu (c:bW) (As:Option Addr) (ar:Nat) (At:Option Addr) (ax:Nat) (An:Option Addr) (aI:Nat) (Am:Option Addr) (aK:Nat) (Ag:Option Addr) (aS:Nat) (w:World) (H:eH w c As ar At ax An aI Am aK Ag aS) :
  Calls Tryz.prog 5 #[.agg #[.int .i64 c.aA,.int .i64 c.version,.slice As c.ai.ae.length ar,.slice At c.ai.tables.length ax,.slice An c.aj.names.length aI,.slice Am c.aj.members.length aK,.slice Ag c.af.length aS]] w (Oy w c):=by
 have hlen:=H.gQ.len;have fl:=H.tab.len;have Nb:=H.fK.len;have Sk:c.aj.members.length*16≤140737488351232:=H.mem.2.1;have Nr:c.af.length*16≤140737488351232:=H.kv.2.1;obtain ⟨W,hW⟩:∃ W,W=(w.alloc (.cells #[.int .i64 c.aA,.int .i64 c.version,.slice As c.ai.ae.length ar,.slice At c.ai.tables.length ax,.slice An c.aj.names.length aI,.slice Am c.aj.members.length aK,.slice Ag c.af.length aS] 32)).alloc (.cells #[.slice As c.ai.ae.length ar,.slice At c.ai.tables.length ax] 25):=⟨_,rfl⟩
 have aW:ag w W:=by rw [hW];exact ((ag.refl w).alloc _).alloc _
 have r0:ap W (w.heap.size) [.int .i64 c.aA,.int .i64 c.version,.slice As c.ai.ae.length ar,.slice At c.ai.tables.length ax,.slice An c.aj.names.length aI,.slice Am c.aj.members.length aK,.slice Ag c.af.length aS]:=by rw [hW];exact ap.up (bv (ag.refl _) (by simp))
 have r1:ap W (w.heap.size+1) [.slice As c.ai.ae.length ar,.slice At c.ai.tables.length ax]:=by rw [hW];exact bv (ag.refl _) (by simp)
 have HR:=gH r1;have br:=gH aW;have HT:=gH H.tab;clear H r0 r1 aW
 go_enter Tryz.func5,Tryz.ntmps5
 go_wp2_with fail;rw [← hW]
 go_loopw [4,5] (fun n i wr=>∃ (k:Nat) (z:Int),k≤c.ai.tables.length∧n=.int .i64 z∧i=.int .i64 k∧0≤z∧z≤140737488351232∧(z≤3000→(c.ai.ae.length≤3000∧c.ai.tables.length≤3000∧c.aj.names.length≤3000∧c.aj.members.length≤3000∧c.af.length≤3000)∧Dz (c.ai.tables.take k))∧ag W wr) (fun _ i _=>c.ai.tables.length - (intOf i).toNat)
 case atStart=>exact ⟨0,_,Nat.zero_le _,rfl,rfl,by omega,by omega,fun h=>⟨⟨by omega,by omega,by omega,by omega,by omega⟩,fun t ht=>by simp at ht⟩,ag.refl _⟩
 case round =>
  clear hW;obtain ⟨k,z,hk,rfl,rfl,hz1,hz2,mV,ha⟩:=hrel;have HA:=gH ha;have p0:=HR.out.az ha;have x1:=p0.cell (j:=1) rfl;have xz:=p0.1;have HM:=gH mV;clear mV p0;by_cases hlt:k < c.ai.tables.length
  ·by_cases hz0:z≤3000
   ·obtain ⟨b,off,B2,uM,B3,uO,rfl,hb,c0,c1,c2,c3,c4,eA,fW,ur⟩:=jt (aQ (br.out.trans ha) HT.out) hlt
    obtain ⟨t,Ob⟩:∃ t,c.ai.tables[k]=t:=⟨_,rfl⟩;rw [Ob] at c0 c1 c2 c3 c4 eA fW;have K8:=gH Ob;clear Ob ur ha;have hl2:=eA.len;have Q0:=fW.len;go_wp2_with fail
    go_loop [4,7] (fun n i=>∃ (m:Nat) (z:Int),m≤t.rules.length∧n=.int .i64 z∧i=.int .i64 m∧0≤z∧z≤140737488351232∧(z≤3000→(t.ak.length≤3000∧t.rules.length≤3000)∧∀ r∈t.rules.take m,r.ak.length≤3000)) (fun _ i=>t.rules.length - (intOf i).toNat)
    case atStart=>exact ⟨0,_,Nat.zero_le _,rfl,rfl,by omega,by omega,fun h=>⟨⟨by omega,by omega⟩,fun r hr=>by simp at hr⟩⟩
    case round =>
     obtain ⟨m,z2,hm,rfl,rfl,YP,Gt,mV⟩:=hrel;have HN:=gH mV;clear mV;by_cases jF:m < t.rules.length
     ·by_cases hz2:z2≤3000
      ·obtain ⟨b3,Kw,D2,uP,rfl,hb3,e0,e1,e2,e3,e4,e5,e6,e7,hcs,Sj⟩:=oD fW jF
       have hl4:=hcs.len;go_wp2_with fail
       go_round
       case rel=>exact ⟨m+1,_,by omega,rfl,by go_num,by omega,by omega,fun h=>⟨(HN.out hz2).1,wK (P:=fun r:gi=>r.ak.length≤3000) jF (HN.out hz2).2 (by omega)⟩⟩
       case measure=>simp [intOf];omega
      ·go_wp2_with fail
       go_roundw
       case rel=>exact ⟨k+1,_,by omega,rfl,by go_num,YP,Gt,fun h=>absurd h hz2,HA.out.alloc _⟩
       case measure=>simp [intOf];omega
     ·go_wp2_with fail
      go_roundw
      case rel =>
       refine ⟨k+1,_,by omega,rfl,by go_num,YP,Gt,fun h=>⟨(HM.out hz0).1,?_⟩,HA.out.alloc _⟩;have hn:=HN.out h;rw [List.take_of_length_le (by omega)] at hn;exact (HM.out hz0).2.snoc hlt (by rw [K8.out];exact hn.1.1) (by rw [K8.out];exact hn.1.2) (by rw [K8.out];exact hn.2)
      case measure=>simp [intOf];omega
   ·clear ha
    go_wp2_with fail;go_ret;exact ⟨_,rfl,fun h=>absurd h (by first | (simp;done) | (simp;omega)),br.out.trans HA.out⟩
  ·clear ha
   go_wp2_with fail;go_ret;refine ⟨_,rfl,fun h=>?_,br.out.trans HA.out⟩
   have h3:z≤3000:=by simpa using h
   obtain ⟨h1,h2⟩:=HM.out h3;rw [List.take_of_length_le (by omega)] at h2;exact ⟨⟨by omega,by omega,fun t ht=>⟨by have:=(h2 t ht).1;omega,by have:=(h2 t ht).2.1;omega,fun r hr=>by have:=(h2 t ht).2.2 r hr;omega⟩⟩,h1.2.2.1,h1.2.2.2.1,h1.2.2.2.2⟩
end Go.Proofs.YtmflccbnoeaafaaGreat
namespace Go.Proofs.YtmflccbnoeaafaaGreat
open Go.RowKit Go.Deep
set_option maxRecDepth 100000
set_option linter.unusedVariables false
set_option maxHeartbeats 64000000
noncomputable def eu (c:bW):Bool:=decide (0≤c.aA)&&decide (c.aA≤1000)&&decide (0≤c.version)&&decide (c.version≤1000000000)&&dH c
def iW:bW:=⟨0,0,⟨[],[]⟩,⟨[dL],[]⟩,[]⟩
theorem rH:bN iW.aj=true:=by
 unfold bN iW;simp only [List.all_nil,Bool.and_true]
 decide +kernel
theorem Bk:dH iW=true:=cZ.2 ⟨bO.2 ⟨by decide,⟨by decide +kernel,rH,by decide +kernel,by decide +kernel⟩,fun g hg=>by simp [iW] at hg,rfl⟩,fun g hg=>by simp [iW] at hg⟩
theorem oO:eu iW=true:=by unfold eu;rw [Bk];rfl
def Wz (w:World) (e:Ending) (w':World):Prop:=∃ b,e=.returned (.agg #[.int .i64 0,.int .i64 0,.slice none 0 0,.slice none 0 0,.slice (some ⟨b,0,none⟩) 1 1,.slice none 0 0,.slice none 0 0])∧ag w w'∧eH w' iW none 0 none 0 (some ⟨b,0,none⟩) 1 none 0 none 0
theorem Hv (w:World):Calls Tryz.prog 27 #[] w (Wz w):=by
 have l1:w.heap.size < w.heap.size+1:=by omega
 have l2:w.heap.size < w.heap.size+1+1:=by omega
 go_enter Tryz.func27,Tryz.ntmps27
 go_wp2_with fail
 (try simp only [Exit.inBlock,Exit.then])
 have a6:=((ag.refl w).alloc (.cells #[.int .i64 0,.int .i64 0,.slice none 0 0,.slice none 0 0,.slice (some ⟨w.heap.size+1,0,none⟩) 1 1,.slice none 0 0,.slice none 0 0] 32)).alloc (.cells #[.string ⟨#[114,111,111,116]⟩] 9);refine bodyPost_ret (dv (v:=.agg #[.int .i64 0,.int .i64 0,.slice none 0 0,.slice none 0 0,.slice (some ⟨w.heap.size+1,0,none⟩) 1 1,.slice none 0 0,.slice none 0 0]) rfl _ rfl ?hl) rfl ?_
 case hl=>exact dr (ap.up (bv (ag.refl _) rfl))
 refine ⟨_,rfl,a6,gR,gR,?n,gR,gR⟩
 case n=>exact xX _ [.string ⟨#[114,111,111,116]⟩] #[.string ⟨#[114,111,111,116]⟩] (by first | (simp;done) | (simp;omega)) (by intro o;(repeat (refine (World.cell?_alloc_past _ _ _ (by first | (simp;done) | (simp;omega))).trans ?_));exact World.cell?_alloc_at _ _ _ _ (by simp)) rfl rfl ⟨rfl,by unfold Small;decide⟩ (by omega)
theorem su (c:bW) (As:Option Addr) (ar:Nat) (At:Option Addr) (ax:Nat) (An:Option Addr) (aI:Nat) (Am:Option Addr) (aK:Nat) (Ag:Option Addr) (aS:Nat) (w:World) (H:eH w c As ar At ax An aI Am aK Ag aS) :
  Calls Tryz.prog 12 #[.agg #[.int .i64 c.aA,.int .i64 c.version,.slice As c.ai.ae.length ar,.slice At c.ai.tables.length ax,.slice An c.aj.names.length aI,.slice Am c.aj.members.length aK,.slice Ag c.af.length aS]] w fun e w'=>e=.returned (.int .i64 (if eu c=true then 0 else 1))∧ag w w':=by
 obtain ⟨W,hW⟩:∃ W,W=w.alloc (.cells #[.int .i64 c.aA,.int .i64 c.version,.slice As c.ai.ae.length ar,.slice At c.ai.tables.length ax,.slice An c.aj.names.length aI,.slice Am c.aj.members.length aK,.slice Ag c.af.length aS] 32):=⟨_,rfl⟩
 have aW:ag w W:=by rw [hW];exact (ag.refl w).alloc _
 have r0:ap W (w.heap.size) [.int .i64 c.aA,.int .i64 c.version,.slice As c.ai.ae.length ar,.slice At c.ai.tables.length ax,.slice An c.aj.names.length aI,.slice Am c.aj.members.length aK,.slice Ag c.af.length aS]:=by rw [hW];exact bv (ag.refl _) (by simp)
 obtain ⟨b,hb⟩:∃ b,dH c=b:=⟨_,rfl⟩;obtain ⟨rc,oI⟩:∃ b,eu c=b:=⟨_,rfl⟩;obtain ⟨zz,hzz⟩:∃ z:Int,(if eu c=true then (0:Int) else 1)=z:=⟨_,rfl⟩;obtain ⟨z,hz⟩:∃ z:Int,(if dH c=true then (0:Int) else 1)=z:=⟨_,rfl⟩;have C1:=gH (show Calls Tryz.prog 30 #[.agg #[.int .i64 c.aA,.int .i64 c.version,.slice As c.ai.ae.length ar,.slice At c.ai.tables.length ax,.slice An c.aj.names.length aI,.slice Am c.aj.members.length aK,.slice Ag c.af.length aS]] W fun e w''=>e=.returned (.int .i64 z)∧ag W w'' from (Ox c As ar At ax An aI Am aK Ag aS W (H.az aW)).mono fun e w'' ⟨he,hw⟩=>⟨he.trans (by rw [hz]),hw⟩);have ej:=gH (show rc=(decide (0≤c.aA)&&decide (c.aA≤1000)&&decide (0≤c.version)&&decide (c.version≤1000000000)&&b) by rw [← oI];unfold eu;rw [hb]);have HZ:=gH (show z=if b=true then (0:Int) else 1 from by rw [← hz,hb]);have SN:=gH (show zz=if rc=true then (0:Int) else 1 from by rw [← hzz,oI]);have br:=gH aW;obtain ⟨ep,Le⟩:∃ e,c.aA=e:=⟨_,rfl⟩;obtain ⟨ve,Q8⟩:∃ e,c.version=e:=⟨_,rfl⟩;obtain ⟨x0,x1,x2,x3,x4,x5,x6,xz⟩:=dM r0;rw [hzz];rw [Le,Q8] at ej C1;rw [Le] at x0;rw [Q8] at x1;rw [Le,Q8] at hW;rw [Le,Q8];clear H aW r0 hb Le Q8 oI hz hzz;by_cases h0:0≤ep
 case neg =>
  have g0:ep < 0:=by omega
  have HR:=gH (show rc=false from by rw [ej.out,decide_eq_false h0];simp);have HW:=gH hW;clear h0 hW
  go_enter Tryz.func12,Tryz.ntmps12
  go_wp2_with fail;go_ret;exact ⟨by rw [SN.out,HR.out];rfl,by rw [← HW.out];exact br.out⟩
 have g0:¬ ep < 0:=by omega
 by_cases h1:ep≤1000
 case neg =>
  have g1:1000 < ep:=by omega
  have HR:=gH (show rc=false from by rw [ej.out,decide_eq_false h1];simp);have HW:=gH hW;clear h1 hW
  go_enter Tryz.func12,Tryz.ntmps12
  go_wp2_with fail;go_ret;exact ⟨by rw [SN.out,HR.out];rfl,by rw [← HW.out];exact br.out⟩
 have g1:¬ 1000 < ep:=by omega
 by_cases h2:0≤ve
 case neg =>
  have g2:ve < 0:=by omega
  have HR:=gH (show rc=false from by rw [ej.out,decide_eq_false h2];simp);have HW:=gH hW;clear h2 hW
  go_enter Tryz.func12,Tryz.ntmps12
  go_wp2_with fail;go_ret;exact ⟨by rw [SN.out,HR.out];rfl,by rw [← HW.out];exact br.out⟩
 have g2:¬ ve < 0:=by omega
 by_cases h3:ve≤1000000000
 case neg =>
  have g3:1000000000 < ve:=by omega
  have HR:=gH (show rc=false from by rw [ej.out,decide_eq_false h3];simp);have HW:=gH hW;clear h3 hW
  go_enter Tryz.func12,Tryz.ntmps12
  go_wp2_with fail;go_ret;exact ⟨by rw [SN.out,HR.out];rfl,by rw [← HW.out];exact br.out⟩
 have g3:¬ 1000000000 < ve:=by omega
 have HR:=gH (show rc=b from by rw [ej.out,decide_eq_true h0,decide_eq_true h1,decide_eq_true h2,decide_eq_true h3];rfl);clear ej
 go_enter Tryz.func12,Tryz.ntmps12
 go_wp2_with fail;rw [← hW];clear hW;refine C1.out.mono ?_;rintro e w1 ⟨rfl,a1⟩;have A1:=gH (br.out.trans a1);clear a1;go_wp2_with fail;go_ret;exact ⟨by rw [SN.out,HR.out,HZ.out];rfl,A1.out⟩
end Go.Proofs.YtmflccbnoeaafaaGreat
namespace Go.Proofs.YtmflccbnoeaafaaGreat
open Go.RowKit
set_option maxRecDepth 100000
set_option linter.unusedVariables false
set_option maxHeartbeats 64000000
def DA (name:ByteArray) (kind:Int) (n:Nat) (low high:Int) (aa table key:ByteArray):Bool :=
 decide (n=0)&&emp name&&emp aa&&emp table&&emp key&&(kind==0)&&(low==0)&&(high==0)
theorem Hw (name:ByteArray) (kind:Int) (A:Option Addr) (n c:Nat) (low high:Int) (aa table key:ByteArray) (w:World)
  (h1:name.size≤140737488351232) (h2:aa.size≤140737488351232) (h3:table.size≤140737488351232) (h4:key.size≤140737488351232) :
  Calls Tryz.prog 39 #[.agg #[.string name,.int .i64 kind,.slice A n c,.int .i64 low,.int .i64 high,.string aa,.string table,.string key]] w
   fun e w'=>e=.returned (.bool (DA name kind n low high aa table key))∧ag w w':=by
 go_enter Tryz.func39,Tryz.ntmps39
 go_wp2_with fail
 all_goals
  go_ret;refine ⟨Eq.trans (b:=.returned (.bool _)) rfl (eD (dF ?_)),(ag.refl _).alloc _⟩
  simp_all [DA,emp,kG]
def uS (k:Int):Bool:=k==1 || k==2 || k==3 || k==4 || k==5 || k==6 || k==7 || k==8 || k==9 || k==14 || k==15
def uT (k:Int):Bool:=k==3 || k==4 || k==5 || k==6 || k==7 || k==8 || k==9 || k==14 || k==15
def uN (k:Int):Bool:=k==6 || k==8 || k==12 || k==13
def uR (k:Int):Bool:=k==9 || k==10 || k==11 || k==12 || k==13 || k==14 || k==15
def Hx (k:Int):Bool:=decide (1≤k)&&decide (k≤15)
theorem kinds (k:Int) (h:Hx k=true):k=1∨k=2∨k=3∨k=4∨k=5∨k=6∨k=7∨k=8∨k=9∨k=10∨k=11∨k=12∨k=13∨k=14∨k=15:=by
 simp [Hx] at h;omega
theorem SP (k:Int) (h:Hx k=false):(k==1)=false∧(k==2)=false∧(k==3)=false∧(k==4)=false∧(k==5)=false∧(k==6)=false∧(k==7)=false∧(k==8)=false∧(k==9)=false∧(k==10)=false∧(k==11)=false∧(k==12)=false∧(k==13)=false∧(k==14)=false∧(k==15)=false:=by
 simp [Hx] at h;simp;omega
theorem Lf (k:Int) (h:Hx k=false):uS k=false∧uT k=false∧uN k=false∧uR k=false:=by
 obtain ⟨h1,h2,h3,h4,h5,h6,h7,h8,h9,h10,h11,Aw,Gj,J6,GA⟩:=SP k h;simp [uS,uT,uN,uR,h1,h2,h3,h4,h5,h6,h7,h8,h9,h10,h11,Aw,Gj,J6,GA]
theorem Hy (k:Int) (aJ aa table name role:ByteArray) (vc:Value) (r0 r1 r2 r3 r4 r5 r6 r7:Value) (right opt:Value) (w:World) :
  Calls Tryz.prog 37 #[.agg #[.int .i64 k,.string aJ,.string aa,.string table,.string name,.string role,vc,r0,r1,r2,r3,r4,r5,r6,r7,right,opt]] w
   fun e w'=>e=.returned (.tuple #[.agg #[.string aa,.string table,.string name,.string role],.agg #[.bool (uS k),.bool (uT k),.bool (uN k),.bool (uR k)],.bool (Hx k)])∧ag w w':=by
 cases hk:Hx k
 ·obtain ⟨u1,u2,u3,u4⟩:=Lf k hk
  have H:=gH (And.intro u1 (And.intro u2 (And.intro u3 u4)));clear u1 u2 u3 u4;obtain ⟨h1,h2,h3,h4,h5,h6,h7,h8,h9,h10,h11,Aw,Gj,J6,GA⟩:=SP k hk;clear hk
  go_enter Tryz.func37,Tryz.ntmps37
  go_wp2_with fail;obtain ⟨u1,u2,u3,u4⟩:=H.out;refine bodyPost_ret (v:=.tuple #[.agg #[.string aa,.string table,.string name,.string role],.agg #[.bool false,.bool false,.bool false,.bool false],.bool false]) (by simp [results,Tryz.results37,go_sem]) rfl ⟨by rw [u1,u2,u3,u4],?_⟩
  repeat (first | exact ag.refl _ | apply ag.alloc | apply ag.bH | apply ag.drew | apply ag.drewN)
 ·have hk2:=kinds k hk
  clear hk
  rcases hk2 with rfl | rfl | rfl | rfl | rfl | rfl | rfl | rfl | rfl | rfl | rfl | rfl | rfl | rfl | rfl
  all_goals
   go_enter Tryz.func37,Tryz.ntmps37
   go_wp2_with fail;refine bodyPost_ret (v:=.tuple #[.agg #[.string aa,.string table,.string name,.string role],.agg #[.bool _,.bool _,.bool _,.bool _],.bool true]) (by simp [results,Tryz.results37,go_sem];decide) rfl ⟨rfl,?_⟩
   repeat (first | exact ag.refl _ | apply ag.alloc | apply ag.bH | apply ag.drew | apply ag.drewN)
end Go.Proofs.YtmflccbnoeaafaaGreat
