import Derived.Test.YtakddkhipelmjaaGreatPartH10
import Derived.Test.YtakddkhipelmjaaGreatPartH12
set_option maxRecDepth 100000
set_option linter.unusedVariables false
set_option maxHeartbeats 64000000
namespace Go.Proofs.YtakddkhipelmjaaGreat
open Go.Deep Go.RowKit
theorem Ec {c:bS} (h:bH c=false):dU c=false:=by unfold dU;rw [h];rfl
theorem GD (c:bS) (As:Option Addr) (ax:Nat) (At:Option Addr) (aD:Nat) (An:Option Addr) (aH:Nat) (Am:Option Addr) (aL:Nat) (Ag:Option Addr) (aP:Nat) (w:World) (H:gl w c As ax At aD An aH Am aL Ag aP) :
  Calls Tryz.prog 59 #[.agg #[.int .i64 c.av,.int .i64 c.version,.slice As c.aj.ae.length ax,.slice At c.aj.tables.length aD,.slice An c.ar.names.length aH,.slice Am c.ar.members.length aL,.slice Ag c.ah.length aP]] w fun e w'=>e=.returned (.bool (dU c))∧ag w w':=by
 obtain ⟨W,hW⟩:∃ W,W=w.alloc (.cells #[.int .i64 c.av,.int .i64 c.version,.slice As c.aj.ae.length ax,.slice At c.aj.tables.length aD,.slice An c.ar.names.length aH,.slice Am c.ar.members.length aL,.slice Ag c.ah.length aP] 32):=⟨_,rfl⟩
 have aW:ag w W:=by rw [hW];exact (ag.refl w).alloc _
 have r0:ai W (w.heap.size) [.int .i64 c.av,.int .i64 c.version,.slice As c.aj.ae.length ax,.slice At c.aj.tables.length aD,.slice An c.ar.names.length aH,.slice Am c.ar.members.length aL,.slice Ag c.ah.length aP]:=by rw [hW];exact aR (ag.refl _) (by simp)
 obtain ⟨st,hst⟩:∃ b,bH c=b:=⟨_,rfl⟩;have CS:=gH (show ∀ V,ag W V→Calls Tryz.prog 87 #[.agg #[.int .i64 c.av,.int .i64 c.version,.slice As c.aj.ae.length ax,.slice At c.aj.tables.length aD,.slice An c.ar.names.length aH,.slice Am c.ar.members.length aL,.slice Ag c.ah.length aP]] V fun e w''=>e=.returned (.bool st)∧ag V w'' from fun V a=>(Cy c As ax At aD An aH Am aL Ag aP V (H.aA (aW.trans a))).mono fun e w'' ⟨he,hw⟩=>⟨he.trans (by rw [hst]),hw⟩);have CH:=gH (show ∀ V,ag W V→Calls Tryz.prog 77 #[.agg #[.int .i64 c.av,.int .i64 c.version,.slice As c.aj.ae.length ax,.slice At c.aj.tables.length aD,.slice An c.ar.names.length aH,.slice Am c.ar.members.length aL,.slice Ag c.ah.length aP]] V (Np V c) from fun V a=>Nq c As ax At aD An aH Am aL Ag aP V (H.aA (aW.trans a)))
 have KS:=gH (show ∀ V,ag W V→ag W V∧V.cell? ⟨w.heap.size,0,none⟩=some (.int .i64 c.av)∧V.cell? ⟨w.heap.size,1,none⟩=some (.int .i64 c.version)∧V.cell? ⟨w.heap.size,2,none⟩=some (.slice As c.aj.ae.length ax)∧V.cell? ⟨w.heap.size,3,none⟩=some (.slice At c.aj.tables.length aD)∧V.cell? ⟨w.heap.size,4,none⟩=some (.slice An c.ar.names.length aH)∧V.cell? ⟨w.heap.size,5,none⟩=some (.slice Am c.ar.members.length aL)∧V.cell? ⟨w.heap.size,6,none⟩=some (.slice Ag c.ah.length aP) from fun V a=>by
  have p:=r0.aA a
  exact ⟨a,p.cell (j:=0) rfl,p.cell (j:=1) rfl,p.cell (j:=2) rfl,p.cell (j:=3) rfl,p.cell (j:=4) rfl,p.cell (j:=5) rfl,p.cell (j:=6) rfl⟩)
 have HST:=gH hst;have cu:=gH aW;clear hst H aW r0
 go_in
 go_wp2_with fail;rw [← hW];clear hW
 cases st
 case false =>
  have HF:=gH (Ec HST.out);obtain ⟨_,x0,x1,x2,x3,x4,x5,x6⟩:=KS.out W (ag.refl W);have xz:w.heap.size < W.heap.size:=World.block_lt_of_cell? W ⟨w.heap.size,0,none⟩ x0;refine ay (by kernel_rfl) (by kernel_rfl) ?_
  repeat (go_big_quiet_step ((go_at_call 87;exact Calls.bk (CS.out _ ((ag.refl W).bV _)))))
  refine wpQuiet_nil ?_;intro _ hw';obtain ⟨y,hw''⟩:=hw';subst hw'';go_wp2;go_ret;exact ⟨by rw [HF.out];rfl,cu.out.bV y⟩
 case true =>
  have HW:=gH (show dU c=((cJ c).length==c.ah.length) by unfold dU;rw [HST.out];rfl)
  go_region_held3 (fun V=>ag W V∧V.cell? ⟨w.heap.size,0,none⟩=some (.int .i64 c.av)∧V.cell? ⟨w.heap.size,1,none⟩=some (.int .i64 c.version)∧V.cell? ⟨w.heap.size,2,none⟩=some (.slice As c.aj.ae.length ax)∧V.cell? ⟨w.heap.size,3,none⟩=some (.slice At c.aj.tables.length aD)∧V.cell? ⟨w.heap.size,4,none⟩=some (.slice An c.ar.names.length aH)∧V.cell? ⟨w.heap.size,5,none⟩=some (.slice Am c.ar.members.length aL)∧V.cell? ⟨w.heap.size,6,none⟩=some (.slice Ag c.ah.length aP))
   (first | exact KS.out _ (ag.refl _).drew | exact KS.out _ A5.out | exact KS.out _ A6.out)
   ((first | (go_at_call 87;refine (CS.out _ (ag.refl W).drew).mono ?_;rintro e w5 ⟨rfl,a5⟩;have A5:=gH ((ag.refl W).drew.trans a5);clear a5) | (go_at_call 77;refine (CH.out w5 A5.out).mono ?_;rintro e w6 ⟨h,rfl,a6,ho6⟩;have A6:=gH (A5.out.trans a6);clear a6;rw [dm ho6])))
  go_wp2;go_ret;refine ⟨Eq.trans (b:=.returned (.bool _)) rfl (dx (cz ?_)),cu.out.trans A6.out⟩;rw [HW.out,Bool.eq_iff_iff,beq_iff_eq,beq_iff_eq];omega
theorem OS (c:bS) (As:Option Addr) (ax:Nat) (At:Option Addr) (aD:Nat) (An:Option Addr) (aH:Nat) (Am:Option Addr) (aL:Nat) (Ag:Option Addr) (aP:Nat) (w:World) (H:gl w c As ax At aD An aH Am aL Ag aP) :
  Calls Tryz.prog 45 #[.agg #[.int .i64 c.av,.int .i64 c.version,.slice As c.aj.ae.length ax,.slice At c.aj.tables.length aD,.slice An c.ar.names.length aH,.slice Am c.ar.members.length aL,.slice Ag c.ah.length aP]] w fun e w'=>e=.returned (.int .i64 (if dU c=true then 0 else 1))∧ag w w':=by
 obtain ⟨W,hW⟩:∃ W,W=w.alloc (.cells #[.int .i64 c.av,.int .i64 c.version,.slice As c.aj.ae.length ax,.slice At c.aj.tables.length aD,.slice An c.ar.names.length aH,.slice Am c.ar.members.length aL,.slice Ag c.ah.length aP] 32):=⟨_,rfl⟩
 have aW:ag w W:=by rw [hW];exact (ag.refl w).alloc _
 have r0:ai W (w.heap.size) [.int .i64 c.av,.int .i64 c.version,.slice As c.aj.ae.length ax,.slice At c.aj.tables.length aD,.slice An c.ar.names.length aH,.slice Am c.ar.members.length aL,.slice Ag c.ah.length aP]:=by rw [hW];exact aR (ag.refl _) (by simp)
 obtain ⟨b,hb⟩:∃ b,dU c=b:=⟨_,rfl⟩;have C:=gH (show Calls Tryz.prog 59 #[.agg #[.int .i64 c.av,.int .i64 c.version,.slice As c.aj.ae.length ax,.slice At c.aj.tables.length aD,.slice An c.ar.names.length aH,.slice Am c.ar.members.length aL,.slice Ag c.ah.length aP]] W fun e w''=>e=.returned (.bool b)∧ag W w'' from (GD c As ax At aD An aH Am aL Ag aP W (H.aA aW)).mono fun e w'' ⟨he,hw⟩=>⟨he.trans (by rw [hb]),hw⟩);rw [hb];have cu:=gH aW;obtain ⟨x0,x1,x2,x3,x4,x5,x6,xz⟩:=j7 r0;clear hb H aW r0
 go_in
 go_wp2_with fail;rw [← hW];clear hW;refine C.out.mono ?_;rintro e w1 ⟨rfl,a1⟩;have HA:=gH (cu.out.trans a1);clear a1
 cases b<;>(go_wp2;go_ret;exact ⟨rfl,HA.out⟩)
theorem xw {c:bS} (h:bH c=true) {s n:ByteArray} (h4:0≤bt c.aj.tables s n):(kR c.aj s n).af=s∧(kR c.aj s n).name=n∧0≤bY c.aj.ae s:=by
 obtain ⟨_,⟨h1,_,_,_⟩,h3,_⟩:=bP.1 h;obtain ⟨q,hq⟩:=Int.eq_ofNat_of_zero_le h4;have hr:bt c.aj.tables s n < c.aj.tables.length:=(aT _ _).2
 have hl:q < c.aj.tables.length:=by omega
 have e:=oM hq hl;have hp:=gF _ c.aj.tables q hl hq;simp only [Bool.and_eq_true,lY] at hp;rw [e];refine ⟨hp.1,hp.2,?_⟩
 have hc:cU c.aj c.aj.tables[q]=true:=by
  unfold bD at h1;simp only [Bool.and_eq_true,List.all_eq_true] at h1;exact h1.2.2 _ (List.getElem_mem hl)
 unfold cU at hc;simp only [Bool.and_eq_true,decide_eq_true_eq] at hc;rw [← hp.1];exact hc.1.2
theorem Tc (c:bS) (As:Option Addr) (ax:Nat) (At:Option Addr) (aD:Nat) (An:Option Addr) (aH:Nat) (Am:Option Addr) (aL:Nat) (Ag:Option Addr) (aP:Nat) (role s n:ByteArray) (oG:Small role.size) (w:World) (H:gl w c As ax At aD An aH Am aL Ag aP) :
  Calls Tryz.prog 117 #[.agg #[.int .i64 c.av,.int .i64 c.version,.slice As c.aj.ae.length ax,.slice At c.aj.tables.length aD,.slice An c.ar.names.length aH,.slice Am c.ar.members.length aL,.slice Ag c.ah.length aP],.string role,.string s,.string n] w fun e w'=>e=.returned (.bool (mG c role s n))∧ag w w':=by
 obtain ⟨W,hW⟩:∃ W,W=w.alloc (.cells #[.int .i64 c.av,.int .i64 c.version,.slice As c.aj.ae.length ax,.slice At c.aj.tables.length aD,.slice An c.ar.names.length aH,.slice Am c.ar.members.length aL,.slice Ag c.ah.length aP] 32):=⟨_,rfl⟩
 have aW:ag w W:=by rw [hW];exact (ag.refl w).alloc _
 have r0:ai W (w.heap.size) [.int .i64 c.av,.int .i64 c.version,.slice As c.aj.ae.length ax,.slice At c.aj.tables.length aD,.slice An c.ar.names.length aH,.slice Am c.ar.members.length aL,.slice Ag c.ah.length aP]:=by rw [hW];exact aR (ag.refl _) (by simp)
 obtain ⟨tb,JN⟩:∃ b,decide (0≤bt c.aj.tables s n)=b:=⟨_,rfl⟩;obtain ⟨wb,VQ⟩:∃ b,dU c=b:=⟨_,rfl⟩;obtain ⟨cb,hcb⟩:∃ b,eu c.ar.names role=b:=⟨_,rfl⟩;obtain ⟨T,hT⟩:∃ T,kR c.aj s n=T:=⟨_,rfl⟩;obtain ⟨bb,FK⟩:∃ b,pA c.aj (ea c.ar role) T=b:=⟨_,rfl⟩;have mX:=gH (show mG c role s n=(wb&&(tb&&cb)&&bb) by unfold mG;rw [JN,VQ,hcb,hT,FK])
 have CT:=gH (show Calls Tryz.prog 132 #[.agg #[.int .i64 c.av,.int .i64 c.version,.slice As c.aj.ae.length ax,.slice At c.aj.tables.length aD,.slice An c.ar.names.length aH,.slice Am c.ar.members.length aL,.slice Ag c.ah.length aP],.string s,.string n] W fun e w''=>∃ (A2:Option Addr) (c2:Nat) (A3:Option Addr) (c3:Nat),e=.returned (.tuple #[.agg #[.string T.af,.string T.name,.string T.owner,.slice A2 T.au.length c2,.slice A3 T.rules.length c3],.bool tb])∧ag W w'' from by
  have:=zJ c As ax At aD An aH Am aL Ag aP s n W (bC aW H.tab);unfold Ox at this;rw [hT,JN] at this
  exact this)
 have CA:=gH (show ∀ V,ag W V→Calls Tryz.prog 131 #[.agg #[.slice An c.ar.names.length aH,.slice Am c.ar.members.length aL],.string role] V (Eb c.ar role V) from fun V a=>OJ c.ar An aH Am aL role V (aU (aW.trans a) H.kw) (df (aW.trans a) H.mem) oG);have CW:=gH (show ∀ V,ag W V→Calls Tryz.prog 59 #[.agg #[.int .i64 c.av,.int .i64 c.version,.slice As c.aj.ae.length ax,.slice At c.aj.tables.length aD,.slice An c.ar.names.length aH,.slice Am c.ar.members.length aL,.slice Ag c.ah.length aP]] V fun e w''=>e=.returned (.bool wb)∧ag V w'' from fun V a=>(GD c As ax At aD An aH Am aL Ag aP V (H.aA (aW.trans a))).mono fun e w'' ⟨he,hw⟩=>⟨he.trans (by rw [VQ]),hw⟩);have CN:=gH (show ∀ V,ag W V→Calls Tryz.prog 69 #[.slice An c.ar.names.length aH,.string role] V fun e w''=>e=.returned (.bool cb)∧V=w'' from fun V a=>hcb▸jc An aH c.ar.names role V (aU (aW.trans a) H.kw))
 have HTS:=gH (show wb=true→tb=true→T.af=s∧T.name=n∧0≤bY c.aj.ae s from fun h1 h2=>by
  rw [← hT]
  exact xw (dX.1 (VQ.trans h1)).1 (of_decide_eq_true (JN.trans h2)))
 have HH:=gH H;have cu:=gH aW;have kJ:=gH r0;have HBB:=gH FK;obtain ⟨x0,x1,x2,x3,x4,x5,x6,xz⟩:=j7 r0;clear JN VQ hcb hT FK H aW r0
 go_in
 go_wp2_with fail;rw [← hW];clear hW;refine CT.out.mono ?_;rintro e w1 ⟨A2,c2,A3,c3,rfl,a1⟩;obtain ⟨Y,hY⟩:∃ V,V=w1.alloc (.cells #[.string T.af,.string T.name,.string T.owner,.slice A2 T.au.length c2,.slice A3 T.rules.length c3] 80):=⟨_,rfl⟩
 have aY:ag w1 Y:=by rw [hY];exact (ag.refl w1).alloc _
 have RY:=gH (show ai Y w1.heap.size [.string T.af,.string T.name,.string T.owner,.slice A2 T.au.length c2,.slice A3 T.rules.length c3] by rw [hY];exact aN (ag.refl _));have AY:=gH (a1.trans aY);have p1:=kJ.out.aA a1;clear x0 x1 x2 x3 x4 x5 x6 xz CT;have x4:=p1.cell (j:=4) rfl;have x5:=p1.cell (j:=5) rfl;have xz:=p1.1;clear a1 aY p1;go_wp2_with fail;rw [← hY];clear hY;refine (CA.out Y AY.out).mono ?_;rintro e w2 ⟨h,rfl,a2,ho⟩;have Ns:=gH (AY.out.trans a2);have ZM:=gH (RY.out.aA a2);have HO:=gH ho;have dv:=dm ho;rw [dv];have p1:=kJ.out.aA Ns.out;clear x4 x5 xz a2 ho dv CA;obtain ⟨x0,x1,x2,x3,x4,x5,x6,xz⟩:=j7 p1;clear p1
 cases tb
 case false =>
  go_wp2;go_ret;exact ⟨by rw [mX.out];cases wb<;>rfl,cu.out.trans Ns.out⟩
 go_wp2_with fail;refine (CW.out w2 Ns.out).mono ?_;rintro e w3 ⟨rfl,a3⟩;have Kr:=gH (Ns.out.trans a3);have RY3:=gH (ZM.out.aA a3);have HO3:=gH (cA HO.out a3);have p1:=kJ.out.aA Kr.out;clear x0 x1 x2 x3 x4 x5 x6 xz a3 HO ZM;obtain ⟨x0,x1,x2,x3,x4,x5,x6,xz⟩:=j7 p1;clear p1
 cases wb
 case false =>
  go_wp2;go_ret;exact ⟨by rw [mX.out];rfl,cu.out.trans Kr.out⟩
 go_wp2_with fail;refine (CN.out w3 Kr.out).mono ?_;rintro e w9 ⟨rfl,rfl⟩
 cases cb
 case false =>
  go_wp2;go_ret;exact ⟨by rw [mX.out];rfl,cu.out.trans Kr.out⟩
 obtain ⟨ts,tn,hsc⟩:=HTS.out (by first | trivial | rfl) (by first | trivial | rfl);have sn:=iq (aU (cu.out.trans Kr.out) HH.out.kw);have hal:=ra c.ar role;have sl:=dS (R:=dC) cB HO3.out (fun x hx=>⟨rfl,rfl,sn.2 x (q9 hx)⟩) (by have:=sn.1;unfold Small at *;omega)
 have CB:=gH (show Calls Tryz.prog 134 #[.agg #[.int .i64 c.av,.int .i64 c.version,.slice As c.aj.ae.length ax,.slice At c.aj.tables.length aD,.slice An c.ar.names.length aH,.slice Am c.ar.members.length aL,.slice Ag c.ah.length aP],.slice h.a (ea c.ar role).length h.c,.agg #[.string T.af,.string T.name,.string T.owner,.slice A2 T.au.length c2,.slice A3 T.rules.length c3]] w3 fun e w''=>e=.returned (.bool bb)∧ag w3 w'' from
  HBB.out▸Nk c As ax At aD An aH Am aL Ag aP (ea c.ar role) h.a h.c T.af T.name T.owner A2 _ c2 A3 _ c3 T ⟨rfl,rfl⟩ w3 (HH.out.aA (cu.out.trans Kr.out)) sl (by rw [ts];exact hsc))
 obtain ⟨v0,v1,v2,v3,v4,vz⟩:=mv RY3.out;clear ts tn hsc sn hal sl;go_wp2_with fail;refine CB.out.mono ?_;rintro e w4 ⟨rfl,a4⟩;have A4:=gH (Kr.out.trans a4);clear a4;go_wp2;go_ret;exact ⟨by rw [mX.out];rfl,cu.out.trans A4.out⟩
theorem l6 {W:World} {p:Nat} {a b c d e f g:Value} (h:ai W p [a,b,c,d,e,f,g]):(loadVar 32 ⟨p,0,none⟩).run Tryz.prog W=.ok (.agg #[a,b,c,d,e,f,g]) W:=by
 obtain ⟨e0,e1,e2,e3,e4,e5,e6⟩:=vr h;have h1:=DG W p 0 (by rw [e0];rfl) (by rw [e1];rfl) (by rw [e2];rfl) (by rw [e3];rfl) (by rw [e4];rfl) (by rw [e5];rfl) (by rw [e6];rfl);rw [e0,e1,e2,e3,e4,e5,e6] at h1;exact h1
theorem lw {w:World} {p:Nat} {xs:List Value} (h:ai w p xs) (hl:xs.length=7) (v0 v1 v2 v3 v4 v5 v6:Value):ai (((((((w.setCell ⟨p,0,none⟩ v0).setCell ⟨p,1,none⟩ v1).setCell ⟨p,2,none⟩ v2).setCell ⟨p,3,none⟩ v3).setCell ⟨p,4,none⟩ v4).setCell ⟨p,5,none⟩ v5).setCell ⟨p,6,none⟩ v6) p [v0,v1,v2,v3,v4,v5,v6]:=by
 match xs,hl with
 | [a,b,c,d,e,f,g],_=>exact ((((((h.set 0 _ (by simp)).set 1 _ (by simp)).set 2 _ (by simp)).set 3 _ (by simp)).set 4 _ (by simp)).set 5 _ (by simp)).set 6 _ (by simp)
theorem nQ (w:World) (p:Nat) (v0 v1 v2 v3 v4 v5 v6:Value):Kb (fun g=>g=p) w (((((((w.setCell ⟨p,0,none⟩ v0).setCell ⟨p,1,none⟩ v1).setCell ⟨p,2,none⟩ v2).setCell ⟨p,3,none⟩ v3).setCell ⟨p,4,none⟩ v4).setCell ⟨p,5,none⟩ v5).setCell ⟨p,6,none⟩ v6) :=
 ((((((Kb.set _ _ _ _).trans (Kb.set _ _ _ _)).trans (Kb.set _ _ _ _)).trans (Kb.set _ _ _ _)).trans (Kb.set _ _ _ _)).trans (Kb.set _ _ _ _)).trans (Kb.set _ _ _ _)
@[go_sem ↓] theorem FM (w:World) (s:ByteArray) (k:Int) (b:Bool) :
  (binOp .neq 169 (.agg #[.string s,.int .i64 k,.bool b]) (.agg #[.string s,.int .i64 k,.bool b])).run Tryz.prog w=.ok (.bool false) w:=by
 rw [run_neq_struct];go_simp;try rfl
@[go_sem ↓] theorem FN (w:World) (s t:ByteArray) :
  (binOp .neq 109 (.agg #[.string s,.string t]) (.agg #[.string s,.string t])).run Tryz.prog w=.ok (.bool false) w:=by
 rw [run_neq_struct];go_simp;try rfl
@[go_sem ↓] theorem FO (w:World) (s t:ByteArray) :
  (binOp .neq 174 (.agg #[.string s,.string t]) (.agg #[.string s,.string t])).run Tryz.prog w=.ok (.bool false) w:=by
 rw [run_neq_struct];go_simp;try rfl
theorem iI.kb {P:Nat→Prop} {w w':World} {B:Nat} {hn hm:Hd} {r:gW} (h:iI w B hn hm r) (k:Kb P w w') (hp:∀ g,g∈hn.blk∨g∈hm.blk→¬ P g):iI w' B hn hm r :=
 ⟨br h.kw k fun g hg=>hp g (.inl (Hd.bj.2 hg)),br h.mem k fun g hg=>hp g (.inr (Hd.bj.2 hg)),h.za⟩
theorem iI.lt {w:World} {B:Nat} {hn hm:Hd} {r:gW} (h:iI w B hn hm r):∀ g,g∈hn.blk∨g∈hm.blk→B≤g∧g < w.heap.size:=fun g hg=>by
 rcases hg with h1 | h1
 ·exact h.kw.lt g (Hd.bj.1 h1)
 ·exact h.mem.lt g (Hd.bj.1 h1)
structure er (w:World) (B:Nat) (c:bS) (hs ht hn hm hg:Hd) (L:List bA):Prop where
 obj:dw w B hs ht c.aj.ae L
 Nt:L.map bA.t=c.aj.tables
 GF:iI w B hn hm c.ar
 qr:w.ownsRow B 177 6 hg.v c.ah.length (c.ah.flatMap eR)
 za:∀ g∈hs.blk++(ht.blk++L.flatMap bA.gu),¬ (g∈hn.blk∨g∈hm.blk)∧g∉hg.blk
 zS:∀ g,g∈hn.blk∨g∈hm.blk→g∉hg.blk
def Ed (c:bS):Prop:=oH c.aj∧lx c.ar∧Small (c.ah.length*16)∧∀ g∈c.ah,wI g
theorem gl.sm {w:World} {c:bS} {As:Option Addr} {ax:Nat} {At:Option Addr} {aD:Nat} {An:Option Addr} {aH:Nat} {Am:Option Addr} {aL:Nat} {Ag:Option Addr} {aP:Nat} (h:gl w c As ax At aD An aH Am aL Ag aP):Ed c :=
 ⟨⟨vC h.fS,vD h.tab⟩,OT h.kw h.mem,jM h.qr fun _ _ h=>h.2⟩
theorem er.aA {w w':World} {B:Nat} {c:bS} {hs ht hn hm hg:Hd} {L:List bA} (h:er w B c hs ht hn hm hg L) (a:ag w w'):er w' B c hs ht hn hm hg L:=⟨h.obj.aA a,h.Nt,h.GF.aA a,cA h.qr a,h.za,h.zS⟩
theorem er.at {w:World} {B:Nat} {c:bS} {hs ht hn hm hg:Hd} {L:List bA} (h:er w B c hs ht hn hm hg L) (sm:Ed c):gl w c hs.a hs.c ht.a ht.c hn.a hn.c hm.a hm.c hg.a hg.c:=by
 have e1:nR c.aj.ae L=c.aj:=by unfold nR;rw [h.Nt]
 have h1:=h.obj.OU (by rw [e1];exact sm.1);have h2:=h.obj.tabs (by rw [e1];exact sm.1);rw [h.Nt] at h2;exact ⟨h1,h2,h.GF.names sm.2.1,h.GF.Xf sm.2.1,dS eR h.qr (fun g hm=>⟨rfl,rfl,sm.2.2.2 g hm⟩) sm.2.2.1⟩
def OV (c:bS) (hs ht hn hm hg:Hd):Value:=.agg #[.int .i64 c.av,.int .i64 c.version,.slice hs.a c.aj.ae.length hs.c,.slice ht.a c.aj.tables.length ht.c,.slice hn.a c.ar.names.length hn.c,.slice hm.a c.ar.members.length hm.c,.slice hg.a c.ah.length hg.c]
def Td (c:bS) (w:World) (e:Ending) (w':World):Prop:=∃ hs ht hn hm hg L,e=.returned (OV c hs ht hn hm hg)∧ag w w'∧er w' w.heap.size c hs ht hn hm hg L
def CJ (l:List bW):Prop:=∀ t∈l,t.au.length≤3000∧t.rules.length≤3000∧∀ r∈t.rules,r.au.length≤3000
theorem CJ.snoc {l:List bW} {k:Nat} (hk:k < l.length) (h:CJ (l.take k)) (h1:l[k].au.length≤3000) (h2:l[k].rules.length≤3000) (h3:∀ r∈l[k].rules,r.au.length≤3000):CJ (l.take (k+1)):=by
 intro t ht;rw [List.take_succ_eq_append_getElem hk,List.mem_append,List.mem_singleton] at ht
 rcases ht with ht | rfl
 ·exact h t ht
 ·exact ⟨h1,h2,h3⟩
theorem vE {α:Type} {l:List α} {k:Nat} (hk:k < l.length) {P:α→Prop} (h:∀ r∈l.take k,P r) (h1:P l[k]):∀ r∈l.take (k+1),P r:=by
 intro r hr;rw [List.take_succ_eq_append_getElem hk,List.mem_append,List.mem_singleton] at hr
 rcases hr with hr | rfl
 ·exact h r hr
 ·exact h1
structure Xg (c:bS):Prop where
 obj:OW c.aj
 kw:c.ar.names.length≤3000
 mem:c.ar.members.length≤3000
 qr:c.ah.length≤3000
def OX (w:World) (c:bS) (e:Ending) (w':World):Prop:=∃ b:Bool,e=.returned (.bool b)∧(b=false→Xg c)∧ag w w'
theorem OY (c:bS) (As:Option Addr) (ax:Nat) (At:Option Addr) (aD:Nat) (An:Option Addr) (aH:Nat) (Am:Option Addr) (aL:Nat) (Ag:Option Addr) (aP:Nat) (w:World) (H:gl w c As ax At aD An aH Am aL Ag aP) :
  Calls Tryz.prog 12 #[.agg #[.int .i64 c.av,.int .i64 c.version,.slice As c.aj.ae.length ax,.slice At c.aj.tables.length aD,.slice An c.ar.names.length aH,.slice Am c.ar.members.length aL,.slice Ag c.ah.length aP]] w (OX w c):=by
 have hlen:=H.fS.len;have iG:=H.tab.len;have Te:=H.kw.len;have Tf:c.ar.members.length*16≤140737488351232:=H.mem.2.1;have ZN:c.ah.length*16≤140737488351232:=H.qr.2.1;obtain ⟨W,hW⟩:∃ W,W=(w.alloc (.cells #[.int .i64 c.av,.int .i64 c.version,.slice As c.aj.ae.length ax,.slice At c.aj.tables.length aD,.slice An c.ar.names.length aH,.slice Am c.ar.members.length aL,.slice Ag c.ah.length aP] 32)).alloc (.cells #[.slice As c.aj.ae.length ax,.slice At c.aj.tables.length aD] 25):=⟨_,rfl⟩
 have aW:ag w W:=by rw [hW];exact ((ag.refl w).alloc _).alloc _
 have r0:ai W (w.heap.size) [.int .i64 c.av,.int .i64 c.version,.slice As c.aj.ae.length ax,.slice At c.aj.tables.length aD,.slice An c.ar.names.length aH,.slice Am c.ar.members.length aL,.slice Ag c.ah.length aP]:=by rw [hW];exact ai.up (aR (ag.refl _) (by simp))
 have r1:ai W (w.heap.size+1) [.slice As c.aj.ae.length ax,.slice At c.aj.tables.length aD]:=by rw [hW];exact aR (ag.refl _) (by simp)
 have HR:=gH r1;have cu:=gH aW;have HT:=gH H.tab;clear H r0 r1 aW
 go_in
 go_wp2_with fail;rw [← hW]
 go_loopw [4,5] (fun n i wr=>∃ (k:Nat) (z:Int),k≤c.aj.tables.length∧n=.int .i64 z∧i=.int .i64 k∧0≤z∧z≤140737488351232∧(z≤3000→(c.aj.ae.length≤3000∧c.aj.tables.length≤3000∧c.ar.names.length≤3000∧c.ar.members.length≤3000∧c.ah.length≤3000)∧CJ (c.aj.tables.take k))∧ag W wr) (fun _ i _=>c.aj.tables.length - (intOf i).toNat)
 case atStart=>exact ⟨0,_,Nat.zero_le _,rfl,rfl,by omega,by omega,fun h=>⟨⟨by omega,by omega,by omega,by omega,by omega⟩,fun t ht=>by simp at ht⟩,ag.refl _⟩
 case round =>
  clear hW;obtain ⟨k,z,hk,rfl,rfl,hz1,hz2,rb,ha⟩:=hrel;have HA:=gH ha;have p0:=HR.out.aA ha;have x1:=p0.cell (j:=1) rfl;have xz:=p0.1;have HM:=gH rb;clear rb p0;by_cases hlt:k < c.aj.tables.length
  ·by_cases hz0:z≤3000
   ·obtain ⟨b,off,B2,tW,B3,tX,rfl,hb,c0,c1,c2,c3,c4,d9,gX,tv⟩:=iB (bC (cu.out.trans ha) HT.out) hlt
    obtain ⟨t,OZ⟩:∃ t,c.aj.tables[k]=t:=⟨_,rfl⟩;rw [OZ] at c0 c1 c2 c3 c4 d9 gX;have Kp:=gH OZ;clear OZ tv ha;have hl2:=d9.len;have VR:=gX.len;go_wp2_with fail
    go_loop [4,7] (fun n i=>∃ (m:Nat) (z:Int),m≤t.rules.length∧n=.int .i64 z∧i=.int .i64 m∧0≤z∧z≤140737488351232∧(z≤3000→(t.au.length≤3000∧t.rules.length≤3000)∧∀ r∈t.rules.take m,r.au.length≤3000)) (fun _ i=>t.rules.length - (intOf i).toNat)
    case atStart=>exact ⟨0,_,Nat.zero_le _,rfl,rfl,by omega,by omega,fun h=>⟨⟨by omega,by omega⟩,fun r hr=>by simp at hr⟩⟩
    case round =>
     obtain ⟨m,z2,hm,rfl,rfl,ZO,ZP,rb⟩:=hrel;have HN:=gH rb;clear rb;by_cases mg:m < t.rules.length
     ·by_cases hz2:z2≤3000
      ·obtain ⟨b3,Xh,D2,tY,rfl,hb3,e0,e1,e2,e3,e4,e5,e6,e7,hcs,Tg⟩:=mQ gX mg
       have hl4:=hcs.len;go_wp2
       go_round
       case rel=>exact ⟨m+1,_,by omega,rfl,by go_num,by omega,by omega,fun h=>⟨(HN.out hz2).1,vE (P:=fun r:fh=>r.au.length≤3000) mg (HN.out hz2).2 (by omega)⟩⟩
       case measure=>simp [intOf];omega
      ·go_wp2
       go_roundw
       case rel=>exact ⟨k+1,_,by omega,rfl,by go_num,ZO,ZP,fun h=>absurd h hz2,HA.out.alloc _⟩
       case measure=>simp [intOf];omega
     ·go_wp2
      go_roundw
      case rel =>
       refine ⟨k+1,_,by omega,rfl,by go_num,ZO,ZP,fun h=>⟨(HM.out hz0).1,?_⟩,HA.out.alloc _⟩;have hn:=HN.out h;rw [List.take_of_length_le (by omega)] at hn;exact (HM.out hz0).2.snoc hlt (by rw [Kp.out];exact hn.1.1) (by rw [Kp.out];exact hn.1.2) (by rw [Kp.out];exact hn.2)
      case measure=>simp [intOf];omega
   ·clear ha
    go_wp2;go_ret;exact ⟨_,rfl,fun h=>absurd h (by first | (simp;done) | (simp;omega)),cu.out.trans HA.out⟩
  ·clear ha
   go_wp2;go_ret;refine ⟨_,rfl,fun h=>?_,cu.out.trans HA.out⟩
   have h3:z≤3000:=by simpa using h
   obtain ⟨h1,h2⟩:=HM.out h3;rw [List.take_of_length_le (by omega)] at h2;exact ⟨⟨by omega,by omega,fun t ht=>⟨by have:=(h2 t ht).1;omega,by have:=(h2 t ht).2.1;omega,fun r hr=>by have:=(h2 t ht).2.2 r hr;omega⟩⟩,h1.2.2.1,h1.2.2.2.1,h1.2.2.2.2⟩
noncomputable def cV (c:bS):Bool:=decide (0≤c.av)&&decide (c.av≤1000)&&decide (0≤c.version)&&decide (c.version≤1000000000)&&dU c
def jd:bS:=⟨0,0,⟨[],[]⟩,⟨[cI],[]⟩,[]⟩
theorem pF:bI jd.ar=true:=by
 unfold bI jd;simp only [List.all_nil,Bool.and_true]
 decide +kernel
theorem zT:dU jd=true:=dX.2 ⟨bP.2 ⟨by decide,⟨by decide +kernel,pF,by decide +kernel,by decide +kernel⟩,fun g hg=>by simp [jd] at hg,rfl⟩,fun g hg=>by simp [jd] at hg⟩
theorem rf:cV jd=true:=by unfold cV;rw [zT];rfl
def Xi (w:World) (e:Ending) (w':World):Prop:=∃ b,e=.returned (.agg #[.int .i64 0,.int .i64 0,.slice none 0 0,.slice none 0 0,.slice (some ⟨b,0,none⟩) 1 1,.slice none 0 0,.slice none 0 0])∧ag w w'∧gl w' jd none 0 none 0 (some ⟨b,0,none⟩) 1 none 0 none 0
theorem Th (w:World):Calls Tryz.prog 44 #[] w (Xi w):=by
 have l1:w.heap.size < w.heap.size+1:=by omega
 have l2:w.heap.size < w.heap.size+1+1:=by omega
 go_in
 go_wp2_with fail
 (try simp only [Exit.inBlock,Exit.then])
 have a6:=((ag.refl w).alloc (.cells #[.int .i64 0,.int .i64 0,.slice none 0 0,.slice none 0 0,.slice (some ⟨w.heap.size+1,0,none⟩) 1 1,.slice none 0 0,.slice none 0 0] 32)).alloc (.cells #[.string ⟨#[114,111,111,116]⟩] 9);refine bodyPost_ret (bB (v:=.agg #[.int .i64 0,.int .i64 0,.slice none 0 0,.slice none 0 0,.slice (some ⟨w.heap.size+1,0,none⟩) 1 1,.slice none 0 0,.slice none 0 0]) rfl _ rfl ?hl) rfl ?_
 case hl=>exact l6 (ai.up (aR (ag.refl _) rfl))
 refine ⟨_,rfl,a6,cN,cN,?n,cN,cN⟩
 case n=>exact Gg _ [.string ⟨#[114,111,111,116]⟩] #[.string ⟨#[114,111,111,116]⟩] (by first | (simp;done) | (simp;omega)) (by intro o;(repeat (refine (World.cell?_alloc_past _ _ _ (by first | (simp;done) | (simp;omega))).trans ?_));exact World.cell?_alloc_at _ _ _ _ (by simp)) rfl rfl ⟨rfl,by unfold Small;decide⟩ (by omega)
theorem CM (c:bS) (As:Option Addr) (ax:Nat) (At:Option Addr) (aD:Nat) (An:Option Addr) (aH:Nat) (Am:Option Addr) (aL:Nat) (Ag:Option Addr) (aP:Nat) (w:World) (H:gl w c As ax At aD An aH Am aL Ag aP) :
  Calls Tryz.prog 22 #[.agg #[.int .i64 c.av,.int .i64 c.version,.slice As c.aj.ae.length ax,.slice At c.aj.tables.length aD,.slice An c.ar.names.length aH,.slice Am c.ar.members.length aL,.slice Ag c.ah.length aP]] w fun e w'=>e=.returned (.int .i64 (if cV c=true then 0 else 1))∧ag w w':=by
 obtain ⟨W,hW⟩:∃ W,W=w.alloc (.cells #[.int .i64 c.av,.int .i64 c.version,.slice As c.aj.ae.length ax,.slice At c.aj.tables.length aD,.slice An c.ar.names.length aH,.slice Am c.ar.members.length aL,.slice Ag c.ah.length aP] 32):=⟨_,rfl⟩
 have aW:ag w W:=by rw [hW];exact (ag.refl w).alloc _
 have r0:ai W (w.heap.size) [.int .i64 c.av,.int .i64 c.version,.slice As c.aj.ae.length ax,.slice At c.aj.tables.length aD,.slice An c.ar.names.length aH,.slice Am c.ar.members.length aL,.slice Ag c.ah.length aP]:=by rw [hW];exact aR (ag.refl _) (by simp)
 obtain ⟨b,hb⟩:∃ b,dU c=b:=⟨_,rfl⟩;obtain ⟨rc,tx⟩:∃ b,cV c=b:=⟨_,rfl⟩;obtain ⟨zz,hzz⟩:∃ z:Int,(if cV c=true then (0:Int) else 1)=z:=⟨_,rfl⟩;obtain ⟨z,hz⟩:∃ z:Int,(if dU c=true then (0:Int) else 1)=z:=⟨_,rfl⟩;have C1:=gH (show Calls Tryz.prog 45 #[.agg #[.int .i64 c.av,.int .i64 c.version,.slice As c.aj.ae.length ax,.slice At c.aj.tables.length aD,.slice An c.ar.names.length aH,.slice Am c.ar.members.length aL,.slice Ag c.ah.length aP]] W fun e w''=>e=.returned (.int .i64 z)∧ag W w'' from (OS c As ax At aD An aH Am aL Ag aP W (H.aA aW)).mono fun e w'' ⟨he,hw⟩=>⟨he.trans (by rw [hz]),hw⟩);have mX:=gH (show rc=(decide (0≤c.av)&&decide (c.av≤1000)&&decide (0≤c.version)&&decide (c.version≤1000000000)&&b) by rw [← tx];unfold cV;rw [hb]);have HZ:=gH (show z=if b=true then (0:Int) else 1 from by rw [← hz,hb]);have Ti:=gH (show zz=if rc=true then (0:Int) else 1 from by rw [← hzz,tx]);have cu:=gH aW;obtain ⟨ep,Ee⟩:∃ e,c.av=e:=⟨_,rfl⟩;obtain ⟨ve,Tj⟩:∃ e,c.version=e:=⟨_,rfl⟩;obtain ⟨x0,x1,x2,x3,x4,x5,x6,xz⟩:=j7 r0;rw [hzz];rw [Ee,Tj] at mX C1;rw [Ee] at x0;rw [Tj] at x1;rw [Ee,Tj] at hW;rw [Ee,Tj];clear H aW r0 hb Ee Tj tx hz hzz;by_cases h0:0≤ep
 case neg =>
  have g0:ep < 0:=by omega
  have HR:=gH (show rc=false from by rw [mX.out,decide_eq_false h0];simp);have HW:=gH hW;clear h0 hW
  go_in
  go_wp2;go_ret;exact ⟨by rw [Ti.out,HR.out];rfl,by rw [← HW.out];exact cu.out⟩
 have g0:¬ ep < 0:=by omega
 by_cases h1:ep≤1000
 case neg =>
  have g1:1000 < ep:=by omega
  have HR:=gH (show rc=false from by rw [mX.out,decide_eq_false h1];simp);have HW:=gH hW;clear h1 hW
  go_in
  go_wp2;go_ret;exact ⟨by rw [Ti.out,HR.out];rfl,by rw [← HW.out];exact cu.out⟩
 have g1:¬ 1000 < ep:=by omega
 by_cases h2:0≤ve
 case neg =>
  have g2:ve < 0:=by omega
  have HR:=gH (show rc=false from by rw [mX.out,decide_eq_false h2];simp);have HW:=gH hW;clear h2 hW
  go_in
  go_wp2;go_ret;exact ⟨by rw [Ti.out,HR.out];rfl,by rw [← HW.out];exact cu.out⟩
 have g2:¬ ve < 0:=by omega
 by_cases h3:ve≤1000000000
 case neg =>
  have g3:1000000000 < ve:=by omega
  have HR:=gH (show rc=false from by rw [mX.out,decide_eq_false h3];simp);have HW:=gH hW;clear h3 hW
  go_in
  go_wp2;go_ret;exact ⟨by rw [Ti.out,HR.out];rfl,by rw [← HW.out];exact cu.out⟩
 have g3:¬ 1000000000 < ve:=by omega
 have HR:=gH (show rc=b from by rw [mX.out,decide_eq_true h0,decide_eq_true h1,decide_eq_true h2,decide_eq_true h3];rfl);clear mX
 go_in
 go_wp2_with fail;rw [← hW];clear hW;refine C1.out.mono ?_;rintro e w1 ⟨rfl,a1⟩;have A1:=gH (cu.out.trans a1);clear a1;go_wp2;go_ret;exact ⟨by rw [Ti.out,HR.out,HZ.out];rfl,A1.out⟩
theorem az.kb {α:Type} {P:Nat→Prop} {w w':World} {size:Nat} {R:World→List Value→α→Prop} {A:Option Addr} {cap:Nat} {l:List α} (h:az w size R A cap l) (k:Kb P w w') (hP:∀ b off,A=some ⟨b,off,none⟩→0 < l.length→¬ P b) (hR:∀ cs x,R w cs x→R w' cs x):az w' size R A cap l :=
 ⟨h.1,h.2.1,fun i hi=>by
  obtain ⟨b,off,cs,hA,hb,hl,hr,hc⟩:=h.2.2 i hi;have e:=k.block b hb (hP b off hA (by omega));refine ⟨b,off,cs,hA,Nat.lt_of_lt_of_le hb k.size,hl,hR _ _ hr,fun j hj=>?_⟩;rw [← hc j hj];unfold World.cell?
  simp only [e]⟩
noncomputable def eh (m:fo):Bool:=decide (m.aQ.length≤4)&&decide (m.bp.length≤64)&&nB m.last 0 1000000000&&cV m.cat&&kz iF.aC (xb m.cat.av m.cat.version) m.aQ&&kz eZ.seq (tu m.cat.av m.last) m.bp
structure iJ (w:World) (m:fo) (As:Option Addr) (ax:Nat) (At:Option Addr) (aD:Nat) (An:Option Addr) (aH:Nat) (Am:Option Addr) (aL:Nat) (Ag:Option Addr) (aP:Nat) (Ad:Option Addr) (gv:Nat) (Al:Option Addr) (gw:Nat):Prop where
 cat:gl w m.cat As ax At aD An aH Am aL Ag aP
 GG:az w 5 fj Ad gv m.aQ
 CU:az w 4 fq Al gw m.bp
theorem iJ.aA {w w':World} {m:fo} {As:Option Addr} {ax:Nat} {At:Option Addr} {aD:Nat} {An:Option Addr} {aH:Nat} {Am:Option Addr} {aL:Nat} {Ag:Option Addr} {aP:Nat} {Ad:Option Addr} {gv:Nat} {Al:Option Addr} {gw:Nat} (h:iJ w m As ax At aD An aH Am aL Ag aP Ad gv Al gw) (a:ag w w'):iJ w' m As ax At aD An aH Am aL Ag aP Ad gv Al gw:=⟨h.cat.aA a,ll a h.GG,ln a h.CU⟩
theorem oT {w:World} {p:Nat} {a b c d e f g h i j:Value} (R:ai w p [a,b,c,d,e,f,g,h,i,j]):w.cell? ⟨p,0,none⟩=some a∧w.cell? ⟨p,1,none⟩=some b∧w.cell? ⟨p,2,none⟩=some c∧w.cell? ⟨p,3,none⟩=some d∧w.cell? ⟨p,4,none⟩=some e∧w.cell? ⟨p,5,none⟩=some f∧w.cell? ⟨p,6,none⟩=some g∧w.cell? ⟨p,7,none⟩=some h∧w.cell? ⟨p,8,none⟩=some i∧w.cell? ⟨p,9,none⟩=some j∧p < w.heap.size:=⟨R.cell (j:=0) rfl,R.cell (j:=1) rfl,R.cell (j:=2) rfl,R.cell (j:=3) rfl,R.cell (j:=4) rfl,R.cell (j:=5) rfl,R.cell (j:=6) rfl,R.cell (j:=7) rfl,R.cell (j:=8) rfl,R.cell (j:=9) rfl,R.1⟩
theorem Ef {W:World} {p:Nat} {a b c d e f g h i j:Value} (R:ai W p [a,b,c,d,e,f,g,h,i,j]):(loadVar 36 ⟨p,0,none⟩).run Tryz.prog W=.ok (.agg #[a,b,c,d,e,f,g,h,i,j]) W:=by
 obtain ⟨e0,e1,e2,e3,e4,e5,e6,e7,e8,e9,_⟩:=oT R;have h1:=Eh W p 0 (by rw [e0];rfl) (by rw [e1];rfl) (by rw [e2];rfl) (by rw [e3];rfl) (by rw [e4];rfl) (by rw [e5];rfl) (by rw [e6];rfl) (by rw [e7];rfl) (by rw [e8];rfl) (by rw [e9];rfl);rw [e0,e1,e2,e3,e4,e5,e6,e7,e8,e9] at h1;exact h1
def rh:fo:=⟨jd,[],[],0⟩
theorem ri:eh rh=true:=by unfold eh;rw [show rh.cat=jd from rfl,rf];rfl
def Tk (w:World) (e:Ending) (w':World):Prop:=∃ b,e=.returned (.agg #[.int .i64 0,.int .i64 0,.slice none 0 0,.slice none 0 0,.slice (some ⟨b,0,none⟩) 1 1,.slice none 0 0,.slice none 0 0,.slice none 0 0,.slice none 0 0,.int .i64 0])∧ag w w'∧iJ w' rh none 0 none 0 (some ⟨b,0,none⟩) 1 none 0 none 0 none 0 none 0
theorem Tl (w:World):Calls Tryz.prog 18 #[] w (Tk w):=by
 obtain ⟨W,hW⟩:∃ W,W=w.alloc (.cells #[.int .i64 0,.int .i64 0,.slice none 0 0,.slice none 0 0,.slice none 0 0,.slice none 0 0,.slice none 0 0,.slice none 0 0,.slice none 0 0,.int .i64 0] 36):=⟨_,rfl⟩
 have aW:ag w W:=by rw [hW];exact (ag.refl w).alloc _
 have r0:ai W w.heap.size [.int .i64 0,.int .i64 0,.slice none 0 0,.slice none 0 0,.slice none 0 0,.slice none 0 0,.slice none 0 0,.slice none 0 0,.slice none 0 0,.int .i64 0]:=by rw [hW];exact aN (ag.refl _)
 have HR:=gH r0;have cu:=gH aW;clear r0 aW
 go_in
 go_wp2_with fail;rw [← hW];clear hW;refine (Th _).mono ?_;rintro e w1 ⟨b,rfl,a1,H1⟩;have R1:=HR.out.aA a1;obtain ⟨x0,x1,x2,x3,x4,x5,x6,x7,x8,x9,xz⟩:=oT R1;obtain ⟨f0,f1,f2,f3,f4,f5,f6,f7,f8,f9⟩:=Sa R1;have HH:=gH H1;have HA:=gH (cu.out.trans a1);have ze:=gH R1;clear a1 H1 R1;go_wp2_with fail;obtain ⟨F,hF⟩:∃ F,F=(((((((((w1.setCell ⟨w.heap.size,0,none⟩ (.int .i64 0)).setCell ⟨w.heap.size,1,none⟩ (.int .i64 0)).setCell ⟨w.heap.size,2,none⟩ (.slice none 0 0)).setCell ⟨w.heap.size,3,none⟩ (.slice none 0 0)).setCell ⟨w.heap.size,4,none⟩ (.slice (some ⟨b,0,none⟩) 1 1)).setCell ⟨w.heap.size,5,none⟩ (.slice none 0 0)).setCell ⟨w.heap.size,6,none⟩ (.slice none 0 0)).setCell ⟨w.heap.size,7,none⟩ (.slice none 0 0)).setCell ⟨w.heap.size,8,none⟩ (.slice none 0 0)).setCell ⟨w.heap.size,9,none⟩ (.int .i64 0):=⟨_,rfl⟩
 have kF:Kb (fun g=>g=w.heap.size) w1 F:=by rw [hF];exact (((((((((Kb.set _ _ _ _).trans (Kb.set _ _ _ _)).trans (Kb.set _ _ _ _)).trans (Kb.set _ _ _ _)).trans (Kb.set _ _ _ _)).trans (Kb.set _ _ _ _)).trans (Kb.set _ _ _ _)).trans (Kb.set _ _ _ _)).trans (Kb.set _ _ _ _)).trans (Kb.set _ _ _ _)
 have rF:ai F w.heap.size [.int .i64 0,.int .i64 0,.slice none 0 0,.slice none 0 0,.slice (some ⟨b,0,none⟩) 1 1,.slice none 0 0,.slice none 0 0,.slice none 0 0,.slice none 0 0,.int .i64 0]:=by rw [hF];exact (((((((((ze.out.set 0 _ (by simp)).set 1 _ (by simp)).set 2 _ (by simp)).set 3 _ (by simp)).set 4 _ (by simp)).set 5 _ (by simp)).set 6 _ (by simp)).set 7 _ (by simp)).set 8 _ (by simp)).set 9 _ (by simp)
 rw [← hF];refine bodyPost_ret (bB (v:=.agg #[.int .i64 0,.int .i64 0,.slice none 0 0,.slice none 0 0,.slice (some ⟨b,0,none⟩) 1 1,.slice none 0 0,.slice none 0 0,.slice none 0 0,.slice none 0 0,.int .i64 0]) rfl _ rfl (Ef rF)) rfl ?_;refine ⟨b,rfl,kF.aJ HA.out (fun g hg e=>by have e:g=w.heap.size:=e;omega),⟨⟨cN,cN,HH.out.kw.kb kF (fun b' off e _ h=>?_) (fun _ _ h=>h),cN,cN⟩,cN,cN⟩⟩;simp only [Option.some.injEq,Addr.mk.injEq,and_true] at e;obtain ⟨rfl,rfl⟩:=e;have h:b=w.heap.size:=h;obtain ⟨b',off',hA',_,c0,_⟩:=fB HH.out.kw (show 0 < rh.cat.ar.names.length by decide);simp only [Option.some.injEq,Addr.mk.injEq,and_true] at hA';obtain ⟨rfl,rfl⟩:=hA';subst h;have c1:=ze.out.cell (j:=0) rfl;rw [Nat.add_zero,c1] at c0
 cases c0
theorem vF (m:fo) (As:Option Addr) (ax:Nat) (At:Option Addr) (aD:Nat) (An:Option Addr) (aH:Nat) (Am:Option Addr) (aL:Nat) (Ag:Option Addr) (aP:Nat) (Ad:Option Addr) (gv:Nat) (Al:Option Addr) (gw:Nat) (w:World) (H:iJ w m As ax At aD An aH Am aL Ag aP Ad gv Al gw) :
  Calls Tryz.prog 9 #[.agg #[.int .i64 m.cat.av,.int .i64 m.cat.version,.slice As m.cat.aj.ae.length ax,.slice At m.cat.aj.tables.length aD,.slice An m.cat.ar.names.length aH,.slice Am m.cat.ar.members.length aL,.slice Ag m.cat.ah.length aP,.slice Ad m.aQ.length gv,.slice Al m.bp.length gw,.int .i64 m.last]] w fun e w'=>e=.returned (.int .i64 (if eh m=true then 0 else 1))∧ag w w':=by
 obtain ⟨W,hW⟩:∃ W,W=(w.alloc (.cells #[.int .i64 m.cat.av,.int .i64 m.cat.version,.slice As m.cat.aj.ae.length ax,.slice At m.cat.aj.tables.length aD,.slice An m.cat.ar.names.length aH,.slice Am m.cat.ar.members.length aL,.slice Ag m.cat.ah.length aP,.slice Ad m.aQ.length gv,.slice Al m.bp.length gw,.int .i64 m.last] 36)).alloc (.cells #[.int .i64 m.cat.av,.int .i64 m.cat.version,.slice As m.cat.aj.ae.length ax,.slice At m.cat.aj.tables.length aD,.slice An m.cat.ar.names.length aH,.slice Am m.cat.ar.members.length aL,.slice Ag m.cat.ah.length aP] 32):=⟨_,rfl⟩
 have aW:ag w W:=by rw [hW];exact ((ag.refl w).alloc _).alloc _
 have r0:ai W (w.heap.size) [.int .i64 m.cat.av,.int .i64 m.cat.version,.slice As m.cat.aj.ae.length ax,.slice At m.cat.aj.tables.length aD,.slice An m.cat.ar.names.length aH,.slice Am m.cat.ar.members.length aL,.slice Ag m.cat.ah.length aP,.slice Ad m.aQ.length gv,.slice Al m.bp.length gw,.int .i64 m.last]:=by rw [hW];exact ai.up (aR (ag.refl _) (by simp))
 have r1:ai W (w.heap.size+1) [.int .i64 m.cat.av,.int .i64 m.cat.version,.slice As m.cat.aj.ae.length ax,.slice At m.cat.aj.tables.length aD,.slice An m.cat.ar.names.length aH,.slice Am m.cat.ar.members.length aL,.slice Ag m.cat.ah.length aP]:=by rw [hW];exact aR (ag.refl _) (by simp)
 have hlen:=H.GG.len;have iG:=H.CU.len;have Cx:=enters (P:=Tryz.prog) Tryz.func25 (by kernel_rfl) rfl;have pB:=enters (P:=Tryz.prog) Tryz.func29 (by kernel_rfl) rfl;obtain ⟨b2,hb2⟩:∃ b,nB m.last 0 1000000000=b:=⟨_,rfl⟩;obtain ⟨b3,hb3⟩:∃ b,cV m.cat=b:=⟨_,rfl⟩;obtain ⟨o1,mm⟩:∃ b,kz iF.aC (xb m.cat.av m.cat.version) m.aQ=b:=⟨_,rfl⟩;obtain ⟨o2,FP⟩:∃ b,kz eZ.seq (tu m.cat.av m.last) m.bp=b:=⟨_,rfl⟩;have HR:=gH (show eh m=(decide (m.aQ.length≤4)&&decide (m.bp.length≤64)&&b2&&b3&&o1&&o2) by unfold eh;rw [hb2,hb3,mm,FP]);have C2:=gH (fun V=>hb2▸ic m.last 0 1000000000 V);obtain ⟨z3,hz3⟩:∃ z:Int,(if cV m.cat=true then (0:Int) else 1)=z:=⟨_,rfl⟩;have zv:=gH (show (b3=true∧z3=0)∨(b3=false∧z3=1) from by rw [← hz3,hb3];cases b3<;>simp);have C3:=gH (show Calls Tryz.prog 22 #[.agg #[.int .i64 m.cat.av,.int .i64 m.cat.version,.slice As m.cat.aj.ae.length ax,.slice At m.cat.aj.tables.length aD,.slice An m.cat.ar.names.length aH,.slice Am m.cat.ar.members.length aL,.slice Ag m.cat.ah.length aP]] W fun e w''=>e=.returned (.int .i64 z3)∧ag W w'' from (CM m.cat As ax At aD An aH Am aL Ag aP W (H.cat.aA aW)).mono fun e w'' ⟨he,hw⟩=>⟨he.trans (by rw [hz3]),hw⟩)
 have C4:=gH (show ∀ V,ag W V→Calls Tryz.prog 23 #[.slice Ad m.aQ.length gv,.func (.func 24) #[] #[],.func (.func 25) #[] #[.pointer (some ⟨w.heap.size+1,0,none⟩)]] V fun e w''=>e=.returned (.bool o1)∧ag V w'' from fun V a =>
  mm▸zC Ad gv m.aQ 25 #[.pointer (some ⟨w.heap.size+1,0,none⟩)] (xb m.cat.av m.cat.version) V (ll (aW.trans a) H.GG) Cx (fun V' a' d=>by
   have r:=r1.aA (a.trans a')
   exact SE d (w.heap.size+1) m.cat.av m.cat.version V' r.1 (Nat.lt_succ_of_lt r.1) (r.cell (j:=0) rfl) (r.cell (j:=1) rfl)))
 have C5:=gH (show ∀ V,ag W V→Calls Tryz.prog 27 #[.slice Al m.bp.length gw,.func (.func 28) #[] #[],.func (.func 29) #[] #[.pointer (some ⟨w.heap.size,0,none⟩),.pointer (some ⟨w.heap.size+1,0,none⟩)]] V fun e w''=>e=.returned (.bool o2)∧ag V w'' from fun V a =>
  FP▸zF Al gw m.bp 29 #[.pointer (some ⟨w.heap.size,0,none⟩),.pointer (some ⟨w.heap.size+1,0,none⟩)] (tu m.cat.av m.last) V (ln (aW.trans a) H.CU) pB (fun V' a' d=>by
   have r:=r1.aA (a.trans a');have s:=r0.aA (a.trans a')
   exact SF d w.heap.size (w.heap.size+1) m.cat.av m.last V' r.1 (Nat.lt_succ_of_lt r.1) s.1 (Nat.lt_succ_of_lt s.1) (r.cell (j:=0) rfl) (s.cell (j:=9) rfl)))
 have cu:=gH aW;have Xj:=gH r0;have ZQ:=gH r1;clear hb2 hb3 mm FP hz3 H r0 r1 aW Cx pB;obtain ⟨x0,x1,x2,x3,x4,x5,x6,x7,x8,x9⟩:=Cq Xj.out;have xz:=Xj.out.1;obtain ⟨y0,y1,y2,y3,y4,y5,y6,yz⟩:=j7 ZQ.out;by_cases h0:m.aQ.length≤4
 case neg =>
  have HV:=gH (show (if eh m=true then (0:Int) else 1)=1 by rw [HR.out,decide_eq_false h0];rfl)
  have g0:¬ (m.aQ.length:Int)≤4:=by omega
  rw [HV.out];clear h0
  go_in
  go_wp2_with fail;rw [← hW];clear hW;go_wp2;go_ret;exact ⟨rfl,cu.out⟩
 have g0:(m.aQ.length:Int)≤4:=by omega
 by_cases h1:m.bp.length≤64
 case neg =>
  have HV:=gH (show (if eh m=true then (0:Int) else 1)=1 by rw [HR.out,decide_eq_true h0,decide_eq_false h1];rfl)
  have g1:¬ (m.bp.length:Int)≤64:=by omega
  rw [HV.out];clear h0 h1
  go_in
  go_wp2_with fail;rw [← hW];clear hW;go_wp2;go_ret;exact ⟨rfl,cu.out⟩
 have g1:(m.bp.length:Int)≤64:=by omega
 have HE:=gH (show eh m=(b2&&b3&&o1&&o2) by rw [HR.out,decide_eq_true h0,decide_eq_true h1];rfl);clear h0 h1 HR;obtain ⟨zz,hzz⟩:∃ z:Int,(if eh m=true then (0:Int) else 1)=z:=⟨_,rfl⟩;have HZ:=gH (show zz=if (b2&&b3&&o1&&o2)=true then 0 else 1 from by rw [← hzz,HE.out]);rw [hzz];clear hzz
 go_in
 go_wp2_with fail;rw [← hW];clear hW;go_wp2_with fail;refine (C2.out _).mono ?_;rintro e w9 ⟨rfl,rfl⟩
 cases b2
 case false =>
  go_wp2;go_ret;exact ⟨by rw [HZ.out];rfl,cu.out⟩
 go_wp2_with fail;refine C3.out.mono ?_;rintro e w1 ⟨rfl,a1⟩;clear C3;have ZR:=gH a1;clear x0 x1 x2 x3 x4 x5 x6 x7 x8 x9 xz y0 y1 y2 y3 y4 y5 y6 yz;have Xk:=gH (Xj.out.aA a1);have ZT:=gH (ZQ.out.aA a1);have ZU:=gH (cu.out.trans a1);clear a1;obtain ⟨x0,x1,x2,x3,x4,x5,x6,x7,x8,x9⟩:=Cq Xk.out;have xz:=Xk.out.1;obtain ⟨y0,y1,y2,y3,y4,y5,y6,yz⟩:=j7 ZT.out
 rcases zv.out with ⟨rfl,rfl⟩ | ⟨rfl,rfl⟩
 case inr =>
  go_wp2;go_ret;exact ⟨by rw [HZ.out];rfl,ZU.out⟩
 go_wp2_with fail;refine (C4.out _ ZR.out).mono ?_;rintro e w2 ⟨rfl,a2⟩;have AX2:=gH (ZR.out.trans a2);clear x0 x1 x2 x3 x4 x5 x6 x7 x8 x9 xz y0 y1 y2 y3 y4 y5 y6 yz;have ZV:=gH (Xk.out.aA a2);have By2:=gH (ZT.out.aA a2);have ZW:=gH (ZU.out.trans a2);clear a2;obtain ⟨x0,x1,x2,x3,x4,x5,x6,x7,x8,x9⟩:=Cq ZV.out;have xz:=ZV.out.1;obtain ⟨y0,y1,y2,y3,y4,y5,y6,yz⟩:=j7 By2.out
 cases o1
 case false =>
  go_wp2;go_ret;exact ⟨by rw [HZ.out];rfl,ZW.out⟩
 go_wp2_with fail;refine (C5.out _ AX2.out).mono ?_;rintro e w3 ⟨rfl,a3⟩;have A3:=gH (ZW.out.trans a3);clear a3
 cases o2
 all_goals
  go_wp2;go_ret;exact ⟨by rw [HZ.out];rfl,A3.out⟩
theorem dD.at {w:World} {cs:List Value} {m:fo} (h:dD w cs m):∃ As ax At aD An aH Am aL Ag aP Ad gv Al gw,cs=[.int .i64 m.cat.av,.int .i64 m.cat.version,.slice As m.cat.aj.ae.length ax,.slice At m.cat.aj.tables.length aD,.slice An m.cat.ar.names.length aH,.slice Am m.cat.ar.members.length aL,.slice Ag m.cat.ah.length aP,.slice Ad m.aQ.length gv,.slice Al m.bp.length gw,.int .i64 m.last]∧iJ w m As ax At aD An aH Am aL Ag aP Ad gv Al gw:=by
 obtain ⟨c7,Ad,cd,Al,cl,rfl,⟨As,c1,At,c2,An,c3,Am,c4,Ag,c5,rfl,h1,h2,h3,h4,h5⟩,h6,h7⟩:=h;exact ⟨As,c1,At,c2,An,c3,Am,c4,Ag,c5,Ad,cd,Al,cl,rfl,⟨h1,h2,h3,h4,h5⟩,h6,h7⟩
theorem iJ.w {w:World} {m:fo} {As:Option Addr} {ax:Nat} {At:Option Addr} {aD:Nat} {An:Option Addr} {aH:Nat} {Am:Option Addr} {aL:Nat} {Ag:Option Addr} {aP:Nat} {Ad:Option Addr} {gv:Nat} {Al:Option Addr} {gw:Nat} (h:iJ w m As ax At aD An aH Am aL Ag aP Ad gv Al gw):dD w [.int .i64 m.cat.av,.int .i64 m.cat.version,.slice As m.cat.aj.ae.length ax,.slice At m.cat.aj.tables.length aD,.slice An m.cat.ar.names.length aH,.slice Am m.cat.ar.members.length aL,.slice Ag m.cat.ah.length aP,.slice Ad m.aQ.length gv,.slice Al m.bp.length gw,.int .i64 m.last] m :=
 ⟨_,Ad,gv,Al,gw,rfl,⟨As,ax,At,aD,An,aH,Am,aL,Ag,aP,rfl,h.cat.fS,h.cat.tab,h.cat.kw,h.cat.mem,h.cat.qr⟩,h.GG,h.CU⟩
theorem dD.aA {w w':World} {cs:List Value} {m:fo} (h:dD w cs m) (a:ag w w'):dD w' cs m:=by
 obtain ⟨As,c1,At,c2,An,c3,Am,c4,Ag,c5,Ad,cd,Al,cl,rfl,h9⟩:=h.at
 exact iJ.w (iJ.aA h9 a)
theorem dD.len {w:World} {cs:List Value} {m:fo} (h:dD w cs m):cs.length=10:=by
 obtain ⟨As,c1,At,c2,An,c3,Am,c4,Ag,c5,Ad,cd,Al,cl,rfl,h⟩:=h.at
 rfl
theorem dD.one {w:World} {cs:List Value} {m:fo} (h:dD w cs m):∀ u∈cs,u.oneCell'=true:=by
 obtain ⟨As,c1,At,c2,An,c3,Am,c4,Ag,c5,Ad,cd,Al,cl,rfl,h⟩:=h.at
 simp [Value.oneCell']
theorem tk.down {w W w':World} {l:Bt} {e:Ending} (a:ag w W) (h:tk W l e w'):tk w l e w':=by
 obtain ⟨a2,m,c,rfl,o⟩:=h;exact ⟨a.trans a2,m,c,rfl,bM o a.size⟩
def dJ (B:Nat) (w:World) (cs:List Value) (m:fo):Prop:=∃ S:Nat→Prop,(∀ j,S j→B≤j∧j < w.heap.size)∧fN S dD w cs m
theorem dJ.of {B:Nat} {S:Nat→Prop} {w:World} {cs:List Value} {m:fo} (hS:∀ j,S j→B≤j) (h:fN S dD w cs m):dJ B w cs m :=
 ⟨fun j=>S j∧j < w.heap.size,fun j e=>⟨hS j e.1,e.2⟩,fun V k=>h V (k.mono fun j hj e e'=>e ⟨e',hj⟩)⟩
theorem dJ.w {B:Nat} {w:World} {cs:List Value} {m:fo} (h:dJ B w cs m):dD w cs m:=by
 obtain ⟨S,_,h⟩:=h;exact h w (Kb.refl _ _)
theorem dJ.down {B B':Nat} {w:World} {cs:List Value} {m:fo} (h:dJ B w cs m) (hb:B'≤B):dJ B' w cs m:=by
 obtain ⟨S,hS,h⟩:=h;exact ⟨S,fun j e=>⟨Nat.le_trans hb (hS j e).1,(hS j e).2⟩,h⟩
theorem dJ.kb {B:Nat} {P:Nat→Prop} {w w':World} {cs:List Value} {m:fo} (h:dJ B w cs m) (k:Kb P w w') (hP:∀ j,P j→j < B∨w.heap.size≤j):dJ B w' cs m:=by
 obtain ⟨S,hS,h⟩:=h;exact ⟨S,fun j e=>⟨(hS j e).1,Nat.lt_of_lt_of_le (hS j e).2 k.size⟩,fun V kv=>h V ((k.mono fun j hj e e'=>by have:=hS j e';have:=hP j e;omega).trans kv)⟩
theorem dJ.aA {B:Nat} {w w':World} {cs:List Value} {m:fo} (h:dJ B w cs m) (a:ag w w'):dJ B w' cs m:=h.kb (P:=fun _=>False) (Kb.aO a) fun j e=>e.elim
theorem gG {w:World} {p:Nat} {zs cs:List Value} {m:fo} (r:ai w p zs) (hz:zs.length=10) (h:dD w cs m) :
  (mr ⟨p,0,none⟩ (.agg cs.toArray)).run Tryz.prog w=.ok () (w.setCells p 0 cs)∧ai (w.setCells p 0 cs) p cs∧(jv ⟨p,0,none⟩).run Tryz.prog (w.setCells p 0 cs)=.ok (.agg cs.toArray) (w.setCells p 0 cs)∧Kb (fun g=>g=p) w (w.setCells p 0 cs):=by
 have r2:ai (w.setCells p 0 cs) p cs:=by simpa using eB cs w [] zs r (by rw [h.len,hz])
 exact ⟨ju (T:=36) (k:=10) (by kernel_rfl) r hz h.len h.one,r2,gA (T:=36) Tryz.underlying36 (by kernel_rfl) r2 h.len,cF p cs w 0⟩
theorem GH (x:fo) (cs:List Value) (w:World) (H:dD w cs x) (ok:j5 x) (hl:(gP x).length≤90000000) :
  Calls Tryz.prog 47 #[.agg cs.toArray] w (tk w (gP x)):=by
 obtain ⟨As,c1,At,c2,An,c3,Am,c4,Ag,c5,Ad,cd,Al,cl,rfl,h⟩:=H.at
 obtain ⟨W,hW⟩:∃ W,W=w.alloc (.cells #[.int .i64 x.cat.av,.int .i64 x.cat.version,.slice As x.cat.aj.ae.length c1,.slice At x.cat.aj.tables.length c2,.slice An x.cat.ar.names.length c3,.slice Am x.cat.ar.members.length c4,.slice Ag x.cat.ah.length c5,.slice Ad x.aQ.length cd,.slice Al x.bp.length cl,.int .i64 x.last] 36):=⟨_,rfl⟩
 have aW:ag w W:=by rw [hW];exact (ag.refl w).alloc _
 have r0:ai W w.heap.size [.int .i64 x.cat.av,.int .i64 x.cat.version,.slice As x.cat.aj.ae.length c1,.slice At x.cat.aj.tables.length c2,.slice An x.cat.ar.names.length c3,.slice Am x.cat.ar.members.length c4,.slice Ag x.cat.ah.length c5,.slice Ad x.aQ.length cd,.slice Al x.bp.length cl,.int .i64 x.last]:=by rw [hW];exact aN (ag.refl _)
 have h2:=h.aA aW;have C:=gH (J6 x As c1 At c2 An c3 Am c4 Ag c5 Ad cd Al cl W ok h2.cat.fS h2.cat.tab h2.cat.kw h2.cat.mem h2.cat.qr h2.GG h2.CU hl);have HA:=gH aW;obtain ⟨x0,x1,x2,x3,x4,x5,x6,x7,x8,x9,xz⟩:=oT r0;clear r0 h h2 H aW
 show Calls _ _ #[.agg #[_,_,_,_,_,_,_,_,_,_]] _ _
 go_in
 go_wp2_with fail;rw [← hW];clear hW
 (try go_wp2_with fail)
 refine C.out.mono ?_;rintro e w2 h9;have h9:=tk.down HA.out h9;obtain ⟨a2,p,c,rfl,o⟩:=h9;have HO:=gH (show tk w (gP x) (.returned (.tuple #[.slice (some ⟨p,0,none⟩) (gP x).length c,.int .i64 0])) w2 from ⟨a2,p,c,rfl,o⟩);clear a2 o;go_wp2
 go_ret2
 exact HO.out
theorem GI (l:Bt) (x:fo) (A:Option Addr) (c:Nat) (hl:l.length≤1000000000) (w:World) (hx:az w 1 vt A c l) (hd:mj l=some (x,[])) :
  Calls Tryz.prog 48 #[.slice A l.length c] w fun e w'=>ag w w'∧∃ cs,e=.returned (.tuple #[.agg cs.toArray,.int .i64 0])∧dJ w.heap.size w' cs x:=by
 obtain ⟨W,hW⟩:∃ W,W=w.alloc (.cells cY.toArray 36):=⟨_,rfl⟩
 have aW:ag w W:=by rw [hW];exact (ag.refl w).alloc _
 have zW:W.heap.size=w.heap.size+1:=by rw [hW];simp
 have r0:ai W w.heap.size cY:=by rw [hW];exact aN (ag.refl _)
 have C:=gH (hd▸J7 l A c hl W (hx.aA aW fun _ _ h=>h));have HA:=gH (And.intro aW (And.intro r0 zW))
 delta cY at hW
 clear r0 aW hx zW
 go_in
 go_wp2_with fail;rw [← hW];clear hW
 (try go_wp2_with fail)
 refine C.out.mono ?_;rintro e w2 ⟨a2,S,cs,sn,rfl,hh⟩;obtain ⟨aW,r0,zW⟩:=HA.out;have r2:=r0.aA a2;have hm:dD w2 cs x:=hh w2 (Kb.refl _ _);obtain ⟨s1,r3,s2,kb⟩:=gG r2 rfl hm;have ZY:dJ w.heap.size (w2.setCells w.heap.size 0 cs) cs x:=((dJ.of sn hh).kb kb fun j e=>.inl (by have e:j=_:=e;omega)).down aW.size;have HE:=gH (And.intro (kb.aJ (aW.trans a2) fun g _ e=>by have e:g=_:=e;omega) ZY);have HS2:=gH s2;have f0:=r2.1;clear a2 sn hh r2 hm r3 kb ZY r0 zW s2;go_wp2;refine bodyPost_ret (results_cell_tmp (v:=.agg cs.toArray) rfl _ rfl HS2.out) rfl ?_;exact ⟨HE.out.1,cs,rfl,HE.out.2⟩
def Tm (w:World) (m:fo) (e:Ending) (w':World):Prop:=ag w w'∧∃ cs,e=.returned (.agg cs.toArray)∧dJ w.heap.size w' cs m
theorem Xl (x:fo) (cs:List Value) (w:World) (H:dD w cs x) (ok:j5 x) (hl:(gP x).length≤90000000) :
  Calls Tryz.prog 32 #[.agg cs.toArray] w (Tm w x):=by
 obtain ⟨As,c1,At,c2,An,c3,Am,c4,Ag,c5,Ad,cd,Al,cl,rfl,h⟩:=H.at
 obtain ⟨W,hW⟩:∃ W,W=(w.alloc (.cells #[.int .i64 x.cat.av,.int .i64 x.cat.version,.slice As x.cat.aj.ae.length c1,.slice At x.cat.aj.tables.length c2,.slice An x.cat.ar.names.length c3,.slice Am x.cat.ar.members.length c4,.slice Ag x.cat.ah.length c5,.slice Ad x.aQ.length cd,.slice Al x.bp.length cl,.int .i64 x.last] 36)).alloc (.cells #[.int .i64 0,.int .i64 0,.slice none 0 0,.slice none 0 0,.slice none 0 0,.slice none 0 0,.slice none 0 0,.slice none 0 0,.slice none 0 0,.int .i64 0] 36):=⟨_,rfl⟩
 have aW:ag w W:=by rw [hW];exact ((ag.refl w).alloc _).alloc _
 have zW:W.heap.size=w.heap.size+2:=by rw [hW];simp
 have r0:ai W w.heap.size [.int .i64 x.cat.av,.int .i64 x.cat.version,.slice As x.cat.aj.ae.length c1,.slice At x.cat.aj.tables.length c2,.slice An x.cat.ar.names.length c3,.slice Am x.cat.ar.members.length c4,.slice Ag x.cat.ah.length c5,.slice Ad x.aQ.length cd,.slice Al x.bp.length cl,.int .i64 x.last]:=by rw [hW];exact ai.up (aR (ag.refl _) (by simp))
 have r1:ai W (w.heap.size+1) cY:=by rw [hW];exact aR (ag.refl _) (by simp)
 have C:=gH (show Calls Tryz.prog 47 #[.agg #[.int .i64 x.cat.av,.int .i64 x.cat.version,.slice As x.cat.aj.ae.length c1,.slice At x.cat.aj.tables.length c2,.slice An x.cat.ar.names.length c3,.slice Am x.cat.ar.members.length c4,.slice Ag x.cat.ah.length c5,.slice Ad x.aQ.length cd,.slice Al x.bp.length cl,.int .i64 x.last]] W (tk W (gP x)) from GH x _ W (H.aA aW) ok hl);have HA:=gH (And.intro aW (And.intro r1 zW));obtain ⟨x0,x1,x2,x3,x4,x5,x6,x7,x8,x9,xz⟩:=oT r0;clear r0 h H r1 zW
 show Calls _ _ #[.agg #[_,_,_,_,_,_,_,_,_,_]] _ _
 go_in
 go_wp2_with fail;rw [← hW];clear hW
 (try go_wp2_with fail)
 refine C.out.mono ?_;rintro e w2 ⟨a2,p,c,rfl,o⟩
 have G:=gH (show Calls Tryz.prog 48 #[.slice (some ⟨p,0,none⟩) (gP x).length c] w2 _ from by
  obtain ⟨A9,c9,e9,sl⟩:=wM Ei vt (fun _=>rfl) o (fun _ _=>rfl) (by unfold Small;omega);simp only [Value.slice.injEq,true_and] at e9;obtain ⟨rfl,rfl⟩:=e9
  exact GI (gP x) x _ c (by omega) w2 sl (by have:=O0 x [] ok;rwa [List.append_nil] at this))
 have i5:=gH a2;clear a2 o x0 x1 x2 x3 x4 x5 x6 x7 x8 x9 xz;go_wp2_with fail;refine G.out.mono ?_;rintro e w3 ⟨a3,jN,rfl,m3⟩;obtain ⟨aW,r1,zW⟩:=HA.out;have aZ:=(ag.refl w3).alloc (.cells #[.int .i64 0,.int .i64 0,.slice none 0 0,.slice none 0 0,.slice none 0 0,.slice none 0 0,.slice none 0 0,.slice none 0 0,.slice none 0 0,.int .i64 0] 36);obtain ⟨s1,r3,s2,kb⟩:=gG (aN (w:=w3) (c:=cY) (t:=36) (ag.refl _)) rfl (m3.aA aZ).w;have a23:ag W w3:=i5.out.trans a3;have hs:=a23.size
 have aF:ag W ((w3.alloc (.cells cY.toArray 36)).setCells w3.heap.size 0 jN):=kb.aJ (a23.trans aZ) fun g hg e=>by have e:g=_:=e;omega
 have mF:dJ w2.heap.size ((w3.alloc (.cells cY.toArray 36)).setCells w3.heap.size 0 jN) jN x:=m3.aA (kb.aJ aZ fun g hg e=>by have e:g=_:=e;omega);obtain ⟨s3,r4,s4,JP⟩:=gG (r1.aA aF) rfl mF.w;have HE:=gH (And.intro (JP.aJ (aW.trans aF) fun g hg e=>by have e:g=_:=e;omega) ((mF.kb JP fun j e=>.inl (by have e:j=_:=e;have:=i5.out.size;omega)).down (B':=w.heap.size) (by have:=i5.out.size;omega)));have Q7:=gH s4;unfold cY at s1 s2 s3;clear a3 m3 r1 zW aZ r3 kb a23 hs aF mF r4 s4 JP aW;go_wp2;refine bodyPost_ret (bB (v:=.agg jN.toArray) rfl _ rfl Q7.out) rfl ?_;exact ⟨HE.out.1,jN,rfl,HE.out.2⟩
structure O1 where
 kind:Int
 aK:ByteArray
 af:ByteArray
 table:ByteArray
 name:ByteArray
 role:ByteArray
 A:Option Addr
 n:Nat
 c:Nat
 cE:ByteArray
 cv:Int
 A2:Option Addr
 n2:Nat
 c2:Nat
 low:Int
 high:Int
 rs:ByteArray
 rt:ByteArray
 rk:ByteArray
 right:Int
 opt:Bool
structure sV where
 kind:Int
 aC:Int
 number:Int
 cmd:O1
 node:Int
 ask:Int
 seq:Int
def xx (x:O1):Prop:=(x.aK.size≤140737488351232∧x.af.size≤140737488351232∧x.table.size≤140737488351232∧x.name.size≤140737488351232∧x.role.size≤140737488351232)∧x.cE.size≤140737488351232∧x.rs.size≤140737488351232∧x.rt.size≤140737488351232∧x.rk.size≤140737488351232
def CV (x:O1):Bool:=xA x.cE x.cv x.n2 x.low x.high x.rs x.rt x.rk&&(x.kind==0)&&(emp x.aK&&emp x.af&&emp x.table&&emp x.name&&emp x.role)&&decide (x.n=0)&&(x.right==0)&&!x.opt
def pZ (o:sV):Bool:=(o.aC==0)&&(o.number==0)&&CV o.cmd
def lz (o:sV):Bool :=
 if o.kind=1 then nB o.aC 1 4&&lj o.number&&(o.node==0)&&(o.ask==0)&&(o.seq==0)
 else if o.kind=2 then pZ o&&zA o.node&&lj o.ask&&(o.seq==0)
 else if o.kind=3 then pZ o&&zA o.node&&lj o.seq&&(o.ask==0)
 else if o.kind=4 then pZ o&&lj o.seq&&(o.node==0)&&(o.ask==0)
 else false
theorem Tn (x:O1) (sm:xx x) (w:World):Calls Tryz.prog 60 #[.agg #[.int .i64 x.kind,.string x.aK,.string x.af,.string x.table,.string x.name,.string x.role,.slice x.A x.n x.c,.string x.cE,.int .i64 x.cv,.slice x.A2 x.n2 x.c2,.int .i64 x.low,.int .i64 x.high,.string x.rs,.string x.rt,.string x.rk,.int .i64 x.right,.bool x.opt]] w fun e w'=>e=.returned (.bool (CV x))∧ag w w':=by
 obtain ⟨kind,aK,af,table,name,role,A,n,c,cE,cv,A2,n2,c2,low,high,rs,rt,rk,right,opt⟩:=x;obtain ⟨⟨h1,h2,h3,h4,h5⟩,h6,h7,h8,h9⟩:=sm;simp only at h1 h2 h3 h4 h5 h6 h7 h8 h9 ⊢;have HB:=gH (show CV ⟨kind,aK,af,table,name,role,A,n,c,cE,cv,A2,n2,c2,low,high,rs,rt,rk,right,opt⟩=((decide (n2=0)&&emp cE&&emp rs&&emp rt&&emp rk&&(cv==0)&&(low==0)&&(high==0))&&(kind==0)&&(emp aK&&emp af&&emp table&&emp name&&emp role)&&decide (n=0)&&(right==0)&&!opt) from rfl)
 have e1:w.heap.size < w.heap.size+1:=by omega
 have HA:=gH (show ∀ o1,ag w (w.alloc o1) from fun o1=>(ag.refl _).alloc _);have i5:=gH (show ∀ o1 o2,ag w ((w.alloc o1).alloc o2) from fun o1 o2=>((ag.refl _).alloc _).alloc _)
 go_in
 go_wp2_with fail
 all_goals
  go_ret;refine ⟨Eq.trans (b:=.returned (.bool _)) rfl (dx (cz ?_)),by first | exact i5.out _ _ | exact HA.out _⟩;rw [HB.out];clear HB HA i5
  simp_all [emp,ir]
theorem Ks (o:sV) (sm:xx o.cmd) (w:World):Calls Tryz.prog 46 #[.agg #[.int .i64 o.kind,.int .i64 o.aC,.int .i64 o.number,.int .i64 o.cmd.kind,.string o.cmd.aK,.string o.cmd.af,.string o.cmd.table,.string o.cmd.name,.string o.cmd.role,.slice o.cmd.A o.cmd.n o.cmd.c,.string o.cmd.cE,.int .i64 o.cmd.cv,.slice o.cmd.A2 o.cmd.n2 o.cmd.c2,.int .i64 o.cmd.low,.int .i64 o.cmd.high,.string o.cmd.rs,.string o.cmd.rt,.string o.cmd.rk,.int .i64 o.cmd.right,.bool o.cmd.opt,.int .i64 o.node,.int .i64 o.ask,.int .i64 o.seq]] w fun e w'=>e=.returned (.bool (pZ o))∧ag w w':=by
 obtain ⟨kind,aC,number,cmd,node,ask,seq⟩:=o;simp only at sm ⊢;obtain ⟨b,hb⟩:∃ b,CV cmd=b:=⟨_,rfl⟩;have CB:=gH (fun V=>hb▸Tn cmd sm V);have HR:=gH (show pZ (sV.mk kind aC number cmd node ask seq)=((aC==0)&&(number==0)&&b) by unfold pZ;rw [hb]);have HA:=gH (show ∀ o1,ag w (w.alloc o1) from fun o1=>(ag.refl _).alloc _);clear hb;by_cases h1:aC=0
 case neg =>
  have HV:=gH (show pZ (sV.mk kind aC number cmd node ask seq)=false by rw [HR.out];simp [h1])
  go_in
  go_wp2;go_ret;exact ⟨by rw [HV.out];rfl,HA.out _⟩
 subst h1;by_cases h2:number=0
 case neg =>
  have HV:=gH (show pZ (sV.mk kind 0 number cmd node ask seq)=false by rw [HR.out];simp [h2])
  go_in
  go_wp2;go_ret;exact ⟨by rw [HV.out];rfl,HA.out _⟩
 subst h2;have HV:=gH (show pZ (sV.mk kind 0 0 cmd node ask seq)=b by rw [HR.out];rfl);clear HR
 go_in
 go_wp2_with fail;refine (CB.out _).mono ?_;rintro e w1 ⟨rfl,a1⟩;have A1:=gH ((HA.out _).trans a1);clear a1;go_wp2;go_ret;exact ⟨by rw [HV.out];rfl,A1.out⟩
theorem O3 (o:sV) (sm:xx o.cmd) (w:World):Calls Tryz.prog 31 #[.agg #[.int .i64 o.kind,.int .i64 o.aC,.int .i64 o.number,.int .i64 o.cmd.kind,.string o.cmd.aK,.string o.cmd.af,.string o.cmd.table,.string o.cmd.name,.string o.cmd.role,.slice o.cmd.A o.cmd.n o.cmd.c,.string o.cmd.cE,.int .i64 o.cmd.cv,.slice o.cmd.A2 o.cmd.n2 o.cmd.c2,.int .i64 o.cmd.low,.int .i64 o.cmd.high,.string o.cmd.rs,.string o.cmd.rt,.string o.cmd.rk,.int .i64 o.cmd.right,.bool o.cmd.opt,.int .i64 o.node,.int .i64 o.ask,.int .i64 o.seq]] w fun e w'=>e=.returned (.bool (lz o))∧ag w w':=by
 obtain ⟨kind,aC,number,cmd,node,ask,seq⟩:=o;simp only at sm ⊢;obtain ⟨s,hs⟩:∃ b,pZ (sV.mk kind aC number cmd node ask seq)=b:=⟨_,rfl⟩;obtain ⟨b1,hb1⟩:∃ b,nB aC 1 4=b:=⟨_,rfl⟩;obtain ⟨b2,hb2⟩:∃ b,lj number=b:=⟨_,rfl⟩;obtain ⟨b3,hb3⟩:∃ b,zA node=b:=⟨_,rfl⟩;obtain ⟨b4,hb4⟩:∃ b,lj ask=b:=⟨_,rfl⟩;obtain ⟨b5,Xm⟩:∃ b,lj seq=b:=⟨_,rfl⟩;have C1:=gH (fun V=>hb1▸ic aC 1 4 V);have C2:=gH (fun V=>hb2▸nK number V);have C3:=gH (fun V=>hb3▸Ni node V);have C4:=gH (fun V=>hb4▸nK ask V);have C5:=gH (fun V=>Xm▸nK seq V);have CS:=gH (fun V=>hs▸Ks (sV.mk kind aC number cmd node ask seq) sm V);obtain ⟨r,hr⟩:∃ b,lz (sV.mk kind aC number cmd node ask seq)=b:=⟨_,rfl⟩;have HR:=gH (show r=(if kind=1 then b1&&b2&&(node==0)&&(ask==0)&&(seq==0) else if kind=2 then s&&b3&&b4&&(seq==0) else if kind=3 then s&&b3&&b5&&(ask==0) else if kind=4 then s&&b5&&(node==0)&&(ask==0) else false) by rw [← hr,← hs,← hb1,← hb2,← hb3,← hb4,← Xm];rfl);have HA:=gH (show ∀ o1,ag w (w.alloc o1) from fun o1=>(ag.refl _).alloc _);rw [hr];clear hs hb1 hb2 hb3 hb4 Xm hr;by_cases h1:kind=1
 case pos =>
  subst h1;have HV:=gH (show r=(b1&&b2&&(node==0)&&(ask==0)&&(seq==0)) by rw [HR.out,if_pos rfl]);clear HR
  go_in
  go_wp2_with fail;refine (C1.out _).mono ?_;rintro e w1 ⟨rfl,rfl⟩
  cases b1
  case false =>
   go_wp2;go_ret;exact ⟨by rw [HV.out];first | rfl | simp,HA.out _⟩
  go_wp2_with fail;refine (C2.out _).mono ?_;rintro e w2 ⟨rfl,rfl⟩
  cases b2
  case false =>
   go_wp2;go_ret;exact ⟨by rw [HV.out];first | rfl | simp,HA.out _⟩
  go_wp2_with fail
  all_goals
   go_ret;refine ⟨Eq.trans (b:=.returned (.bool _)) rfl (dx (cz ?_)),HA.out _⟩;rw [HV.out]
   simp_all
 by_cases h2:kind=2
 case pos =>
  subst h2;have HV:=gH (show r=(s&&b3&&b4&&(seq==0)) by rw [HR.out,if_neg (by decide),if_pos rfl]);clear HR
  go_in
  obtain ⟨W,hW⟩:∃ W,W=w.alloc (.cells #[.int .i64 2,.int .i64 aC,.int .i64 number,.int .i64 cmd.kind,.string cmd.aK,.string cmd.af,.string cmd.table,.string cmd.name,.string cmd.role,.slice cmd.A cmd.n cmd.c,.string cmd.cE,.int .i64 cmd.cv,.slice cmd.A2 cmd.n2 cmd.c2,.int .i64 cmd.low,.int .i64 cmd.high,.string cmd.rs,.string cmd.rt,.string cmd.rk,.int .i64 cmd.right,.bool cmd.opt,.int .i64 node,.int .i64 ask,.int .i64 seq] 60):=⟨_,rfl⟩
  have aW:ag w W:=by rw [hW];exact (ag.refl _).alloc _
  have r0:ai W w.heap.size [.int .i64 2,.int .i64 aC,.int .i64 number,.int .i64 cmd.kind,.string cmd.aK,.string cmd.af,.string cmd.table,.string cmd.name,.string cmd.role,.slice cmd.A cmd.n cmd.c,.string cmd.cE,.int .i64 cmd.cv,.slice cmd.A2 cmd.n2 cmd.c2,.int .i64 cmd.low,.int .i64 cmd.high,.string cmd.rs,.string cmd.rt,.string cmd.rk,.int .i64 cmd.right,.bool cmd.opt,.int .i64 node,.int .i64 ask,.int .i64 seq]:=by rw [hW];exact aN (ag.refl _)
  go_wp2_with fail;rw [← hW];clear hW;refine (CS.out _).mono ?_;rintro e w7 ⟨rfl,a7⟩;have A7:=gH (aW.trans a7);have R1:=r0.aA a7;have ZZ:=R1.cell (j:=20) rfl;have Z0:=R1.cell (j:=21) rfl;have Z1:=R1.cell (j:=22) rfl;have xz:=R1.1;clear R1 r0 aW a7
  cases s
  case false =>
   go_wp2;go_ret;exact ⟨by rw [HV.out];first | rfl | simp,A7.out⟩
  go_wp2_with fail;refine (C3.out _).mono ?_;rintro e w3 ⟨rfl,rfl⟩
  cases b3
  case false =>
   go_wp2;go_ret;exact ⟨by rw [HV.out];first | rfl | simp,A7.out⟩
  go_wp2_with fail;refine (C4.out _).mono ?_;rintro e w4 ⟨rfl,rfl⟩
  cases b4
  case false =>
   go_wp2;go_ret;exact ⟨by rw [HV.out];first | rfl | simp,A7.out⟩
  go_wp2_with fail
  all_goals
   go_ret;refine ⟨Eq.trans (b:=.returned (.bool _)) rfl (dx (cz ?_)),A7.out⟩;rw [HV.out]
   simp_all
 by_cases h3:kind=3
 case pos =>
  subst h3;have HV:=gH (show r=(s&&b3&&b5&&(ask==0)) by rw [HR.out,if_neg (by decide),if_neg (by decide),if_pos rfl]);clear HR
  go_in
  obtain ⟨W,hW⟩:∃ W,W=w.alloc (.cells #[.int .i64 3,.int .i64 aC,.int .i64 number,.int .i64 cmd.kind,.string cmd.aK,.string cmd.af,.string cmd.table,.string cmd.name,.string cmd.role,.slice cmd.A cmd.n cmd.c,.string cmd.cE,.int .i64 cmd.cv,.slice cmd.A2 cmd.n2 cmd.c2,.int .i64 cmd.low,.int .i64 cmd.high,.string cmd.rs,.string cmd.rt,.string cmd.rk,.int .i64 cmd.right,.bool cmd.opt,.int .i64 node,.int .i64 ask,.int .i64 seq] 60):=⟨_,rfl⟩
  have aW:ag w W:=by rw [hW];exact (ag.refl _).alloc _
  have r0:ai W w.heap.size [.int .i64 3,.int .i64 aC,.int .i64 number,.int .i64 cmd.kind,.string cmd.aK,.string cmd.af,.string cmd.table,.string cmd.name,.string cmd.role,.slice cmd.A cmd.n cmd.c,.string cmd.cE,.int .i64 cmd.cv,.slice cmd.A2 cmd.n2 cmd.c2,.int .i64 cmd.low,.int .i64 cmd.high,.string cmd.rs,.string cmd.rt,.string cmd.rk,.int .i64 cmd.right,.bool cmd.opt,.int .i64 node,.int .i64 ask,.int .i64 seq]:=by rw [hW];exact aN (ag.refl _)
  go_wp2_with fail;rw [← hW];clear hW;refine (CS.out _).mono ?_;rintro e w7 ⟨rfl,a7⟩;have A7:=gH (aW.trans a7);have R1:=r0.aA a7;have ZZ:=R1.cell (j:=20) rfl;have Z0:=R1.cell (j:=21) rfl;have Z1:=R1.cell (j:=22) rfl;have xz:=R1.1;clear R1 r0 aW a7
  cases s
  case false =>
   go_wp2;go_ret;exact ⟨by rw [HV.out];first | rfl | simp,A7.out⟩
  go_wp2_with fail;refine (C3.out _).mono ?_;rintro e w3 ⟨rfl,rfl⟩
  cases b3
  case false =>
   go_wp2;go_ret;exact ⟨by rw [HV.out];first | rfl | simp,A7.out⟩
  go_wp2_with fail;refine (C5.out _).mono ?_;rintro e w5 ⟨rfl,rfl⟩
  cases b5
  case false =>
   go_wp2;go_ret;exact ⟨by rw [HV.out];first | rfl | simp,A7.out⟩
  go_wp2_with fail
  all_goals
   go_ret;refine ⟨Eq.trans (b:=.returned (.bool _)) rfl (dx (cz ?_)),A7.out⟩;rw [HV.out]
   simp_all
 by_cases h4:kind=4
 case pos =>
  subst h4;have HV:=gH (show r=(s&&b5&&(node==0)&&(ask==0)) by rw [HR.out,if_neg (by decide),if_neg (by decide),if_neg (by decide),if_pos rfl]);clear HR
  go_in
  obtain ⟨W,hW⟩:∃ W,W=w.alloc (.cells #[.int .i64 4,.int .i64 aC,.int .i64 number,.int .i64 cmd.kind,.string cmd.aK,.string cmd.af,.string cmd.table,.string cmd.name,.string cmd.role,.slice cmd.A cmd.n cmd.c,.string cmd.cE,.int .i64 cmd.cv,.slice cmd.A2 cmd.n2 cmd.c2,.int .i64 cmd.low,.int .i64 cmd.high,.string cmd.rs,.string cmd.rt,.string cmd.rk,.int .i64 cmd.right,.bool cmd.opt,.int .i64 node,.int .i64 ask,.int .i64 seq] 60):=⟨_,rfl⟩
  have aW:ag w W:=by rw [hW];exact (ag.refl _).alloc _
  have r0:ai W w.heap.size [.int .i64 4,.int .i64 aC,.int .i64 number,.int .i64 cmd.kind,.string cmd.aK,.string cmd.af,.string cmd.table,.string cmd.name,.string cmd.role,.slice cmd.A cmd.n cmd.c,.string cmd.cE,.int .i64 cmd.cv,.slice cmd.A2 cmd.n2 cmd.c2,.int .i64 cmd.low,.int .i64 cmd.high,.string cmd.rs,.string cmd.rt,.string cmd.rk,.int .i64 cmd.right,.bool cmd.opt,.int .i64 node,.int .i64 ask,.int .i64 seq]:=by rw [hW];exact aN (ag.refl _)
  go_wp2_with fail;rw [← hW];clear hW;refine (CS.out _).mono ?_;rintro e w7 ⟨rfl,a7⟩;have A7:=gH (aW.trans a7);have R1:=r0.aA a7;have ZZ:=R1.cell (j:=20) rfl;have Z0:=R1.cell (j:=21) rfl;have Z1:=R1.cell (j:=22) rfl;have xz:=R1.1;clear R1 r0 aW a7
  cases s
  case false =>
   go_wp2;go_ret;exact ⟨by rw [HV.out];first | rfl | simp,A7.out⟩
  go_wp2_with fail;refine (C5.out _).mono ?_;rintro e w5 ⟨rfl,rfl⟩
  cases b5
  case false =>
   go_wp2;go_ret;exact ⟨by rw [HV.out];first | rfl | simp,A7.out⟩
  go_wp2_with fail
  all_goals
   go_ret;refine ⟨Eq.trans (b:=.returned (.bool _)) rfl (dx (cz ?_)),A7.out⟩;rw [HV.out]
   simp_all
 have HV:=gH (show r=false by rw [HR.out,if_neg h1,if_neg h2,if_neg h3,if_neg h4]);clear HR
 go_in
 go_wp2;go_ret;exact ⟨by rw [HV.out];first | rfl | simp,HA.out _⟩
def uS (k:Int):Bool:=k==1 || k==2 || k==3 || k==4 || k==5 || k==6 || k==7 || k==8 || k==9 || k==14 || k==15
def uT (k:Int):Bool:=k==3 || k==4 || k==5 || k==6 || k==7 || k==8 || k==9 || k==14 || k==15
def uN (k:Int):Bool:=k==6 || k==8 || k==12 || k==13
def uR (k:Int):Bool:=k==9 || k==10 || k==11 || k==12 || k==13 || k==14 || k==15
def GJ (k:Int):Bool:=decide (1≤k)&&decide (k≤15)
theorem kinds (k:Int) (h:GJ k=true):k=1∨k=2∨k=3∨k=4∨k=5∨k=6∨k=7∨k=8∨k=9∨k=10∨k=11∨k=12∨k=13∨k=14∨k=15:=by
 simp [GJ] at h;omega
theorem Tp (k:Int) (h:GJ k=false):(k==1)=false∧(k==2)=false∧(k==3)=false∧(k==4)=false∧(k==5)=false∧(k==6)=false∧(k==7)=false∧(k==8)=false∧(k==9)=false∧(k==10)=false∧(k==11)=false∧(k==12)=false∧(k==13)=false∧(k==14)=false∧(k==15)=false:=by
 simp [GJ] at h;simp;omega
theorem Kt (k:Int) (h:GJ k=false):uS k=false∧uT k=false∧uN k=false∧uR k=false:=by
 obtain ⟨h1,h2,h3,h4,h5,h6,h7,h8,h9,h10,h11,Co,Cp,FE,FH⟩:=Tp k h;simp [uS,uT,uN,uR,h1,h2,h3,h4,h5,h6,h7,h8,h9,h10,h11,Co,Cp,FE,FH]
theorem GK (k:Int) (aK af table name role:ByteArray) (vc:Value) (r0 r1 r2 r3 r4 r5 r6 r7:Value) (right opt:Value) (w:World) :
  Calls Tryz.prog 106 #[.agg #[.int .i64 k,.string aK,.string af,.string table,.string name,.string role,vc,r0,r1,r2,r3,r4,r5,r6,r7,right,opt]] w
   fun e w'=>e=.returned (.tuple #[.agg #[.string af,.string table,.string name,.string role],.agg #[.bool (uS k),.bool (uT k),.bool (uN k),.bool (uR k)],.bool (GJ k)])∧ag w w':=by
 cases hk:GJ k
 ·obtain ⟨u1,u2,u3,u4⟩:=Kt k hk
  have H:=gH (And.intro u1 (And.intro u2 (And.intro u3 u4)));clear u1 u2 u3 u4;obtain ⟨h1,h2,h3,h4,h5,h6,h7,h8,h9,h10,h11,Co,Cp,FE,FH⟩:=Tp k hk;clear hk
  go_in
  go_wp2_with fail;obtain ⟨u1,u2,u3,u4⟩:=H.out;refine bodyPost_ret (v:=.tuple #[.agg #[.string af,.string table,.string name,.string role],.agg #[.bool false,.bool false,.bool false,.bool false],.bool false]) (by simp [results,Tryz.results106,go_sem]) rfl ⟨by rw [u1,u2,u3,u4],?_⟩
  repeat (first | exact ag.refl _ | apply ag.alloc | apply ag.bV | apply ag.drew | apply ag.drewN)
 ·have hk2:=kinds k hk
  clear hk
  rcases hk2 with rfl | rfl | rfl | rfl | rfl | rfl | rfl | rfl | rfl | rfl | rfl | rfl | rfl | rfl | rfl
  all_goals
   go_in
   go_wp2;refine bodyPost_ret (v:=.tuple #[.agg #[.string af,.string table,.string name,.string role],.agg #[.bool _,.bool _,.bool _,.bool _],.bool true]) (by simp [results,Tryz.results106,go_sem];decide) rfl ⟨rfl,?_⟩
   repeat (first | exact ag.refl _ | apply ag.alloc | apply ag.bV | apply ag.drew | apply ag.drewN)
def em (u:Bool) (s:ByteArray):Bool:=if u then bG s else emp s
theorem Ej (s:ByteArray) (h:emp s=true):bG s=false:=by
 unfold emp at h;rw [isEmpty_iff] at h;simp [bG];intro h0;simp at h;subst h;simp at h0
def xB (k:Int) (n:Nat) (bare:Bool) (right:Int) (opt:Bool):Bool :=
 if k==3 then bare&&right==0&&!opt
 else if k==5 then bare&&right==0&&!opt&&((n:Int)==1)
 else if k==7 then n==0&&right==0&&!opt
 else if k==14 || k==15 then (right==1 || right==2)&&bare&&n==0&&(k==14 || !opt)
 else bare&&n==0&&right==0&&!opt
def Ek (k:Int) (aK af table name role:ByteArray) (n:Nat) (bare:Bool) (right:Int) (opt:Bool):Bool :=
 GJ k&&bG aK&&em (uS k) af&&em (uT k) table&&em (uN k) name&&em (uR k) role&&xB k n bare right opt
theorem jx (b:Bool) (s:ByteArray):(b=true∧s.toList.isEmpty=true∧s.toList=[]∧em b s=false)∨(b=true∧s.toList.isEmpty=false∧(¬ s.toList=[])∧bG s=false∧em b s=false) ∨
  (b=true∧s.toList.isEmpty=false∧(¬ s.toList=[])∧bG s=true∧em b s=true)∨(b=false∧s.toList.isEmpty=true∧s.toList=[]∧em b s=true)∨(b=false∧s.toList.isEmpty=false∧(¬ s.toList=[])∧em b s=false):=by
 have hne:=Ej s;unfold emp at hne
 cases b<;>cases he:s.toList.isEmpty<;>simp_all [em,emp]
theorem Ku (k:Int) (aK af table name role:ByteArray) (A:Option Addr) (n c:Nat) (cE:ByteArray) (cv:Int) (A2:Option Addr) (n2 c2:Nat) (low high:Int) (rs rt rk:ByteArray) (right:Int) (opt:Bool) (w:World) (b0 b1 b2 b3 ok bb:Bool)
  (ha:aK.size≤maxLen) (hs:af.size≤maxLen) (ht:table.size≤maxLen) (hn:name.size≤maxLen) (hr:role.size≤maxLen)
  (tZ:Hid (∀ w,Calls Tryz.prog 106 #[.agg #[.int .i64 k,.string aK,.string af,.string table,.string name,.string role,.slice A n c,.string cE,.int .i64 cv,.slice A2 n2 c2,.int .i64 low,.int .i64 high,.string rs,.string rt,.string rk,.int .i64 right,.bool opt]] w fun e w'=>e=.returned (.tuple #[.agg #[.string af,.string table,.string name,.string role],.agg #[.bool b0,.bool b1,.bool b2,.bool b3],.bool ok])∧ag w w'))
  (CX:Hid (∀ w,Calls Tryz.prog 108 #[.agg #[.string cE,.int .i64 cv,.slice A2 n2 c2,.int .i64 low,.int .i64 high,.string rs,.string rt,.string rk]] w fun e w'=>e=.returned (.bool bb)∧ag w w')) (hK:ok=false) :
  Calls Tryz.prog 68 #[.agg #[.int .i64 k,.string aK,.string af,.string table,.string name,.string role,.slice A n c,.string cE,.int .i64 cv,.slice A2 n2 c2,.int .i64 low,.int .i64 high,.string rs,.string rt,.string rk,.int .i64 right,.bool opt]] w fun e w'=>e=.returned (.bool (false))∧ag w w':=by
 go_in
 go_wp2_with (first | (go_at_call 106;refine (tZ.out _).mono ?_;rintro e w1 ⟨rfl,kS⟩;obtain ⟨jr,_,hz,sW,HA⟩:=cT kS;clear kS))
 go_ret;refine ⟨rfl,?_⟩
 repeat (first | exact HA.out | apply ag.alloc | apply ag.bV | apply ag.drew | apply ag.drewN)
theorem Kv (k:Int) (aK af table name role:ByteArray) (A:Option Addr) (n c:Nat) (cE:ByteArray) (cv:Int) (A2:Option Addr) (n2 c2:Nat) (low high:Int) (rs rt rk:ByteArray) (right:Int) (opt:Bool) (w:World) (b0 b1 b2 b3 ok bb:Bool)
  (ha:aK.size≤maxLen) (hs:af.size≤maxLen) (ht:table.size≤maxLen) (hn:name.size≤maxLen) (hr:role.size≤maxLen)
  (tZ:Hid (∀ w,Calls Tryz.prog 106 #[.agg #[.int .i64 k,.string aK,.string af,.string table,.string name,.string role,.slice A n c,.string cE,.int .i64 cv,.slice A2 n2 c2,.int .i64 low,.int .i64 high,.string rs,.string rt,.string rk,.int .i64 right,.bool opt]] w fun e w'=>e=.returned (.tuple #[.agg #[.string af,.string table,.string name,.string role],.agg #[.bool b0,.bool b1,.bool b2,.bool b3],.bool ok])∧ag w w'))
  (CX:Hid (∀ w,Calls Tryz.prog 108 #[.agg #[.string cE,.int .i64 cv,.slice A2 n2 c2,.int .i64 low,.int .i64 high,.string rs,.string rt,.string rk]] w fun e w'=>e=.returned (.bool bb)∧ag w w')) (hK:ok=true) (hA:bG aK=false) :
  Calls Tryz.prog 68 #[.agg #[.int .i64 k,.string aK,.string af,.string table,.string name,.string role,.slice A n c,.string cE,.int .i64 cv,.slice A2 n2 c2,.int .i64 low,.int .i64 high,.string rs,.string rt,.string rk,.int .i64 right,.bool opt]] w fun e w'=>e=.returned (.bool (false))∧ag w w':=by
 go_in
 go_wp2_with (first | (go_at_call 106;refine (tZ.out _).mono ?_;rintro e w1 ⟨rfl,kS⟩;obtain ⟨jr,_,hz,sW,HA⟩:=cT kS;clear kS) | (go_at_call 107;refine (bZ _ _ (by assumption)).mono ?_;rintro e w' ⟨rfl,rfl⟩))
 go_ret;refine ⟨rfl,?_⟩
 repeat (first | exact HA.out | apply ag.alloc | apply ag.bV | apply ag.drew | apply ag.drewN)
theorem Kw (k:Int) (aK af table name role:ByteArray) (A:Option Addr) (n c:Nat) (cE:ByteArray) (cv:Int) (A2:Option Addr) (n2 c2:Nat) (low high:Int) (rs rt rk:ByteArray) (right:Int) (opt:Bool) (w:World) (b0 b1 b2 b3 ok bb:Bool)
  (ha:aK.size≤maxLen) (hs:af.size≤maxLen) (ht:table.size≤maxLen) (hn:name.size≤maxLen) (hr:role.size≤maxLen)
  (tZ:Hid (∀ w,Calls Tryz.prog 106 #[.agg #[.int .i64 k,.string aK,.string af,.string table,.string name,.string role,.slice A n c,.string cE,.int .i64 cv,.slice A2 n2 c2,.int .i64 low,.int .i64 high,.string rs,.string rt,.string rk,.int .i64 right,.bool opt]] w fun e w'=>e=.returned (.tuple #[.agg #[.string af,.string table,.string name,.string role],.agg #[.bool b0,.bool b1,.bool b2,.bool b3],.bool ok])∧ag w w'))
  (CX:Hid (∀ w,Calls Tryz.prog 108 #[.agg #[.string cE,.int .i64 cv,.slice A2 n2 c2,.int .i64 low,.int .i64 high,.string rs,.string rt,.string rk]] w fun e w'=>e=.returned (.bool bb)∧ag w w')) (hK:ok=true) (hA:bG aK=true) :
  Calls Tryz.prog 68 #[.agg #[.int .i64 k,.string aK,.string af,.string table,.string name,.string role,.slice A n c,.string cE,.int .i64 cv,.slice A2 n2 c2,.int .i64 low,.int .i64 high,.string rs,.string rt,.string rk,.int .i64 right,.bool opt]] w fun e w'=>e=.returned (.bool (em b0 af&&em b1 table&&em b2 name&&em b3 role&&xB k n bb right opt))∧ag w w':=by
 have i0:∀ w,(Instr.index 150 (.agg #[.string af,.string table,.string name,.string role]) (.int .i64 0)).run Tryz.prog w=.ok (.string af) w:=fun _=>by kernel_rfl
 have i1:∀ w,(Instr.index 150 (.agg #[.string af,.string table,.string name,.string role]) (.int .i64 1)).run Tryz.prog w=.ok (.string table) w:=fun _=>by kernel_rfl
 have i2:∀ w,(Instr.index 150 (.agg #[.string af,.string table,.string name,.string role]) (.int .i64 2)).run Tryz.prog w=.ok (.string name) w:=fun _=>by kernel_rfl
 have i3:∀ w,(Instr.index 150 (.agg #[.string af,.string table,.string name,.string role]) (.int .i64 3)).run Tryz.prog w=.ok (.string role) w:=fun _=>by kernel_rfl
 go_in
 go_wp2_with (first | (go_at_call 106;refine (tZ.out _).mono ?_;rintro e w1 ⟨rfl,kS⟩;obtain ⟨jr,p9,hz,sW,HA⟩:=cT kS;have mJ:=gH kS;clear kS) | (go_at_call 107;refine (bZ _ _ (by assumption)).mono ?_;rintro e w' ⟨rfl,rfl⟩))
 go_loop [24] (fun i=>∃ j:Nat,j≤4∧i=.int .i64 j∧(1≤j→em b0 af=true)∧(2≤j→em b1 table=true)∧(3≤j→em b2 name=true)∧(4≤j→em b3 role=true)) (fun i=>4 - (intOf i).toNat)
 case atStart=>exact ⟨0,by omega,rfl,by omega,by omega,by omega,by omega⟩
 case round =>
  obtain ⟨j,hj,rfl,hf⟩:=hrel;have HF:=gH hf;clear hf
  have qp:j=0∨j=1∨j=2∨j=3∨j=4:=by omega
  clear hj
  rcases qp with rfl | rfl | rfl | rfl | rfl
  ·rcases jx b0 af with ⟨hb,e1,e2,hx⟩ | ⟨hb,e1,e2,hN,hx⟩ | ⟨hb,e1,e2,hN,hx⟩ | ⟨hb,e1,e2,hx⟩ | ⟨hb,e1,e2,hx⟩
   all_goals
    subst hb;have HX:=gH hx;clear hx
    go_wp2_with (first | (go_at_call 107;refine (bZ _ _ (by assumption)).mono ?_;rintro e w' ⟨rfl,rfl⟩))
   ·go_ret
    exact ⟨by rw [HX.out];simp,by repeat (first | exact HA.out | apply ag.alloc)⟩
   ·go_ret
    exact ⟨by rw [HX.out];simp,by repeat (first | exact HA.out | apply ag.alloc)⟩
   ·go_round
    case rel=>exact ⟨1,by omega,rfl,fun _=>HX.out,fun h=>absurd h (by omega),fun h=>absurd h (by omega),fun h=>absurd h (by omega)⟩
    case measure=>simp [intOf]
   ·go_round
    case rel=>exact ⟨1,by omega,rfl,fun _=>HX.out,fun h=>absurd h (by omega),fun h=>absurd h (by omega),fun h=>absurd h (by omega)⟩
    case measure=>simp [intOf]
   ·go_ret
    exact ⟨by rw [HX.out];simp,by repeat (first | exact HA.out | apply ag.alloc)⟩
  ·rcases jx b1 table with ⟨hb,e1,e2,hx⟩ | ⟨hb,e1,e2,hN,hx⟩ | ⟨hb,e1,e2,hN,hx⟩ | ⟨hb,e1,e2,hx⟩ | ⟨hb,e1,e2,hx⟩
   all_goals
    subst hb;have HX:=gH hx;clear hx
    go_wp2_with (first | (go_at_call 107;refine (bZ _ _ (by assumption)).mono ?_;rintro e w' ⟨rfl,rfl⟩))
   ·go_ret
    exact ⟨by rw [HX.out];simp,by repeat (first | exact HA.out | apply ag.alloc)⟩
   ·go_ret
    exact ⟨by rw [HX.out];simp,by repeat (first | exact HA.out | apply ag.alloc)⟩
   ·go_round
    case rel=>exact ⟨2,by omega,rfl,fun _=>HF.out.1 (by omega),fun _=>HX.out,fun h=>absurd h (by omega),fun h=>absurd h (by omega)⟩
    case measure=>simp [intOf]
   ·go_round
    case rel=>exact ⟨2,by omega,rfl,fun _=>HF.out.1 (by omega),fun _=>HX.out,fun h=>absurd h (by omega),fun h=>absurd h (by omega)⟩
    case measure=>simp [intOf]
   ·go_ret
    exact ⟨by rw [HX.out];simp,by repeat (first | exact HA.out | apply ag.alloc)⟩
  ·rcases jx b2 name with ⟨hb,e1,e2,hx⟩ | ⟨hb,e1,e2,hN,hx⟩ | ⟨hb,e1,e2,hN,hx⟩ | ⟨hb,e1,e2,hx⟩ | ⟨hb,e1,e2,hx⟩
   all_goals
    subst hb;have HX:=gH hx;clear hx
    go_wp2_with (first | (go_at_call 107;refine (bZ _ _ (by assumption)).mono ?_;rintro e w' ⟨rfl,rfl⟩))
   ·go_ret
    exact ⟨by rw [HX.out];simp,by repeat (first | exact HA.out | apply ag.alloc)⟩
   ·go_ret
    exact ⟨by rw [HX.out];simp,by repeat (first | exact HA.out | apply ag.alloc)⟩
   ·go_round
    case rel=>exact ⟨3,by omega,rfl,fun _=>HF.out.1 (by omega),fun _=>HF.out.2.1 (by omega),fun _=>HX.out,fun h=>absurd h (by omega)⟩
    case measure=>simp [intOf]
   ·go_round
    case rel=>exact ⟨3,by omega,rfl,fun _=>HF.out.1 (by omega),fun _=>HF.out.2.1 (by omega),fun _=>HX.out,fun h=>absurd h (by omega)⟩
    case measure=>simp [intOf]
   ·go_ret
    exact ⟨by rw [HX.out];simp,by repeat (first | exact HA.out | apply ag.alloc)⟩
  ·rcases jx b3 role with ⟨hb,e1,e2,hx⟩ | ⟨hb,e1,e2,hN,hx⟩ | ⟨hb,e1,e2,hN,hx⟩ | ⟨hb,e1,e2,hx⟩ | ⟨hb,e1,e2,hx⟩
   all_goals
    subst hb;have HX:=gH hx;clear hx
    go_wp2_with (first | (go_at_call 107;refine (bZ _ _ (by assumption)).mono ?_;rintro e w' ⟨rfl,rfl⟩))
   ·go_ret
    exact ⟨by rw [HX.out];simp,by repeat (first | exact HA.out | apply ag.alloc)⟩
   ·go_ret
    exact ⟨by rw [HX.out];simp,by repeat (first | exact HA.out | apply ag.alloc)⟩
   ·go_round
    case rel=>exact ⟨4,by omega,rfl,fun _=>HF.out.1 (by omega),fun _=>HF.out.2.1 (by omega),fun _=>HF.out.2.2.1 (by omega),fun _=>HX.out⟩
    case measure=>simp [intOf]
   ·go_round
    case rel=>exact ⟨4,by omega,rfl,fun _=>HF.out.1 (by omega),fun _=>HF.out.2.1 (by omega),fun _=>HF.out.2.2.1 (by omega),fun _=>HX.out⟩
    case measure=>simp [intOf]
   ·go_ret
    exact ⟨by rw [HX.out];simp,by repeat (first | exact HA.out | apply ag.alloc)⟩
  ·clear i0 i1 i2 i3
   go_wp2_with (first | (go_at_call 108;refine (CX.out _).mono ?_;rintro e w2 ⟨rfl,kS⟩;obtain ⟨Tq,Xn,hz2,Xo,i5⟩:=cT (((mJ.out.alloc _).alloc _).trans kS);clear kS jr p9 hz sW))
   all_goals
    go_ret;refine ⟨Eq.trans (b:=.returned (.bool _)) rfl (dx (cz ?_)),?_⟩
    ·rw [HF.out.1 (by omega),HF.out.2.1 (by omega),HF.out.2.2.1 (by omega),HF.out.2.2.2 (by omega)]
     clear HF HA mJ tZ CX
     simp_all [xB]
    ·repeat (first | exact HA.out | exact i5.out | apply ag.alloc)
theorem vG (k:Int) (aK af table name role:ByteArray) (A:Option Addr) (n c:Nat) (cE:ByteArray) (cv:Int) (A2:Option Addr) (n2 c2:Nat) (low high:Int) (rs rt rk:ByteArray) (right:Int) (opt:Bool) (w:World)
  (ha:aK.size≤maxLen) (hs:af.size≤maxLen) (ht:table.size≤maxLen) (hn:name.size≤maxLen) (hr:role.size≤maxLen)
  (h1:cE.size≤140737488351232) (h2:rs.size≤140737488351232) (h3:rt.size≤140737488351232) (h4:rk.size≤140737488351232) :
  Calls Tryz.prog 68 #[.agg #[.int .i64 k,.string aK,.string af,.string table,.string name,.string role,.slice A n c,.string cE,.int .i64 cv,.slice A2 n2 c2,.int .i64 low,.int .i64 high,.string rs,.string rt,.string rk,.int .i64 right,.bool opt]] w
   fun e w'=>e=.returned (.bool (Ek k aK af table name role n (xA cE cv n2 low high rs rt rk) right opt))∧ag w w':=by
 have hu:=gH (fun w=>GK k aK af table name role (.slice A n c) (.string cE) (.int .i64 cv) (.slice A2 n2 c2) (.int .i64 low) (.int .i64 high) (.string rs) (.string rt) (.string rk) (.int .i64 right) (.bool opt) w);have hb:=gH (fun w=>GL cE cv A2 n2 c2 low high rs rt rk w h1 h2 h3 h4)
 cases hK:GJ k
 ·refine (Ku k aK af table name role A n c cE cv A2 n2 c2 low high rs rt rk right opt w _ _ _ _ _ _ ha hs ht hn hr hu hb hK).mono ?_
  rintro e w' ⟨rfl,h⟩;exact ⟨by simp [Ek,hK],h⟩
 ·cases hN:bG aK
  ·refine (Kv k aK af table name role A n c cE cv A2 n2 c2 low high rs rt rk right opt w _ _ _ _ _ _ ha hs ht hn hr hu hb hK hN).mono ?_
   rintro e w' ⟨rfl,h⟩;exact ⟨by simp [Ek,hN],h⟩
  ·refine (Kw k aK af table name role A n c cE cv A2 n2 c2 low high rs rt rk right opt w _ _ _ _ _ _ ha hs ht hn hr hu hb hK hN).mono ?_
   rintro e w' ⟨rfl,h⟩;exact ⟨by simp [Ek,hK,hN],h⟩
def ua (s:ByteArray) (u:Bool):Bool:=if u then bG s else emp s
theorem CZ (k:Int) (aK af table name role:ByteArray) (n:Nat) (bb:Bool) (right:Int) (opt:Bool) :
  Ek k aK af table name role n bb right opt=(GJ k&&bG aK&&ua af (uS k)&&ua table (uT k)&&ua name (uN k)&&ua role (uR k)&&xB k n bb right opt):=rfl
def nS (k cv:Int):Bool:=k==2 || k==4 || k==6 || k==9 || k==11 || k==13 || k==15 || (k==7&&cv != 1)
theorem rj (k:Int) (aK af table name role:ByteArray) (A:Option Addr) (n c:Nat) (cE:ByteArray) (cv:Int) (A2:Option Addr) (n2 c2:Nat) (low high:Int) (rs rt rk:ByteArray) (right:Int) (opt:Bool) (w:World) :
  Calls Tryz.prog 76 #[.agg #[.int .i64 k,.string aK,.string af,.string table,.string name,.string role,.slice A n c,.string cE,.int .i64 cv,.slice A2 n2 c2,.int .i64 low,.int .i64 high,.string rs,.string rt,.string rk,.int .i64 right,.bool opt]] w fun e w'=>e=.returned (.bool (nS k cv))∧ag w w':=by
 go_in
 go_wp2_with fail
 all_goals
  go_ret;refine ⟨Eq.trans (b:=.returned (.bool _)) rfl (dx (cz ?_)),?_⟩
  ·simp_all [nS]
  ·repeat (first | exact ag.refl _ | apply ag.alloc)
theorem xC (k:Int) (aK af table name role:ByteArray) (A:Option Addr) (n c:Nat) (cE:ByteArray) (cv:Int) (A2:Option Addr) (n2 c2:Nat) (low high:Int) (rs rt rk:ByteArray) (right:Int) (opt:Bool) (w:World) (m:Bool) (zU:Hid (∀ w,Calls Tryz.prog 68 #[.agg #[.int .i64 k,.string aK,.string af,.string table,.string name,.string role,.slice A n c,.string cE,.int .i64 cv,.slice A2 n2 c2,.int .i64 low,.int .i64 high,.string rs,.string rt,.string rk,.int .i64 right,.bool opt]] w fun e w'=>e=.returned (.bool m)∧ag w w')) :
  Calls Tryz.prog 50 #[.agg #[.int .i64 k,.string aK,.string af,.string table,.string name,.string role,.slice A n c,.string cE,.int .i64 cv,.slice A2 n2 c2,.int .i64 low,.int .i64 high,.string rs,.string rt,.string rk,.int .i64 right,.bool opt]] w fun e w'=>e=.returned (.bool (m&&nS k cv))∧ag w w':=by
 have Xp:=gH (fun w=>rj k aK af table name role A n c cE cv A2 n2 c2 low high rs rt rk right opt w)
 cases m
 all_goals
  go_in
  go_wp2_with (first | (go_at_call 68;refine (zU.out _).mono ?_;rintro e w1 ⟨rfl,kS⟩;obtain ⟨jr,p9,hz,sW,HA⟩:=cT kS;clear kS) | (go_at_call 76;refine (Xp.out _).mono ?_;rintro e w2 ⟨rfl,Nu⟩;have i5:=gH (HA.out.trans Nu);clear Nu))
  go_ret;refine ⟨Eq.trans (b:=.returned (.bool _)) rfl (dx (cz ?_)),?_⟩
  ·simp
  ·repeat (first | exact i5.out | exact HA.out | apply ag.alloc)
end Go.Proofs.YtakddkhipelmjaaGreat
