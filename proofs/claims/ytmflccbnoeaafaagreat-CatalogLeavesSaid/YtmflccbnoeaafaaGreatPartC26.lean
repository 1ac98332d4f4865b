import Derived.Deep.Cut
import Derived.Test.YtmflccbnoeaafaaGreatPartC25
namespace Go.Proofs.YtmflccbnoeaafaaGreat
open Go.RowKit Go.Deep
set_option maxRecDepth 100000
set_option linter.unusedVariables false
set_option maxHeartbeats 64000000
theorem nM (c:bW) (As:Option Addr) (ar:Nat) (At:Option Addr) (ax:Nat) (An:Option Addr) (aI:Nat) (Am:Option Addr) (aK:Nat) (Ag:Option Addr) (aS:Nat) (x:eW) (A6:Option Addr) (c6:Nat) (A9:Option Addr) (c9:Nat) (w:World) (H:eH w c As ar At ax An aI Am aK Ag aS) (XA:kM w x A6 c6 A9 c9) :
  Calls Tryz.prog 7 #[.agg #[.int .i64 c.aA,.int .i64 c.version,.slice As c.ai.ae.length ar,.slice At c.ai.tables.length ax,.slice An c.aj.names.length aI,.slice Am c.aj.members.length aK,.slice Ag c.af.length aS],.agg #[.int .i64 x.kind,.string x.aJ,.string x.aa,.string x.table,.string x.name,.string x.role,.slice A6 x.ak.length c6,.string x.rule.name,.int .i64 x.rule.kind,.slice A9 x.rule.ak.length c9,.int .i64 x.rule.low,.int .i64 x.rule.high,.string x.rule.aa,.string x.rule.table,.string x.rule.key,.int .i64 x.right,.bool x.opt]] w (pg w (cV c x)):=by
 have l1:w.heap.size < w.heap.size+1:=by omega
 have l2:w.heap.size < w.heap.size+1+1:=by omega
 have l3:w.heap.size < w.heap.size+1+1+1:=by omega
 have hmf:∀ (fn:Fn) (first cap:Array Value) (w:World),(Instr.makeFunc fn first cap).run Tryz.prog w=.ok (.func fn first cap) w:=fun _ _ _ _=>rfl
 have bR:=enters (P:=Tryz.prog) Tryz.func20 (by kernel_rfl) rfl;obtain ⟨W,hW⟩:∃ W,W=(((w.alloc (.cells #[.int .i64 c.aA,.int .i64 c.version,.slice As c.ai.ae.length ar,.slice At c.ai.tables.length ax,.slice An c.aj.names.length aI,.slice Am c.aj.members.length aK,.slice Ag c.af.length aS] 32)).alloc (.cells #[.int .i64 x.kind,.string x.aJ,.string x.aa,.string x.table,.string x.name,.string x.role,.slice A6 x.ak.length c6,.string x.rule.name,.int .i64 x.rule.kind,.slice A9 x.rule.ak.length c9,.int .i64 x.rule.low,.int .i64 x.rule.high,.string x.rule.aa,.string x.rule.table,.string x.rule.key,.int .i64 x.right,.bool x.opt] 40)).alloc (.cells #[.int .i64 0,.int .i64 0,.slice none 0 0,.slice none 0 0,.slice none 0 0,.slice none 0 0,.slice none 0 0] 32)).alloc (.cells #[.int .i64 0] 43):=⟨_,rfl⟩
 have aW:ag w W:=by rw [hW];exact ((((ag.refl w).alloc _).alloc _).alloc _).alloc _
 have r0:ap W (w.heap.size) [.int .i64 c.aA,.int .i64 c.version,.slice As c.ai.ae.length ar,.slice At c.ai.tables.length ax,.slice An c.aj.names.length aI,.slice Am c.aj.members.length aK,.slice Ag c.af.length aS]:=by rw [hW];exact ap.up (ap.up (ap.up (bv (ag.refl _) (by simp))))
 have r1:ap W (w.heap.size+1) [.int .i64 x.kind,.string x.aJ,.string x.aa,.string x.table,.string x.name,.string x.role,.slice A6 x.ak.length c6,.string x.rule.name,.int .i64 x.rule.kind,.slice A9 x.rule.ak.length c9,.int .i64 x.rule.low,.int .i64 x.rule.high,.string x.rule.aa,.string x.rule.table,.string x.rule.key,.int .i64 x.right,.bool x.opt]:=by rw [hW];exact ap.up (ap.up (bv (ag.refl _) (by simp)))
 have r2:ap W (w.heap.size+1+1) [.int .i64 0,.int .i64 0,.slice none 0 0,.slice none 0 0,.slice none 0 0,.slice none 0 0,.slice none 0 0]:=by rw [hW];exact ap.up (bv (ag.refl _) (by simp))
 have r3:ap W (w.heap.size+1+1+1) [.int .i64 0]:=by rw [hW];exact bv (ag.refl _) (by simp)
 have zW:W.heap.size=w.heap.size+4:=by rw [hW];simp
 have HX:=gH XA;have HH:=gH H;have nU:=gH H.sm;have br:=gH aW;have HR:=gH (And.intro r0 (And.intro r1 (And.intro r2 r3)));have lc:=gH zW
 have PM:=gH (show ∀ (k:Int) (V:World) (tmps:Array Value),ag W V→tmps.getD 4 undef=.pointer (some ⟨w.heap.size+1+1,0,none⟩)→tmps.getD 5 undef=.pointer (some ⟨w.heap.size+1+1+1,0,none⟩)→cV c x=(lH,k)→Leaves Tryz.prog Tryz.f7 tmps (pg w (cV c x)) [{ target:=Target.fn (Fn.func 14) #[.pointer (some ⟨w.heap.size+1+1,0,none⟩),.pointer (some ⟨w.heap.size+1+1+1,0,none⟩)],args:=#[] }] (.panicking [{ v:=.iface 55 (.agg #[.int .i64 k]),recovered:=false }]) V from
  fun k V tmps a h4 h5 he=>vF h4 h5 (r2.az a) rfl (r3.az a) (by omega) (fun w' kb=>by rw [he];exact iG (kb.aZ (aW.trans a) (fun g hg e=>by omega))))
 obtain ⟨e1,Ro⟩:∃ e1,(if eu c=true then (0:Int) else 1)=e1:=⟨_,rfl⟩
 have NJ:=gH (show (e1=0→eu c=true)∧(e1≠0→dC c x=e1) from by
  cases hq:eu c
  ·rw [hq,if_neg (by decide)] at Ro
   subst Ro;exact ⟨fun h=>absurd h (by decide),fun _=>XG hq⟩
  ·rw [hq,if_pos rfl] at Ro
   subst Ro
   exact ⟨fun _=>rfl,fun h=>absurd rfl h⟩)
 have C1:=gH (Ro▸su c As ar At ax An aI Am aK Ag aS W (H.az aW));obtain ⟨m2,ux⟩:∃ m,fF x=m:=⟨_,rfl⟩;have C2:=gH (show ∀ V,Calls Tryz.prog 17 #[.agg #[.int .i64 x.kind,.string x.aJ,.string x.aa,.string x.table,.string x.name,.string x.role,.slice A6 x.ak.length c6,.string x.rule.name,.int .i64 x.rule.kind,.slice A9 x.rule.ak.length c9,.int .i64 x.rule.low,.int .i64 x.rule.high,.string x.rule.aa,.string x.rule.table,.string x.rule.key,.int .i64 x.right,.bool x.opt]] V fun e w'=>e=.returned (.bool m2)∧ag V w' from fun V=>ux▸nG x.kind x.aJ x.aa x.table x.name x.role A6 x.ak.length c6 x.rule.name x.rule.kind A9 x.rule.ak.length c9 x.rule.low x.rule.high x.rule.aa x.rule.table x.rule.key x.right x.opt V XA.s1.max XA.s2.max XA.s3.max XA.s4.max XA.s5.max XA.t1 XA.t2 XA.t3 XA.t4);obtain ⟨i3,Kq⟩:∃ b,dQ c.aj.names x.aJ=b:=⟨_,rfl⟩;have C3:=gH (show ∀ V,ag W V→Calls Tryz.prog 18 #[.slice An c.aj.names.length aI,.string x.aJ] V fun e w''=>e=.returned (.bool i3)∧V=w'' from fun V a=>Kq▸fY An aI c.aj.names x.aJ V (aM (aW.trans a) H.fK));obtain ⟨i4,T7⟩:∃ b,decide (0≤cE c.ai.ae x.aa)=b:=⟨_,rfl⟩
 have C4:=gH (show ∀ V,ag W V→Calls Tryz.prog 19 #[.slice As c.ai.ae.length ar,.func (.func 20) #[] #[.pointer (some ⟨w.heap.size+1,0,none⟩)]] V fun e w''=>e=.returned (.bool i4)∧ag V w'' from fun V a=>T7▸Mc c.ai.ae x.aa▸DT As ar c.ai.ae _ _ (fun z=>bk z.name x.aa) V (bm (aW.trans a) H.gQ) bR (fun w' a2 j hj=>by
  have p:=r1.az (a.trans a2)
  exact LP _ _ x.aa _ w' p.1 (p.cell (j:=2) rfl)))
 obtain ⟨⟨f0,f5⟩,NM⟩:∃ F,rj c.ai x.aa x.table=F:=⟨_,rfl⟩;have C5:=gH (show ∀ V,ag W V→Calls Tryz.prog 21 #[.agg #[.slice As c.ai.ae.length ar,.slice At c.ai.tables.length ax],.string x.aa,.string x.table] V (G1 V (f0,f5)) from fun V a=>NM▸Dq c.ai As ar At ax x.aa x.table V (bm (aW.trans a) H.gQ) (aQ (aW.trans a) H.tab))
 have XL:=gH (show eu c=true→(f5=0→0≤bj c.ai.tables x.aa x.table)∧(f5≠0→f5=61∧bj c.ai.tables x.aa x.table < 0) from fun hq=>by
  have gA:=(bO.1 (cZ.1 (ic.1 hq).2.2).1).2.1.1;by_cases ht:bj c.ai.tables x.aa x.table < 0
  ·rw [sM gA ht] at NM
   have e:(61:Int)=f5:=congrArg Prod.snd NM;subst e;exact ⟨fun h=>absurd h (by decide),fun _=>⟨rfl,ht⟩⟩
  ·obtain ⟨n,hn⟩:∃ n:Nat,bj c.ai.tables x.aa x.table=n:=⟨_,(Int.toNat_of_nonneg (Int.not_lt.1 ht)).symm⟩
   have hr:=(bg (fun t:cu=>bk t.aa x.aa&&bk t.name x.table) c.ai.tables).2
   have hl:n < c.ai.tables.length:=by unfold bj at hn;omega
   rw [oK gA hn hl] at NM;have e:(0:Int)=f5:=congrArg Prod.snd NM;subst e
   exact ⟨fun _=>Int.not_lt.1 ht,fun h=>absurd rfl h⟩)
 obtain ⟨a6,XM⟩:∃ b,gB c x=b:=⟨_,rfl⟩;have C6:=gH (show ∀ V,ag W V→(xN x.kind=1→0≤cE c.ai.ae x.aa)→Calls Tryz.prog 22 #[.agg #[.int .i64 c.aA,.int .i64 c.version,.slice As c.ai.ae.length ar,.slice At c.ai.tables.length ax,.slice An c.aj.names.length aI,.slice Am c.aj.members.length aK,.slice Ag c.af.length aS],.agg #[.int .i64 x.kind,.string x.aJ,.string x.aa,.string x.table,.string x.name,.string x.role,.slice A6 x.ak.length c6,.string x.rule.name,.int .i64 x.rule.kind,.slice A9 x.rule.ak.length c9,.int .i64 x.rule.low,.int .i64 x.rule.high,.string x.rule.aa,.string x.rule.table,.string x.rule.key,.int .i64 x.right,.bool x.opt]] V fun e w'=>e=.returned (.bool a6)∧ag V w' from fun V a h=>XM▸FU c As ar At ax An aI Am aK Ag aS x A6 x.ak.length c6 A9 x.rule.ak.length c9 V (H.az (aW.trans a)) XA.s1 h);obtain ⟨fe,Cy⟩:∃ b,cD x=b:=⟨_,rfl⟩;have C7:=gH (show ∀ V,Calls Tryz.prog 25 #[.agg #[.int .i64 x.kind,.string x.aJ,.string x.aa,.string x.table,.string x.name,.string x.role,.slice A6 x.ak.length c6,.string x.rule.name,.int .i64 x.rule.kind,.slice A9 x.rule.ak.length c9,.int .i64 x.rule.low,.int .i64 x.rule.high,.string x.rule.aa,.string x.rule.table,.string x.rule.key,.int .i64 x.right,.bool x.opt]] V fun e w'=>e=.returned (.bool fe)∧ag V w' from fun V=>Cy▸tk x.kind x.aJ x.aa x.table x.name x.role A6 x.ak.length c6 x.rule.name x.rule.kind A9 x.rule.ak.length c9 x.rule.low x.rule.high x.rule.aa x.rule.table x.rule.key x.right x.opt V)
 have HM:=gH (And.intro ux (And.intro Kq (And.intro T7 (And.intro XM Cy))));have x0:=r0.cell (j:=0) rfl;have x1:=r0.cell (j:=1) rfl;have x2:=r0.cell (j:=2) rfl;have x3:=r0.cell (j:=3) rfl;have x4:=r0.cell (j:=4) rfl;have x5:=r0.cell (j:=5) rfl;have x6:=r0.cell (j:=6) rfl;have y0:=r1.cell (j:=0) rfl;have y1:=r1.cell (j:=1) rfl;have y2:=r1.cell (j:=2) rfl;have y3:=r1.cell (j:=3) rfl;have y4:=r1.cell (j:=4) rfl;have y5:=r1.cell (j:=5) rfl;have y6:=r1.cell (j:=6) rfl;have y7:=r1.cell (j:=7) rfl;have y8:=r1.cell (j:=8) rfl;have y9:=r1.cell (j:=9) rfl;have jq:=r1.cell (j:=10) rfl;have jS:=r1.cell (j:=11) rfl;have jT:=r1.cell (j:=12) rfl;have jU:=r1.cell (j:=13) rfl;have jV:=r1.cell (j:=14) rfl;have jw:=r1.cell (j:=15) rfl;have jx:=r1.cell (j:=16) rfl;have z0:=r0.1;have z1:=r1.1;clear H XA r0 r1 r2 r3 aW zW Ro ux Kq T7 NM XM Cy bR
 go_enter_defers Tryz.func7,Tryz.ntmps7
 go_wp2_with fail;rw [← hW];clear hW;refine C1.out.mono ?_;rintro e w1 ⟨rfl,a1⟩;have cG:=gH a1;clear a1;clear x0 x1 x2 x3 x4 x5 x6 y0 y1 y2 y3 y4 y5 y6 y7 y8 y9 jq jS jT jU jV jw jx z0 z1;have p0:=HR.out.1.az cG.out;have p1:=HR.out.2.1.az cG.out;have z0:=p0.1;have z1:=p1.1;have x0:=p0.cell (j:=0) rfl;have x1:=p0.cell (j:=1) rfl;have x2:=p0.cell (j:=2) rfl;have x3:=p0.cell (j:=3) rfl;have x4:=p0.cell (j:=4) rfl;have x5:=p0.cell (j:=5) rfl;have x6:=p0.cell (j:=6) rfl;have y0:=p1.cell (j:=0) rfl;have y1:=p1.cell (j:=1) rfl;have y2:=p1.cell (j:=2) rfl;have y3:=p1.cell (j:=3) rfl;have y4:=p1.cell (j:=4) rfl;have y5:=p1.cell (j:=5) rfl;have y6:=p1.cell (j:=6) rfl;have y7:=p1.cell (j:=7) rfl;have y8:=p1.cell (j:=8) rfl;have y9:=p1.cell (j:=9) rfl;have jq:=p1.cell (j:=10) rfl;have jS:=p1.cell (j:=11) rfl;have jT:=p1.cell (j:=12) rfl;have jU:=p1.cell (j:=13) rfl;have jV:=p1.cell (j:=14) rfl;have jw:=p1.cell (j:=15) rfl;have jx:=p1.cell (j:=16) rfl;clear p0 p1;by_cases h1:e1≠0
 ·go_wp2_with fail
  refine (ja e1 h1 _).mono ?_;rintro e w9 ⟨he,rfl⟩;unfold js at he;subst he;exact PM.out _ _ _ cG.out rfl rfl (qT (NJ.out.2 h1) h1)
 obtain rfl:e1=0:=by omega
 clear h1;go_wp2_with fail;refine (fH _).mono ?_;rintro e w9 ⟨rfl,rfl⟩;have EG:=gH (show eu c=true from by first | exact NJ.out.1 rfl | exact NJ.out.1 trivial);clear NJ C1;go_wp2_with fail;refine (C2.out _).mono ?_;rintro e w2 ⟨rfl,a2⟩;have fx:=gH (cG.out.trans a2);clear a2;clear x0 x1 x2 x3 x4 x5 x6 y0 y1 y2 y3 y4 y5 y6 y7 y8 y9 jq jS jT jU jV jw jx z0 z1;have p0:=HR.out.1.az fx.out;have p1:=HR.out.2.1.az fx.out;have z0:=p0.1;have z1:=p1.1;have x0:=p0.cell (j:=0) rfl;have x1:=p0.cell (j:=1) rfl;have x2:=p0.cell (j:=2) rfl;have x3:=p0.cell (j:=3) rfl;have x4:=p0.cell (j:=4) rfl;have x5:=p0.cell (j:=5) rfl;have x6:=p0.cell (j:=6) rfl;have y0:=p1.cell (j:=0) rfl;have y1:=p1.cell (j:=1) rfl;have y2:=p1.cell (j:=2) rfl;have y3:=p1.cell (j:=3) rfl;have y4:=p1.cell (j:=4) rfl;have y5:=p1.cell (j:=5) rfl;have y6:=p1.cell (j:=6) rfl;have y7:=p1.cell (j:=7) rfl;have y8:=p1.cell (j:=8) rfl;have y9:=p1.cell (j:=9) rfl;have jq:=p1.cell (j:=10) rfl;have jS:=p1.cell (j:=11) rfl;have jT:=p1.cell (j:=12) rfl;have jU:=p1.cell (j:=13) rfl;have jV:=p1.cell (j:=14) rfl;have jw:=p1.cell (j:=15) rfl;have jx:=p1.cell (j:=16) rfl;clear p0 p1;clear cG
 cases m2
 ·go_wp2_with fail
  refine (lv 90 _).mono ?_;rintro e w9 ⟨he,rfl⟩;unfold js at he;subst he;exact PM.out _ _ _ fx.out rfl rfl (qT (XH EG.out HM.out.1) (by decide))
 go_wp2_with fail;refine (ou 90 _).mono ?_;rintro e w9 ⟨rfl,rfl⟩;go_wp2_with fail;refine (C3.out _ fx.out).mono ?_;rintro e w3 ⟨rfl,rfl⟩
 cases i3
 ·go_wp2_with fail
  refine (lv 71 _).mono ?_;rintro e w9 ⟨he,rfl⟩;unfold js at he;subst he;exact PM.out _ _ _ fx.out rfl rfl (qT (XI EG.out HM.out.1 HM.out.2.1) (by decide))
 go_wp2_with fail;refine (ou 71 _).mono ?_;rintro e w9 ⟨rfl,rfl⟩;obtain ⟨es,hes⟩:∃ b,emp x.aa=b:=⟨_,rfl⟩;obtain ⟨k1,oF⟩:∃ b,(x.kind != 1)=b:=⟨_,rfl⟩;obtain ⟨et,het⟩:∃ b,emp x.table=b:=⟨_,rfl⟩;obtain ⟨k3,hk3⟩:∃ b,(x.kind != 3)=b:=⟨_,rfl⟩;have D8:=gH (And.intro hes (And.intro oF (And.intro het hk3)));clear hes oF het hk3
 go_upto_region 5 with fail
 go_cut [29] from 22 (fun s wx=>s=.bool (!es&&k1)∧wx=w2)
 case first =>
  have hq1:=D8.out.2.1
  cases es
  all_goals
   have LX:(x.aa.toList=[])=(x.aa.toList.isEmpty=true):=by simp
   rw [show x.aa.toList.isEmpty=_ from D8.out.1] at LX;simp only [Bool.false_eq_true,if_true,eq_iff_iff,iff_true,iff_false] at LX
   cases k1
   all_goals
    go_wp2_with fail
    go_meet
    case rel=>first | exact ⟨rfl,rfl⟩ | exact ⟨by rw [show x.aa.toList.isEmpty=_ from D8.out.1];rfl,rfl⟩
 case rest =>
 obtain ⟨rfl,rfl⟩:=hcut;obtain ⟨t5,XN⟩:∃ b,(!es&&k1)=b:=⟨_,rfl⟩;rw [XN];have ZF:=gH XN;clear XN
 go_upto_if 29 with fail
 go_cut [] from 22 (fun wx=>ag W wx∧(t5=true→i4=true))
 case first =>
  cases t5
  ·go_wp2_with fail
   go_meet
   case rel=>exact ⟨fx.out,fun h=>absurd h (by decide)⟩
  ·go_wp2_with fail
   refine (C4.out _ fx.out).mono ?_;rintro e w4 ⟨rfl,a4⟩;have jr:=gH (fx.out.trans a4);clear a4
   cases i4
   ·go_wp2_with fail
    refine (lv 61 _).mono ?_;rintro e w9 ⟨he,rfl⟩;unfold js at he;subst he
    exact PM.out _ _ _ jr.out rfl rfl (qT (XJ EG.out HM.out.1 HM.out.2.1 (by
     have e5:=ZF.out;simp only [Bool.and_eq_true,Bool.not_eq_true'] at e5;refine ⟨by rw [D8.out.1];exact e5.1,?_,?_⟩
     ·have:=D8.out.2.1;rw [e5.2] at this;simpa using this
     ·have:=HM.out.2.2.1;simp at this;omega)) (by decide))
   ·go_wp2_with fail
    refine (ou 61 _).mono ?_;rintro e w9 ⟨rfl,rfl⟩;go_wp2_with fail
    go_meet
    case rel=>exact ⟨jr.out,fun _=>(by first | rfl | trivial)⟩
 case rest =>
 obtain ⟨a5,T8⟩:=hcut;have qD:=gH a5
 have VF:=gH (show ¬ (emp x.aa=false∧x.kind≠1∧cE c.ai.ae x.aa < 0) from fun ⟨q1,q2,q3⟩=>by
  have q4:es=false:=by rw [← D8.out.1];exact q1
  have q5:k1=true:=by rw [← D8.out.2.1];simpa using q2
  have q6:t5=true:=by rw [← ZF.out,q4,q5];rfl
  have q7:=HM.out.2.2.1.trans (T8 q6);simp at q7
  omega)
 clear a5 T8;clear x0 x1 x2 x3 x4 x5 x6 y0 y1 y2 y3 y4 y5 y6 y7 y8 y9 jq jS jT jU jV jw jx z0 z1;have p0:=HR.out.1.az qD.out;have p1:=HR.out.2.1.az qD.out;have z0:=p0.1;have z1:=p1.1;have x0:=p0.cell (j:=0) rfl;have x1:=p0.cell (j:=1) rfl;have x2:=p0.cell (j:=2) rfl;have x3:=p0.cell (j:=3) rfl;have x4:=p0.cell (j:=4) rfl;have x5:=p0.cell (j:=5) rfl;have x6:=p0.cell (j:=6) rfl;have y0:=p1.cell (j:=0) rfl;have y1:=p1.cell (j:=1) rfl;have y2:=p1.cell (j:=2) rfl;have y3:=p1.cell (j:=3) rfl;have y4:=p1.cell (j:=4) rfl;have y5:=p1.cell (j:=5) rfl;have y6:=p1.cell (j:=6) rfl;have y7:=p1.cell (j:=7) rfl;have y8:=p1.cell (j:=8) rfl;have y9:=p1.cell (j:=9) rfl;have jq:=p1.cell (j:=10) rfl;have jS:=p1.cell (j:=11) rfl;have jT:=p1.cell (j:=12) rfl;have jU:=p1.cell (j:=13) rfl;have jV:=p1.cell (j:=14) rfl;have jw:=p1.cell (j:=15) rfl;have jx:=p1.cell (j:=16) rfl;clear p0 p1;clear fx
 go_upto_region 7 with fail
 go_cut [43] from 22 (fun s wx=>s=.bool (!et&&k3)∧ag W wx)
 case first =>
  have hq3:=D8.out.2.2.2
  cases et
  all_goals
   have LX:(x.table.toList=[])=(x.table.toList.isEmpty=true):=by simp
   rw [show x.table.toList.isEmpty=_ from D8.out.2.2.1] at LX;simp only [Bool.false_eq_true,if_true,eq_iff_iff,iff_true,iff_false] at LX
   cases k3
   all_goals
    go_wp2_with fail
    go_meet
    case rel=>first | exact ⟨rfl,qD.out⟩ | exact ⟨by rw [show x.table.toList.isEmpty=_ from D8.out.2.2.1];rfl,qD.out⟩
 case rest =>
 obtain ⟨rfl,a7⟩:=hcut;have sA:=gH a7;clear a7;clear x0 x1 x2 x3 x4 x5 x6 y0 y1 y2 y3 y4 y5 y6 y7 y8 y9 jq jS jT jU jV jw jx z0 z1;have p0:=HR.out.1.az sA.out;have p1:=HR.out.2.1.az sA.out;have z0:=p0.1;have z1:=p1.1;have x0:=p0.cell (j:=0) rfl;have x1:=p0.cell (j:=1) rfl;have x2:=p0.cell (j:=2) rfl;have x3:=p0.cell (j:=3) rfl;have x4:=p0.cell (j:=4) rfl;have x5:=p0.cell (j:=5) rfl;have x6:=p0.cell (j:=6) rfl;have y0:=p1.cell (j:=0) rfl;have y1:=p1.cell (j:=1) rfl;have y2:=p1.cell (j:=2) rfl;have y3:=p1.cell (j:=3) rfl;have y4:=p1.cell (j:=4) rfl;have y5:=p1.cell (j:=5) rfl;have y6:=p1.cell (j:=6) rfl;have y7:=p1.cell (j:=7) rfl;have y8:=p1.cell (j:=8) rfl;have y9:=p1.cell (j:=9) rfl;have jq:=p1.cell (j:=10) rfl;have jS:=p1.cell (j:=11) rfl;have jT:=p1.cell (j:=12) rfl;have jU:=p1.cell (j:=13) rfl;have jV:=p1.cell (j:=14) rfl;have jw:=p1.cell (j:=15) rfl;have jx:=p1.cell (j:=16) rfl;clear p0 p1;clear qD;obtain ⟨t7,XO⟩:∃ b,(!et&&k3)=b:=⟨_,rfl⟩;rw [XO];have ZG:=gH XO;clear XO
 go_upto_if 43 with fail
 go_cut [] from 22 (fun wx=>ag W wx∧(t7=true→f5=0))
 case first =>
  cases t7
  ·go_wp2_with fail
   go_meet
   case rel=>exact ⟨sA.out,fun h=>absurd h (by decide)⟩
  ·go_wp2_with fail
   refine (C5.out _ sA.out).mono ?_;rintro e w6 ⟨X,hX,rfl,a8,-,-⟩;have ZH:=gH (sA.out.trans a8);clear a8 hX;by_cases h5:f5=0
   ·subst h5
    go_wp2_with fail;refine (fH _).mono ?_;rintro e w9 ⟨rfl,rfl⟩;go_wp2_with fail
    go_meet
    case rel=>exact ⟨ZH.out.alloc _,fun _=>(by first | rfl | trivial)⟩
   ·go_wp2_with fail
    refine (ja f5 h5 _).mono ?_;rintro e w9 ⟨he,rfl⟩;unfold js at he;subst he
    exact PM.out _ _ _ (ZH.out.alloc _) rfl rfl (by
     obtain ⟨e6,h6⟩:=(XL.out EG.out).2 h5;rw [e6];have e7:=ZG.out;simp only [Bool.and_eq_true,Bool.not_eq_true'] at e7
     exact qT (XK EG.out HM.out.1 HM.out.2.1 VF.out ⟨by rw [D8.out.2.2.1];exact e7.1,by have:=D8.out.2.2.2;rw [e7.2] at this;simpa using this,h6⟩) (by decide))
 case rest =>
 obtain ⟨a9,T8⟩:=hcut;have T9:=gH a9
 have ZI:=gH (show ¬ (emp x.table=false∧x.kind≠3∧bj c.ai.tables x.aa x.table < 0) from fun ⟨q1,q2,q3⟩=>by
  have q4:et=false:=by rw [← D8.out.2.2.1];exact q1
  have q5:k3=true:=by rw [← D8.out.2.2.2];simpa using q2
  have q6:t7=true:=by rw [← ZG.out,q4,q5];rfl
  have:=(XL.out EG.out).1 (T8 q6)
  omega)
 clear a9 T8;clear x0 x1 x2 x3 x4 x5 x6 y0 y1 y2 y3 y4 y5 y6 y7 y8 y9 jq jS jT jU jV jw jx z0 z1;have p0:=HR.out.1.az T9.out;have p1:=HR.out.2.1.az T9.out;have z0:=p0.1;have z1:=p1.1;have x0:=p0.cell (j:=0) rfl;have x1:=p0.cell (j:=1) rfl;have x2:=p0.cell (j:=2) rfl;have x3:=p0.cell (j:=3) rfl;have x4:=p0.cell (j:=4) rfl;have x5:=p0.cell (j:=5) rfl;have x6:=p0.cell (j:=6) rfl;have y0:=p1.cell (j:=0) rfl;have y1:=p1.cell (j:=1) rfl;have y2:=p1.cell (j:=2) rfl;have y3:=p1.cell (j:=3) rfl;have y4:=p1.cell (j:=4) rfl;have y5:=p1.cell (j:=5) rfl;have y6:=p1.cell (j:=6) rfl;have y7:=p1.cell (j:=7) rfl;have y8:=p1.cell (j:=8) rfl;have y9:=p1.cell (j:=9) rfl;have jq:=p1.cell (j:=10) rfl;have jS:=p1.cell (j:=11) rfl;have jT:=p1.cell (j:=12) rfl;have jU:=p1.cell (j:=13) rfl;have jV:=p1.cell (j:=14) rfl;have jw:=p1.cell (j:=15) rfl;have jx:=p1.cell (j:=16) rfl;clear p0 p1;clear sA XL C5 C4 C3 C2;go_wp2_with fail;refine (C6.out _ T9.out (fun hb=>by have hk:=xw.1 hb;have he:=Md HM.out.1 hk;exact Int.not_lt.1 fun h=>VF.out ⟨he,by omega,h⟩)).mono ?_;rintro e w8 ⟨rfl,ZJ⟩;have HA:=gH (T9.out.trans ZJ);clear ZJ;clear x0 x1 x2 x3 x4 x5 x6 y0 y1 y2 y3 y4 y5 y6 y7 y8 y9 jq jS jT jU jV jw jx z0 z1;have p0:=HR.out.1.az HA.out;have p1:=HR.out.2.1.az HA.out;have z0:=p0.1;have z1:=p1.1;have x0:=p0.cell (j:=0) rfl;have x1:=p0.cell (j:=1) rfl;have x2:=p0.cell (j:=2) rfl;have x3:=p0.cell (j:=3) rfl;have x4:=p0.cell (j:=4) rfl;have x5:=p0.cell (j:=5) rfl;have x6:=p0.cell (j:=6) rfl
 have y0:=p1.cell (j:=0) rfl;have y1:=p1.cell (j:=1) rfl;have y2:=p1.cell (j:=2) rfl;have y3:=p1.cell (j:=3) rfl;have y4:=p1.cell (j:=4) rfl;have y5:=p1.cell (j:=5) rfl;have y6:=p1.cell (j:=6) rfl;have y7:=p1.cell (j:=7) rfl;have y8:=p1.cell (j:=8) rfl;have y9:=p1.cell (j:=9) rfl;have jq:=p1.cell (j:=10) rfl;have jS:=p1.cell (j:=11) rfl;have jT:=p1.cell (j:=12) rfl;have jU:=p1.cell (j:=13) rfl;have jV:=p1.cell (j:=14) rfl;have jw:=p1.cell (j:=15) rfl;have jx:=p1.cell (j:=16) rfl;clear p0 p1;clear T9
 cases a6
 ·go_wp2_with fail
  refine (lv 91 _).mono ?_;rintro e w9 ⟨he,rfl⟩;unfold js at he;subst he;exact PM.out _ _ _ HA.out rfl rfl (qT (by rw [T5 EG.out HM.out.1 HM.out.2.1 VF.out ZI.out,HM.out.2.2.2.1];rfl) (by decide))
 go_wp2_with fail;refine (ou 91 _).mono ?_;rintro e w9 ⟨rfl,rfl⟩;have VG:=gH (show dC c x=0 from by rw [T5 EG.out HM.out.1 HM.out.2.1 VF.out ZI.out,HM.out.2.2.2.1];rfl);obtain ⟨Pw,⟨gA,jz,-,-⟩,-,-⟩:=bO.1 (cZ.1 (ic.1 EG.out).2.2).1;have Xh:=cQ.1 jz;have C8:=gH (T2 c As ar At ax An aI Am aK Ag aS w8 (HH.out.az (br.out.trans HA.out)) gA (by omega) (by omega) (by omega));have Kp:=gH jz
 have BO:c.af.length≤1000000:=by omega
 clear gA jz Xh C6;go_wp2_with fail;refine C8.out.mono ?_;rintro e XP ⟨⟨Bs,xP,ip⟩,⟨Bt,xQ,jo⟩,⟨Bn,xR,lZ⟩,⟨Bm,xS,l7⟩,⟨Bg,Kj,iL⟩,L,rfl,Ua,ci⟩;simp only [lq];have Rj:=lc.out;have hza:=HA.out.size;have XQ:=Ua.size;obtain ⟨V,hV⟩:∃ V,V=(((((((XP.setCell ⟨w.heap.size+1+1,0,none⟩ (.int .i64 c.aA)).setCell ⟨w.heap.size+1+1,1,none⟩ (.int .i64 c.version)).setCell ⟨w.heap.size+1+1,2,none⟩ (.slice Bs c.ai.ae.length ip)).setCell ⟨w.heap.size+1+1,3,none⟩ (.slice Bt c.ai.tables.length jo)).setCell ⟨w.heap.size+1+1,4,none⟩ (.slice Bn c.aj.names.length lZ)).setCell ⟨w.heap.size+1+1,5,none⟩ (.slice Bm c.aj.members.length l7)).setCell ⟨w.heap.size+1+1,6,none⟩ (.slice Bg c.af.length iL)):=⟨_,rfl⟩
 have kV:Kb (fun g=>g=w.heap.size+1+1) XP V:=by rw [hV];exact dG _ _ _ _ _ _ _ _ _
 have KV:=gH (show Kb (fun g=>g=w.heap.size+1+1) W V from (Kb.aH (HA.out.trans Ua)).trans kV)
 have hzV:V.heap.size=XP.heap.size:=by rw [hV];simp
 have ZK:=gH (ci.kb kV (fun g' h1 e=>by have:=(ci.lt h1).1;have e:g'=w.heap.size+1+1:=e;omega));have RP:=gH (show ap V (w.heap.size+1+1) (cK c ⟨Bs,xP,ip⟩ ⟨Bt,xQ,jo⟩ ⟨Bn,xR,lZ⟩ ⟨Bm,xS,l7⟩ ⟨Bg,Kj,iL⟩) from by rw [hV];exact cO (HR.out.2.2.1.az (HA.out.trans Ua)) rfl _ _ _ _ _ _ _);have lC:=gH (show ag w V from KV.out.aZ br.out (fun g hg e=>by have e:g=w.heap.size+1+1:=e;omega));have Kh:=gH (show w8.heap.size≤V.heap.size∧w.heap.size+1+1+1 < w8.heap.size from ⟨by omega,by omega⟩);obtain ⟨⟨d,ke⟩,hd⟩:∃ D,bZ c x=D:=⟨_,rfl⟩;have XR:=qU HM.out.1;have CD:=gH (hd▸Xz c ⟨Bs,xP,ip⟩ ⟨Bt,xQ,jo⟩ ⟨Bn,xR,lZ⟩ ⟨Bm,xS,l7⟩ ⟨Bg,Kj,iL⟩ L w8.heap.size (w.heap.size+1+1) x A6 c6 A9 c9 V (by omega) (by omega) ZK.out nU.out RP.out (HX.out.az lC.out) Kp.out XR.2 (tL HM.out.1) BO);have HD:=gH hd;have H5:=gH XR.2;have q2:=HR.out.2.2.1.az (HA.out.trans Ua);have u00:=q2.cell (j:=0) rfl;have v00:=q2.2.2 0 (by simp);have u10:=q2.cell (j:=1) rfl;have v10:=q2.2.2 1 (by simp);have u20:=q2.cell (j:=2) rfl;have v20:=q2.2.2 2 (by simp);have u30:=q2.cell (j:=3) rfl;have v30:=q2.2.2 3 (by simp);have u40:=q2.cell (j:=4) rfl;have v40:=q2.2.2 4 (by simp);have u50:=q2.cell (j:=5) rfl;have v50:=q2.2.2 5 (by simp);have u60:=q2.cell (j:=6) rfl;have v60:=q2.2.2 6 (by simp);have uz0:=q2.1;clear q2;have p1:=KV.out.row HR.out.2.1 (by omega);clear x0 x1 x2 x3 x4 x5 x6 y0 y1 y2 y3 y4 y5 y6 y7 y8 y9 jq jS jT jU jV jw jx z0 z1;have z1:=p1.1;have y0:=p1.cell (j:=0) rfl
 have y1:=p1.cell (j:=1) rfl;have y2:=p1.cell (j:=2) rfl;have y3:=p1.cell (j:=3) rfl;have y4:=p1.cell (j:=4) rfl;have y5:=p1.cell (j:=5) rfl;have y6:=p1.cell (j:=6) rfl;have y7:=p1.cell (j:=7) rfl;have y8:=p1.cell (j:=8) rfl;have y9:=p1.cell (j:=9) rfl;have jq:=p1.cell (j:=10) rfl;have jS:=p1.cell (j:=11) rfl;have jT:=p1.cell (j:=12) rfl;have jU:=p1.cell (j:=13) rfl;have jV:=p1.cell (j:=14) rfl;have jw:=p1.cell (j:=15) rfl;have jx:=p1.cell (j:=16) rfl;rw [hV] at z1 y0 y1 y2 y3 y4 y5 y6 y7 y8 y9 jq jS jT jU jV jw jx;clear p1 kV hzV ci Ua hd XR hza XQ;go_wp2_with fail;rw [← hV];clear hV z1 y0 y1 y2 y3 y4 y5 y6 y7 y8 y9 jq jS jT jU jV jw jx u00 v00 u10 v10 u20 v20 u30 v30 u40 v40 u50 v50 u60 v60 uz0;refine CD.out.mono ?_;rintro e NN ⟨kb,hno,kx⟩;have KW:=gH (show Kb (fun g=>g=w.heap.size+1+1∨w8.heap.size≤g) W NN from (KV.out.mono fun g _ e=>.inl e).trans kb);have ZL:=gH kb.size;have gN:=gH (show ag w NN from KW.out.aZ br.out (fun g hg e=>by have:=Kh.out.2;rcases e with e | e<;>(have e:_:=e;omega)));have RQ:=gH (show ap NN (w.heap.size+1+1+1) [.int .i64 0] from KW.out.row HR.out.2.2.2 (fun e=>by have:=Kh.out.2;rcases e with e | e<;>omega))
 have PN:=gH (show ∀ (k:Int) (V:World) (tmps:Array Value) (vs:List Value),ag NN V→vs.length=7→ap NN (w.heap.size+1+1) vs→tmps.getD 4 undef=.pointer (some ⟨w.heap.size+1+1,0,none⟩)→tmps.getD 5 undef=.pointer (some ⟨w.heap.size+1+1+1,0,none⟩)→cV c x=(lH,k)→Leaves Tryz.prog Tryz.f7 tmps (pg w (cV c x)) [{ target:=Target.fn (Fn.func 14) #[.pointer (some ⟨w.heap.size+1+1,0,none⟩),.pointer (some ⟨w.heap.size+1+1+1,0,none⟩)],args:=#[] }] (.panicking [{ v:=.iface 55 (.agg #[.int .i64 k]),recovered:=false }]) V from
  fun k V tmps vs a hl hr h4 h5 he=>vF h4 h5 (hr.az a) hl (RQ.out.az a) (by omega) (fun w' kb=>by rw [he];exact iG (kb.aZ (gN.out.trans a) (fun g hg e=>by omega))))
 clear PM;by_cases hz:ke≠0
 ·obtain ⟨he,vs,hvl,hrow⟩:=hno hz
  have he:e=js ke:=he;unfold js at he;subst he;exact PN.out ke NN _ vs (ag.refl _) hvl hrow rfl rfl (Mb VG.out (by rw [HD.out]) hz)
 obtain rfl:ke=0:=by omega
 obtain ⟨rfl,⟨Es,Ub,um⟩,⟨Et,Uc,un⟩,⟨En,Ud,uo⟩,⟨Em,Ue,uq⟩,⟨Eg,nEg,XS⟩,M,di,row⟩:=kx rfl;have di:dc NN w8.heap.size d ⟨Es,Ub,um⟩ ⟨Et,Uc,un⟩ ⟨En,Ud,uo⟩ ⟨Em,Ue,uq⟩ ⟨Eg,nEg,XS⟩ M:=di;have row:ap NN (w.heap.size+1+1) [.int .i64 d.aA,.int .i64 d.version,.slice Es d.ai.ae.length um,.slice Et d.ai.tables.length un,.slice En d.aj.names.length uo,.slice Em d.aj.members.length uq,.slice Eg d.af.length XS]:=row;have xg:=qO (c:=c) (x:=x) (by rw [HD.out]);rw [HD.out] at xg;have XT:=D6 nU.out HX.out.sm H5.out;rw [HD.out] at XT;have HSD:=gH XT;have DI:=gH di;have ROW:=gH row;have oI:=ic.1 EG.out;have I4:=gH (And.intro xg oI);have p0:=KW.out.row HR.out.1 (fun e=>by have:=Kh.out.2;rcases e with e | e<;>omega);have p1:=KW.out.row HR.out.2.1 (fun e=>by have:=Kh.out.2;rcases e with e | e<;>omega);have R0:=gH p0;have R1:=gH p1;have x0:=p0.cell (j:=0) rfl;have x1:=p0.cell (j:=1) rfl;have z0:=p0.1;have y0:=p1.cell (j:=0) rfl;have y1:=p1.cell (j:=1) rfl;have y2:=p1.cell (j:=2) rfl;have y3:=p1.cell (j:=3) rfl;have y4:=p1.cell (j:=4) rfl;have y5:=p1.cell (j:=5) rfl;have y6:=p1.cell (j:=6) rfl;have y7:=p1.cell (j:=7) rfl;have y8:=p1.cell (j:=8) rfl;have y9:=p1.cell (j:=9) rfl;have jq:=p1.cell (j:=10) rfl;have jS:=p1.cell (j:=11) rfl;have jT:=p1.cell (j:=12) rfl;have jU:=p1.cell (j:=13) rfl;have jV:=p1.cell (j:=14) rfl;have jw:=p1.cell (j:=15) rfl;have jx:=p1.cell (j:=16) rfl;have z1:=p1.1;clear kb hno kx hz di row xg XT oI p0 p1 CD C8 ZK RP
 by_cases hv:c.version < 1000000000
 case neg =>
  go_wp2_with fail;refine (lv 92 _).mono ?_;rintro e w9 ⟨he,rfl⟩;unfold js at he;subst he;exact PN.out 92 _ _ _ (ag.refl _) rfl ROW.out rfl rfl (Jy VG.out (by rw [HD.out]) (.inl (by omega)))
 go_wp2_with fail;refine (C7.out _).mono ?_;rintro e ZM ⟨rfl,a12⟩;have xx:=gH a12;have x0':=a12.cell_kept x0;have z0':w.heap.size < ZM.heap.size:=Nat.lt_of_lt_of_le z0 a12.size;clear a12 x0 x1 z0 z1 y0 y1 y2 y3 y4 y5 y6 y7 y8 y9 jq jS jT jU jV jw jx;have HV:=gH hv;by_cases Cy:fe=true∧¬ c.aA < 1000
 case pos =>
  obtain ⟨rfl,Le⟩:=Cy;have hdp:decide (c.aA < 1000)=false:=decide_eq_false Le;go_wp2_with fail;refine (lv 92 _).mono ?_;rintro e w9 ⟨he,rfl⟩;unfold js at he;subst he;exact PN.out 92 _ _ _ xx.out rfl ROW.out rfl rfl (Jy VG.out (by rw [HD.out]) (.inr ⟨HM.out.2.2.2.2,by omega⟩))
 have ZN:=gH (show cV c x=(ki d fe,0) from by
  have e:=T6 VG.out (by rw [HD.out]) (fun h=>by
   rcases h with h | h
   ·have:=HV.out;omega
   ·exact Cy ⟨HM.out.2.2.2.2▸h.1,by omega⟩)
  rw [HD.out,HM.out.2.2.2.2] at e
  exact e)
 have CH:=gH (Nl d Es um Et un En uo Em uq Eg XS ZM ((DI.out.az xx.out).at HSD.out));have q:=ROW.out.az xx.out;obtain ⟨q0,q1,q2,q3,q4,q5,q6,qz⟩:=dM q;have HQ:=gH q;clear q
 cases fe
 case false =>
  go_wp2_with fail;refine (ou 92 _).mono ?_;rintro e w9 ⟨rfl,rfl⟩;go_wp2_with fail;refine CH.out.mono ?_;rintro e PO ⟨⟨Aq,nq,cq⟩,rfl,JA,GC⟩;obtain rfl:nq=(cH d).length:=gm GC;clear q0 q1 q2 q3 q4 q5 q6 qz;have Gj:=JA.size;have Aw:=xx.out.size;have h11:=ZL.out;have Rj:=lc.out;have NA:=Kh.out;have q:=HQ.out.az JA;have m0:=q.cell (j:=1) rfl;have m6:=q.cell (j:=6) rfl;have n1:=q.2.2 1 (by simp);have n6:=q.2.2 6 (by simp);have mz:=q.1;obtain ⟨Z,hZ⟩:∃ Z,Z=(PO.setCell ⟨w.heap.size+1+1,6,none⟩ (.slice Aq (cH d).length cq)).setCell ⟨w.heap.size+1+1,1,none⟩ (.int .i64 (d.version+1)):=⟨_,rfl⟩
  have kZ:Kb (fun g=>g=w.heap.size+1+1) PO Z:=by rw [hZ];exact (Kb.set _ _ _ _).trans (Kb.set _ _ _ _)
  have zZ:Z.heap.size=PO.heap.size:=by rw [hZ];simp
  have RZ:=gH (show ap Z (w.heap.size+1+1) [.int .i64 d.aA,.int .i64 (d.version+1),.slice Es d.ai.ae.length um,.slice Et d.ai.tables.length un,.slice En d.aj.names.length uo,.slice Em d.aj.members.length uq,.slice Aq (cH d).length cq] from by rw [hZ];exact (q.set 6 _ (by simp)).set 1 _ (by simp));have a3:=xx.out.trans JA;have XU:=gH (kZ.row (RQ.out.az a3) (by omega));have p1:=kZ.row (R1.out.az a3) (by omega)
  have XV:=fun g' h=>(DI.out.lt (g:=g') h)
  have DZ:=gH (show dc Z w8.heap.size (ki d false) ⟨Es,Ub,um⟩ ⟨Et,Uc,un⟩ ⟨En,Ud,uo⟩ ⟨Em,Ue,uq⟩ ⟨Aq,(cH d).length,cq⟩ M from by
   have c1:=((DI.out.az xx.out).Fp (gl:=⟨Aq,(cH d).length,cq⟩) (l:=cH d) (Kb.aH (P:=fun _=>False) JA) (fun _ _ h=>h) (bV GC (by omega)) (fun g' h=>.inr (by have:=(GC.lt g' (Hd.au.1 h)).1;omega)));have c2:=c1.kb kZ (fun g' h1 e=>by have:=(c1.lt h1).1;have e:g'=w.heap.size+1+1:=e;omega)
   exact ⟨c2.obj,c2.Lc,c2.Hs,c2.kv,c2.mU,c2.th⟩)
  have O5:=gH (show ag w Z from kZ.aZ (gN.out.trans a3) (fun g hg e=>by have e:g=w.heap.size+1+1:=e;omega));have w9:IntKind.i64.wrap (d.version+1)=d.version+1:=IntWalk.i64_in _ (by have:=I4.out;omega);have SZ:=gH (show w.heap.size+1+1+1 < w8.heap.size∧w8.heap.size≤Z.heap.size from ⟨by omega,by omega⟩);have z1:=p1.1;have y0:=p1.cell (j:=0) rfl;have y1:=p1.cell (j:=1) rfl;have y2:=p1.cell (j:=2) rfl;have y3:=p1.cell (j:=3) rfl;have y4:=p1.cell (j:=4) rfl;have y5:=p1.cell (j:=5) rfl;have y6:=p1.cell (j:=6) rfl;have y7:=p1.cell (j:=7) rfl;have y8:=p1.cell (j:=8) rfl;have y9:=p1.cell (j:=9) rfl;have jq:=p1.cell (j:=10) rfl;have jS:=p1.cell (j:=11) rfl;have jT:=p1.cell (j:=12) rfl;have jU:=p1.cell (j:=13) rfl;have jV:=p1.cell (j:=14) rfl;have jw:=p1.cell (j:=15) rfl;have jx:=p1.cell (j:=16) rfl;rw [hZ] at z1 y0 y1 y2 y3 y4 y5 y6 y7 y8 y9 jq jS jT jU jV jw jx;clear q kZ zZ a3 p1 XV GC Gj Aw h11 Rj NA JA;simp only [Hd.v];go_wp2_with fail;rw [← hZ];clear hZ z1 y0 y1 y2 y3 y4 y5 y6 y7 y8 y9 jq jS jT jU jV jw jx m0 m6 n1 n6 mz w9;refine (C7.out _).mono ?_;rintro e NP ⟨rfl,JB⟩;have XW:=gH JB;have q:=RZ.out.az JB;have kT:Kb (fun g=>g=w.heap.size+1+1) NP NP:=Kb.refl _ _;have s0:=q.cell (j:=0) rfl;have r0:=q.2.2 0 (by simp);have s1:=q.cell (j:=1) rfl;have r1:=q.2.2 1 (by simp);have s2:=q.cell (j:=2) rfl;have r2:=q.2.2 2 (by simp);have s3:=q.cell (j:=3) rfl;have r3:=q.2.2 3 (by simp);have s4:=q.cell (j:=4) rfl;have r4:=q.2.2 4 (by simp);have s5:=q.cell (j:=5) rfl
  have r5:=q.2.2 5 (by simp);have s6:=q.cell (j:=6) rfl;have r6:=q.2.2 6 (by simp);have sz:=q.1;have qq:=kT.row (XU.out.az JB) (by omega);have t0:=qq.cell (j:=0) rfl;have tf:=qq.2.2 0 (by simp);have tz:=qq.1;have ne:w.heap.size+1+1+1≠w.heap.size+1+1:=(by omega);have QR:=gH (And.intro q qq);have KT:=gH ((Kb.aH (P:=fun g=>g=w.heap.size+1+1) JB).trans kT);clear q qq kT JB;go_wp2_with fail;have NA:=SZ.out;obtain ⟨S,hS⟩:∃ S,S=((((((NP.setCell ⟨w.heap.size+1+1,0,none⟩ (.int .i64 d.aA)).setCell ⟨w.heap.size+1+1,1,none⟩ (.int .i64 (d.version+1))).setCell ⟨w.heap.size+1+1,2,none⟩ (.slice Es d.ai.ae.length um)).setCell ⟨w.heap.size+1+1,3,none⟩ (.slice Et d.ai.tables.length un)).setCell ⟨w.heap.size+1+1,4,none⟩ (.slice En d.aj.names.length uo)).setCell ⟨w.heap.size+1+1,5,none⟩ (.slice Em d.aj.members.length uq)).setCell ⟨w.heap.size+1+1,6,none⟩ (.slice Aq (cH d).length cq):=⟨_,rfl⟩
  have k7:Kb (fun g=>g=w.heap.size+1+1) NP S:=by rw [hS];exact dG NP (w.heap.size+1+1) (.int .i64 d.aA) (.int .i64 (d.version+1)) (.slice Es d.ai.ae.length um) (.slice Et d.ai.tables.length un) (.slice En d.aj.names.length uo) (.slice Em d.aj.members.length uq) (.slice Aq (cH d).length cq)
  have r7:ap S (w.heap.size+1+1) [.int .i64 d.aA,.int .i64 (d.version+1),.slice Es d.ai.ae.length um,.slice Et d.ai.tables.length un,.slice En d.aj.names.length uo,.slice Em d.aj.members.length uq,.slice Aq (cH d).length cq]:=by rw [hS];exact cO QR.out.1 rfl (.int .i64 d.aA) (.int .i64 (d.version+1)) (.slice Es d.ai.ae.length um) (.slice Et d.ai.tables.length un) (.slice En d.aj.names.length uo) (.slice Em d.aj.members.length uq) (.slice Aq (cH d).length cq)
  obtain ⟨Vf,JC⟩:∃ Vf,Vf=S.setCell ⟨w.heap.size+1+1+1,0,none⟩ (.int .i64 0):=⟨_,rfl⟩
  have k8:Kb (fun g=>g=w.heap.size+1+1+1) S Vf:=by rw [JC];exact Kb.set S (w.heap.size+1+1+1) 0 (.int .i64 0)
  have rp:ap Vf (w.heap.size+1+1) [.int .i64 d.aA,.int .i64 (d.version+1),.slice Es d.ai.ae.length um,.slice Et d.ai.tables.length un,.slice En d.aj.names.length uo,.slice Em d.aj.members.length uq,.slice Aq (cH d).length cq]:=by rw [JC];exact r7.O6 (show w.heap.size+1+1+1≠w.heap.size+1+1 by omega) 0 (.int .i64 0)
  have rq:ap Vf (w.heap.size+1+1+1) [.int .i64 0]:=by
   have e:=k7.row QR.out.2 (fun e=>by have e:w.heap.size+1+1+1=w.heap.size+1+1:=e;omega);rw [JC];exact e.set 0 (.int .i64 0) (by simp)
  have JD:=gH (show pg w (cV c x) (.returned (.tuple #[.agg #[.int .i64 d.aA,.int .i64 (d.version+1),.slice Es d.ai.ae.length um,.slice Et d.ai.tables.length un,.slice En d.aj.names.length uo,.slice Em d.aj.members.length uq,.slice Aq (cH d).length cq],.int .i64 0])) Vf from by
   rw [ZN.out];refine ⟨⟨Es,Ub,um⟩,⟨Et,Uc,un⟩,⟨En,Ud,uo⟩,⟨Em,Ue,uq⟩,⟨Aq,(cH d).length,cq⟩,M,rfl,?_,?_⟩
   ·exact k8.aZ (k7.aZ (KT.out.aZ O5.out (fun g hg e=>by have e:g=w.heap.size+1+1:=e;omega)) (fun g hg e=>by have e:g=w.heap.size+1+1:=e;omega)) (fun g hg e=>by have e:g=w.heap.size+1+1+1:=e;omega)
   ·have c3:=((DZ.out.kb KT.out (fun g' h1 e=>by have:=(DZ.out.lt h1).1;have e:g'=w.heap.size+1+1:=e;omega)).kb k7 (fun g' h1 e=>by have:=(DZ.out.lt h1).1;have e:g'=w.heap.size+1+1:=e;omega)).kb k8 (fun g' h1 e=>by have:=(DZ.out.lt h1).1;have e:g'=w.heap.size+1+1+1:=e;omega)
    exact c3.down (by have:=gN.out.size;have:=br.out.size;have:=HA.out.size;omega))
  rw [← hS,← JC];clear hS JC;have Uf:=gH (And.intro rp rq)
  show Leaves _ _ _ _ _ _ _
  exact vG rfl rfl Uf.out.1 Uf.out.2 JD.out
 case true =>
  have Le:c.aA < 1000:=by
   by_cases h:c.aA < 1000
   ·exact h
   ·exact absurd ⟨rfl,h⟩ Cy
  have hdp:decide (c.aA < 1000)=true:=decide_eq_true Le;go_wp2_with fail;refine (ou 92 _).mono ?_;rintro e w9 ⟨rfl,rfl⟩;go_wp2_with fail;refine CH.out.mono ?_;rintro e PO ⟨⟨Aq,nq,cq⟩,rfl,JA,GC⟩;obtain rfl:nq=(cH d).length:=gm GC;clear q0 q1 q2 q3 q4 q5 q6 qz;have Gj:=JA.size;have Aw:=xx.out.size;have h11:=ZL.out;have Rj:=lc.out;have NA:=Kh.out;have q:=HQ.out.az JA;have m0:=q.cell (j:=1) rfl;have m6:=q.cell (j:=6) rfl;have n1:=q.2.2 1 (by simp);have n6:=q.2.2 6 (by simp);have mz:=q.1;obtain ⟨Z,hZ⟩:∃ Z,Z=(PO.setCell ⟨w.heap.size+1+1,6,none⟩ (.slice Aq (cH d).length cq)).setCell ⟨w.heap.size+1+1,1,none⟩ (.int .i64 (d.version+1)):=⟨_,rfl⟩
  have kZ:Kb (fun g=>g=w.heap.size+1+1) PO Z:=by rw [hZ];exact (Kb.set _ _ _ _).trans (Kb.set _ _ _ _)
  have zZ:Z.heap.size=PO.heap.size:=by rw [hZ];simp
  have RZ:=gH (show ap Z (w.heap.size+1+1) [.int .i64 d.aA,.int .i64 (d.version+1),.slice Es d.ai.ae.length um,.slice Et d.ai.tables.length un,.slice En d.aj.names.length uo,.slice Em d.aj.members.length uq,.slice Aq (cH d).length cq] from by rw [hZ];exact (q.set 6 _ (by simp)).set 1 _ (by simp));have a3:=xx.out.trans JA;have XU:=gH (kZ.row (RQ.out.az a3) (by omega));have p1:=kZ.row (R1.out.az a3) (by omega)
  have XV:=fun g' h=>(DI.out.lt (g:=g') h)
  have DZ:=gH (show dc Z w8.heap.size (ki d true) ⟨Es,Ub,um⟩ ⟨Et,Uc,un⟩ ⟨En,Ud,uo⟩ ⟨Em,Ue,uq⟩ ⟨Aq,(cH d).length,cq⟩ M from by
   have c1:=((DI.out.az xx.out).Fp (gl:=⟨Aq,(cH d).length,cq⟩) (l:=cH d) (Kb.aH (P:=fun _=>False) JA) (fun _ _ h=>h) (bV GC (by omega)) (fun g' h=>.inr (by have:=(GC.lt g' (Hd.au.1 h)).1;omega)));have c2:=c1.kb kZ (fun g' h1 e=>by have:=(c1.lt h1).1;have e:g'=w.heap.size+1+1:=e;omega)
   exact ⟨c2.obj,c2.Lc,c2.Hs,c2.kv,c2.mU,c2.th⟩)
  have O5:=gH (show ag w Z from kZ.aZ (gN.out.trans a3) (fun g hg e=>by have e:g=w.heap.size+1+1:=e;omega));have w9:IntKind.i64.wrap (d.version+1)=d.version+1:=IntWalk.i64_in _ (by have:=I4.out;omega);have SZ:=gH (show w.heap.size+1+1+1 < w8.heap.size∧w8.heap.size≤Z.heap.size from ⟨by omega,by omega⟩);have z1:=p1.1;have y0:=p1.cell (j:=0) rfl;have y1:=p1.cell (j:=1) rfl;have y2:=p1.cell (j:=2) rfl;have y3:=p1.cell (j:=3) rfl;have y4:=p1.cell (j:=4) rfl;have y5:=p1.cell (j:=5) rfl;have y6:=p1.cell (j:=6) rfl;have y7:=p1.cell (j:=7) rfl;have y8:=p1.cell (j:=8) rfl;have y9:=p1.cell (j:=9) rfl;have jq:=p1.cell (j:=10) rfl;have jS:=p1.cell (j:=11) rfl;have jT:=p1.cell (j:=12) rfl;have jU:=p1.cell (j:=13) rfl;have jV:=p1.cell (j:=14) rfl;have jw:=p1.cell (j:=15) rfl;have jx:=p1.cell (j:=16) rfl;rw [hZ] at z1 y0 y1 y2 y3 y4 y5 y6 y7 y8 y9 jq jS jT jU jV jw jx;clear q kZ zZ a3 p1 XV GC Gj Aw h11 Rj NA JA;simp only [Hd.v];go_wp2_with fail;rw [← hZ];clear hZ z1 y0 y1 y2 y3 y4 y5 y6 y7 y8 y9 jq jS jT jU jV jw jx m0 m6 n1 n6 mz w9;refine (C7.out _).mono ?_;rintro e NP ⟨rfl,JB⟩;have XW:=gH JB;have w9:IntKind.i64.wrap (d.aA+1)=d.aA+1:=IntWalk.i64_in _ (by have:=I4.out;omega);have q0:=RZ.out.az JB;have m0:=q0.cell (j:=0) rfl;have n0:=q0.2.2 0 (by simp);have mz:=q0.1;obtain ⟨T,hT⟩:∃ T,T=NP.setCell ⟨w.heap.size+1+1,0,none⟩ (.int .i64 (d.aA+1)):=⟨_,rfl⟩
  have kT:Kb (fun g=>g=w.heap.size+1+1) NP T:=by rw [hT];exact Kb.set _ _ _ _
  have q:ap T (w.heap.size+1+1) [.int .i64 (d.aA+1),.int .i64 (d.version+1),.slice Es d.ai.ae.length um,.slice Et d.ai.tables.length un,.slice En d.aj.names.length uo,.slice Em d.aj.members.length uq,.slice Aq (cH d).length cq]:=by rw [hT];exact q0.set 0 _ (by simp)
  have s0:=q.cell (j:=0) rfl;have r0:=q.2.2 0 (by simp);have s1:=q.cell (j:=1) rfl;have r1:=q.2.2 1 (by simp);have s2:=q.cell (j:=2) rfl;have r2:=q.2.2 2 (by simp);have s3:=q.cell (j:=3) rfl;have r3:=q.2.2 3 (by simp);have s4:=q.cell (j:=4) rfl;have r4:=q.2.2 4 (by simp);have s5:=q.cell (j:=5) rfl;have r5:=q.2.2 5 (by simp);have s6:=q.cell (j:=6) rfl;have r6:=q.2.2 6 (by simp);have sz:=q.1;have qq:=kT.row (XU.out.az JB) (by omega);have t0:=qq.cell (j:=0) rfl;have tf:=qq.2.2 0 (by simp);have tz:=qq.1;have ne:w.heap.size+1+1+1≠w.heap.size+1+1:=(by omega);have QR:=gH (And.intro q qq);have KT:=gH ((Kb.aH (P:=fun g=>g=w.heap.size+1+1) JB).trans kT);rw [hT] at s0 r0 s1 r1 s2 r2 s3 r3 s4 r4 s5 r5 s6 r6 sz t0 tf tz;clear q qq kT JB q0;go_wp2_with fail;rw [← hT];clear hT;have NA:=SZ.out;obtain ⟨S,hS⟩:∃ S,S=((((((T.setCell ⟨w.heap.size+1+1,0,none⟩ (.int .i64 (d.aA+1))).setCell ⟨w.heap.size+1+1,1,none⟩ (.int .i64 (d.version+1))).setCell ⟨w.heap.size+1+1,2,none⟩ (.slice Es d.ai.ae.length um)).setCell ⟨w.heap.size+1+1,3,none⟩ (.slice Et d.ai.tables.length un)).setCell ⟨w.heap.size+1+1,4,none⟩ (.slice En d.aj.names.length uo)).setCell ⟨w.heap.size+1+1,5,none⟩ (.slice Em d.aj.members.length uq)).setCell ⟨w.heap.size+1+1,6,none⟩ (.slice Aq (cH d).length cq):=⟨_,rfl⟩
  have k7:Kb (fun g=>g=w.heap.size+1+1) T S:=by rw [hS];exact dG T (w.heap.size+1+1) (.int .i64 (d.aA+1)) (.int .i64 (d.version+1)) (.slice Es d.ai.ae.length um) (.slice Et d.ai.tables.length un) (.slice En d.aj.names.length uo) (.slice Em d.aj.members.length uq) (.slice Aq (cH d).length cq)
  have r7:ap S (w.heap.size+1+1) [.int .i64 (d.aA+1),.int .i64 (d.version+1),.slice Es d.ai.ae.length um,.slice Et d.ai.tables.length un,.slice En d.aj.names.length uo,.slice Em d.aj.members.length uq,.slice Aq (cH d).length cq]:=by rw [hS];exact cO QR.out.1 rfl (.int .i64 (d.aA+1)) (.int .i64 (d.version+1)) (.slice Es d.ai.ae.length um) (.slice Et d.ai.tables.length un) (.slice En d.aj.names.length uo) (.slice Em d.aj.members.length uq) (.slice Aq (cH d).length cq)
  obtain ⟨Vf,JC⟩:∃ Vf,Vf=S.setCell ⟨w.heap.size+1+1+1,0,none⟩ (.int .i64 0):=⟨_,rfl⟩
  have k8:Kb (fun g=>g=w.heap.size+1+1+1) S Vf:=by rw [JC];exact Kb.set S (w.heap.size+1+1+1) 0 (.int .i64 0)
  have rp:ap Vf (w.heap.size+1+1) [.int .i64 (d.aA+1),.int .i64 (d.version+1),.slice Es d.ai.ae.length um,.slice Et d.ai.tables.length un,.slice En d.aj.names.length uo,.slice Em d.aj.members.length uq,.slice Aq (cH d).length cq]:=by rw [JC];exact r7.O6 (show w.heap.size+1+1+1≠w.heap.size+1+1 by omega) 0 (.int .i64 0)
  have rq:ap Vf (w.heap.size+1+1+1) [.int .i64 0]:=by
   have e:=k7.row QR.out.2 (fun e=>by have e:w.heap.size+1+1+1=w.heap.size+1+1:=e;omega);rw [JC];exact e.set 0 (.int .i64 0) (by simp)
  have JD:=gH (show pg w (cV c x) (.returned (.tuple #[.agg #[.int .i64 (d.aA+1),.int .i64 (d.version+1),.slice Es d.ai.ae.length um,.slice Et d.ai.tables.length un,.slice En d.aj.names.length uo,.slice Em d.aj.members.length uq,.slice Aq (cH d).length cq],.int .i64 0])) Vf from by
   rw [ZN.out];refine ⟨⟨Es,Ub,um⟩,⟨Et,Uc,un⟩,⟨En,Ud,uo⟩,⟨Em,Ue,uq⟩,⟨Aq,(cH d).length,cq⟩,M,rfl,?_,?_⟩
   ·exact k8.aZ (k7.aZ (KT.out.aZ O5.out (fun g hg e=>by have e:g=w.heap.size+1+1:=e;omega)) (fun g hg e=>by have e:g=w.heap.size+1+1:=e;omega)) (fun g hg e=>by have e:g=w.heap.size+1+1+1:=e;omega)
   ·have c3:=((DZ.out.kb KT.out (fun g' h1 e=>by have:=(DZ.out.lt h1).1;have e:g'=w.heap.size+1+1:=e;omega)).kb k7 (fun g' h1 e=>by have:=(DZ.out.lt h1).1;have e:g'=w.heap.size+1+1:=e;omega)).kb k8 (fun g' h1 e=>by have:=(DZ.out.lt h1).1;have e:g'=w.heap.size+1+1+1:=e;omega)
    exact c3.down (by have:=gN.out.size;have:=br.out.size;have:=HA.out.size;omega))
  rw [← hS,← JC];clear hS JC;have Uf:=gH (And.intro rp rq)
  show Leaves _ _ _ _ _ _ _
  exact vG rfl rfl Uf.out.1 Uf.out.2 JD.out
end Go.Proofs.YtmflccbnoeaafaaGreat
namespace Go.Proofs.YtmflccbnoeaafaaGreat
open Go.RowKit
set_option maxRecDepth 100000
set_option linter.unusedVariables false
set_option maxHeartbeats 64000000
def NQ:gi:=⟨⟨#[]⟩,0,[],0,0,⟨#[]⟩,⟨#[]⟩,⟨#[]⟩⟩
def jp:eW:=⟨1,dL,⟨#[115]⟩,⟨#[]⟩,⟨#[]⟩,⟨#[]⟩,[],NQ,0,false⟩
def FV:fc:=⟨⟨#[120]⟩,2,false⟩
def kq:eW:=⟨3,dL,⟨#[115]⟩,⟨#[116]⟩,⟨#[]⟩,⟨#[]⟩,[FV],NQ,0,false⟩
def gP:bW:=⟨0,1,⟨[⟨⟨#[115]⟩,dL⟩],[]⟩,⟨[dL],[]⟩,[]⟩
def FW:bW:=⟨0,2,⟨[⟨⟨#[115]⟩,dL⟩],[⟨⟨#[115]⟩,⟨#[116]⟩,dL,[FV],[]⟩]⟩,⟨[dL],[]⟩,[]⟩
theorem xA:BJ iW.aj dL dL=true:=by
 rw [PP,rH,rG]
 decide +kernel
theorem vV {c:bW} (h:c.af=[]):cH c=[]:=by
 unfold cH;rw [h]
 split<;>rfl
theorem NR:fF jp=true:=by decide +kernel
theorem NS:fF kq=true:=by decide +kernel
theorem Cz:bF iW.ai=true:=by decide +kernel
theorem PQ:cV iW jp=(gP,0):=by
 have h1:dC iW jp=0:=by
  unfold dC
  rw [if_neg (by rw [oO];decide),if_neg (by rw [NR];decide),if_neg (by decide +kernel),if_neg (by decide +kernel),if_neg (by decide +kernel),if_neg (by
   unfold gB
   rw [if_neg (by decide),if_neg (by decide),if_neg (by decide),show jp.aJ=dL from rfl,xA];decide)]
 have h2:bZ iW jp=(⟨0,0,gP.ai,⟨[dL],[]⟩,[]⟩,0):=by
  rw [kj (by decide)]
  have:dt iW jp=(gP.ai,0):=by
   unfold dt;rw [if_pos (by decide),iE Cz];unfold dp;rw [show (!bP jp.aa || !bP jp.aJ)=false by decide +kernel,show cE iW.ai.ae jp.aa = -1 by decide +kernel,show cN jB iW.ai.ae ⟨jp.aa,jp.aJ⟩=0 by decide +kernel];rfl
  rw [this];rfl
 unfold cV;rw [h1,h2,if_neg (by decide),if_neg (by decide),if_neg (by decide +kernel)];unfold ki;rw [vV rfl,show cD jp=false by decide +kernel];rfl
theorem tV:eu gP=true:=by
 have h:(cV iW jp).2=0:=by rw [PQ]
 have d:=tN h;have:=d.IR;have e:=d.is;rw [PQ] at e;rw [show gP=ki (bZ iW jp).1 (cD jp) from congrArg Prod.fst e];exact this
theorem Ug:cV gP jp=(lH,60):=by
 have h1:dC gP jp=0:=by
  unfold dC
  rw [if_neg (by rw [tV];decide),if_neg (by rw [NR];decide),if_neg (by decide +kernel),if_neg (by decide +kernel),if_neg (by decide +kernel),if_neg (by
   unfold gB
   rw [if_neg (by decide),if_neg (by decide),if_neg (by decide),show jp.aJ=dL from rfl,show gP.aj=iW.aj from rfl,xA];decide)]
 have h2:(bZ gP jp).2=60:=by
  rw [kj (by decide)]
  show (dt gP jp).2=60
  unfold dt;rw [if_pos (by decide),iE (by decide +kernel)];unfold dp;rw [show (!bP jp.aa || !bP jp.aJ)=false by decide +kernel,show cE gP.ai.ae jp.aa=0 by decide +kernel];rfl
 unfold cV;rw [h1,h2,if_neg (by decide),if_pos (by decide)]
theorem Uh:cV iW kq=(lH,61):=by
 have h1:dC iW kq=61:=by
  unfold dC;rw [if_neg (by rw [oO];decide),if_neg (by rw [NS];decide),if_neg (by decide +kernel),if_pos (by decide +kernel)]
 unfold cV;rw [h1,if_pos (by decide)]
theorem XX:cV gP kq=(FW,0):=by
 have h1:dC gP kq=0:=by
  unfold dC
  rw [if_neg (by rw [tV];decide),if_neg (by rw [NS];decide),if_neg (by decide +kernel),if_neg (by decide +kernel),if_neg (by decide +kernel),if_neg (by
   unfold gB
   rw [if_pos (by decide),show kq.aJ=dL from rfl,show gP.aj=iW.aj from rfl,xA];decide)]
 have h2:bZ gP kq=(⟨0,1,FW.ai,⟨[dL],[]⟩,[]⟩,0):=by
  rw [kj (by decide)]
  have:dt gP kq=(FW.ai,0):=by
   unfold dt;rw [if_neg (by decide),if_neg (by decide),if_pos (by decide),iE (by decide +kernel)];unfold dy;rw [show (!bP kq.table || !bP kq.aJ)=false by decide +kernel,show cE gP.ai.ae kq.aa=0 by decide +kernel,show bj gP.ai.tables kq.aa kq.table = -1 by decide +kernel,show within gP.ai.tables kq.aa=0 by decide +kernel,show (!fp kq.ak || decide (0 < ([]:List gi).length))=false by decide +kernel,show cN eG gP.ai.tables ⟨kq.aa,kq.table,kq.aJ,kq.ak,[]⟩=0 by decide +kernel];rfl
  rw [this];rfl
 unfold cV;rw [h1,h2,if_neg (by decide),if_neg (by decide),if_neg (by decide +kernel)];unfold ki;rw [vV rfl,show cD kq=false by decide +kernel];rfl
theorem D9 (k:Int) (aJ aa table name role:ByteArray) (A:Option Addr) (n c:Nat) (fg:ByteArray) (eM:Int) (A2:Option Addr) (n2 c2:Nat) (low high:Int) (rs rt rk:ByteArray) (right:Int) (opt:Bool) (w:World) (hn:n≤9223372036854775807) (uk:n2≤9223372036854775807) :
  Calls Tryz.prog 6 #[.agg #[.int .i64 k,.string aJ,.string aa,.string table,.string name,.string role,.slice A n c,.string fg,.int .i64 eM,.slice A2 n2 c2,.int .i64 low,.int .i64 high,.string rs,.string rt,.string rk,.int .i64 right,.bool opt]] w fun e w'=>e=.returned (.bool (decide (1000 < n) || decide (1000 < n2)))∧ag w w':=by
 go_enter Tryz.func6,Tryz.ntmps6
 go_wp2_with fail
 all_goals
  go_ret;refine ⟨Eq.trans (b:=.returned (.bool _)) rfl (eD (dF ?_)),?_⟩
  ·rw [Bool.eq_iff_iff];simp;omega
  ·repeat (first | exact ag.refl _ | apply ag.alloc)
theorem ly (w:World):Calls Tryz.prog 28 #[] w fun e w'=>e=.returned (.agg #[.int .i64 1,.string { data:=#[114,111,111,116] },.string { data:=#[115] },.string { data:=#[] },.string { data:=#[] },.string { data:=#[] },.slice none 0 0,.string { data:=#[] },.int .i64 0,.slice none 0 0,.int .i64 0,.int .i64 0,.string { data:=#[] },.string { data:=#[] },.string { data:=#[] },.int .i64 0,.bool false])∧ag w w':=by
 go_enter Tryz.func28,Tryz.ntmps28
 go_wp2_with fail;exact bodyPost_ret (v:=.agg #[.int .i64 1,.string { data:=#[114,111,111,116] },.string { data:=#[115] },.string { data:=#[] },.string { data:=#[] },.string { data:=#[] },.slice none 0 0,.string { data:=#[] },.int .i64 0,.slice none 0 0,.int .i64 0,.int .i64 0,.string { data:=#[] },.string { data:=#[] },.string { data:=#[] },.int .i64 0,.bool false]) (by simp [results,Tryz.results28,go_sem]) rfl ⟨rfl,by repeat (first | exact ag.refl _ | apply ag.alloc)⟩
theorem JE (w:World):Calls Tryz.prog 17 #[.agg #[.int .i64 1,.string { data:=#[114,111,111,116] },.string { data:=#[115] },.string { data:=#[] },.string { data:=#[] },.string { data:=#[] },.slice none 0 0,.string { data:=#[] },.int .i64 0,.slice none 0 0,.int .i64 0,.int .i64 0,.string { data:=#[] },.string { data:=#[] },.string { data:=#[] },.int .i64 0,.bool false]] w fun e w'=>e=.returned (.bool true)∧ag w w' :=
 (nG 1 _ _ _ _ _ none 0 0 _ 0 none 0 0 0 0 _ _ _ 0 false w (by decide) (by decide) (by decide) (by decide) (by decide) (by decide) (by decide) (by decide) (by decide)).mono fun e w' ⟨he,h⟩=>⟨he.trans (eD (dF (by decide +kernel))),h⟩
theorem PR (w:World):Calls Tryz.prog 17 #[.agg #[.int .i64 1,.string { data:=#[114,111,111,116] },.string { data:=#[115] },.string { data:=#[116] },.string { data:=#[] },.string { data:=#[] },.slice none 0 0,.string { data:=#[] },.int .i64 0,.slice none 0 0,.int .i64 0,.int .i64 0,.string { data:=#[] },.string { data:=#[] },.string { data:=#[] },.int .i64 0,.bool false]] w fun e w'=>e=.returned (.bool false)∧ag w w' :=
 (nG 1 _ _ _ _ _ none 0 0 _ 0 none 0 0 0 0 _ _ _ 0 false w (by decide) (by decide) (by decide) (by decide) (by decide) (by decide) (by decide) (by decide) (by decide)).mono fun e w' ⟨he,h⟩=>⟨he.trans (eD (dF (by decide +kernel))),h⟩
theorem PS (w:World):Calls Tryz.prog 10 #[.agg #[.int .i64 1,.string { data:=#[114,111,111,116] },.string { data:=#[115] },.string { data:=#[] },.string { data:=#[] },.string { data:=#[] },.slice none 0 0,.string { data:=#[] },.int .i64 0,.slice none 0 0,.int .i64 0,.int .i64 0,.string { data:=#[] },.string { data:=#[] },.string { data:=#[] },.int .i64 0,.bool false]] w fun e w'=>e=.returned (.bool false)∧ag w w' :=
 (kI 1 _ _ _ _ _ none 0 0 _ 0 none 0 0 0 0 _ _ _ 0 false w true (gH JE)).mono fun e w' ⟨he,h⟩=>⟨he.trans (eD (dF (by decide +kernel))),h⟩
theorem JF (w:World):Calls Tryz.prog 17 #[.agg #[.int .i64 2,.string { data:=#[97] },.string { data:=#[115] },.string { data:=#[] },.string { data:=#[] },.string { data:=#[] },.slice none 0 0,.string { data:=#[] },.int .i64 0,.slice none 0 0,.int .i64 0,.int .i64 0,.string { data:=#[] },.string { data:=#[] },.string { data:=#[] },.int .i64 0,.bool false]] w fun e w'=>e=.returned (.bool true)∧ag w w' :=
 (nG 2 _ _ _ _ _ none 0 0 _ 0 none 0 0 0 0 _ _ _ 0 false w (by decide) (by decide) (by decide) (by decide) (by decide) (by decide) (by decide) (by decide) (by decide)).mono fun e w' ⟨he,h⟩=>⟨he.trans (eD (dF (by decide +kernel))),h⟩
theorem JG (w:World):Calls Tryz.prog 10 #[.agg #[.int .i64 2,.string { data:=#[97] },.string { data:=#[115] },.string { data:=#[] },.string { data:=#[] },.string { data:=#[] },.slice none 0 0,.string { data:=#[] },.int .i64 0,.slice none 0 0,.int .i64 0,.int .i64 0,.string { data:=#[] },.string { data:=#[] },.string { data:=#[] },.int .i64 0,.bool false]] w fun e w'=>e=.returned (.bool true)∧ag w w' :=
 (kI 2 _ _ _ _ _ none 0 0 _ 0 none 0 0 0 0 _ _ _ 0 false w true (gH JF)).mono fun e w' ⟨he,h⟩=>⟨he.trans (eD (dF (by decide +kernel))),h⟩
theorem jW (w:World):Calls Tryz.prog 11 #[] w fun e w'=>e=.returned (.bool true)∧ag w w':=by
 go_enter Tryz.func11,Tryz.ntmps11
 go_wp2_with fail;refine (ly _).mono ?_;rintro e w1 ⟨rfl,a1⟩;have A1:=gH a1;clear a1;go_wp2_with fail;refine (ly _).mono ?_;rintro e w2 ⟨rfl,a2⟩;obtain ⟨gv,mC,hz,qu,HA⟩:=cJ a2;have HB:=gH a2;clear a2;go_wp2_with fail;refine (JE _).mono ?_;rintro e w3 ⟨rfl,a3⟩;obtain ⟨Ui,_,hz3,XY,iw⟩:=cJ (HB.out.trans a3);have mq:=gH (HB.out.trans a3);clear a3 gv mC hz qu;go_wp2_with fail;refine (PR _).mono ?_;rintro e w4 ⟨rfl,a4⟩;have jr:=gH (iw.out.trans a4);clear a4 Ui hz3 XY;go_wp2_with fail;refine (ly _).mono ?_;rintro e w5 ⟨rfl,a5⟩;have qD:=gH (jr.out.trans a5);clear a5;go_wp2_with fail;refine (PS _).mono ?_;rintro e w6 ⟨rfl,a6⟩;have nX:=gH (qD.out.trans a6);clear a6;go_wp2_with fail;refine (JG _).mono ?_;rintro e w7 ⟨rfl,a7⟩;have sA:=gH (nX.out.trans a7);clear a7;go_wp2_with fail;go_ret;exact ⟨rfl,A1.out.trans sA.out⟩
end Go.Proofs.YtmflccbnoeaafaaGreat
namespace Go.Proofs.YtmflccbnoeaafaaGreat
open Go.RowKit Go.Deep
set_option maxRecDepth 100000
set_option linter.unusedVariables false
set_option maxHeartbeats 64000000
def XZ (w:World) (e:Ending) (w':World):Prop:=∃ b,e=.returned (.agg #[.int .i64 3,.string ⟨#[114,111,111,116]⟩,.string ⟨#[115]⟩,.string ⟨#[116]⟩,.string ⟨#[]⟩,.string ⟨#[]⟩,.slice (some ⟨b,0,none⟩) 1 1,.string ⟨#[]⟩,.int .i64 0,.slice none 0 0,.int .i64 0,.int .i64 0,.string ⟨#[]⟩,.string ⟨#[]⟩,.string ⟨#[]⟩,.int .i64 0,.bool false])∧ag w w'∧aL w' 3 iv (some ⟨b,0,none⟩) 1 [FV]
theorem JH (w:World):Calls Tryz.prog 29 #[] w (XZ w):=by
 have l1:w.heap.size < w.heap.size+1:=by omega
 have l2:w.heap.size < w.heap.size+1+1:=by omega
 go_enter Tryz.func29,Tryz.ntmps29
 go_wp2_with fail
 (try simp only [Exit.inBlock,Exit.then])
 refine bodyPost_ret (v:=.agg #[.int .i64 3,.string ⟨#[114,111,111,116]⟩,.string ⟨#[115]⟩,.string ⟨#[116]⟩,.string ⟨#[]⟩,.string ⟨#[]⟩,.slice (some ⟨w.heap.size+1,0,none⟩) 1 1,.string ⟨#[]⟩,.int .i64 0,.slice none 0 0,.int .i64 0,.int .i64 0,.string ⟨#[]⟩,.string ⟨#[]⟩,.string ⟨#[]⟩,.int .i64 0,.bool false]) (by simp [results,Tryz.results29,go_sem]) rfl ⟨_,rfl,by repeat (first | exact ag.refl _ | apply ag.alloc),?_⟩;exact xX _ [.string ⟨#[120]⟩,.int .i64 2,.bool false] #[.string ⟨#[120]⟩,.int .i64 2,.bool false] (by first | (simp;done) | (simp;omega)) (by intro o;(repeat (refine (World.cell?_alloc_past _ _ _ (by first | (simp;done) | (simp;omega))).trans ?_));exact World.cell?_alloc_at _ _ _ _ (by simp)) rfl rfl ⟨rfl,by unfold Small;decide⟩ (by omega)
theorem Ea (w:World):kM w jp none 0 none 0:=⟨gR,gR,by unfold Small;decide,by unfold Small;decide,by unfold Small;decide,by unfold Small;decide,by unfold Small;decide,by unfold Small;decide,by unfold Small;decide,by unfold Small;decide,by unfold Small;decide,rfl⟩
theorem Eb {w:World} {b:Nat} (h:aL w 3 iv (some ⟨b,0,none⟩) 1 [FV]):kM w kq (some ⟨b,0,none⟩) 1 none 0:=⟨h,gR,by unfold Small;decide,by unfold Small;decide,by unfold Small;decide,by unfold Small;decide,by unfold Small;decide,by unfold Small;decide,by unfold Small;decide,by unfold Small;decide,by unfold Small;decide,rfl⟩
theorem X0 {b:Nat} (V:World) (H:eH V iW none 0 none 0 (some ⟨b,0,none⟩) 1 none 0 none 0):Calls Tryz.prog 7 #[.agg #[.int .i64 0,.int .i64 0,.slice none 0 0,.slice none 0 0,.slice (some ⟨b,0,none⟩) 1 1,.slice none 0 0,.slice none 0 0],.agg #[.int .i64 1,.string ⟨#[114,111,111,116]⟩,.string ⟨#[115]⟩,.string ⟨#[]⟩,.string ⟨#[]⟩,.string ⟨#[]⟩,.slice none 0 0,.string ⟨#[]⟩,.int .i64 0,.slice none 0 0,.int .i64 0,.int .i64 0,.string ⟨#[]⟩,.string ⟨#[]⟩,.string ⟨#[]⟩,.int .i64 0,.bool false]] V (pg V (gP,0)):=by
 rw [← PQ];exact nM iW none 0 none 0 (some ⟨b,0,none⟩) 1 none 0 none 0 jp none 0 none 0 V H (Ea V)
theorem X1 {b d:Nat} (V:World) (H:eH V iW none 0 none 0 (some ⟨b,0,none⟩) 1 none 0 none 0) (h:aL V 3 iv (some ⟨d,0,none⟩) 1 [FV]):Calls Tryz.prog 7 #[.agg #[.int .i64 0,.int .i64 0,.slice none 0 0,.slice none 0 0,.slice (some ⟨b,0,none⟩) 1 1,.slice none 0 0,.slice none 0 0],.agg #[.int .i64 3,.string ⟨#[114,111,111,116]⟩,.string ⟨#[115]⟩,.string ⟨#[116]⟩,.string ⟨#[]⟩,.string ⟨#[]⟩,.slice (some ⟨d,0,none⟩) 1 1,.string ⟨#[]⟩,.int .i64 0,.slice none 0 0,.int .i64 0,.int .i64 0,.string ⟨#[]⟩,.string ⟨#[]⟩,.string ⟨#[]⟩,.int .i64 0,.bool false]] V (pg V (lH,61)):=by
 rw [← Uh];exact nM iW none 0 none 0 (some ⟨b,0,none⟩) 1 none 0 none 0 kq (some ⟨d,0,none⟩) 1 none 0 V H (Eb h)
theorem Uj {d:Nat} {As At An Am Ag:Option Addr} {cs ct cn cm cg:Nat} (V:World) (H:eH V gP As cs At ct An cn Am cm Ag cg) (h:aL V 3 iv (some ⟨d,0,none⟩) 1 [FV]):Calls Tryz.prog 7 #[.agg #[.int .i64 0,.int .i64 1,.slice As 1 cs,.slice At 0 ct,.slice An 1 cn,.slice Am 0 cm,.slice Ag 0 cg],.agg #[.int .i64 3,.string ⟨#[114,111,111,116]⟩,.string ⟨#[115]⟩,.string ⟨#[116]⟩,.string ⟨#[]⟩,.string ⟨#[]⟩,.slice (some ⟨d,0,none⟩) 1 1,.string ⟨#[]⟩,.int .i64 0,.slice none 0 0,.int .i64 0,.int .i64 0,.string ⟨#[]⟩,.string ⟨#[]⟩,.string ⟨#[]⟩,.int .i64 0,.bool false]] V (pg V (FW,0)):=by
 rw [← XX];exact nM gP As cs At ct An cn Am cm Ag cg kq (some ⟨d,0,none⟩) 1 none 0 V H (Eb h)
theorem Uk {As At An Am Ag:Option Addr} {cs ct cn cm cg:Nat} (V:World) (H:eH V gP As cs At ct An cn Am cm Ag cg):Calls Tryz.prog 7 #[.agg #[.int .i64 0,.int .i64 1,.slice As 1 cs,.slice At 0 ct,.slice An 1 cn,.slice Am 0 cm,.slice Ag 0 cg],.agg #[.int .i64 1,.string ⟨#[114,111,111,116]⟩,.string ⟨#[115]⟩,.string ⟨#[]⟩,.string ⟨#[]⟩,.string ⟨#[]⟩,.slice none 0 0,.string ⟨#[]⟩,.int .i64 0,.slice none 0 0,.int .i64 0,.int .i64 0,.string ⟨#[]⟩,.string ⟨#[]⟩,.string ⟨#[]⟩,.int .i64 0,.bool false]] V (pg V (lH,60)):=by
 rw [← Ug];exact nM gP As cs At ct An cn Am cm Ag cg jp none 0 none 0 V H (Ea V)
theorem Me:xK gP:=⟨⟨⟨by unfold Small;decide,fun x hx=>by simp [gP] at hx;subst hx;exact ⟨by unfold Small;decide,by unfold Small;decide⟩⟩,by unfold Small;decide,fun x hx=>by simp [gP] at hx⟩,⟨⟨by unfold Small;decide,fun x hx=>by simp [gP] at hx;subst hx;unfold Small;decide⟩,by unfold Small;decide,fun x hx=>by simp [gP] at hx⟩,by unfold Small;decide,fun x hx=>by simp [gP] at hx⟩
theorem l9 (w:World):Calls Tryz.prog 8 #[] w fun e w'=>e=.returned (.bool true)∧ag w w':=by
 go_enter Tryz.func8,Tryz.ntmps8
 go_wp2_with fail;refine (Hv _).mono ?_;rintro e w1 ⟨b1,rfl,a1,H1⟩;have cG:=gH a1;have VH:=gH H1;clear a1 H1;go_wp2_with fail;refine (ly _).mono ?_;rintro e w2 ⟨rfl,a2⟩;have fx:=gH (cG.out.trans a2);have VI:=gH (VH.out.az a2);clear a2 VH cG;go_wp2_with fail;refine (X0 w2 VI.out).mono ?_;rintro e w3 ⟨⟨As,ns,cs⟩,⟨At,nt,ct⟩,⟨An,nn,cn⟩,⟨Am,nm,cm⟩,⟨Ag,ng,cg⟩,L,rfl,a3,ci⟩;have ev:lq gP ⟨As,ns,cs⟩ ⟨At,nt,ct⟩ ⟨An,nn,cn⟩ ⟨Am,nm,cm⟩ ⟨Ag,ng,cg⟩=.agg #[.int .i64 0,.int .i64 1,.slice As 1 cs,.slice At 0 ct,.slice An 1 cn,.slice Am 0 cm,.slice Ag 0 cg]:=rfl;simp only [ev];clear ev;obtain ⟨W,hW⟩:∃ W,W=w3.alloc (.cells #[.int .i64 0,.int .i64 1,.slice As 1 cs,.slice At 0 ct,.slice An 1 cn,.slice Am 0 cm,.slice Ag 0 cg] 32):=⟨_,rfl⟩;obtain ⟨ba,Cj⟩:∃ b,b=w3.heap.size:=⟨_,rfl⟩
 have rW:ap W ba [.int .i64 0,.int .i64 1,.slice As 1 cs,.slice At 0 ct,.slice An 1 cn,.slice Am 0 cm,.slice Ag 0 cg]:=by rw [hW,Cj];exact bv (ag.refl _) (by simp)
 have RW:=gH rW;have br:=gH (show ag w W from by rw [hW];exact (fx.out.trans a3).alloc _)
 have HC:=gH (show eH W gP As cs At ct An cn Am cm Ag cg from by
  have:=ci.at Me
  rw [hW];exact this.az ((ag.refl _).alloc _))
 obtain ⟨x0,x1,x2,x3,x4,x5,x6,xz⟩:=dM rW;clear a3 ci rW VI
 go_upto_region 2 with fail
 rw [← Cj,← hW];clear hW Cj fx
 go_cut [3,4] from 9 (fun s3 s4 wx=>∃ bx v2 A3 c3 v4 v5 v6,s3=.pointer (some ⟨bx,0,none⟩)∧s4=.int .i64 0∧ag W wx∧ap wx bx [.int .i64 0,.int .i64 2,v2,.slice A3 1 c3,v4,v5,v6])
 case first =>
  have KX:=gH (show ∀ V,ag W V→(V.cell? ⟨ba,0,none⟩=some (.int .i64 0)∧V.cell? ⟨ba,1,none⟩=some (.int .i64 1)∧V.cell? ⟨ba,2,none⟩=some (.slice As 1 cs)∧V.cell? ⟨ba,3,none⟩=some (.slice At 0 ct)∧V.cell? ⟨ba,4,none⟩=some (.slice An 1 cn)∧V.cell? ⟨ba,5,none⟩=some (.slice Am 0 cm)∧V.cell? ⟨ba,6,none⟩=some (.slice Ag 0 cg)) from fun V a=>⟨a.cell_kept x0,a.cell_kept x1,a.cell_kept x2,a.cell_kept x3,a.cell_kept x4,a.cell_kept x5,a.cell_kept x6⟩);clear x0 x1 x2 x3 x4 x5 x6
  go_region_held3 (fun V=>V.cell? ⟨ba,0,none⟩=some (.int .i64 0)∧V.cell? ⟨ba,1,none⟩=some (.int .i64 1)∧V.cell? ⟨ba,2,none⟩=some (.slice As 1 cs)∧V.cell? ⟨ba,3,none⟩=some (.slice At 0 ct)∧V.cell? ⟨ba,4,none⟩=some (.slice An 1 cn)∧V.cell? ⟨ba,5,none⟩=some (.slice Am 0 cm)∧V.cell? ⟨ba,6,none⟩=some (.slice Ag 0 cg))
   ((refine KX.out _ ?_;first
    | with_reducible exact (ag.refl _).drew
    | with_reducible exact b5
    | with_reducible exact b4
    | with_reducible exact ((ag.refl _).alloc _).drew
    | with_reducible exact b5.alloc _
    | with_reducible exact b4.alloc _
    | (with_reducible refine ag.setCell (ag.setCell (ag.setCell (ag.setCell (ag.setCell (ag.setCell (ag.setCell b5 _ _ ?_) _ _ ?_) _ _ ?_) _ _ ?_) _ _ ?_) _ _ ?_) _ _ ?_)<;>first | exact Nat.le_refl _ | exact b4.size
    | (with_reducible refine ag.setCell (ag.setCell (ag.setCell (ag.setCell (ag.setCell (ag.setCell (ag.setCell (b5.alloc _) _ _ ?_) _ _ ?_) _ _ ?_) _ _ ?_) _ _ ?_) _ _ ?_) _ _ ?_)<;>exact b5.size
    | fail))
   ((first
    | (go_at_call 29;first
     | ((with_reducible refine (JH W.drew).mono ?_);rintro e w4 ⟨d,rfl,a4,hd⟩;have b4:ag W w4:=(ag.refl _).drew.trans a4)
     | (refine (JH _).mono ?_;rintro e w4 ⟨d,rfl,a4,hd⟩;have b4:ag W w4:=((ag.refl _).alloc _).drew.trans a4;have TP:ap w4 W.heap.size [.int .i64 0,.int .i64 0,.slice none 0 0,.slice none 0 0,.slice none 0 0,.slice none 0 0,.slice none 0 0]:=bv (w:=W) (c:=[.int .i64 0,.int .i64 0,.slice none 0 0,.slice none 0 0,.slice none 0 0,.slice none 0 0,.slice none 0 0]) (t:=32) ((ag.refl _).drew.trans a4) rfl))
    | (go_at_call 7;first
     | ((with_reducible refine (Uj w4 (HC.out.az b4) hd).mono ?_);rintro e w5 ⟨⟨A1,n1,c1⟩,⟨A2,n2,c2⟩,⟨A3,n3,c3⟩,⟨A4,n4,c4⟩,⟨A5,n5,c5⟩,L2,rfl,a5,ob⟩;have b5:ag W w5:=b4.trans a5;(try (have gO:=TP.az a5;have Fu:=gO.1;have PT:=gO.cell (j:=0) rfl;have PU:=gO.2.2 0 (by simp);have PV:=gO.cell (j:=1) rfl;have PW:=gO.2.2 1 (by simp);have PX:=gO.cell (j:=2) rfl;have PY:=gO.2.2 2 (by simp);have PZ:=gO.cell (j:=3) rfl;have P0:=gO.2.2 3 (by simp);have P1:=gO.cell (j:=4) rfl;have P2:=gO.2.2 4 (by simp);have P3:=gO.cell (j:=5) rfl;have P4:=gO.2.2 5 (by simp);have P5:=gO.cell (j:=6) rfl;have P6:=gO.2.2 6 (by simp)));have ev:lq FW ⟨A1,n1,c1⟩ ⟨A2,n2,c2⟩ ⟨A3,n3,c3⟩ ⟨A4,n4,c4⟩ ⟨A5,n5,c5⟩=.agg #[.int .i64 0,.int .i64 2,.slice A1 1 c1,.slice A2 1 c2,.slice A3 1 c3,.slice A4 0 c4,.slice A5 0 c5]:=rfl;simp only [ev])
     | ((with_reducible refine (Uj _ (HC.out.az (b4.alloc _)) (cy ((ag.refl _).alloc _) hd)).mono ?_);rintro e w5 ⟨⟨A1,n1,c1⟩,⟨A2,n2,c2⟩,⟨A3,n3,c3⟩,⟨A4,n4,c4⟩,⟨A5,n5,c5⟩,L2,rfl,a5,ob⟩;have b5:ag W w5:=(b4.alloc _).trans a5;have gO:ap w5 w4.heap.size [.int .i64 0,.int .i64 0,.slice none 0 0,.slice none 0 0,.slice none 0 0,.slice none 0 0,.slice none 0 0]:=bv (w:=w4) (c:=[.int .i64 0,.int .i64 0,.slice none 0 0,.slice none 0 0,.slice none 0 0,.slice none 0 0,.slice none 0 0]) (t:=32) a5 rfl;have Fu:=gO.1;have PT:=gO.cell (j:=0) rfl;have PU:=gO.2.2 0 (by simp);have PV:=gO.cell (j:=1) rfl;have PW:=gO.2.2 1 (by simp);have PX:=gO.cell (j:=2) rfl;have PY:=gO.2.2 2 (by simp);have PZ:=gO.cell (j:=3) rfl;have P0:=gO.2.2 3 (by simp);have P1:=gO.cell (j:=4) rfl;have P2:=gO.2.2 4 (by simp);have P3:=gO.cell (j:=5) rfl;have P4:=gO.2.2 5 (by simp);have P5:=gO.cell (j:=6) rfl;have P6:=gO.2.2 6 (by simp);have ev:lq FW ⟨A1,n1,c1⟩ ⟨A2,n2,c2⟩ ⟨A3,n3,c3⟩ ⟨A4,n4,c4⟩ ⟨A5,n5,c5⟩=.agg #[.int .i64 0,.int .i64 2,.slice A1 1 c1,.slice A2 1 c2,.slice A3 1 c3,.slice A4 0 c4,.slice A5 0 c5]:=rfl;simp only [ev]))))
  ·go_wp2_with fail
   go_meet
   case rel=>exact ⟨_,_,_,_,_,_,_,rfl,rfl,b5.alloc _,bv (ag.refl _) rfl⟩
  ·go_wp2_with fail
   go_meet
   case rel=>exact ⟨_,_,_,_,_,_,_,rfl,rfl,(dG _ _ _ _ _ _ _ _ _).aZ b5 (fun g hg e=>by have e:g=_:=e;first | omega | (have:=b4.size;omega)),cO gO rfl _ _ _ _ _ _ _⟩
  ·go_wp2_with fail
   go_meet
   case rel=>exact ⟨_,_,_,_,_,_,_,rfl,rfl,(dG _ _ _ _ _ _ _ _ _).aZ b5 (fun g hg e=>by have e:g=_:=e;first | omega | (have:=b4.size;omega)),cO gO rfl _ _ _ _ _ _ _⟩
 case rest =>
 obtain ⟨bx,v2,A3,c3,v4,v5,v6,rfl,rfl,aB,rB⟩:=hcut;have HB:=gH aB;have RB:=gH rB;clear aB rB;go_wp2_with fail;refine (Hv _).mono ?_;rintro e q1 ⟨b2,rfl,a1,H1⟩;have cG:=gH (HB.out.trans a1);have RB1:=gH (RB.out.az a1);have VH:=gH H1;clear a1 H1;go_wp2_with fail;refine (JH _).mono ?_;rintro e q2 ⟨d2,rfl,a2,H2⟩;have fx:=gH (cG.out.trans a2);have RB2:=gH (RB1.out.az a2);have VI:=gH (VH.out.az a2);have HT2:=gH H2;clear a2 H2;go_wp2_with fail;refine (X1 q2 VI.out HT2.out).mono ?_;rintro e q3 ⟨⟨B1,m1,k1⟩,⟨B2,m2,k2⟩,⟨B3,m3,k3⟩,⟨B4,m4,k4⟩,⟨B5,m5,k5⟩,L3,rfl,a3,-⟩;have ev:lq lH ⟨B1,m1,k1⟩ ⟨B2,m2,k2⟩ ⟨B3,m3,k3⟩ ⟨B4,m4,k4⟩ ⟨B5,m5,k5⟩=.agg #[.int .i64 0,.int .i64 0,.slice B1 0 k1,.slice B2 0 k2,.slice B3 0 k3,.slice B4 0 k4,.slice B5 0 k5]:=rfl;simp only [ev];clear ev;obtain ⟨D,hD⟩:∃ D,D=q3.alloc (.cells #[.int .i64 0,.int .i64 0,.slice B1 0 k1,.slice B2 0 k2,.slice B3 0 k3,.slice B4 0 k4,.slice B5 0 k5] 32):=⟨_,rfl⟩;have HAD:=gH (show ag W D from by rw [hD];exact (fx.out.trans a3).alloc _);have RBD:=gH (show ap D bx [.int .i64 0,.int .i64 2,v2,.slice A3 1 c3,v4,v5,v6] from by rw [hD];exact (RB2.out.az a3).az ((ag.refl _).alloc _));have ZO:=gH (HC.out.az HAD.out);have rD:=RW.out.az HAD.out;obtain ⟨x0,x1,x2,x3,x4,x5,x6,xz⟩:=dM rD;clear rD a3
 go_upto_region 4 with fail
 rw [← hD];clear hD
 go_cut [8] from 9 (fun s8 wx=>s8=.int .i64 60∧ag D wx)
 case first =>
  have KX:=gH (show ∀ V,ag D V→(V.cell? ⟨ba,0,none⟩=some (.int .i64 0)∧V.cell? ⟨ba,1,none⟩=some (.int .i64 1)∧V.cell? ⟨ba,2,none⟩=some (.slice As 1 cs)∧V.cell? ⟨ba,3,none⟩=some (.slice At 0 ct)∧V.cell? ⟨ba,4,none⟩=some (.slice An 1 cn)∧V.cell? ⟨ba,5,none⟩=some (.slice Am 0 cm)∧V.cell? ⟨ba,6,none⟩=some (.slice Ag 0 cg)) from fun V a=>⟨a.cell_kept x0,a.cell_kept x1,a.cell_kept x2,a.cell_kept x3,a.cell_kept x4,a.cell_kept x5,a.cell_kept x6⟩);clear x0 x1 x2 x3 x4 x5 x6
  go_region_held3 (fun V=>V.cell? ⟨ba,0,none⟩=some (.int .i64 0)∧V.cell? ⟨ba,1,none⟩=some (.int .i64 1)∧V.cell? ⟨ba,2,none⟩=some (.slice As 1 cs)∧V.cell? ⟨ba,3,none⟩=some (.slice At 0 ct)∧V.cell? ⟨ba,4,none⟩=some (.slice An 1 cn)∧V.cell? ⟨ba,5,none⟩=some (.slice Am 0 cm)∧V.cell? ⟨ba,6,none⟩=some (.slice Ag 0 cg))
   ((refine KX.out _ ?_;first
    | with_reducible exact (ag.refl _).drew
    | with_reducible exact b5
    | with_reducible exact b4
    | with_reducible exact ((ag.refl _).alloc _).drew
    | with_reducible exact b5.alloc _
    | with_reducible exact b4.alloc _
    | (with_reducible refine ag.setCell (ag.setCell (ag.setCell (ag.setCell (ag.setCell (ag.setCell (ag.setCell b5 _ _ ?_) _ _ ?_) _ _ ?_) _ _ ?_) _ _ ?_) _ _ ?_) _ _ ?_)<;>first | exact Nat.le_refl _ | exact b4.size
    | (with_reducible refine ag.setCell (ag.setCell (ag.setCell (ag.setCell (ag.setCell (ag.setCell (ag.setCell (b5.alloc _) _ _ ?_) _ _ ?_) _ _ ?_) _ _ ?_) _ _ ?_) _ _ ?_) _ _ ?_)<;>exact b5.size
    | fail))
   ((first
    | (go_at_call 28;first
     | ((with_reducible refine (ly D.drew).mono ?_);rintro e w4 ⟨rfl,a4⟩;have b4:ag D w4:=(ag.refl _).drew.trans a4)
     | (refine (ly _).mono ?_;rintro e w4 ⟨rfl,a4⟩;have b4:ag D w4:=((ag.refl _).alloc _).drew.trans a4;have TP:ap w4 D.heap.size [.int .i64 0,.int .i64 0,.slice none 0 0,.slice none 0 0,.slice none 0 0,.slice none 0 0,.slice none 0 0]:=bv (w:=D) (c:=[.int .i64 0,.int .i64 0,.slice none 0 0,.slice none 0 0,.slice none 0 0,.slice none 0 0,.slice none 0 0]) (t:=32) ((ag.refl _).drew.trans a4) rfl))
    | (go_at_call 7;first
     | ((with_reducible refine (Uk w4 (ZO.out.az b4)).mono ?_);rintro e w5 ⟨⟨A1,n1,c1⟩,⟨A2,n2,c2⟩,⟨A3,n3,c3⟩,⟨A4,n4,c4⟩,⟨A5,n5,c5⟩,L2,rfl,a5,ob⟩;have b5:ag D w5:=b4.trans a5;(try (have gO:=TP.az a5;have Fu:=gO.1;have PT:=gO.cell (j:=0) rfl;have PU:=gO.2.2 0 (by simp);have PV:=gO.cell (j:=1) rfl;have PW:=gO.2.2 1 (by simp);have PX:=gO.cell (j:=2) rfl;have PY:=gO.2.2 2 (by simp);have PZ:=gO.cell (j:=3) rfl;have P0:=gO.2.2 3 (by simp);have P1:=gO.cell (j:=4) rfl;have P2:=gO.2.2 4 (by simp);have P3:=gO.cell (j:=5) rfl;have P4:=gO.2.2 5 (by simp);have P5:=gO.cell (j:=6) rfl;have P6:=gO.2.2 6 (by simp)));have ev:lq lH ⟨A1,n1,c1⟩ ⟨A2,n2,c2⟩ ⟨A3,n3,c3⟩ ⟨A4,n4,c4⟩ ⟨A5,n5,c5⟩=.agg #[.int .i64 0,.int .i64 0,.slice A1 0 c1,.slice A2 0 c2,.slice A3 0 c3,.slice A4 0 c4,.slice A5 0 c5]:=rfl;simp only [ev])
     | ((with_reducible refine (Uk _ (ZO.out.az (b4.alloc _))).mono ?_);rintro e w5 ⟨⟨A1,n1,c1⟩,⟨A2,n2,c2⟩,⟨A3,n3,c3⟩,⟨A4,n4,c4⟩,⟨A5,n5,c5⟩,L2,rfl,a5,ob⟩;have b5:ag D w5:=(b4.alloc _).trans a5;have gO:ap w5 w4.heap.size [.int .i64 0,.int .i64 0,.slice none 0 0,.slice none 0 0,.slice none 0 0,.slice none 0 0,.slice none 0 0]:=bv (w:=w4) (c:=[.int .i64 0,.int .i64 0,.slice none 0 0,.slice none 0 0,.slice none 0 0,.slice none 0 0,.slice none 0 0]) (t:=32) a5 rfl;have Fu:=gO.1;have PT:=gO.cell (j:=0) rfl;have PU:=gO.2.2 0 (by simp);have PV:=gO.cell (j:=1) rfl;have PW:=gO.2.2 1 (by simp);have PX:=gO.cell (j:=2) rfl;have PY:=gO.2.2 2 (by simp);have PZ:=gO.cell (j:=3) rfl;have P0:=gO.2.2 3 (by simp);have P1:=gO.cell (j:=4) rfl;have P2:=gO.2.2 4 (by simp);have P3:=gO.cell (j:=5) rfl;have P4:=gO.2.2 5 (by simp);have P5:=gO.cell (j:=6) rfl;have P6:=gO.2.2 6 (by simp);have ev:lq lH ⟨A1,n1,c1⟩ ⟨A2,n2,c2⟩ ⟨A3,n3,c3⟩ ⟨A4,n4,c4⟩ ⟨A5,n5,c5⟩=.agg #[.int .i64 0,.int .i64 0,.slice A1 0 c1,.slice A2 0 c2,.slice A3 0 c3,.slice A4 0 c4,.slice A5 0 c5]:=rfl;simp only [ev]))))
  ·go_wp2_with fail
   go_meet
   case rel=>exact ⟨rfl,b5.alloc _⟩
  ·go_wp2_with fail
   go_meet
   case rel=>exact ⟨rfl,(dG _ _ _ _ _ _ _ _ _).aZ b5 (fun g hg e=>by have e:g=_:=e;first | omega | (have:=b4.size;omega))⟩
  ·go_wp2_with fail
   go_meet
   case rel=>exact ⟨rfl,(dG _ _ _ _ _ _ _ _ _).aZ b5 (fun g hg e=>by have e:g=_:=e;first | omega | (have:=b4.size;omega))⟩
 case rest =>
 obtain ⟨rfl,aE⟩:=hcut;have rE:=RBD.out.az aE;have e1:=rE.cell (j:=1) rfl;have e3:=rE.cell (j:=3) rfl;have ez:=rE.1;have rA:=RW.out.az (HAD.out.trans aE);have f1:=rA.cell (j:=1) rfl;have fz:=rA.1;have JD:=gH (br.out.trans (HAD.out.trans aE));clear rE rA aE;go_wp2_with fail;go_ret;exact ⟨rfl,JD.out⟩
theorem zS {c:bW} {x:eW} (h:(cV c x).2≠0):(cV c x).1=lH:=by
 unfold cV at h ⊢
 split
 ·rfl
 ·rename_i h1
  rw [if_neg h1] at h
  split
  ·rfl
  ·rename_i h2
   rw [if_neg h2] at h
   split
   ·rfl
   ·rename_i h3
    rw [if_neg h3] at h;exact absurd rfl h
structure P7 (c y:bW) (x:eW):Prop where
 right:eu y=true
 Tx:y.version=c.version+1
 W6:y.aA=if cD x then c.aA+1 else c.aA
 may:fF x=true
 sm:xK y
 v:0≤c.version∧c.version≤1000000000
 e:0≤c.aA∧c.aA≤1000
theorem Ec {c y:bW} {x:eW} (h:cV c x=(y,0)) (sm:xK c) (sx:PK x):P7 c y x:=by
 have d:=tN (c:=c) (x:=x) (by rw [h])
 have hy:y=ki (bZ c x).1 (cD x):=by have:=d.is;rw [h] at this;exact congrArg Prod.fst this
 obtain ⟨n1,n2⟩:=qO d.done;obtain ⟨r1,r2,-⟩:=ic.1 d.begun.right;have hs:=FO sm sx (qU d.begun.may).2;subst hy;exact ⟨d.IR,by show (bZ c x).1.version+1=_;rw [n2],by show (if cD x then (bZ c x).1.aA+1 else (bZ c x).1.aA)=_;rw [n1],d.begun.may,⟨hs.1,hs.2.1,hs.2.2⟩,r2,r1⟩
end Go.Proofs.YtmflccbnoeaafaaGreat
