import Derived.Deep.CutRange
import Derived.ShutString
import Derived.Test.YtakddkhipelmjaaGreatPartH17
set_option maxRecDepth 100000
set_option linter.unusedVariables false
set_option maxHeartbeats 64000000
namespace Go.Proofs.YtakddkhipelmjaaGreat
open Go.Deep Go.RowKit
def Br (B:Nat) (w:World) (cs:List Value) (c:bS):Prop:=∃ S:Nat→Prop,(∀ j,S j→B≤j∧j < w.heap.size)∧fN S kU w cs c
theorem kU.len {w:World} {cs:List Value} {c:bS} (h:kU w cs c):cs.length=7:=by
 obtain ⟨As,c1,At,c2,An,c3,Am,c4,Ag,c5,rfl,h⟩:=h;rfl
theorem kU.one {w:World} {cs:List Value} {c:bS} (h:kU w cs c):∀ u∈cs,u.oneCell'=true:=by
 obtain ⟨As,c1,At,c2,An,c3,Am,c4,Ag,c5,rfl,h⟩:=h;simp [Value.oneCell']
theorem kU.Un {w:World} {cs:List Value} {c:bS} (h:kU w cs c):cs[0]? = some (.int .i64 c.av)∧cs[1]? = some (.int .i64 c.version):=by
 obtain ⟨As,c1,At,c2,An,c3,Am,c4,Ag,c5,rfl,h⟩:=h;exact ⟨rfl,rfl⟩
theorem kU.aA {w w':World} {cs:List Value} {c:bS} (h:kU w cs c) (a:ag w w'):kU w' cs c:=by
 obtain ⟨As,c1,At,c2,An,c3,Am,c4,Ag,c5,rfl,h1,h2,h3,h4,h5⟩:=h;exact ⟨As,c1,At,c2,An,c3,Am,c4,Ag,c5,rfl,bQ a h1,bC a h2,aU a h3,df a h4,gB a h5⟩
theorem Br.w {B:Nat} {w:World} {cs:List Value} {c:bS} (h:Br B w cs c):kU w cs c:=by
 obtain ⟨S,_,h⟩:=h;exact h w (Kb.refl _ _)
theorem Br.of {w:World} {B:Nat} {c:bS} {hs ht hn hm hg:Hd} {L:List bA} (h:er w B c hs ht hn hm hg L) (sm:Ed c):Br B w [.int .i64 c.av,.int .i64 c.version,.slice hs.a c.aj.ae.length hs.c,.slice ht.a c.aj.tables.length ht.c,.slice hn.a c.ar.names.length hn.c,.slice hm.a c.ar.members.length hm.c,.slice hg.a c.ah.length hg.c] c :=
 ⟨fun g=>rS hs ht hn hm L g∨g∈hg.blk,fun j e=>h.lt e,fun V k=>by
  have a:=(h.kb k fun g e e'=>e' e).at sm
  exact ⟨_,_,_,_,_,_,_,_,_,_,rfl,a.fS,a.tab,a.kw,a.mem,a.qr⟩⟩
def ApQ (w:World) (c:bS) (k:Int) (e:Ending) (w':World):Prop:=ag w w'∧∃ cs,e=.returned (.tuple #[.agg cs.toArray,.int .i64 k])∧Br w.heap.size w' cs c
def wd (x:gc) (A6:Option Addr) (c6:Nat) (A9:Option Addr) (c9:Nat):List Value:=[.int .i64 x.kind,.string x.aK,.string x.af,.string x.table,.string x.name,.string x.role,.slice A6 x.au.length c6,.string x.rule.name,.int .i64 x.rule.kind,.slice A9 x.rule.au.length c9,.int .i64 x.rule.low,.int .i64 x.rule.high,.string x.rule.af,.string x.rule.table,.string x.rule.key,.int .i64 x.right,.bool x.opt]
theorem Iu (c:bS) (cs:List Value) (x:gc) (A6:Option Addr) (c6:Nat) (A9:Option Addr) (c9:Nat) (w:World) (r:bS) (k:Int) (H:kU w cs c) (XA:mM w x A6 c6 A9 c9) (hk:x.kind=1∨x.kind=2) (hr:dB c x=(r,k)) (sm:Ed r) :
  Calls Tryz.prog 49 #[.agg cs.toArray,.agg (wd x A6 c6 A9 c9).toArray] w (ApQ w r k):=by
 obtain ⟨As,c1,At,c2,An,c3,Am,c4,Ag,c5,rfl,h1,h2,h3,h4,h5⟩:=H;refine (Io c As c1 At c2 An c3 Am c4 Ag c5 x A6 c6 A9 c9 w ⟨h1,h2,h3,h4,h5⟩ XA fun hs ht hn hm hg L B b w b1 b2 C sm R XA hr _ _ _=>TR c hs ht hn hm hg L B b x A6 c6 A9 c9 w b1 b2 C sm R XA hr hk).mono ?_;rintro e w' ⟨hs,ht,hn,hm,hg,L,rfl,a,ci⟩;rw [hr] at ci ⊢;refine ⟨a,[.int .i64 r.av,.int .i64 r.version,.slice hs.a r.aj.ae.length hs.c,.slice ht.a r.aj.tables.length ht.c,.slice hn.a r.ar.names.length hn.c,.slice hm.a r.ar.members.length hm.c,.slice hg.a r.ah.length hg.c],?_,Br.of ci sm⟩;have e1:=mq ci.obj.fS;rfl
theorem Bu {T:TypeId} {fs:Array Field} {k:Nat} (hu:Tryz.prog.underlying T=some (.struct fs)) (hi:(Tryz.prog.info? T).map (·.size)=some k) {V:World} {x:Nat} {pre cs post:List Value} (h:ai V x (pre++(cs++post))) (hk:cs.length=k) :
  (loadVar T ⟨x,pre.length,none⟩).run Tryz.prog V=.ok (.agg cs.toArray) V:=by
 have hc:∀ j,j < k→V.cell? ⟨x,pre.length+j,none⟩=cs[j]? := fun j hj=>by
  rw [h.2.1 _ (by simp;omega),List.getElem?_append_right (by omega),Nat.add_sub_cancel_left,List.getElem?_append_left (by omega)]
 rw [eN V T _ k x pre.length hu rfl hi (fun j hj=>by rw [hc j hj,List.getElem?_eq_getElem (by omega)];rfl)]
 congr 2
 congr 1
 apply List.ext_getElem
 ·simp [hk]
 ·intro j h1 h2
  simp only [List.getElem_map,List.getElem_range];rw [hc j (by omega),List.getElem?_eq_getElem h2];rfl
theorem NI {T:TypeId} {k:Nat} (hi:(Tryz.prog.info? T).map (·.size)=some k) {V:World} {x:Nat} {zs vs post:List Value} (h:ai V x (zs++post)) (hz:zs.length=k) (hv:vs.length=k) (h1:∀ v∈vs,v.oneCell'=true) :
  (storeVar T ⟨x,0,none⟩ (.agg vs.toArray)).run Tryz.prog V=.ok () (V.setCells x 0 vs)∧ai (V.setCells x 0 vs) x (vs++post):=by
 have r0:ai V x zs:=⟨h.1,fun j hj=>by rw [h.2.1 j (by simp;omega),List.getElem?_append_left hj],fun j hj=>h.2.2 j (by simp;omega)⟩;exact ⟨ju hi r0 hz hv h1,by simpa using se vs V [] zs post (by simpa using h) (by omega)⟩
theorem dD.split {w:World} {cs:List Value} {m:fo} (h:dD w cs m):∃ c0 A7 c7 u8 u9,cs=c0++[.slice A7 m.aQ.length c7,u8,u9]∧kU w c0 m.cat∧az w 5 fj A7 c7 m.aQ:=by
 obtain ⟨c7,Ad,c6,Al,Yr,rfl,h1,h2,h3⟩:=h;exact ⟨c7,Ad,c6,_,_,rfl,h1,h2⟩
theorem dJ.jd {B E:Nat} {P:Nat→Prop} {w w2 w7 F:World} {c0 c7:List Value} {u7 u8 u9:Value} {m:fo} {c':bS} {ds:List iF} {A:Option Addr} {cd:Nat} (h:dJ B w (c0++[u7,u8,u9]) m) (h0:c0.length=7) (hB:B≤w.heap.size) (a:ag w w2) (hE:w.heap.size≤E) (hP:∀ g,P g→w.heap.size≤g∧g < E) (hc:Br E w2 c7 c') (k27:Kb P w2 w7) (o:w7.ownsRow E 48 5 (.slice A ds.length cd) ds.length (ds.flatMap cj)) (hs:Small (ds.length*16)) (k7F:Kb P w7 F) :
  dJ B F (c7++[.slice A ds.length cd,u8,u9]) ⟨c',ds,m.bp,m.last⟩:=by
 obtain ⟨S,hS,hh⟩:=h;obtain ⟨S2,Uo,hc⟩:=hc
 refine dJ.of (S:=fun j=>(S j∧j < w.heap.size)∨(S2 j∧j < w2.heap.size)∨jZ (.slice A ds.length cd) j) (fun j e=>?_) fun V kv=>?_
 ·rcases e with e | e | e
  ·exact (hS j e.1).1
  ·have:=(Uo j e.1).1;omega
  ·have:=(o.lt j e).1;omega
 ·have k2:Kb (fun j=>¬ ((S j∧j < w.heap.size)∨(S2 j∧j < w2.heap.size)∨jZ (.slice A ds.length cd) j)) w7 V:=(k7F.mono fun j _ e e'=>by
   have:=hP j e
   rcases e' with e' | e' | e'
   ·omega
   ·have:=(Uo j e'.1).1;omega
   ·have:=(o.lt j e').1;omega).trans kv
  have k3:Kb (fun j=>¬ ((S j∧j < w.heap.size)∨(S2 j∧j < w2.heap.size))) w2 V:=(k27.mono fun j _ e e'=>by
   have:=hP j e
   rcases e' with e' | e'
   ·omega
   ·have:=(Uo j e'.1).1;omega).trans (k2.mono fun j hj e e'=>e (e'.elim .inl fun h=>.inr (.inl h)))
  have m1:=hh V (((Kb.aO a).trans k3).mono fun j hj e e'=>e (.inl ⟨e',(hS j e').2⟩));have m2:=hc V (k3.mono fun j hj e e'=>e (.inr ⟨e',hj⟩))
  have o2:=br o k2 fun g hg e=>e (.inr (.inr hg))
  have s2:az V 5 fj A cd ds:=dS (h:=⟨A,ds.length,cd⟩) cj o2 (fun x hx=>⟨rfl,rfl⟩) hs;obtain ⟨c9,Ad,c6,Al,c8,e9,h1,h2,h3⟩:=m1;have e9':=List.append_inj e9 (by rw [h0,h1.len]);simp only [List.cons.injEq,and_true] at e9';obtain ⟨-,-,rfl,rfl⟩:=e9';exact ⟨c7,A,cd,Al,c8,rfl,m2,s2,h3⟩
def PK (ds:List iF) (w:World) (e:Ending) (w':World):Prop:=∃ A c,e=.returned (.slice A ds.length c)∧ag w w'∧w'.ownsRow w.heap.size 48 5 (.slice A ds.length c) ds.length (ds.flatMap cj)
theorem wh {w:World} {p:Nat} {d:iF} (R:ai w p (cj d)):w.cell? ⟨p,0,none⟩=some (.int .i64 d.aC)∧w.cell? ⟨p,1,none⟩=some (.int .i64 d.number)∧w.cell? ⟨p,2,none⟩=some (.int .i64 d.code)∧w.cell? ⟨p,3,none⟩=some (.int .i64 d.fence)∧w.cell? ⟨p,4,none⟩=some (.int .i64 d.version)∧p < w.heap.size:=⟨R.cell (j:=0) rfl,R.cell (j:=1) rfl,R.cell (j:=2) rfl,R.cell (j:=3) rfl,R.cell (j:=4) rfl,R.1⟩
structure Up (w:World) (m:fo) (q n:Int) (xc:List Value) (c':bS) (fe:Bool) (ds:List iF):Prop where
 ap:∀ V c7,ag w V→kU V c7 m.cat→Calls Tryz.prog 49 #[.agg c7.toArray,.agg xc.toArray] V (ApQ V c' 0)
 fen:∀ V,ag w V→Calls Tryz.prog 50 #[.agg xc.toArray] V fun e w'=>e=.returned (.bool fe)∧ag V w'
 put:∀ V A c,az V 5 fj A c m.aQ→Calls Tryz.prog 51 #[.slice A m.aQ.length c,.func (.func 24) #[] #[],.agg #[.int .i64 q,.int .i64 n,.int .i64 0,.int .i64 (if fe then c'.av else 0),.int .i64 c'.version]] V (PK ds V)
 sm:Small (ds.length*16)
theorem qD (m:fo) (cs oc xc:List Value) (q n:Int) (pre post:List Value) (c':bS) (fe:Bool) (ds:List iF) (r:fo × Int) (B:Nat) (w:World) (hB:B≤w.heap.size) (H:dJ B w cs m) (ho:oc=pre++(xc++post)) (hp:pre.length=3) (Ua:xc.length=17) (mm:oc[1]? = some (.int .i64 q)) (FP:oc[2]? = some (.int .i64 n))
  (hn:(n < (fA m.aQ q).number∧r=(KP,181))∨((fA m.aQ q).number=n∧r=(m,0))∨((fA m.aQ q).number < n∧r=(⟨c',ds,m.bp,m.last⟩,0)∧Up w m q n xc c' fe ds)) :
  Calls Tryz.prog 33 #[.agg cs.toArray,.agg oc.toArray] w (sX B w r):=by
 obtain ⟨c0,A7,c7,u8,u9,hcs,PL,Ys⟩:=H.w.split;have h0:=PL.len;have TQ:=gH hcs;have HO:=gH ho;clear hcs ho;obtain ⟨W,hW⟩:∃ W,W=((w.alloc (.cells cs.toArray 36)).alloc (.cells oc.toArray 60)).alloc (.cells #[.int .i64 0,.int .i64 0,.slice none 0 0,.slice none 0 0,.slice none 0 0,.slice none 0 0,.slice none 0 0,.slice none 0 0,.slice none 0 0,.int .i64 0] 36):=⟨_,rfl⟩
 have aW:ag w W:=by rw [hW];exact (((ag.refl w).alloc _).alloc _).alloc _
 have zW:W.heap.size=w.heap.size+3:=by rw [hW];simp
 have r0:ai W w.heap.size cs:=by rw [hW];exact ai.up (ai.up (aR (ag.refl _) (by simp)))
 have r1:ai W (w.heap.size+1) oc:=by rw [hW];exact ai.up (aR (ag.refl _) (by simp))
 have r2:ai W (w.heap.size+1+1) cY:=by rw [hW];exact aR (ag.refl _) (by simp)
 have l0:=gM r0 H.w.len;have y1:=r1.cell mm;obtain ⟨d,hd⟩:∃ d,fA m.aQ q=d:=⟨_,rfl⟩;have C1:=gH (hd▸NA m cs q W (H.w.aA aW));have HR:=gH (And.intro r0 (And.intro r1 r2));have HA:=gH aW;have HZ:=gH zW;have HM:=gH H;rw [hd] at hn;have z0:=r0.1;have z1:=r1.1;clear r0 r1 r2 aW zW hd
 go_in
 go_upto_region 1 with fail
 rw [← hW];clear hW;go_wp2_with fail;refine C1.out.mono ?_;rintro e w1 ⟨rfl,a1⟩;obtain ⟨s1,r3,s2,kb⟩:=np (w:=w1.alloc (.cells #[.int .i64 0,.int .i64 0,.int .i64 0,.int .i64 0,.int .i64 0] 48)) d (aN (w:=w1) (c:=[.int .i64 0,.int .i64 0,.int .i64 0,.int .i64 0,.int .i64 0]) (t:=48) (ag.refl _)) rfl;obtain ⟨F,hF⟩:∃ F,F=(w1.alloc (.cells #[.int .i64 0,.int .i64 0,.int .i64 0,.int .i64 0,.int .i64 0] 48)).setCells w1.heap.size 0 (cj d):=⟨_,rfl⟩;have hs1:=a1.size;have hz:=HZ.out;have AF:=gH (show ag W F from by rw [hF];exact kb.aJ (a1.alloc _) fun g hg e=>by have e:g=_:=e;omega);have RF:=gH (show ai F w1.heap.size (cj d) from by rw [hF];exact r3);clear r3 s2 kb l0 y1
 go_upto_region 2 with fail
 rw [← hF];clear hF s1 a1;have x1:=(wh RF.out).2.1;have p1:=HR.out.2.1.aA AF.out;have y1:=p1.cell mm;have y2:=p1.cell FP;have yz:=p1.1;have xz:=RF.out.1;have q0:=HR.out.1.aA AF.out;have l0:=gM q0 HM.out.w.len;have qz:=q0.1;have q2:=HR.out.2.2.aA AF.out
 rcases hn with ⟨hn,rfl⟩ | ⟨hn,rfl⟩ | ⟨hn,rfl,Uq⟩
 ·obtain ⟨s3,r6,s4,kb⟩:=gG q2 rfl (Nz F)
  have HE:=gH (kb.aJ (HA.out.trans AF.out) fun g hg e=>by have e:g=_:=e;omega);have S4:=gH s4;unfold cY at s3;clear s4 kb r6 q0 q2 p1;go_wp2;refine bodyPost_ret (results_cell_tmp rfl _ rfl S4.out) rfl ?_;exact ⟨HE.out,cY,rfl,TH _ _⟩
 ·obtain ⟨s3,r6,s4,kb⟩:=gG q2 rfl (HM.out.w.aA (HA.out.trans AF.out))
  have HE:=gH (kb.aJ (HA.out.trans AF.out) fun g hg e=>by have e:g=_:=e;omega);have S4:=gH s4
  have hd:(d.number==n)=true:=by simpa using hn
  have hd2:¬ n < d.number:=by omega
  clear s4 kb r6 q0 q2 p1 hn;go_wp2;refine bodyPost_ret (results_cell_tmp rfl _ rfl S4.out) rfl ?_;exact ⟨HE.out,cs,rfl,HM.out.aA HE.out⟩
 have hd:(d.number==n)=false:=by rw [beq_eq_false_iff_ne];omega
 have hd2:¬ n < d.number:=by omega
 have HN:=gH Uq;have JU:=gH (HA.out.trans AF.out);obtain ⟨G,hG⟩:∃ G,G=F.alloc (.cells #[.int .i64 q,.int .i64 n,.int .i64 0,.int .i64 0,.int .i64 0] 48):=⟨_,rfl⟩
 have aG:ag F G:=by rw [hG];exact (ag.refl F).alloc _
 have RG:=gH (show ai G F.heap.size (cj ⟨q,n,0,0,0⟩) from by rw [hG];exact aN (ag.refl _))
 have zG:G.heap.size=F.heap.size+1:=by rw [hG];simp
 have AG:=gH aG;have ZG:=gH zG;clear Uq hn l0 q0 q2 p1 aG zG
 go_upto_region 7 with fail
 rw [← hG];clear hG y1 y2 yz qz x1 xz
 have R0:ai G w.heap.size ([]++(c0++[.slice A7 m.aQ.length c7,u8,u9])):=by rw [List.nil_append,← TQ.out];exact (HR.out.1.aA AF.out).aA AG.out
 have R1:ai G (w.heap.size+1) (pre++(xc++post)):=by rw [← HO.out];exact (HR.out.2.1.aA AF.out).aA AG.out
 have l1:(Cj ⟨w.heap.size,0,none⟩).run Tryz.prog G=.ok (.agg c0.toArray) G:=Bu (T:=32) (k:=7) Tryz.underlying32 (by kernel_rfl) R0 h0
 have l2:(Cl ⟨w.heap.size+1,3,none⟩).run Tryz.prog G=.ok (.agg xc.toArray) G:=by
  have:=Bu (T:=45) (k:=17) Tryz.underlying45 (by kernel_rfl) R1 Ua;rw [hp] at this;exact this
 have z0:=R0.1;have z1:=R1.1;have C2:=gH (HN.out.ap G c0 (JU.out.trans AG.out) (PL.aA (JU.out.trans AG.out)));have GR:=gH (And.intro TQ.out (And.intro HO.out (And.intro Ys PL)));clear R0 R1;go_wp2_with fail;refine C2.out.mono ?_;rintro e w2 ⟨a2,k7,rfl,ci⟩;have Rh:=ci.w.len;have aZ:=(ag.refl w2).alloc (.cells #[.int .i64 0,.int .i64 0,.slice none 0 0,.slice none 0 0,.slice none 0 0,.slice none 0 0,.slice none 0 0] 32);have rz:ai (w2.alloc (.cells #[.int .i64 0,.int .i64 0,.slice none 0 0,.slice none 0 0,.slice none 0 0,.slice none 0 0,.slice none 0 0] 32)) w2.heap.size ([.int .i64 0,.int .i64 0,.slice none 0 0,.slice none 0 0,.slice none 0 0,.slice none 0 0,.slice none 0 0]++[]):=aN (w:=w2) (ag.refl _);obtain ⟨s1,r8⟩:=NI (T:=32) (k:=7) (by kernel_rfl) rz rfl Rh ci.w.one;rw [nE] at s1;obtain ⟨V2,hV2⟩:∃ V,V=(w2.alloc (.cells #[.int .i64 0,.int .i64 0,.slice none 0 0,.slice none 0 0,.slice none 0 0,.slice none 0 0,.slice none 0 0] 32)).setCells w2.heap.size 0 k7:=⟨_,rfl⟩
 have a22:ag w2 V2:=by rw [hV2];exact (cF w2.heap.size k7 _ 0).aJ aZ fun g hg e=>by have e:g=_:=e;omega
 have A2:=gH (And.intro a2 a22);have CI:=gH ci;have R8:=gH (show ai V2 w2.heap.size k7 from by rw [hV2];rw [List.append_nil] at r8;exact r8);have hza:=HA.out.size;have hzf:=AF.out.size;have hzg:=ZG.out;have hz2:=a2.size;have ND:=a22.size;clear r8 rz aZ a2 a22 ci l1 l2
 go_upto_region 8 with fail
 rw [← hV2];clear hV2 s1;have AV:=gH (show ag G V2 from A2.out.1.trans A2.out.2);have t7:=RG.out.aA AV.out;have y7:=t7.cell (j:=2) rfl;have f7:=t7.2.2 2 (by simp [cj]);have g7:=t7.1;have k3:=Kb.set V2 F.heap.size 2 (.int .i64 0);have t8:=k3.row R8.out (by omega);have l1:(Cj ⟨w2.heap.size,0,none⟩).run Tryz.prog (V2.setCell ⟨F.heap.size,2,none⟩ (.int .i64 0))=.ok (.agg k7.toArray) (V2.setCell ⟨F.heap.size,2,none⟩ (.int .i64 0)):=gA (T:=32) Tryz.underlying32 (by kernel_rfl) t8 Rh;have V7:=gH (show ag W V2 from AF.out.trans (AG.out.trans AV.out))
 have t2:ai (V2.setCell ⟨F.heap.size,2,none⟩ (.int .i64 0)) w.heap.size (c0++[.slice A7 m.aQ.length c7,u8,u9]):=by rw [← GR.out.1];exact k3.row (HR.out.1.aA V7.out) (by omega)
 obtain ⟨s1,t2'⟩:=NI (T:=32) (k:=7) (by kernel_rfl) t2 h0 Rh CI.out.w.one;rw [nE] at s1;obtain ⟨V4,Ri⟩:∃ V,V=(V2.setCell ⟨F.heap.size,2,none⟩ (.int .i64 0)).setCells w.heap.size 0 k7:=⟨_,rfl⟩;have k4:=gH (show Kb (fun g=>g=F.heap.size∨g=w.heap.size) V2 V4 from by rw [Ri];exact (k3.mono fun g _ e=>.inl e).trans ((cF w.heap.size k7 _ 0).mono fun g _ e=>.inr e));have T2:=gH (show ai V4 w.heap.size (k7++[.slice A7 m.aQ.length c7,u8,u9]) from by rw [Ri];exact t2')
 have T7:=gH (show ai V4 F.heap.size (cj ⟨q,n,0,0,0⟩) from by
  rw [Ri]
  exact (cF w.heap.size k7 _ 0).row (t7.set 2 (.int .i64 0) (by simp [cj])) (by omega))
 have T8:=gH (show ai V4 w2.heap.size k7 from by rw [Ri];exact (cF w.heap.size k7 _ 0).row t8 (by omega));have T1:=gH (show ai V4 (w.heap.size+1) (pre++(xc++post)) from by rw [← HO.out];exact k4.out.row (HR.out.2.1.aA V7.out) (by omega));have T3:=gH (show ai V4 (w.heap.size+1+1) cY from k4.out.row (HR.out.2.2.aA V7.out) (by omega));clear t7 k3 t8 t2 t2'
 go_upto_region 11 with fail
 rw [← Ri];clear Ri s1 l1 y7 f7 g7;have Yt:=gH (show ag w V4 from k4.out.aJ (HA.out.trans V7.out) fun g hg e=>by omega)
 have l2:(Cl ⟨w.heap.size+1,3,none⟩).run Tryz.prog V4=.ok (.agg xc.toArray) V4:=by
  have:=Bu (T:=45) (k:=17) Tryz.underlying45 (by kernel_rfl) T1.out Ua;rw [hp] at this;exact this
 have z1:=T1.out.1;have C3:=gH (HN.out.fen V4 Yt.out);go_wp2_with fail;refine C3.out.mono ?_;rintro e w5 ⟨rfl,a5⟩;clear l2;have A5:=gH a5;have hz5:=a5.size;have u7:=T7.out.aA a5;have e8:=(T8.out.aA a5).cell CI.out.w.Un.1;have b8:=(T8.out.aA a5).1;have f3:=u7.2.2 3 (by simp [cj]);have y3:=(wh u7).2.2.2.1;have b7:=u7.1;have CQ:=gH (show ∀ f9:Int,f9=(if fe then c'.av else 0)→∀ V A c,az V 5 fj A c m.aQ→Calls Tryz.prog 51 #[.slice A m.aQ.length c,.func (.func 24) #[] #[],.agg #[.int .i64 q,.int .i64 n,.int .i64 0,.int .i64 f9,.int .i64 c'.version]] V (PK ds V) from fun f9 h=>h▸HN.out.put);have U2:=gH (T2.out.aA a5);have U7:=gH u7;have aaj:=k4.out.size;clear a5 u7
 cases fe
 case' true =>
  obtain ⟨V5,NJ⟩:∃ V,V=w5.setCell ⟨F.heap.size,3,none⟩ (.int .i64 c'.av):=⟨_,rfl⟩;obtain ⟨f,hf⟩:∃ f,f=c'.av:=⟨_,rfl⟩
  have kk:Kb (fun g=>g=F.heap.size) w5 V5:=by rw [NJ];exact Kb.set _ _ _ _
  have kr:ai V5 F.heap.size (cj ⟨q,n,0,f,0⟩):=by rw [NJ,hf];exact U7.out.set 3 _ (by simp [cj])
  have CP:=gH (CQ.out f (by rw [hf];rfl));clear CQ
  go_upto_region 13 with fail
  rw [← NJ]
 case' false =>
  obtain ⟨V5,NJ⟩:∃ V,V=w5:=⟨_,rfl⟩;obtain ⟨f,hf⟩:∃ f:Int,f=0:=⟨_,rfl⟩
  have kk:Kb (fun g=>g=F.heap.size) w5 V5:=by rw [NJ];exact Kb.refl _ _
  have kr:ai V5 F.heap.size (cj ⟨q,n,0,f,0⟩):=by rw [NJ,hf];exact U7.out
  have CP:=gH (CQ.out f (by rw [hf];rfl));clear CQ
  go_upto_region 13 with fail
  rw [← NJ]
 all_goals
  have K5:=gH kk;have R7:=gH kr;have hz6:=kk.size;clear NJ hf kk kr e8 b8 f3 y3 b7;have T5:=gH (K5.out.row U2.out (by omega));have e2:=T5.out.cell (j:=1) (v:=.int .i64 c'.version) (by rw [List.getElem?_append_left (by omega)];exact CI.out.w.Un.2);have f4:=R7.out.2.2 4 (by simp [cj]);have y4:=(wh R7.out).2.2.2.2.1;have b7:=R7.out.1;have b2:=T5.out.1;obtain ⟨V6,V8⟩:∃ V,V=V5.setCell ⟨F.heap.size,4,none⟩ (.int .i64 c'.version):=⟨_,rfl⟩
  have k6:Kb (fun g=>g=F.heap.size) V5 V6:=by rw [V8];exact Kb.set _ _ _ _
  have K6:=gH k6;have R6:=gH (show ai V6 F.heap.size (cj ⟨q,n,0,f,c'.version⟩) from by rw [V8];exact R7.out.set 4 _ (by simp [cj]));have T6:=gH (K6.out.row T5.out (by omega));have hz7:=k6.size;clear k6
  go_upto_region 14 with fail
  rw [← V8];clear V8 e2 f4 y4 b7 b2;have KA:=gH (show Kb (fun g=>w.heap.size≤g∧g < G.heap.size) w2 V6 from (Kb.aO A2.out.2).trans ((k4.out.mono fun g _ e=>by omega).trans ((Kb.aO A5.out).trans ((K5.out.mono fun g _ e=>by have e:g=_:=e;omega).trans (K6.out.mono fun g _ e=>by have e:g=_:=e;omega)))));have V9:=gH (show ag w V6 from KA.out.aJ (JU.out.trans (AG.out.trans A2.out.1)) fun g hg e=>by omega);have e7:=T6.out.cell (j:=7) (v:=.slice A7 m.aQ.length c7) (by rw [List.getElem?_append_right (by omega),Rh];rfl);have b2:=T6.out.1;have ld:(uw ⟨F.heap.size,0,none⟩).run Tryz.prog V6=.ok (.agg #[.int .i64 q,.int .i64 n,.int .i64 0,.int .i64 f,.int .i64 c'.version]) V6:=gA (T:=48) Tryz.underlying48 (by kernel_rfl) R6.out (by rfl);have C4:=gH (CP.out V6 A7 c7 (GR.out.2.2.1.aA V9.out fun _ _ h=>h));clear CP;go_wp2_with fail;refine C4.out.mono ?_;rintro e w7 ⟨D,cd,rfl,a7,o7⟩;have hz8:=a7.size;have T9:=gH (T6.out.aA a7);have e9:=T9.out.cell (j:=7) (v:=.slice A7 m.aQ.length c7) (by rw [List.getElem?_append_right (by omega),Rh];rfl);have f9:=T9.out.2.2 7 (by simp;omega);have b9:=T9.out.1;have k8:=Kb.set w7 w.heap.size 7 (.slice D ds.length cd)
  have T10:ai (w7.setCell ⟨w.heap.size,7,none⟩ (.slice D ds.length cd)) w.heap.size (k7++[.slice D ds.length cd,u8,u9]):=by
   have:=T9.out.set 7 (.slice D ds.length cd) (by simp;omega)
   rwa [List.set_append_right _ _ (by omega),Rh] at this
  have hsm:Small (ds.length*16):=HN.out.sm;have o8:=bM o7 (B':=G.heap.size) (by omega);have NEW:=gH (show ∀ Y,Kb (fun g=>w.heap.size≤g∧g < G.heap.size) w7 Y→dJ B Y (k7++[.slice D ds.length cd,u8,u9]) ⟨c',ds,m.bp,m.last⟩ from fun Y kY=>dJ.jd (E:=G.heap.size) (by rw [← GR.out.1];exact HM.out) h0 hB (JU.out.trans (AG.out.trans A2.out.1)) (by omega) (fun g e=>e) CI.out (KA.out.trans (Kb.aO a7)) o8 hsm kY);have m8:=NEW.out _ (k8.mono fun g _ e=>by have e:g=_:=e;omega);have lm:=gM T10 m8.w.len;have rz:=(k8.row ((K6.out.row ((K5.out.row (T3.out.aA A5.out) (by omega))) (by omega)).aA a7) (by omega):ai _ (w.heap.size+1+1) cY);obtain ⟨s3,r6,s4,kb⟩:=gG rz rfl m8.w;have HE:=gH (And.intro (kb.aJ (k8.aJ (V9.out.trans a7) fun g hg e=>by have e:g=_:=e;omega) fun g hg e=>by have e:g=_:=e;omega) (NEW.out _ ((k8.mono fun g _ e=>by have e:g=_:=e;omega).trans (kb.mono fun g _ e=>by have e:g=_:=e;omega))));have S4:=gH s4;clear a7 o7 k8 T10 m8 rz r6 s4 kb o8 hsm e7 b2 ld;go_wp2;refine bodyPost_ret (results_cell_tmp rfl _ rfl S4.out) rfl ?_;exact ⟨HE.out.1,_,rfl,HE.out.2⟩
theorem dD.head {w:World} {cs:List Value} {m:fo} (h:dD w cs m):cs[0]? = some (.int .i64 m.cat.av)∧cs[9]? = some (.int .i64 m.last):=by
 obtain ⟨As,c1,At,c2,An,c3,Am,c4,Ag,c5,Ad,cd,Al,cl,rfl,h9⟩:=h.at
 exact ⟨rfl,rfl⟩
theorem dJ.Lx {B:Nat} {w:World} {cs:List Value} {m:fo} (h:dJ B w cs m) (k:Int):dJ B w (cs.set 9 (.int .i64 k)) { m with last:=k }:=by
 obtain ⟨S,hS,hh⟩:=h;refine ⟨S,hS,fun V kv=>?_⟩
 obtain ⟨As,c1,At,c2,An,c3,Am,c4,Ag,c5,Ad,cd,Al,cl,rfl,h9⟩:=(hh V kv).at
 exact (show iJ V { m with last:=k } As c1 At c2 An c3 Am c4 Ag c5 Ad cd Al cl from ⟨h9.cat,h9.GG,h9.CU⟩).w
theorem Lz (m:fo) (cs oc:List Value) (nd ak:Int) (B:Nat) (w:World) (hB:B≤w.heap.size) (H:dJ B w cs m) (hm:m.bp=[]) (hk:0≤m.last∧m.last < 1000000000) (mm:oc[20]? = some (.int .i64 nd)) (FP:oc[21]? = some (.int .i64 ak)) :
  Calls Tryz.prog 34 #[.agg cs.toArray,.agg oc.toArray] w (sX B w (⟨m.cat,m.aQ,[⟨m.last+1,nd,ak,m.cat.av⟩],m.last+1⟩,0)):=by
 obtain ⟨A,ca,ux,dv⟩:=H.w.CU;rw [hm] at ux dv;have ux:cs[8]? = some (.slice A 0 ca):=ux;obtain ⟨hc0,Yu⟩:=H.w.head;obtain ⟨W,hW⟩:∃ W,W=((w.alloc (.cells cs.toArray 36)).alloc (.cells oc.toArray 60)).alloc (.cells #[.int .i64 0,.int .i64 0,.slice none 0 0,.slice none 0 0,.slice none 0 0,.slice none 0 0,.slice none 0 0,.slice none 0 0,.slice none 0 0,.int .i64 0] 36):=⟨_,rfl⟩
 have aW:ag w W:=by rw [hW];exact (((ag.refl w).alloc _).alloc _).alloc _
 have HZ:=gH (show W.heap.size=w.heap.size+3 from by rw [hW];simp)
 have r0:ai W w.heap.size cs:=by rw [hW];exact ai.up (ai.up (aR (ag.refl _) (by simp)))
 have r1:ai W (w.heap.size+1) oc:=by rw [hW];exact ai.up (aR (ag.refl _) (by simp))
 have r2:ai W (w.heap.size+1+1) cY:=by rw [hW];exact aR (ag.refl _) (by simp)
 have Ng:∀ (fn:Fn) (first cap:Array Value) (w:World),(Instr.makeFunc fn first cap).run Tryz.prog w=.ok (.func fn first cap) w:=fun _ _ _ _=>rfl
 have y8:=r0.cell ux;have C1:=gH (Dd A ca [] 52 #[.pointer (some ⟨w.heap.size+1,0,none⟩)] (fun _=>false) W (dv.aA aW fun _ _ h=>h) (enters (P:=Tryz.prog) Tryz.func52 (by kernel_rfl) rfl) (fun w' a i hi=>absurd hi (by simp)));have HR:=gH (And.intro r0 (And.intro r1 r2));have HA:=gH aW;have HM:=gH H;have HL:=gH dv;have HC:=gH (And.intro hc0 (And.intro ux (And.intro Yu (And.intro mm FP))));have HE0:=gH hm;obtain ⟨k,oY⟩:∃ k,m.last=k:=⟨_,rfl⟩;obtain ⟨ep,Ee⟩:∃ k,m.cat.av=k:=⟨_,rfl⟩;have HK:=gH (And.intro oY Ee);rw [oY] at hk Yu ⊢;rw [Ee] at hc0 ⊢
 have k1:¬ (1000000000:Int)≤k:=by omega
 have w1:IntKind.i64.wrap (k+1)=k+1:=IntWalk.i64_in _ (by omega);have z0:=r0.1;have z1:=r1.1;clear aW r0 r1 r2 dv H oY Ee hm
 go_in
 go_upto_region 1 with fail
 rw [← hW];clear hW;go_wp2_with fail;refine C1.out.mono ?_;rintro e w1 ⟨rfl,a1⟩;have A1:=gH a1;have q0:=HR.out.1.aA a1;have y8:=q0.cell ux;have y9:=q0.cell Yu;have f9:=q0.2.2 9 (by rw [HM.out.w.len];decide);have qz:=q0.1;have k9:=Kb.set w1 w.heap.size 9 (.int .i64 (k+1));obtain ⟨V1,hV1⟩:∃ V,V=w1.setCell ⟨w.heap.size,9,none⟩ (.int .i64 (k+1)):=⟨_,rfl⟩;have T0:=gH (show ai V1 w.heap.size (cs.set 9 (.int .i64 (k+1))) from by rw [hV1];exact q0.set 9 _ (by rw [HM.out.w.len];decide));have K1:=gH (show Kb (fun g=>g=w.heap.size) w1 V1 from by rw [hV1];exact k9);have ML:=gH (HM.out.Lx (k+1));clear a1 q0 k9
 go_upto_region 6 with fail
 rw [← hV1];clear hV1 y8 y9 f9 qz;have hz:=HZ.out;have A0:=gH (show ag w V1 from K1.out.aJ (HA.out.trans A1.out) fun g hg e=>by have e:g=_:=e;omega)
 have hl9:(cs.set 9 (.int .i64 (k+1))).length=10:=by rw [List.length_set];exact HM.out.w.len
 have y8:=T0.out.cell (j:=8) (v:=.slice A 0 ca) (by rw [List.getElem?_set_ne (by decide)];exact ux);have y9:=T0.out.cell (j:=9) (v:=.int .i64 (k+1)) (by rw [List.getElem?_set_self (by rw [HM.out.w.len];decide)]);have y0:=T0.out.cell (j:=0) (v:=.int .i64 ep) (by rw [List.getElem?_set_ne (by decide)];exact hc0);have T1:=gH (K1.out.row (HR.out.2.1.aA A1.out) (by omega));have T2:=gH (K1.out.row (HR.out.2.2.aA A1.out) (by omega));have o1:=T1.out.cell mm;have o2:=T1.out.cell FP;have qz:=T0.out.1;have oz:=T1.out.1;have C2:=gH (Lb A ca ⟨k+1,nd,ak,ep⟩ V1 (HL.out.aA A0.out fun _ _ h=>h));go_wp2_with fail;refine C2.out.mono ?_;rintro e w3 ⟨D,cd,rfl,a3,o3⟩;have s3:=a3.size;have sA:=A0.out.size;have s1:=A1.out.size;have sK:=K1.out.size;have p0:=T0.out.aA a3;have y8:=p0.cell (j:=8) (v:=.slice A 0 ca) (by rw [List.getElem?_set_ne (by decide)];exact ux);have f8:=p0.2.2 8 (by rw [hl9];decide);have pz:=p0.1;have k8:=Kb.set w3 w.heap.size 8 (.slice D 1 cd);have NEW:=gH (show ∀ Y,Kb (fun g=>w.heap.size≤g∧g < V1.heap.size) w3 Y→dJ B Y ((cs.set 9 (.int .i64 (k+1))).set 8 (.slice D 1 cd)) ⟨m.cat,m.aQ,[⟨k+1,nd,ak,ep⟩],k+1⟩ from fun Y kY=>dJ.Be (l:=[⟨k+1,nd,ak,ep⟩]) ML.out hB (A0.out.trans a3) (by omega) o3 (by unfold Small;simp) kY);have m8:=NEW.out _ (k8.mono fun g _ e=>by have e:g=_:=e;omega);have lm:=gM (p0.set 8 (.slice D 1 cd) (by rw [hl9];decide)) m8.w.len;obtain ⟨t3,r6,t4,kb⟩:=gG (k8.row (T2.out.aA a3) (by omega)) rfl m8.w;have HE:=gH (And.intro (kb.aJ (k8.aJ (A0.out.trans a3) fun g hg e=>by have e:g=_:=e;omega) fun g hg e=>by have e:g=_:=e;omega) (NEW.out _ ((k8.mono fun g _ e=>by have e:g=_:=e;omega).trans (kb.mono fun g _ e=>by have e:g=_:=e;omega))))
 have S4:=gH t4;clear a3 o3 p0 k8 m8 r6 t4 kb;go_wp2;refine bodyPost_ret (results_cell_tmp rfl _ rfl S4.out) rfl ?_;exact ⟨HE.out.1,_,rfl,HE.out.2⟩
def gR (o:sV):List Value:=[.int .i64 o.kind,.int .i64 o.aC,.int .i64 o.number,.int .i64 o.cmd.kind,.string o.cmd.aK,.string o.cmd.af,.string o.cmd.table,.string o.cmd.name,.string o.cmd.role,.slice o.cmd.A o.cmd.n o.cmd.c,.string o.cmd.cE,.int .i64 o.cmd.cv,.slice o.cmd.A2 o.cmd.n2 o.cmd.c2,.int .i64 o.cmd.low,.int .i64 o.cmd.high,.string o.cmd.rs,.string o.cmd.rt,.string o.cmd.rk,.int .i64 o.cmd.right,.bool o.cmd.opt,.int .i64 o.node,.int .i64 o.ask,.int .i64 o.seq]
theorem nu (o:sV):KQ o (gR o):=rfl
def Wa:O1:=⟨0,⟨#[]⟩,⟨#[]⟩,⟨#[]⟩,⟨#[]⟩,⟨#[]⟩,none,0,0,⟨#[]⟩,0,none,0,0,0,0,⟨#[]⟩,⟨#[]⟩,⟨#[]⟩,0,false⟩
def Yv (k:Int):O1:=⟨k,⟨#[114,111,111,116]⟩,⟨#[115]⟩,⟨#[]⟩,⟨#[]⟩,⟨#[]⟩,none,0,0,⟨#[]⟩,0,none,0,0,0,0,⟨#[]⟩,⟨#[]⟩,⟨#[]⟩,0,false⟩
def Bv:sV:=⟨1,1,1,Yv 1,0,0,0⟩
def Wb:sV:=⟨1,1,2,Yv 2,0,0,0⟩
def NK:sV:=⟨2,0,0,Wa,11,1,0⟩
def JX (q:Int):sV:=⟨4,0,0,Wa,0,0,q⟩
theorem Bw:xx Wa:=⟨⟨by decide,by decide,by decide,by decide,by decide⟩,by decide,by decide,by decide,by decide⟩
theorem wj (k:Int):xx (Yv k):=⟨⟨by show 4≤_;decide,by show 1≤_;decide,by show 0≤_;decide,by show 0≤_;decide,by show 0≤_;decide⟩,by show 0≤_;decide,by show 0≤_;decide,by show 0≤_;decide,by show 0≤_;decide⟩
theorem Dl:Small ([cI].length*16)∧∀ x∈[cI],Small x.size:=⟨by unfold Small;decide,fun x hx=>by simp at hx;subst hx;unfold Small cI;decide⟩
theorem smA:Ed gL:=⟨⟨⟨by unfold Small;decide,fun x hx=>by simp [gL] at hx;subst hx;exact ⟨by unfold Small;decide,by unfold Small cI;decide⟩⟩,by unfold Small;decide,fun x hx=>by simp [gL] at hx⟩,⟨Dl,by unfold Small;decide,fun x hx=>by simp [gL] at hx⟩,by unfold Small;decide,fun x hx=>by simp [gL] at hx⟩
theorem smF:Ed ni:=⟨⟨⟨by unfold Small;decide,fun x hx=>by simp [ni] at hx⟩,by unfold Small;decide,fun x hx=>by simp [ni] at hx⟩,⟨Dl,by unfold Small;decide,fun x hx=>by simp [ni] at hx⟩,by unfold Small;decide,fun x hx=>by simp [ni] at hx⟩
theorem szR:Small cI.size:=by unfold Small cI;decide
theorem sz1:Small (⟨#[115]⟩:ByteArray).size:=by unfold Small;decide
theorem PM:Small (⟨#[]⟩:ByteArray).size:=by unfold Small;decide
theorem Iw (V:World) (k:Int):mM V ⟨k,cI,⟨#[115]⟩,⟨#[]⟩,⟨#[]⟩,⟨#[]⟩,[],yh,0,false⟩ none 0 none 0:=⟨cN,cN,szR,sz1,PM,PM,PM,PM,PM,PM,PM,(by decide:(Lit.int .i64 0).wf=true)⟩
theorem Ur (k:Int) (b:Bool) (hm:∀ V,Calls Tryz.prog 68 #[.agg (wd ⟨k,cI,⟨#[115]⟩,⟨#[]⟩,⟨#[]⟩,⟨#[]⟩,[],yh,0,false⟩ none 0 none 0).toArray] V fun e w'=>e=.returned (.bool true)∧ag V w') (hb:(true&&nS k 0)=b) (V:World) :
  Calls Tryz.prog 50 #[.agg (wd ⟨k,cI,⟨#[115]⟩,⟨#[]⟩,⟨#[]⟩,⟨#[]⟩,[],yh,0,false⟩ none 0 none 0).toArray] V fun e w'=>e=.returned (.bool b)∧ag V w':=by
 have:=xC k cI ⟨#[115]⟩ ⟨#[]⟩ ⟨#[]⟩ ⟨#[]⟩ none 0 0 ⟨#[]⟩ 0 none 0 0 0 0 ⟨#[]⟩ ⟨#[]⟩ ⟨#[]⟩ 0 false V true (gH hm);rw [hb] at this;exact this
theorem Yw (V:World):Calls Tryz.prog 68 #[.agg (wd km none 0 none 0).toArray] V fun e w'=>e=.returned (.bool true)∧ag V w' :=
 (vG 1 cI ⟨#[115]⟩ ⟨#[]⟩ ⟨#[]⟩ ⟨#[]⟩ none 0 0 ⟨#[]⟩ 0 none 0 0 0 0 ⟨#[]⟩ ⟨#[]⟩ ⟨#[]⟩ 0 false V (by decide) (by decide) (by decide) (by decide) (by decide) (by decide) (by decide) (by decide) (by decide)).mono fun e w' ⟨he,h⟩=>⟨he.trans (dx (cz (by decide +kernel))),h⟩
theorem Yx (V:World):Calls Tryz.prog 68 #[.agg (wd nh none 0 none 0).toArray] V fun e w'=>e=.returned (.bool true)∧ag V w' :=
 (vG 2 cI ⟨#[115]⟩ ⟨#[]⟩ ⟨#[]⟩ ⟨#[]⟩ none 0 0 ⟨#[]⟩ 0 none 0 0 0 0 ⟨#[]⟩ ⟨#[]⟩ ⟨#[]⟩ 0 false V (by decide) (by decide) (by decide) (by decide) (by decide) (by decide) (by decide) (by decide) (by decide)).mono fun e w' ⟨he,h⟩=>⟨he.trans (dx (cz (by decide +kernel))),h⟩
theorem uP {x:iF} {w w':World} {e:Ending} (h:rR 48 5 [.int .i64 x.aC,.int .i64 x.number,.int .i64 x.code,.int .i64 x.fence,.int .i64 x.version] w e w'):PK [x] w e w':=h
theorem do1 (cs:List Value) (w:World) (H:dD w cs rh):Calls Tryz.prog 11 #[.agg cs.toArray,.agg (gR Bv).toArray] w (sX w.heap.size w (mA,0)) :=
 nj rh cs Bv (gR Bv) w (mA,0) H (nu _) ri TE Ph (wj 1) (by decide +kernel) fun V jN B a hB hm =>
  qD rh jN (gR Bv) (wd km none 0 none 0) 1 1 [.int .i64 1,.int .i64 1,.int .i64 1] [.int .i64 0,.int .i64 0,.int .i64 0] gL false [⟨1,1,0,0,1⟩] (mA,0) B V hB hm rfl rfl rfl rfl rfl
   (.inr (.inr ⟨by decide,rfl,⟨fun V c7 a h=>Iu jd c7 km none 0 none 0 V gL 0 h (Iw V 1) (.inl rfl) Pe smA,fun V _=>Ur 1 false Yw (by decide) V,fun V A c h=>(La A c ⟨1,1,0,0,1⟩ V h).mono fun _ _ h=>uP h,by unfold Small;decide⟩⟩))
theorem do2 (cs:List Value) (w:World) (H:dD w cs mA):Calls Tryz.prog 11 #[.agg cs.toArray,.agg (gR Bv).toArray] w (sX w.heap.size w (mA,0)) :=
 nj mA cs Bv (gR Bv) w (mA,0) H (nu _) yi okA TF (wj 1) (by decide +kernel) fun V jN B a hB hm =>
  qD mA jN (gR Bv) (wd km none 0 none 0) 1 1 [.int .i64 1,.int .i64 1,.int .i64 1] [.int .i64 0,.int .i64 0,.int .i64 0] gL false [⟨1,1,0,0,1⟩] (mA,0) B V hB hm rfl rfl rfl rfl rfl (.inr (.inl ⟨rfl,rfl⟩))
theorem do3 (cs:List Value) (w:World) (H:dD w cs mA):Calls Tryz.prog 11 #[.agg cs.toArray,.agg (gR NK).toArray] w (sX w.heap.size w (mC,0)) :=
 nj mA cs NK (gR NK) w (mC,0) H (nu _) yi okA TF Bw (by decide +kernel) fun V jN B a hB hm =>
  Lz mA jN (gR NK) 11 1 B V hB hm rfl (by decide) rfl rfl
theorem do4 (cs:List Value) (w:World) (H:dD w cs mC):Calls Tryz.prog 11 #[.agg cs.toArray,.agg (gR Wb).toArray] w (sX w.heap.size w (mD,0)) :=
 nj mC cs Wb (gR Wb) w (mD,0) H (nu _) Hg okC XB (wj 2) (by decide +kernel) fun V jN B a hB hm =>
  qD mC jN (gR Wb) (wd nh none 0 none 0) 1 2 [.int .i64 1,.int .i64 1,.int .i64 2] [.int .i64 0,.int .i64 0,.int .i64 0] ni true [⟨1,2,0,1,2⟩] (mD,0) B V hB hm rfl rfl rfl rfl rfl
   (.inr (.inr ⟨by decide,rfl,⟨fun V c7 a h=>Iu gL c7 nh none 0 none 0 V ni 0 h (Iw V 2) (.inr rfl) Pf smF,fun V _=>Ur 2 true Yx (by decide) V,fun V A c h=>(Lc A c ⟨1,2,0,1,2⟩ ⟨1,1,0,0,1⟩ V h rfl).mono fun _ _ h=>uP h,by unfold Small;decide⟩⟩))
theorem do5 (cs:List Value) (w:World) (H:dD w cs mD):Calls Tryz.prog 11 #[.agg cs.toArray,.agg (gR Bv).toArray] w (sX w.heap.size w (KP,181)) :=
 nj mD cs Bv (gR Bv) w (KP,181) H (nu _) rO okD TG (wj 1) (by decide +kernel) fun V jN B a hB hm =>
  qD mD jN (gR Bv) (wd km none 0 none 0) 1 1 [.int .i64 1,.int .i64 1,.int .i64 1] [.int .i64 0,.int .i64 0,.int .i64 0] gL false [⟨1,1,0,0,1⟩] (KP,181) B V hB hm rfl rfl rfl rfl rfl (.inl ⟨by decide,rfl⟩)
theorem do6 (cs:List Value) (w:World) (H:dD w cs mD):Calls Tryz.prog 11 #[.agg cs.toArray,.agg (gR (JX 1)).toArray] w (sX w.heap.size w (mK,0)) :=
 nj mD cs (JX 1) (gR (JX 1)) w (mK,0) H (nu _) rO okD TG Bw (by decide +kernel) fun V jN B a hB hm =>
  De mD jN (gR (JX 1)) 1 B V hB hm rfl rfl (by decide)
theorem Us:fR mD 1 2=(⟨1,2,0,1,2⟩,false):=by unfold fR;rw [rO];rfl
theorem Ut:fR mK 1 2=(⟨1,2,0,1,2⟩,true):=by unfold fR;rw [Hh];rfl
theorem EO {W:World} {p:Nat} {v0 v1 v2 v3 v4 v5 v6 v7 v8 v9 v10 v11 v12 v13 v14 v15 v16 v17 v18 v19 v20 v21 v22:Value} (R:ai W p [v0,v1,v2,v3,v4,v5,v6,v7,v8,v9,v10,v11,v12,v13,v14,v15,v16,v17,v18,v19,v20,v21,v22]):(loadVar 60 ⟨p,0,none⟩).run Tryz.prog W=.ok (.agg #[v0,v1,v2,v3,v4,v5,v6,v7,v8,v9,v10,v11,v12,v13,v14,v15,v16,v17,v18,v19,v20,v21,v22]) W:=by
 obtain ⟨e0,e1,e2,e3,e4,e5,e6,e7,e8,e9,e10,e11,e12,e13,e14,e15,e16,e17,e18,e19,e20,e21,e22⟩:=R9 R;have h1:=EP W p 0 (by rw [e0];rfl) (by rw [e1];rfl) (by rw [e2];rfl) (by rw [e3];rfl) (by rw [e4];rfl) (by rw [e5];rfl) (by rw [e6];rfl) (by rw [e7];rfl) (by rw [e8];rfl) (by rw [e9];rfl) (by rw [e10];rfl) (by rw [e11];rfl) (by rw [e12];rfl) (by rw [e13];rfl) (by rw [e14];rfl) (by rw [e15];rfl) (by rw [e16];rfl) (by rw [e17];rfl) (by rw [e18];rfl) (by rw [e19];rfl) (by rw [e20];rfl) (by rw [e21];rfl) (by rw [e22];rfl);rw [e0,e1,e2,e3,e4,e5,e6,e7,e8,e9,e10,e11,e12,e13,e14,e15,e16,e17,e18,e19,e20,e21,e22] at h1;exact h1
def Ix:sV:=⟨1,1,1,⟨1,⟨#[114,111,111,116]⟩,⟨#[115]⟩,⟨#[]⟩,⟨#[]⟩,⟨#[]⟩,none,0,0,⟨#[]⟩,0,none,0,0,0,0,⟨#[]⟩,⟨#[]⟩,⟨#[]⟩,0,false⟩,0,0,0⟩
def Bx:sV:=⟨0,0,0,⟨0,⟨#[]⟩,⟨#[]⟩,⟨#[]⟩,⟨#[]⟩,⟨#[]⟩,none,0,0,⟨#[]⟩,0,none,0,0,0,0,⟨#[]⟩,⟨#[]⟩,⟨#[]⟩,0,false⟩,0,0,0⟩
theorem Iy:xx Ix.cmd:=⟨⟨by decide,by decide,by decide,by decide,by decide⟩,by decide,by decide,by decide,by decide⟩
theorem EQ:xx Bx.cmd:=⟨⟨by decide,by decide,by decide,by decide,by decide⟩,by decide,by decide,by decide,by decide⟩
theorem ER:lz Ix=true:=by decide +kernel
theorem Bz:lz Bx=false:=by decide +kernel
theorem Iz (w:World):Calls Tryz.prog 19 #[.int .i64 1] w fun e w'=>e=.returned (.agg #[.int .i64 1,.int .i64 1,.int .i64 1,.int .i64 1,.string ⟨#[114,111,111,116]⟩,.string ⟨#[115]⟩,.string ⟨#[]⟩,.string ⟨#[]⟩,.string ⟨#[]⟩,.slice none 0 0,.string ⟨#[]⟩,.int .i64 0,.slice none 0 0,.int .i64 0,.int .i64 0,.string ⟨#[]⟩,.string ⟨#[]⟩,.string ⟨#[]⟩,.int .i64 0,.bool false,.int .i64 0,.int .i64 0,.int .i64 0])∧ag w w':=by
 go_in
 go_wp2;refine bodyPost_ret (bB (v:=.agg #[.int .i64 1,.int .i64 1,.int .i64 1,.int .i64 1,.string ⟨#[114,111,111,116]⟩,.string ⟨#[115]⟩,.string ⟨#[]⟩,.string ⟨#[]⟩,.string ⟨#[]⟩,.slice none 0 0,.string ⟨#[]⟩,.int .i64 0,.slice none 0 0,.int .i64 0,.int .i64 0,.string ⟨#[]⟩,.string ⟨#[]⟩,.string ⟨#[]⟩,.int .i64 0,.bool false,.int .i64 0,.int .i64 0,.int .i64 0]) rfl _ rfl (EO (aN (ag.refl _)))) rfl ⟨rfl,(ag.refl _).alloc _⟩
theorem qE (w:World):Calls Tryz.prog 10 #[] w fun e w'=>e=.returned (.bool true)∧ag w w':=by
 have CM1:=gH (show ∀ V,Calls Tryz.prog 31 #[.agg #[.int .i64 1,.int .i64 1,.int .i64 1,.int .i64 1,.string ⟨#[114,111,111,116]⟩,.string ⟨#[115]⟩,.string ⟨#[]⟩,.string ⟨#[]⟩,.string ⟨#[]⟩,.slice none 0 0,.string ⟨#[]⟩,.int .i64 0,.slice none 0 0,.int .i64 0,.int .i64 0,.string ⟨#[]⟩,.string ⟨#[]⟩,.string ⟨#[]⟩,.int .i64 0,.bool false,.int .i64 0,.int .i64 0,.int .i64 0]] V fun e w'=>e=.returned (.bool true)∧ag V w' from fun V=>(O3 Ix Iy V).mono fun e w' ⟨he,h⟩=>⟨he.trans (by rw [ER]),h⟩);have CM2:=gH (show ∀ V,Calls Tryz.prog 31 #[.agg #[.int .i64 0,.int .i64 0,.int .i64 0,.int .i64 0,.string ⟨#[]⟩,.string ⟨#[]⟩,.string ⟨#[]⟩,.string ⟨#[]⟩,.string ⟨#[]⟩,.slice none 0 0,.string ⟨#[]⟩,.int .i64 0,.slice none 0 0,.int .i64 0,.int .i64 0,.string ⟨#[]⟩,.string ⟨#[]⟩,.string ⟨#[]⟩,.int .i64 0,.bool false,.int .i64 0,.int .i64 0,.int .i64 0]] V fun e w'=>e=.returned (.bool false)∧ag V w' from fun V=>(O3 Bx EQ V).mono fun e w' ⟨he,h⟩=>⟨he.trans (by rw [Bz]),h⟩)
 go_in
 go_wp2_with fail;refine (Tl _).mono ?_;rintro e w1 ⟨b,rfl,a1,H1⟩;obtain ⟨X,hX⟩:∃ V,V=w1.alloc (.cells #[.int .i64 0,.int .i64 0,.slice none 0 0,.slice none 0 0,.slice (some ⟨b,0,none⟩) 1 1,.slice none 0 0,.slice none 0 0,.slice none 0 0,.slice none 0 0,.int .i64 0] 36):=⟨_,rfl⟩
 have aX:ag w1 X:=by rw [hX];exact (ag.refl _).alloc _
 have RX:ai X w1.heap.size [.int .i64 0,.int .i64 0,.slice none 0 0,.slice none 0 0,.slice (some ⟨b,0,none⟩) 1 1,.slice none 0 0,.slice none 0 0,.slice none 0 0,.slice none 0 0,.int .i64 0]:=by rw [hX];exact aN (ag.refl _)
 have C1:=gH (show Calls Tryz.prog 9 #[.agg #[.int .i64 0,.int .i64 0,.slice none 0 0,.slice none 0 0,.slice (some ⟨b,0,none⟩) 1 1,.slice none 0 0,.slice none 0 0,.slice none 0 0,.slice none 0 0,.int .i64 0]] X fun e w''=>e=.returned (.int .i64 0)∧ag X w'' from (vF rh none 0 none 0 (some ⟨b,0,none⟩) 1 none 0 none 0 none 0 none 0 X (H1.aA aX)).mono fun e w'' ⟨he,hw⟩=>⟨he.trans (by rw [ri];rfl),hw⟩);have AX:=gH (a1.trans aX);obtain ⟨x0,x1,x2,x3,x4,x5,x6,x7,x8,x9,xz⟩:=oT RX;have HX:=gH hX;rw [hX] at x0 x1 x2 x3 x4 x5 x6 x7 x8 x9 xz;clear a1 H1 aX RX hX;go_wp2_with fail;rw [← HX.out];refine C1.out.mono ?_;rintro e w2 ⟨rfl,a2⟩;have A2:=gH (AX.out.trans a2);clear a2 x0 x1 x2 x3 x4 x5 x6 x7 x8 x9 xz;go_wp2_with fail;refine (Iz _).mono ?_;rintro e w3 ⟨rfl,a3⟩;have A3:=gH (A2.out.trans a3);clear a3;go_wp2_with fail;refine (CM1.out _).mono ?_;rintro e w4 ⟨rfl,a4⟩;have A4:=gH (A3.out.trans a4);clear a4;go_wp2_with fail;refine (CM2.out _).mono ?_;rintro e w5 ⟨rfl,a5⟩;have A5:=gH (A4.out.trans a5);clear a5;go_wp2;go_ret;exact ⟨rfl,A5.out⟩
def Uu (w:World) (e:Ending) (w':World):Prop:=∃ b:Bool,e=.returned (.bool b)∧ag w w'
theorem LA (m:fo) (As:Option Addr) (ax:Nat) (At:Option Addr) (aD:Nat) (An:Option Addr) (aH:Nat) (Am:Option Addr) (aL:Nat) (Ag:Option Addr) (aP:Nat) (Ad:Option Addr) (gv:Nat) (Al:Option Addr) (gw:Nat) (x:O1) (hx:x.n≤9223372036854775807) (hx2:x.n2≤9223372036854775807) (w:World) (H:iJ w m As ax At aD An aH Am aL Ag aP Ad gv Al gw) :
  Calls Tryz.prog 5 #[.agg #[.int .i64 m.cat.av,.int .i64 m.cat.version,.slice As m.cat.aj.ae.length ax,.slice At m.cat.aj.tables.length aD,.slice An m.cat.ar.names.length aH,.slice Am m.cat.ar.members.length aL,.slice Ag m.cat.ah.length aP,.slice Ad m.aQ.length gv,.slice Al m.bp.length gw,.int .i64 m.last],.agg #[.int .i64 x.kind,.string x.aK,.string x.af,.string x.table,.string x.name,.string x.role,.slice x.A x.n x.c,.string x.cE,.int .i64 x.cv,.slice x.A2 x.n2 x.c2,.int .i64 x.low,.int .i64 x.high,.string x.rs,.string x.rt,.string x.rk,.int .i64 x.right,.bool x.opt]] w (Uu w):=by
 obtain ⟨W,hW⟩:∃ W,W=(w.alloc (.cells #[.int .i64 m.cat.av,.int .i64 m.cat.version,.slice As m.cat.aj.ae.length ax,.slice At m.cat.aj.tables.length aD,.slice An m.cat.ar.names.length aH,.slice Am m.cat.ar.members.length aL,.slice Ag m.cat.ah.length aP,.slice Ad m.aQ.length gv,.slice Al m.bp.length gw,.int .i64 m.last] 36)).alloc (.cells #[.int .i64 x.kind,.string x.aK,.string x.af,.string x.table,.string x.name,.string x.role,.slice x.A x.n x.c,.string x.cE,.int .i64 x.cv,.slice x.A2 x.n2 x.c2,.int .i64 x.low,.int .i64 x.high,.string x.rs,.string x.rt,.string x.rk,.int .i64 x.right,.bool x.opt] 45):=⟨_,rfl⟩
 have aW:ag w W:=by rw [hW];exact ((ag.refl w).alloc _).alloc _
 have r0:ai W (w.heap.size) [.int .i64 m.cat.av,.int .i64 m.cat.version,.slice As m.cat.aj.ae.length ax,.slice At m.cat.aj.tables.length aD,.slice An m.cat.ar.names.length aH,.slice Am m.cat.ar.members.length aL,.slice Ag m.cat.ah.length aP,.slice Ad m.aQ.length gv,.slice Al m.bp.length gw,.int .i64 m.last]:=by rw [hW];exact ai.up (aR (ag.refl _) (by simp))
 have r1:ai W (w.heap.size+1) [.int .i64 x.kind,.string x.aK,.string x.af,.string x.table,.string x.name,.string x.role,.slice x.A x.n x.c,.string x.cE,.int .i64 x.cv,.slice x.A2 x.n2 x.c2,.int .i64 x.low,.int .i64 x.high,.string x.rs,.string x.rt,.string x.rk,.int .i64 x.right,.bool x.opt]:=by rw [hW];exact aR (ag.refl _) (by simp)
 have hlen:m.aQ.length*16≤140737488351232:=H.GG.2.1;have iG:m.bp.length*16≤140737488351232:=H.CU.2.1;have CL:=gH (OY m.cat As ax At aD An aH Am aL Ag aP W (H.cat.aA aW));have cu:=gH aW;have R0:=gH r0;have R1:=gH r1;obtain ⟨x0,x1,x2,x3,x4,x5,x6,x7,x8,x9,xz⟩:=oT r0;clear H r0 r1 aW
 go_in
 go_wp2_with fail;rw [← hW];clear hW;go_wp2_with fail;refine CL.out.mono ?_;rintro e w1 ⟨bg,rfl,rb,a1⟩;have A1:=gH (cu.out.trans a1);have p0:=R0.out.aA a1;have p1:=R1.out.aA a1;clear x0 x1 x2 x3 x4 x5 x6 x7 x8 x9 xz a1 rb CL;have x7:=p0.cell (j:=7) rfl;have x8:=p0.cell (j:=8) rfl;have xz:=p0.1;have y6:=p1.cell (j:=6) rfl;have y9:=p1.cell (j:=9) rfl;have yz:=p1.1;clear p0 p1
 cases bg
 all_goals
  go_wp2_with fail
  all_goals
   go_ret;exact ⟨_,rfl,A1.out⟩
theorem Uv (w:World):Calls Tryz.prog 18 #[] w fun e w'=>ag w w'∧∃ cs,e=.returned (.agg cs.toArray)∧dD w' cs rh:=by
 refine (Tl w).mono ?_;rintro e w' ⟨b,rfl,a,h⟩;exact ⟨a,_,rfl,h.w⟩
theorem IA (w:World):Calls Tryz.prog 19 #[.int .i64 1] w fun e w'=>e=.returned (.agg (gR Bv).toArray)∧ag w w':=Iz w
theorem mgr (w:World):Calls Tryz.prog 20 #[.int .i64 1] w fun e w'=>e=.returned (.agg (gR NK).toArray)∧ag w w':=by
 go_in
 go_wp2;refine bodyPost_ret (bB (v:=.agg (gR NK).toArray) rfl _ rfl (AO (cs:=gR NK) (aN (ag.refl _)) rfl)) rfl ⟨rfl,(ag.refl _).alloc _⟩
structure BoxM (w:World) (b:Nat) (cs:List Value) (m:fo):Prop where
 row:ai w b cs
 ES:dD w cs m
theorem BoxM.aA {w w':World} {b:Nat} {cs:List Value} {m:fo} (h:BoxM w b cs m) (a:ag w w'):BoxM w' b cs m:=⟨h.row.aA a,h.ES.aA a⟩
theorem BoxM.ld {w:World} {b:Nat} {cs:List Value} {m:fo} (h:BoxM w b cs m):(jv ⟨b,0,none⟩).run Tryz.prog w=.ok (.agg cs.toArray) w:=gM h.row h.ES.len
theorem lJ {w:World} {cs:List Value} {m:fo} (h:dD w cs m):(mr ⟨w.heap.size,0,none⟩ (.agg cs.toArray)).run Tryz.prog (w.alloc (.cells #[.int .i64 0,.int .i64 0,.slice none 0 0,.slice none 0 0,.slice none 0 0,.slice none 0 0,.slice none 0 0,.slice none 0 0,.slice none 0 0,.int .i64 0] 36))=.ok () ((w.alloc (.cells #[.int .i64 0,.int .i64 0,.slice none 0 0,.slice none 0 0,.slice none 0 0,.slice none 0 0,.slice none 0 0,.slice none 0 0,.slice none 0 0,.int .i64 0] 36)).setCells w.heap.size 0 cs)∧ag w ((w.alloc (.cells #[.int .i64 0,.int .i64 0,.slice none 0 0,.slice none 0 0,.slice none 0 0,.slice none 0 0,.slice none 0 0,.slice none 0 0,.slice none 0 0,.int .i64 0] 36)).setCells w.heap.size 0 cs)∧BoxM ((w.alloc (.cells #[.int .i64 0,.int .i64 0,.slice none 0 0,.slice none 0 0,.slice none 0 0,.slice none 0 0,.slice none 0 0,.slice none 0 0,.slice none 0 0,.int .i64 0] 36)).setCells w.heap.size 0 cs) w.heap.size cs m:=by
 have a:=(ag.refl w).alloc (.cells #[.int .i64 0,.int .i64 0,.slice none 0 0,.slice none 0 0,.slice none 0 0,.slice none 0 0,.slice none 0 0,.slice none 0 0,.slice none 0 0,.int .i64 0] 36);obtain ⟨s1,r,_,kb⟩:=gG (aN (w:=w) (c:=cY) (t:=36) (ag.refl _)) rfl (h.aA a)
 have a2:ag w ((w.alloc (.cells #[.int .i64 0,.int .i64 0,.slice none 0 0,.slice none 0 0,.slice none 0 0,.slice none 0 0,.slice none 0 0,.slice none 0 0,.slice none 0 0,.int .i64 0] 36)).setCells w.heap.size 0 cs):=kb.aJ a fun g hg e=>by have e:g=_:=e;omega
 exact ⟨s1,a2,r,h.aA a2⟩
theorem pd {V w:World} {b:Nat} {cs:List Value} {m:fo} (r:ai w b cY) (a:ag V w) (hb:V.heap.size≤b) (h:dJ (b+1) w cs m):(mr ⟨b,0,none⟩ (.agg cs.toArray)).run Tryz.prog w=.ok () (w.setCells b 0 cs)∧ag V (w.setCells b 0 cs)∧BoxM (w.setCells b 0 cs) b cs m:=by
 obtain ⟨s1,r2,_,kb⟩:=gG r rfl h.w;exact ⟨s1,kb.aJ a fun g hg e=>by have e:g=_:=e;omega,r2,(h.kb kb fun j e=>.inl (by have e:j=_:=e;omega)).w⟩
theorem sf (w:World) (d:iF):(ym ⟨w.heap.size,0,none⟩ (.agg #[.int .i64 d.aC,.int .i64 d.number,.int .i64 d.code,.int .i64 d.fence,.int .i64 d.version])).run Tryz.prog (w.alloc (.cells #[.int .i64 0,.int .i64 0,.int .i64 0,.int .i64 0,.int .i64 0] 48))=.ok () ((w.alloc (.cells #[.int .i64 0,.int .i64 0,.int .i64 0,.int .i64 0,.int .i64 0] 48)).setCells w.heap.size 0 (cj d))∧ag w ((w.alloc (.cells #[.int .i64 0,.int .i64 0,.int .i64 0,.int .i64 0,.int .i64 0] 48)).setCells w.heap.size 0 (cj d))∧ai ((w.alloc (.cells #[.int .i64 0,.int .i64 0,.int .i64 0,.int .i64 0,.int .i64 0] 48)).setCells w.heap.size 0 (cj d)) w.heap.size (cj d):=by
 obtain ⟨s1,r,_,kb⟩:=np (w:=w.alloc (.cells #[.int .i64 0,.int .i64 0,.int .i64 0,.int .i64 0,.int .i64 0] 48)) d (aN (w:=w) (c:=[.int .i64 0,.int .i64 0,.int .i64 0,.int .i64 0,.int .i64 0]) (t:=48) (ag.refl _)) rfl;exact ⟨s1,kb.aJ ((ag.refl w).alloc _) fun g hg e=>by have e:g=_:=e;omega,r⟩
theorem qF (w:World):Calls Tryz.prog 8 #[] w fun e w'=>e=.returned (.bool true)∧ag w w':=by
 go_in
 go_wp2_with fail;refine (Uv _).mono ?_;rintro e w1 ⟨a1,c0,rfl,h0⟩;have A1:=gH a1;have H0:=gH h0;clear a1 h0;go_wp2_with fail;refine (IA _).mono ?_;rintro e w2 ⟨rfl,a2⟩;have A2:=gH (A1.out.trans a2);have C1:=gH (do1 c0 w2 (H0.out.aA a2));clear a2;go_wp2_with fail;refine C1.out.mono ?_;rintro e w3 ⟨a3,ca,rfl,ma⟩;obtain ⟨s1,a4,bm⟩:=lJ ma.w;obtain ⟨W1,hW1⟩:∃ V,V=(w3.alloc (.cells #[.int .i64 0,.int .i64 0,.slice none 0 0,.slice none 0 0,.slice none 0 0,.slice none 0 0,.slice none 0 0,.slice none 0 0,.slice none 0 0,.int .i64 0] 36)).setCells w3.heap.size 0 ca:=⟨_,rfl⟩;obtain ⟨ba,Yy⟩:∃ b,b=w3.heap.size:=⟨_,rfl⟩;have AW1:=gH (show ag w W1 from hW1▸(A2.out.trans (a3.trans a4)));have tI:=gH (show BoxM W1 ba ca mA from by rw [hW1,Yy];exact bm);clear a3 ma a4 bm C1 A1 A2 H0
 go_upto_region 2 with fail
 rw [← hW1,← Yy];clear hW1 Yy s1;have KX2:=gH (show ∀ V,ag W1 V→(jv ⟨ba,0,none⟩).run Tryz.prog V=.ok (.agg ca.toArray) V from fun V a=>(tI.out.aA a).ld);have KD2:=gH (show ∀ V,ag W1 V→Calls Tryz.prog 11 #[.agg ca.toArray,.agg (gR Bv).toArray] V (sX V.heap.size V (mA,0)) from fun V a=>do2 ca V (tI.out.aA a).ES)
 go_cut [3,4] from 23 to 28 (fun s3 s4 wx=>∃ bx cx,s3=.pointer (some ⟨bx,0,none⟩)∧s4=.int .i64 0∧ag W1 wx∧BoxM wx bx cx mA)
 case first =>
  go_region_held3 (fun V=>(jv ⟨ba,0,none⟩).run Tryz.prog V=.ok (.agg ca.toArray) V)
   ((
    refine KX2.out _ ?_;first
    | with_reducible exact (ag.refl _).drew
    | with_reducible exact b6
    | with_reducible exact b5
    | with_reducible exact b4
    | with_reducible exact ((ag.refl _).alloc _).drew
    | with_reducible exact b5.alloc _
    | with_reducible exact b4.alloc _
    | fail))
   ((
    first
    | (go_at_call 19;first
     | ((with_reducible refine (IA W1.drew).mono ?_);rintro e w4 ⟨rfl,a4⟩;have b4:ag W1 w4:=(ag.refl _).drew.trans a4)
     | (refine (IA _).mono ?_;rintro e w4 ⟨rfl,a4⟩;have b4:ag W1 w4:=((ag.refl _).alloc _).drew.trans a4;have NM:ai w4 W1.heap.size cY:=aR (w:=W1) (c:=cY) (t:=36) ((ag.refl _).drew.trans a4) rfl;have hb4:W1.heap.size+1≤w4.heap.size:=NM.1))
    | (go_at_call 11;first
     | ((with_reducible refine (KD2.out w4 b4).mono ?_);rintro e w5 ⟨a5,cx,rfl,m5⟩;have b5:ag W1 w5:=b4.trans a5;first | (have t6:=pd (NM.aA a5) b5 (Nat.le_refl _) (m5.down hb4);obtain ⟨s6,b6,x6⟩:=t6;have X6:=gH x6;clear x6) | (obtain ⟨s6,b6,x6⟩:=lJ m5.w;have b6:=b5.trans b6;have X6:=gH x6;clear x6))
     | ((with_reducible refine (KD2.out _ (b4.alloc _)).mono ?_);rintro e w5 ⟨a5,cx,rfl,m5⟩;have b5:ag W1 w5:=(b4.alloc _).trans a5;have PN:ai w5 w4.heap.size cY:=aR (w:=w4) (c:=cY) (t:=36) a5 rfl;obtain ⟨s6,b6,x6⟩:=pd PN b5 b4.size (m5.down (by simp));have X6:=gH x6;clear x6))))
  all_goals
   go_wp2
   go_meet
   case rel=>exact ⟨_,_,rfl,rfl,b6,X6.out⟩
 case rest =>
 obtain ⟨bb,cb,rfl,rfl,aB,rB⟩:=hcut;obtain ⟨W2,Dm⟩:∃ V,V=wc:=⟨_,rfl⟩;rw [← Dm] at aB rB ⊢;clear Dm;have BA:=gH rB;have AW2:=gH (AW1.out.trans aB);have tI:=gH (tI.out.aA aB);clear aB rB
 go_upto_region 3 with fail
 have KX3:=gH (show ∀ V,ag W2 V→(jv ⟨ba,0,none⟩).run Tryz.prog V=.ok (.agg ca.toArray) V from fun V a=>(tI.out.aA a).ld);have KD3:=gH (show ∀ V,ag W2 V→Calls Tryz.prog 11 #[.agg ca.toArray,.agg (gR NK).toArray] V (sX V.heap.size V (mC,0)) from fun V a=>do3 ca V (tI.out.aA a).ES)
 go_cut [5,6] from 29 to 34 (fun s3 s4 wx=>∃ bx cx,s3=.pointer (some ⟨bx,0,none⟩)∧s4=.int .i64 0∧ag W2 wx∧BoxM wx bx cx mC)
 case first =>
  go_region_held3 (fun V=>(jv ⟨ba,0,none⟩).run Tryz.prog V=.ok (.agg ca.toArray) V)
   ((
    refine KX3.out _ ?_;first
    | with_reducible exact (ag.refl _).drew
    | with_reducible exact b6
    | with_reducible exact b5
    | with_reducible exact b4
    | with_reducible exact ((ag.refl _).alloc _).drew
    | with_reducible exact b5.alloc _
    | with_reducible exact b4.alloc _
    | fail))
   ((
    first
    | (go_at_call 20;first
     | ((with_reducible refine (mgr W2.drew).mono ?_);rintro e w4 ⟨rfl,a4⟩;have b4:ag W2 w4:=(ag.refl _).drew.trans a4)
     | (refine (mgr _).mono ?_;rintro e w4 ⟨rfl,a4⟩;have b4:ag W2 w4:=((ag.refl _).alloc _).drew.trans a4;have NM:ai w4 W2.heap.size cY:=aR (w:=W2) (c:=cY) (t:=36) ((ag.refl _).drew.trans a4) rfl;have hb4:W2.heap.size+1≤w4.heap.size:=NM.1))
    | (go_at_call 11;first
     | ((with_reducible refine (KD3.out w4 b4).mono ?_);rintro e w5 ⟨a5,cx,rfl,m5⟩;have b5:ag W2 w5:=b4.trans a5;first | (have t6:=pd (NM.aA a5) b5 (Nat.le_refl _) (m5.down hb4);obtain ⟨s6,b6,x6⟩:=t6;have X6:=gH x6;clear x6) | (obtain ⟨s6,b6,x6⟩:=lJ m5.w;have b6:=b5.trans b6;have X6:=gH x6;clear x6))
     | ((with_reducible refine (KD3.out _ (b4.alloc _)).mono ?_);rintro e w5 ⟨a5,cx,rfl,m5⟩;have b5:ag W2 w5:=(b4.alloc _).trans a5;have PN:ai w5 w4.heap.size cY:=aR (w:=w4) (c:=cY) (t:=36) a5 rfl;obtain ⟨s6,b6,x6⟩:=pd PN b5 b4.size (m5.down (by simp));have X6:=gH x6;clear x6))))
  all_goals
   go_wp2
   go_meet
   case rel=>exact ⟨_,_,rfl,rfl,b6,X6.out⟩
 case rest =>
 obtain ⟨bc,cc,rfl,rfl,aB,rB⟩:=hcut;obtain ⟨W3,Dm⟩:∃ V,V=wc:=⟨_,rfl⟩;rw [← Dm] at aB rB ⊢;clear Dm;have BC:=gH rB;have AW3:=gH (AW2.out.trans aB);have tI:=gH (tI.out.aA aB);have BA:=gH (BA.out.aA aB);clear aB rB
 go_upto_region 4 with fail
 have ld:=BC.out.ld;have C4:=gH (show Calls Tryz.prog 11 #[.agg cc.toArray,.agg #[.int .i64 1,.int .i64 1,.int .i64 2,.int .i64 2,.string ⟨#[114,111,111,116]⟩,.string ⟨#[115]⟩,.string ⟨#[]⟩,.string ⟨#[]⟩,.string ⟨#[]⟩,.slice none 0 0,.string ⟨#[]⟩,.int .i64 0,.slice none 0 0,.int .i64 0,.int .i64 0,.string ⟨#[]⟩,.string ⟨#[]⟩,.string ⟨#[]⟩,.int .i64 0,.bool false,.int .i64 0,.int .i64 0,.int .i64 0]] W3 (sX W3.heap.size W3 (mD,0)) from do4 cc W3 BC.out.ES);go_wp2_with fail;refine C4.out.mono ?_;rintro e w3 ⟨a3,cd,rfl,m3⟩;obtain ⟨s1,a4,bm⟩:=lJ m3.w;obtain ⟨W4,hW⟩:∃ V,V=(w3.alloc (.cells #[.int .i64 0,.int .i64 0,.slice none 0 0,.slice none 0 0,.slice none 0 0,.slice none 0 0,.slice none 0 0,.slice none 0 0,.slice none 0 0,.int .i64 0] 36)).setCells w3.heap.size 0 cd:=⟨_,rfl⟩;obtain ⟨bd,hb⟩:∃ b,b=w3.heap.size:=⟨_,rfl⟩
 have aX:ag W3 W4:=hW▸(a3.trans a4)
 have Yt:=gH (AW3.out.trans aX);have Do:=gH (show BoxM W4 bd cd mD from by rw [hW,hb];exact bm);have tI:=gH (tI.out.aA aX);have BA:=gH (BA.out.aA aX);have BC:=gH (BC.out.aA aX);clear a3 m3 a4 bm aX ld C4
 go_upto_region 5 with fail
 rw [← hW,← hb];clear hW hb s1;have KX5:=gH (show ∀ V,ag W4 V→(jv ⟨bd,0,none⟩).run Tryz.prog V=.ok (.agg cd.toArray) V from fun V a=>(Do.out.aA a).ld);have KD5:=gH (show ∀ V,ag W4 V→Calls Tryz.prog 11 #[.agg cd.toArray,.agg (gR Bv).toArray] V (sX V.heap.size V (KP,181)) from fun V a=>do5 cd V (Do.out.aA a).ES)
 go_cut [9,10] from 42 to 47 (fun s3 s4 wx=>∃ bx cx,s3=.pointer (some ⟨bx,0,none⟩)∧s4=.int .i64 181∧ag W4 wx∧BoxM wx bx cx KP)
 case first =>
  go_region_held3 (fun V=>(jv ⟨bd,0,none⟩).run Tryz.prog V=.ok (.agg cd.toArray) V)
   ((
    refine KX5.out _ ?_;first
    | with_reducible exact (ag.refl _).drew
    | with_reducible exact b6
    | with_reducible exact b5
    | with_reducible exact b4
    | with_reducible exact ((ag.refl _).alloc _).drew
    | with_reducible exact b5.alloc _
    | with_reducible exact b4.alloc _
    | fail))
   ((
    first
    | (go_at_call 19;first
     | ((with_reducible refine (IA W4.drew).mono ?_);rintro e w4 ⟨rfl,a4⟩;have b4:ag W4 w4:=(ag.refl _).drew.trans a4)
     | (refine (IA _).mono ?_;rintro e w4 ⟨rfl,a4⟩;have b4:ag W4 w4:=((ag.refl _).alloc _).drew.trans a4;have NM:ai w4 W4.heap.size cY:=aR (w:=W4) (c:=cY) (t:=36) ((ag.refl _).drew.trans a4) rfl;have hb4:W4.heap.size+1≤w4.heap.size:=NM.1))
    | (go_at_call 11;first
     | ((with_reducible refine (KD5.out w4 b4).mono ?_);rintro e w5 ⟨a5,cx,rfl,m5⟩;have b5:ag W4 w5:=b4.trans a5;first | (have t6:=pd (NM.aA a5) b5 (Nat.le_refl _) (m5.down hb4);obtain ⟨s6,b6,x6⟩:=t6;have X6:=gH x6;clear x6) | (obtain ⟨s6,b6,x6⟩:=lJ m5.w;have b6:=b5.trans b6;have X6:=gH x6;clear x6))
     | ((with_reducible refine (KD5.out _ (b4.alloc _)).mono ?_);rintro e w5 ⟨a5,cx,rfl,m5⟩;have b5:ag W4 w5:=(b4.alloc _).trans a5;have PN:ai w5 w4.heap.size cY:=aR (w:=w4) (c:=cY) (t:=36) a5 rfl;obtain ⟨s6,b6,x6⟩:=pd PN b5 b4.size (m5.down (by simp));have X6:=gH x6;clear x6))))
  all_goals
   go_wp2
   go_meet
   case rel=>exact ⟨_,_,rfl,rfl,b6,X6.out⟩
 case rest =>
 obtain ⟨be,ce,rfl,rfl,aB,rB⟩:=hcut;obtain ⟨W5,Dm⟩:∃ V,V=wc:=⟨_,rfl⟩;rw [← Dm] at aB rB ⊢;clear Dm;have Bbe:=gH rB;have AW5:=gH (Yt.out.trans aB);have tI:=gH (tI.out.aA aB);have BA:=gH (BA.out.aA aB);have BC:=gH (BC.out.aA aB);have Do:=gH (Do.out.aA aB);clear aB rB
 go_upto_region 6 with fail
 have ld:=Do.out.ld
 have C6:=gH (show Calls Tryz.prog 6 #[.agg cd.toArray,.int .i64 1,.int .i64 2] W5 fun e w'=>e=.returned (.tuple #[.agg #[.int .i64 1,.int .i64 2,.int .i64 0,.int .i64 1,.int .i64 2],.bool false])∧ag W5 w' from by
  have:=yo mD cd 1 2 W5 Do.out.ES;rw [Us] at this
  exact this)
 go_wp2_with fail;refine C6.out.mono ?_;rintro e w3 ⟨rfl,a3⟩;obtain ⟨s1,a4,rd⟩:=sf w3 ⟨1,2,0,1,2⟩;obtain ⟨W6,hW⟩:∃ V,V=(w3.alloc (.cells #[.int .i64 0,.int .i64 0,.int .i64 0,.int .i64 0,.int .i64 0] 48)).setCells w3.heap.size 0 (cj ⟨1,2,0,1,2⟩):=⟨_,rfl⟩;obtain ⟨bf,hb⟩:∃ b,b=w3.heap.size:=⟨_,rfl⟩
 have aX:ag W5 W6:=hW▸(a3.trans a4)
 have V9:=gH (AW5.out.trans aX);have Rj:=gH (show ai W6 bf (cj ⟨1,2,0,1,2⟩) from by rw [hW,hb];exact rd);have tI:=gH (tI.out.aA aX);have BA:=gH (BA.out.aA aX);have BC:=gH (BC.out.aA aX);have Do:=gH (Do.out.aA aX);clear a3 a4 rd aX ld C6
 go_upto_region 7 with fail
 rw [← hW,← hb];clear hW hb s1;have ld:=Do.out.ld;have C7:=gH (show Calls Tryz.prog 11 #[.agg cd.toArray,.agg #[.int .i64 4,.int .i64 0,.int .i64 0,.int .i64 0,.string ⟨#[]⟩,.string ⟨#[]⟩,.string ⟨#[]⟩,.string ⟨#[]⟩,.string ⟨#[]⟩,.slice none 0 0,.string ⟨#[]⟩,.int .i64 0,.slice none 0 0,.int .i64 0,.int .i64 0,.string ⟨#[]⟩,.string ⟨#[]⟩,.string ⟨#[]⟩,.int .i64 0,.bool false,.int .i64 0,.int .i64 0,.int .i64 1]] W6 (sX W6.heap.size W6 (mK,0)) from do6 cd W6 Do.out.ES);go_wp2_with fail;refine C7.out.mono ?_;rintro e w3 ⟨a3,cg,rfl,m3⟩;obtain ⟨s1,a4,bm⟩:=lJ m3.w;obtain ⟨W7,hW⟩:∃ V,V=(w3.alloc (.cells #[.int .i64 0,.int .i64 0,.slice none 0 0,.slice none 0 0,.slice none 0 0,.slice none 0 0,.slice none 0 0,.slice none 0 0,.slice none 0 0,.int .i64 0] 36)).setCells w3.heap.size 0 cg:=⟨_,rfl⟩;obtain ⟨bg,hb⟩:∃ b,b=w3.heap.size:=⟨_,rfl⟩
 have aX:ag W6 W7:=hW▸(a3.trans a4)
 have AW7:=gH (V9.out.trans aX);have Wc:=gH (show BoxM W7 bg cg mK from by rw [hW,hb];exact bm);have tI:=gH (tI.out.aA aX);have BA:=gH (BA.out.aA aX);have BC:=gH (BC.out.aA aX);have Do:=gH (Do.out.aA aX);have Rj:=gH (Rj.out.aA aX);clear a3 m3 a4 bm aX ld C7
 go_upto_region 8 with fail
 rw [← hW,← hb];clear hW hb s1;have ld:=Wc.out.ld
 have C8:=gH (show Calls Tryz.prog 6 #[.agg cg.toArray,.int .i64 1,.int .i64 2] W7 fun e w'=>e=.returned (.tuple #[.agg #[.int .i64 1,.int .i64 2,.int .i64 0,.int .i64 1,.int .i64 2],.bool true])∧ag W7 w' from by
  have:=yo mK cg 1 2 W7 Wc.out.ES;rw [Ut] at this
  exact this)
 go_wp2_with fail;refine C8.out.mono ?_;rintro e w3 ⟨rfl,a3⟩;obtain ⟨s1,a4,rd⟩:=sf w3 ⟨1,2,0,1,2⟩;obtain ⟨W8,hW⟩:∃ V,V=(w3.alloc (.cells #[.int .i64 0,.int .i64 0,.int .i64 0,.int .i64 0,.int .i64 0] 48)).setCells w3.heap.size 0 (cj ⟨1,2,0,1,2⟩):=⟨_,rfl⟩;obtain ⟨bh,hb⟩:∃ b,b=w3.heap.size:=⟨_,rfl⟩
 have aX:ag W7 W8:=hW▸(a3.trans a4)
 have AW8:=gH (AW7.out.trans aX);have Rbh:=gH (show ai W8 bh (cj ⟨1,2,0,1,2⟩) from by rw [hW,hb];exact rd);have tI:=gH (tI.out.aA aX);have BA:=gH (BA.out.aA aX);have BC:=gH (BC.out.aA aX);have Do:=gH (Do.out.aA aX);have Wc:=gH (Wc.out.aA aX);have Rj:=gH (Rj.out.aA aX);clear a3 a4 rd aX ld C8
 go_upto_region 9 with fail
 rw [← hW,← hb];clear hW hb s1;have v1:W8.cell? ⟨ba,1,none⟩=some (.int .i64 1):=tI.out.row.cell (by obtain ⟨_,_,_,_,_,_,_,_,_,_,_,_,_,_,rfl,_⟩:=tI.out.ES.at;rfl);have v2:W8.cell? ⟨bb,1,none⟩=some (.int .i64 1):=BA.out.row.cell (by obtain ⟨_,_,_,_,_,_,_,_,_,_,_,_,_,_,rfl,_⟩:=BA.out.ES.at;rfl);obtain ⟨Al,kl,h8,-⟩:=BC.out.ES.CU;have v3:W8.cell? ⟨bc,8,none⟩=some (.slice Al 1 kl):=BC.out.row.cell h8;have v4:W8.cell? ⟨bf,3,none⟩=some (.int .i64 1):=Rj.out.cell rfl;have z1:=tI.out.row.1;have z2:=BA.out.row.1;have z3:=BC.out.row.1;have z4:=Rj.out.1;go_wp2;go_ret;exact ⟨rfl,AW8.out⟩
theorem PO (m:fo) (cs:List Value) (w:World) (H:dD w cs m):Calls Tryz.prog 5 #[.agg cs.toArray,.agg #[.int .i64 0,.string ⟨#[]⟩,.string ⟨#[]⟩,.string ⟨#[]⟩,.string ⟨#[]⟩,.string ⟨#[]⟩,.slice none 0 0,.string ⟨#[]⟩,.int .i64 0,.slice none 0 0,.int .i64 0,.int .i64 0,.string ⟨#[]⟩,.string ⟨#[]⟩,.string ⟨#[]⟩,.int .i64 0,.bool false]] w (Uu w):=by
 obtain ⟨As,c1,At,c2,An,c3,Am,c4,Ag,c5,Ad,cd,Al,cl,rfl,h⟩:=H.at
 exact LA m As c1 At c2 An c3 Am c4 Ag c5 Ad cd Al cl Wa (by decide) (by decide) w h
end Go.Proofs.YtakddkhipelmjaaGreat
namespace Go.Proofs.YtakddkhipelmjaaGreat
open Go.ChangeShapes Go.WideShapes Go.ChangeAt Go.RowKit
section
variable {H : Type} {enc : TypeId × Value → H} {P : Program} {w : World}
def Uw (enc:TypeId × Value→H) (P:Program) (w:World) (t:TypeId) (v:Value):Prop :=
 Rd enc P w t v.cells.toList∧∃ base,Value.okWide P w .any base t v
theorem Uw.struct {t:TypeId} {fs:Array Field} {v:Value} (ht:P.underlying t=some (.struct fs)) (h:Uw enc P w t v):∃ cs:List Value,v=.agg cs.toArray∧Rd enc P w t cs:=by
 obtain ⟨h1,base,h2⟩:=h;obtain ⟨cs,rfl,_⟩:=okWide_struct ht h2;exact ⟨cs.toList,by simp,h1⟩
theorem tJ {v x:Value} (h:v.cells.toList=[x]) (hn:∀ cs,v≠.agg cs):v=x:=by
 cases v<;>simp [Value.cells] at h<;>first | exact h | exact absurd rfl (hn _)
theorem si {t:TypeId} {v:Value} {base:Nat} {d:TypeDesc} (ht:P.underlying t=some d) (hd:(∀ fs,d≠.struct fs)∧(∀ n e,d≠.array n e)) (h:Value.okWide P w .any base t v):∀ cs,v≠.agg cs:=by
 intro cs e;subst e;unfold Value.okWide at h;rw [ht] at h
 cases d<;>simp_all [Cell.okWide,Cell.ok]
theorem Uw.int {t:TypeId} {k:IntKind} {v:Value} (ht:P.underlying t=some (.int k)) (h:Uw enc P w t v):∃ n:Int,v=.int k n∧(Lit.int k n).wf=true:=by
 obtain ⟨h1,base,h2⟩:=h;obtain ⟨s,hc,hs⟩:=h1.int ht;exact ⟨s,tJ hc (si ht (by simp) h2),hs⟩
theorem sj:∀ {ts:List TypeId} {vs:List Value} {ds:List (DataW H)} {p:List MemPlace},DataW.TrodAll enc P w 0 (fun _=>true) true ts vs ds p→(∀ n∈DataW.weightsEach P ts ds,n≤140737488351232) →
  vs.length=ts.length∧ds.length=ts.length∧∀ (j:Nat) (t:TypeId) (v:Value),ts[j]? = some t→vs[j]? = some v→Rd enc P w t v.cells.toList
 | [],vs,ds,p,h,_=>by
  cases vs<;>cases ds<;>simp [DataW.TrodAll] at h
  exact ⟨rfl,rfl,fun j t v ht=>by simp at ht⟩
 | t::ts,vs,ds,p,h,hw=>by
  obtain ⟨v,vs',d,ds',p1,q1,rfl,rfl,rfl,⟨fuel,h1⟩,h2⟩:=trodAll_cons h;simp only [DataW.weightsEach,List.mem_append] at hw;obtain ⟨l1,l2,ih⟩:=sj h2 (fun n hn=>hw n (.inr hn));refine ⟨by simp [l1],by simp [l2],fun j t' v' ht hv=>?_⟩
  cases j with
  | zero =>
   simp at ht hv;subst ht;subst hv;exact ⟨fuel,_,h1,fun n hn=>hw n (.inl hn)⟩
  | succ j=>exact ih j t' v' (by simpa using ht) (by simpa using hv)
theorem mN {W W':World} (hl:laidOutB P=true) (hb:Below W.heap.size W W'):∀ {ts:List TypeId} {vs:List Value} {ds:List (DataW H)} {p:List MemPlace},(∀ t∈ts,P.readableRec t=true∧t < P.types.size) →
  DataW.TrodAll enc P W 0 (fun _=>true) true ts vs ds p→DataW.TrodAll enc P W' 0 (fun b=>decide (b < W.heap.size)) true ts vs ds p
 | [],vs,ds,p,_,h=>by
  cases vs<;>cases ds<;>simp [DataW.TrodAll] at h ⊢
  exact h
 | t::ts,vs,ds,p,ht,h=>by
  obtain ⟨v,vs',d,ds',p1,q1,rfl,rfl,rfl,h1,h2⟩:=trodAll_cons h
  have lt0:∀ x∈p1,x.block < W.heap.size:=by obtain ⟨m,hm⟩:=h1;exact DataW.trod_lt m _ _ _ hm
  exact trodAll_cons_mk (Below.trod hl (ht t (by simp)).1 (ht t (by simp)).2 h1 hb lt0) (mN hl hb (fun x hx=>ht x (by simp [hx])) h2)
end
theorem zl {C:Checked} {os:Os} {f:FuncId} {fn:Func} {s:ChangeSpec} {tb:TypeId} (H:Type) (enc:TypeId × Value→H)
  (own:ownKnob C.prog.godebug=none) (started:os.Started) (PP:C.prog.inits.idxOf? f=none) (hfn:C.prog.funcs[f]? = some fn)
  (witness:∃ (w:World) (tape:Tape) (i:Input),w.os=os∧(w.forCall tape i).Shaped C.prog∧i.vars=[]∧Input.okWide C.prog (w.forCall tape i) .any w.heap.size f i ∧
   s.pre6 enc C.prog fn [] false (w.forCall tape i).memory i.args∧({}:Assume).holds C.prog (lone (Frame.enter C.prog f i.args .normal) [] (w.forCall tape i)))
  (IB:s.vars=[]) (hres:fn.resultTypes=#[tb]) (JN:C.prog.underlying tb=some .bool)
  (Ux:∀ ds:List (DataW H),ds.length=fn.params.size→s.fn H ds={ results:=[.lit (.bool true)],args:=ds })
  (laid:laidOutB C.prog=true) (hty:∀ t∈fn.params.toList,C.prog.readableRec t=true∧t < C.prog.types.size)
  (walk:∀ (W:World) (vs:List Value),vs.length=fn.params.size→(∀ (j:Nat) (t:TypeId) (v:Value),fn.params[j]? = some t→vs[j]? = some v→Uw enc C.prog W t v)→Calls C.prog f vs.toArray W fun e w'=>e=.returned (.bool true)∧ag W w') :
  ReturnsInHanded {} C os f .any (s.pre6 enc C.prog fn [] false) (s.post enc C.prog fn false true false false):=by
 refine returnsInHanded_of_change_sized own started PP hfn witness ?_;intro W base args ds gs before hval hW _ hsz _;have hW':=hW;obtain ⟨p,q,hA,hV,rfl,_,_⟩:=hW;rw [IB] at hV;obtain ⟨rfl,rfl⟩:=trodVars_none hV
 have hw:∀ n∈DataW.weightsEach C.prog fn.params.toList ds,n≤140737488351232:=by
  have e:s.plain.varTypes C.prog=[]:=by
   simp [ChangeSpec.plain,IB,DataSpec.varTypes]
  rw [e,List.append_nil,List.append_nil] at hsz;intro n hn;have:=List.all_eq_true.1 hsz n hn
  have h2:n≤reachBytes:=by simpa using this
  exact h2
 obtain ⟨l1,l2,Oh⟩:=sj hA hw
 have hlen:args.toList.length=fn.params.size:=by simpa using l1
 refine ((walk W args.toList hlen fun j t v ht hv=>⟨Oh j t v (by simpa using ht) hv,base,hval j t v ht (by simpa using hv)⟩)).mono fun e W' ⟨he,kS⟩=>?_
 subst he;have hs:=Ux ds (by simpa using l2);refine ⟨_,rfl,ds,[],p++[],[],p,[],hW',?_,?_,?_,?_,fun h=>by cases h⟩
 ·rw [List.append_nil,hs,hres]
  exact trodAll_mk1 (shut_bool JN _)
 ·rw [List.append_nil,hs]
  exact mN laid kS hty hA
 ·rw [List.append_nil,hs,IB]
  rfl
 ·exact kS.frame _
section
variable {H : Type} {enc : TypeId × Value → H} {w : World}
theorem nv {cs:List Value} (h:Rd enc Tryz.prog w 9 cs):∃ x,dC w cs x:=by
 obtain ⟨s,e,z⟩:=h.string Tryz.underlying9;exact ⟨s,e,z⟩
theorem Dp {cs:List Value} (h:Rd enc Tryz.prog w 26 cs):∃ l,th w 1 dC cs l :=
 Rd.slice Tryz.underlying26 (by kernel_rfl:Tryz.prog.cellsOf 9=1) (by decide) (of_decide_eq_true (by kernel_rfl)) (fun _ h=>nv h) h
theorem PQ {cs:List Value} (h:Rd enc Tryz.prog w 169 cs):∃ x,fL w cs x:=by
 obtain ⟨hl,_⟩:=h.struct Tryz.underlying169;rw [show Tryz.prog.cellsOf 169=3 by kernel_rfl] at hl
 match cs,hl with
 | [c0,c1,c2],_ =>
  have f0:=h.field Tryz.underlying169 0 9 0 1 rfl (by kernel_rfl);have f1:=h.field Tryz.underlying169 1 167 1 1 rfl (by kernel_rfl);have f2:=h.field Tryz.underlying169 2 4 2 1 rfl (by kernel_rfl);clear h;obtain ⟨x0,e0,z0⟩:=f0.string Tryz.underlying9;obtain ⟨x1,e1,_⟩:=f1.int Tryz.underlying167;obtain ⟨x2,e2⟩:=f2.bool Tryz.underlying4;simp at e0 e1 e2;subst e0 e1 e2;exact ⟨⟨x0,x1,x2⟩,rfl,z0⟩
theorem LB {cs:List Value} (h:Rd enc Tryz.prog w 39 cs):∃ l,th w 3 fL cs l :=
 Rd.slice Tryz.underlying39 (by kernel_rfl:Tryz.prog.cellsOf 169=3) (by decide) (of_decide_eq_true (by kernel_rfl)) (fun _ h=>PQ h) h
theorem LC {cs:List Value} (h:Rd enc Tryz.prog w 42 cs):∃ x,eG w cs x:=by
 obtain ⟨hl,_⟩:=h.struct Tryz.underlying42;rw [show Tryz.prog.cellsOf 42=8 by kernel_rfl] at hl
 match cs,hl with
 | [c0,c1,c2,c3,c4,c5,c6,c7],_ =>
  have f0:=h.field Tryz.underlying42 0 9 0 1 rfl (by kernel_rfl);have f1:=h.field Tryz.underlying42 1 40 1 1 rfl (by kernel_rfl);have f2:=h.field Tryz.underlying42 2 26 2 1 rfl (by kernel_rfl);have f3:=h.field Tryz.underlying42 3 3 3 1 rfl (by kernel_rfl);have f4:=h.field Tryz.underlying42 4 3 4 1 rfl (by kernel_rfl);have f5:=h.field Tryz.underlying42 5 9 5 1 rfl (by kernel_rfl);have f6:=h.field Tryz.underlying42 6 9 6 1 rfl (by kernel_rfl);have f7:=h.field Tryz.underlying42 7 9 7 1 rfl (by kernel_rfl);clear h;obtain ⟨x0,e0,z0⟩:=f0.string Tryz.underlying9;obtain ⟨x1,e1,_⟩:=f1.int Tryz.underlying40;obtain ⟨x2,A2,bJ,e2,z2⟩:=Dp f2;obtain ⟨x3,e3,_⟩:=f3.int Tryz.underlying3;obtain ⟨x4,e4,_⟩:=f4.int Tryz.underlying3;obtain ⟨x5,e5,z5⟩:=f5.string Tryz.underlying9;obtain ⟨x6,e6,z6⟩:=f6.string Tryz.underlying9;obtain ⟨x7,e7,z7⟩:=f7.string Tryz.underlying9;simp at e0 e1 e2 e3 e4 e5 e6 e7;subst e0 e1 e2 e3 e4 e5 e6 e7;exact ⟨⟨x0,x1,x2,x3,x4,x5,x6,x7⟩,A2,bJ,rfl,z2,z0,z5,z6,z7⟩
end
section
variable {H : Type} {enc : TypeId × Value → H} {w : World}
theorem PR {cs:List Value} (h:Rd enc Tryz.prog w 109 cs):∃ x,eE w cs x:=by
 obtain ⟨hl,_⟩:=h.struct Tryz.underlying109;rw [show Tryz.prog.cellsOf 109=2 by kernel_rfl] at hl
 match cs,hl with
 | [c0,c1],_ =>
  have f0:=h.field Tryz.underlying109 0 9 0 1 rfl (by kernel_rfl);have f1:=h.field Tryz.underlying109 1 9 1 1 rfl (by kernel_rfl);clear h;obtain ⟨x0,e0,z0⟩:=f0.string Tryz.underlying9;obtain ⟨x1,e1,z1⟩:=f1.string Tryz.underlying9;simp at e0 e1;subst e0 e1;exact ⟨⟨x0,x1⟩,rfl,z0,z1⟩
theorem LD {cs:List Value} (h:Rd enc Tryz.prog w 22 cs):∃ l,th w 2 eE cs l :=
 Rd.slice Tryz.underlying22 (by kernel_rfl:Tryz.prog.cellsOf 109=2) (by decide) (of_decide_eq_true (by kernel_rfl)) (fun _ h=>PR h) h
theorem FX:ownKnob Tryz.prog.godebug=none:=by kernel_rfl
theorem FY:laidOutB Tryz.prog=true:=by kernel_rfl
end
section
variable {H : Type} {enc : TypeId × Value → H} {w : World}
theorem PS {cs:List Value} (h:Rd enc Tryz.prog w 174 cs):∃ x,fg w cs x:=by
 obtain ⟨hl,_⟩:=h.struct Tryz.underlying174;rw [show Tryz.prog.cellsOf 174=2 by kernel_rfl] at hl
 match cs,hl with
 | [c0,c1],_ =>
  have f0:=h.field Tryz.underlying174 0 9 0 1 rfl (by kernel_rfl);have f1:=h.field Tryz.underlying174 1 9 1 1 rfl (by kernel_rfl);clear h;obtain ⟨x0,e0,z0⟩:=nv f0;obtain ⟨x1,e1,z1⟩:=nv f1;simp at e0 e1;subst e0 e1;exact ⟨⟨x0,x1⟩,rfl,z0,z1⟩
theorem LF {cs:List Value} (h:Rd enc Tryz.prog w 27 cs):∃ l,th w 2 fg cs l :=
 Rd.slice Tryz.underlying27 (by kernel_rfl:Tryz.prog.cellsOf 174=2) (by decide) (of_decide_eq_true (by kernel_rfl)) (fun _ h=>PS h) h
theorem LG {cs:List Value} (h:Rd enc Tryz.prog w 29 cs):∃ (x:gW) (A:Option Addr) (cap:Nat) (B:Option Addr) (LH:Nat),cs=[.slice A x.names.length cap,.slice B x.members.length LH]∧az w 1 dC A cap x.names∧az w 2 fg B LH x.members:=by
 obtain ⟨hl,_⟩:=h.struct Tryz.underlying29;rw [show Tryz.prog.cellsOf 29=2 by kernel_rfl] at hl
 match cs,hl with
 | [c0,c1],_ =>
  have f0:=h.field Tryz.underlying29 0 26 0 1 rfl (by kernel_rfl);have f1:=h.field Tryz.underlying29 1 27 1 1 rfl (by kernel_rfl);clear h;obtain ⟨x0,A0,PT,e0,z0⟩:=Dp f0;obtain ⟨x1,A1,PU,e1,z1⟩:=LF f1;simp at e0 e1;subst e0 e1;exact ⟨⟨x0,x1⟩,A0,PT,A1,PU,rfl,z0,z1⟩
end
section
variable {H : Type} {enc : TypeId × Value → H} {w : World}
theorem PV {cs:List Value} (h:Rd enc Tryz.prog w 177 cs):∃ x,gy w cs x:=by
 obtain ⟨hl,_⟩:=h.struct Tryz.underlying177;rw [show Tryz.prog.cellsOf 177=6 by kernel_rfl] at hl
 match cs,hl with
 | [c0,c1,c2,c3,c4,c5],_ =>
  have f0:=h.field Tryz.underlying177 0 9 0 1 rfl (by kernel_rfl);have f1:=h.field Tryz.underlying177 1 9 1 1 rfl (by kernel_rfl);have f2:=h.field Tryz.underlying177 2 43 2 1 rfl (by kernel_rfl);have f3:=h.field Tryz.underlying177 3 9 3 1 rfl (by kernel_rfl);have f4:=h.field Tryz.underlying177 4 9 4 1 rfl (by kernel_rfl);have f5:=h.field Tryz.underlying177 5 4 5 1 rfl (by kernel_rfl);clear h;obtain ⟨x0,e0,z0⟩:=nv f0;obtain ⟨x1,e1,z1⟩:=nv f1;obtain ⟨x2,e2,z2⟩:=f2.int Tryz.underlying43;obtain ⟨x3,e3,z3⟩:=nv f3;obtain ⟨x4,e4,z4⟩:=nv f4;obtain ⟨x5,e5⟩:=f5.bool Tryz.underlying4;simp at e0 e1 e2 e3 e4 e5;subst e0 e1 e2 e3 e4 e5;exact ⟨⟨x0,x1,x2,x3,x4,x5⟩,rfl,z0,z1,z3,z4,z2⟩
theorem LI {cs:List Value} (h:Rd enc Tryz.prog w 30 cs):∃ l,th w 6 gy cs l :=
 Rd.slice Tryz.underlying30 (by kernel_rfl:Tryz.prog.cellsOf 177=6) (by decide) (of_decide_eq_true (by kernel_rfl)) (fun _ h=>PV h) h
end
section
variable {H : Type} {enc : TypeId × Value → H} {w : World}
theorem PW {cs:List Value} (h:Rd enc Tryz.prog w 48 cs):∃ x,fj w cs x:=by
 obtain ⟨hl,_⟩:=h.struct Tryz.underlying48;rw [show Tryz.prog.cellsOf 48=5 by kernel_rfl] at hl
 match cs,hl with
 | [c0,c1,c2,c3,c4],_ =>
  have f0:=h.field Tryz.underlying48 0 3 0 1 rfl (by kernel_rfl);have f1:=h.field Tryz.underlying48 1 3 1 1 rfl (by kernel_rfl);have f2:=h.field Tryz.underlying48 2 46 2 1 rfl (by kernel_rfl);have f3:=h.field Tryz.underlying48 3 3 3 1 rfl (by kernel_rfl);have f4:=h.field Tryz.underlying48 4 3 4 1 rfl (by kernel_rfl);clear h;obtain ⟨x0,e0,z0⟩:=f0.int Tryz.underlying3;obtain ⟨x1,e1,z1⟩:=f1.int Tryz.underlying3;obtain ⟨x2,e2,z2⟩:=f2.int Tryz.underlying46;obtain ⟨x3,e3,z3⟩:=f3.int Tryz.underlying3;obtain ⟨x4,e4,z4⟩:=f4.int Tryz.underlying3;simp at e0 e1 e2 e3 e4;subst e0 e1 e2 e3 e4;exact ⟨⟨x0,x1,x2,x3,x4⟩,rfl⟩
theorem PX {cs:List Value} (h:Rd enc Tryz.prog w 55 cs):∃ x,fq w cs x:=by
 obtain ⟨hl,_⟩:=h.struct Tryz.underlying55;rw [show Tryz.prog.cellsOf 55=4 by kernel_rfl] at hl
 match cs,hl with
 | [c0,c1,c2,c3],_ =>
  have f0:=h.field Tryz.underlying55 0 3 0 1 rfl (by kernel_rfl);have f1:=h.field Tryz.underlying55 1 3 1 1 rfl (by kernel_rfl);have f2:=h.field Tryz.underlying55 2 3 2 1 rfl (by kernel_rfl);have f3:=h.field Tryz.underlying55 3 3 3 1 rfl (by kernel_rfl);clear h;obtain ⟨x0,e0,z0⟩:=f0.int Tryz.underlying3;obtain ⟨x1,e1,z1⟩:=f1.int Tryz.underlying3;obtain ⟨x2,e2,z2⟩:=f2.int Tryz.underlying3;obtain ⟨x3,e3,z3⟩:=f3.int Tryz.underlying3;simp at e0 e1 e2 e3;subst e0 e1 e2 e3;exact ⟨⟨x0,x1,x2,x3⟩,rfl⟩
theorem LJ {cs:List Value} (h:Rd enc Tryz.prog w 33 cs):∃ l,th w 5 fj cs l :=
 Rd.slice Tryz.underlying33 (by kernel_rfl:Tryz.prog.cellsOf 48=5) (by decide) (of_decide_eq_true (by kernel_rfl)) (fun _ h=>PW h) h
theorem LL {cs:List Value} (h:Rd enc Tryz.prog w 34 cs):∃ l,th w 4 fq cs l :=
 Rd.slice Tryz.underlying34 (by kernel_rfl:Tryz.prog.cellsOf 55=4) (by decide) (of_decide_eq_true (by kernel_rfl)) (fun _ h=>PX h) h
end
def wk (t:bW):Prop:=∀ r∈t.rules,Dq r.low∧Dq r.high
theorem az.imp {α:Type} {w:World} {size:Nat} {R R':World→List Value→α→Prop} {A:Option Addr} {cap:Nat} {l:List α} (h:az w size R A cap l) (hi:∀ cs x,R w cs x→R' w cs x):az w size R' A cap l :=
 ⟨h.1,h.2.1,fun i hl=>by
  obtain ⟨b,off,cs,hA,hb,hz,hr,hc⟩:=h.2.2 i hl
  exact ⟨b,off,cs,hA,hb,hz,hi _ _ hr,hc⟩⟩
theorem az.ev {α:Type} {w:World} {size:Nat} {R:World→List Value→α→Prop} {A:Option Addr} {cap:Nat} {l:List α} {p:α→Prop} (h:az w size R A cap l) (hi:∀ cs x,R w cs x→p x):∀ x∈l,p x:=fun x hx=>by
 obtain ⟨i,hl,rfl⟩:=List.getElem_of_mem hx;obtain ⟨b,off,cs,hA,hb,hz,hr,hc⟩:=h.2.2 i hl;exact hi _ _ hr
theorem IC {n:Int} (h:(Lit.int .i64 n).wf=true):Dq n:=by
 unfold Lit.wf at h;simp only [Bool.and_eq_true,decide_eq_true_eq] at h;exact ⟨h.1,h.2⟩
section
variable {H : Type} {enc : TypeId × Value → H} {w : World}
theorem ID {cs:List Value} (h:Rd enc Tryz.prog w 42 cs):∃ x,eG w cs x∧Dq x.low∧Dq x.high:=by
 obtain ⟨x,A,cap,rfl,hx⟩:=LC h;have f3:=h.field Tryz.underlying42 3 3 3 1 rfl (by kernel_rfl);have f4:=h.field Tryz.underlying42 4 3 4 1 rfl (by kernel_rfl);obtain ⟨x3,e3,z3⟩:=f3.int Tryz.underlying3;obtain ⟨x4,e4,z4⟩:=f4.int Tryz.underlying3;simp at e3 e4;subst e3 e4;exact ⟨x,⟨A,cap,rfl,hx⟩,IC z3,IC z4⟩
theorem ET {cs:List Value} (h:Rd enc Tryz.prog w 78 cs):∃ l,th w 8 (fun w cs x=>eG w cs x∧Dq x.low∧Dq x.high) cs l :=
 Rd.slice Tryz.underlying78 (by kernel_rfl:Tryz.prog.cellsOf 42=8) (by decide) (of_decide_eq_true (by kernel_rfl)) (fun _ h=>ID h) h
theorem LM {cs:List Value} (h:Rd enc Tryz.prog w 80 cs):∃ x,dE w cs x∧wk x:=by
 obtain ⟨hl,_⟩:=h.struct Tryz.underlying80;rw [show Tryz.prog.cellsOf 80=5 by kernel_rfl] at hl
 match cs,hl with
 | [c0,c1,c2,c3,c4],_ =>
  have f0:=h.field Tryz.underlying80 0 9 0 1 rfl (by kernel_rfl);have f1:=h.field Tryz.underlying80 1 9 1 1 rfl (by kernel_rfl);have f2:=h.field Tryz.underlying80 2 9 2 1 rfl (by kernel_rfl);have f3:=h.field Tryz.underlying80 3 39 3 1 rfl (by kernel_rfl);have f4:=h.field Tryz.underlying80 4 78 4 1 rfl (by kernel_rfl);clear h;obtain ⟨x0,e0,z0⟩:=f0.string Tryz.underlying9;obtain ⟨x1,e1,z1⟩:=f1.string Tryz.underlying9;obtain ⟨x2,e2,z2⟩:=f2.string Tryz.underlying9;obtain ⟨x3,A3,fC,e3,z3⟩:=LB f3;obtain ⟨x4,A4,PY,e4,z4⟩:=ET f4;simp at e0 e1 e2 e3 e4;subst e0 e1 e2 e3 e4;exact ⟨⟨x0,x1,x2,x3,x4⟩,⟨A3,fC,A4,PY,rfl,z3,z4.imp (fun _ _ h=>h.1),z0,z1,z2⟩,z4.ev (fun _ _ h=>h.2)⟩
theorem IE {cs:List Value} (h:Rd enc Tryz.prog w 23 cs):∃ l,th w 5 (fun w cs x=>dE w cs x∧wk x) cs l :=
 Rd.slice Tryz.underlying23 (by kernel_rfl:Tryz.prog.cellsOf 80=5) (by decide) (of_decide_eq_true (by kernel_rfl)) (fun _ h=>LM h) h
theorem IG {cs:List Value} (h:Rd enc Tryz.prog w 25 cs):∃ x,WC w cs x∧∀ t∈x.tables,wk t:=by
 obtain ⟨hl,_⟩:=h.struct Tryz.underlying25;rw [show Tryz.prog.cellsOf 25=2 by kernel_rfl] at hl
 match cs,hl with
 | [c0,c1],_ =>
  have f0:=h.field Tryz.underlying25 0 22 0 1 rfl (by kernel_rfl);have f1:=h.field Tryz.underlying25 1 23 1 1 rfl (by kernel_rfl);clear h;obtain ⟨x0,A0,PT,e0,z0⟩:=LD f0;obtain ⟨x1,A1,PU,e1,z1⟩:=IE f1;simp at e0 e1;subst e0 e1;exact ⟨⟨x0,x1⟩,⟨A0,PT,A1,PU,rfl,z0,z1.imp (fun _ _ h=>h.1)⟩,z1.ev (fun _ _ h=>h.2)⟩
theorem LN {cs:List Value} (h:Rd enc Tryz.prog w 32 cs):∃ (c:bS) (As:Option Addr) (ax:Nat) (At:Option Addr) (aD:Nat) (An:Option Addr) (aH:Nat) (Am:Option Addr) (aL:Nat) (Ag:Option Addr) (aP:Nat),
  cs=[.int .i64 c.av,.int .i64 c.version,.slice As c.aj.ae.length ax,.slice At c.aj.tables.length aD,.slice An c.ar.names.length aH,.slice Am c.ar.members.length aL,.slice Ag c.ah.length aP] ∧
  az w 2 eE As ax c.aj.ae∧az w 5 dE At aD c.aj.tables∧az w 1 dC An aH c.ar.names∧az w 2 fg Am aL c.ar.members∧az w 6 gy Ag aP c.ah∧∀ t∈c.aj.tables,wk t:=by
 obtain ⟨hl,_⟩:=h.struct Tryz.underlying32;rw [show Tryz.prog.cellsOf 32=7 by kernel_rfl] at hl
 match cs,hl with
 | [c0,c1,c2,c3,c4,c5,c6],_ =>
  have f0:=h.field Tryz.underlying32 0 3 0 1 rfl (by kernel_rfl);have f1:=h.field Tryz.underlying32 1 3 1 1 rfl (by kernel_rfl);have f2:=h.field Tryz.underlying32 2 25 2 2 rfl (by kernel_rfl);have f3:=h.field Tryz.underlying32 3 29 4 2 rfl (by kernel_rfl);have f4:=h.field Tryz.underlying32 4 30 6 1 rfl (by kernel_rfl);clear h;obtain ⟨x0,e0,z0⟩:=f0.int Tryz.underlying3;obtain ⟨x1,e1,z1⟩:=f1.int Tryz.underlying3;obtain ⟨o,⟨A,cap,B,LH,e2,hs,ht⟩,hI⟩:=IG f2;obtain ⟨r,C,Yz,D,Uy,e3,hn,hm⟩:=LG f3;obtain ⟨g,E,YA,e4,hg⟩:=LI f4;simp at e0 e1 e2 e3 e4;obtain ⟨rfl,rfl⟩:=e2;obtain ⟨rfl,rfl⟩:=e3;subst e0 e1 e4;exact ⟨⟨x0,x1,o,r,g⟩,A,cap,B,LH,C,Yz,D,Uy,E,YA,rfl,hs,ht,hn,hm,hg,hI⟩
theorem J0 {cs:List Value} (h:Rd enc Tryz.prog w 36 cs):∃ (m:fo) (As:Option Addr) (ax:Nat) (At:Option Addr) (aD:Nat) (An:Option Addr) (aH:Nat) (Am:Option Addr) (aL:Nat) (Ag:Option Addr) (aP:Nat) (Ad:Option Addr) (gv:Nat) (Al:Option Addr) (gw:Nat),
  cs=[.int .i64 m.cat.av,.int .i64 m.cat.version,.slice As m.cat.aj.ae.length ax,.slice At m.cat.aj.tables.length aD,.slice An m.cat.ar.names.length aH,.slice Am m.cat.ar.members.length aL,.slice Ag m.cat.ah.length aP,.slice Ad m.aQ.length gv,.slice Al m.bp.length gw,.int .i64 m.last] ∧
  iJ w m As ax At aD An aH Am aL Ag aP Ad gv Al gw∧∀ t∈m.cat.aj.tables,wk t:=by
 obtain ⟨hl,_⟩:=h.struct Tryz.underlying36;rw [show Tryz.prog.cellsOf 36=10 by kernel_rfl] at hl
 match cs,hl with
 | [c0,c1,c2,c3,c4,c5,c6,c7,c8,c9],_ =>
  have f0:=h.field Tryz.underlying36 0 32 0 7 rfl (by kernel_rfl);have f1:=h.field Tryz.underlying36 1 33 7 1 rfl (by kernel_rfl);have f2:=h.field Tryz.underlying36 2 34 8 1 rfl (by kernel_rfl);have f3:=h.field Tryz.underlying36 3 3 9 1 rfl (by kernel_rfl);clear h;obtain ⟨x0,As,ax,At,aD,An,aH,Am,aL,Ag,aP,e0,y1,y2,y3,y4,y5,hI⟩:=LN f0;obtain ⟨d,Ad,gv,e1,hd⟩:=LJ f1;obtain ⟨l,Al,gw,e2,hl⟩:=LL f2;obtain ⟨la,e3,z3⟩:=f3.int Tryz.underlying3;simp at e0 e1 e2 e3;obtain ⟨rfl,rfl,rfl,rfl,rfl,rfl,rfl⟩:=e0;subst e1 e2 e3;exact ⟨⟨x0,d,l,la⟩,As,ax,At,aD,An,aH,Am,aL,Ag,aP,Ad,gv,Al,gw,rfl,⟨⟨y1,y2,y3,y4,y5⟩,hd,hl⟩,hI⟩
end
end Go.Proofs.YtakddkhipelmjaaGreat
