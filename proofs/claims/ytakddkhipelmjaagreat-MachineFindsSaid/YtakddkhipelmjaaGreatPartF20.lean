import Derived.Deep.CutRange
import Derived.Test.YtakddkhipelmjaaGreatPartF19
set_option maxRecDepth 100000
set_option linter.unusedVariables false
set_option maxHeartbeats 64000000
namespace Go.Proofs.YtakddkhipelmjaaGreat
open Go.Deep Go.RowKit
def Ds (B:Nat) (w:World) (cs:List Value) (c:bX):Prop:=∃ S:Nat→Prop,(∀ j,S j→B≤j∧j < w.heap.size)∧gZ S mg w cs c
theorem mg.len {w:World} {cs:List Value} {c:bX} (h:mg w cs c):cs.length=7:=by
 obtain ⟨As,c1,At,c2,An,c3,Am,c4,Ag,c5,rfl,h⟩:=h;rfl
theorem mg.one {w:World} {cs:List Value} {c:bX} (h:mg w cs c):∀ u∈cs,u.oneCell'=true:=by
 obtain ⟨As,c1,At,c2,An,c3,Am,c4,Ag,c5,rfl,h⟩:=h;simp [Value.oneCell']
theorem mg.WE {w:World} {cs:List Value} {c:bX} (h:mg w cs c):cs[0]? = some (.int .i64 c.ax)∧cs[1]? = some (.int .i64 c.version):=by
 obtain ⟨As,c1,At,c2,An,c3,Am,c4,Ag,c5,rfl,h⟩:=h;exact ⟨rfl,rfl⟩
theorem mg.aH {w w':World} {cs:List Value} {c:bX} (h:mg w cs c) (a:ag w w'):mg w' cs c:=by
 obtain ⟨As,c1,At,c2,An,c3,Am,c4,Ag,c5,rfl,h1,h2,h3,h4,h5⟩:=h;exact ⟨As,c1,At,c2,An,c3,Am,c4,Ag,c5,rfl,bI a h1,br a h2,aO a h3,cu a h4,dQ a h5⟩
theorem Ds.w {B:Nat} {w:World} {cs:List Value} {c:bX} (h:Ds B w cs c):mg w cs c:=by
 obtain ⟨S,_,h⟩:=h;exact h w (Kb.refl _ _)
theorem Ds.of {w:World} {B:Nat} {c:bX} {hs ht hn hm hg:Hd} {L:List bK} (h:eN w B c hs ht hn hm hg L) (sm:FK c):Ds B w [.int .i64 c.ax,.int .i64 c.version,.slice hs.a c.ah.aa.length hs.c,.slice ht.a c.ah.tables.length ht.c,.slice hn.a c.ai.names.length hn.c,.slice hm.a c.ai.members.length hm.c,.slice hg.a c.af.length hg.c] c :=
 ⟨fun g=>tL hs ht hn hm L g∨g∈hg.blk,fun j e=>h.lt e,fun V k=>by
  have a:=(h.kb k fun g e e'=>e' e).at sm
  exact ⟨_,_,_,_,_,_,_,_,_,_,rfl,a.gT,a.tab,a.j0,a.mem,a.n7⟩⟩
def ApQ (w:World) (c:bX) (k:Int) (e:Ending) (w':World):Prop:=ag w w'∧∃ cs,e=.returned (.tuple #[.agg cs.toArray,.int .i64 k])∧Ds w.heap.size w' cs c
def xN (x:gV) (A6:Option Addr) (c6:Nat) (A9:Option Addr) (c9:Nat):List Value:=[.int .i64 x.kind,.string x.aP,.string x.ac,.string x.table,.string x.name,.string x.role,.slice A6 x.av.length c6,.string x.rule.name,.int .i64 x.rule.kind,.slice A9 x.rule.av.length c9,.int .i64 x.rule.low,.int .i64 x.rule.high,.string x.rule.ac,.string x.rule.table,.string x.rule.key,.int .i64 x.right,.bool x.opt]
theorem Kc (c:bX) (cs:List Value) (x:gV) (A6:Option Addr) (c6:Nat) (A9:Option Addr) (c9:Nat) (w:World) (r:bX) (k:Int) (H:mg w cs c) (XA:ou w x A6 c6 A9 c9) (hk:x.kind=1∨x.kind=2) (hr:dX c x=(r,k)) (sm:FK r) :
  Calls Tryz.prog 49 #[.agg cs.toArray,.agg (xN x A6 c6 A9 c9).toArray] w (ApQ w r k):=by
 obtain ⟨As,c1,At,c2,An,c3,Am,c4,Ag,c5,rfl,h1,h2,h3,h4,h5⟩:=H;refine (J0 c As c1 At c2 An c3 Am c4 Ag c5 x A6 c6 A9 c9 w ⟨h1,h2,h3,h4,h5⟩ XA fun hs ht hn hm hg L B b w b1 b2 C sm R XA hr _ _ _=>V7 c hs ht hn hm hg L B b x A6 c6 A9 c9 w b1 b2 C sm R XA hr hk).mono ?_;rintro e w' ⟨hs,ht,hn,hm,hg,L,rfl,a,ci⟩;rw [hr] at ci ⊢;refine ⟨a,[.int .i64 r.ax,.int .i64 r.version,.slice hs.a r.ah.aa.length hs.c,.slice ht.a r.ah.tables.length ht.c,.slice hn.a r.ai.names.length hn.c,.slice hm.a r.ai.members.length hm.c,.slice hg.a r.af.length hg.c],?_,Ds.of ci sm⟩;have e1:=nX ci.obj.gT;rfl
theorem Dt {T:TypeId} {fs:Array Field} {k:Nat} (hu:Tryz.prog.underlying T=some (.struct fs)) (hi:(Tryz.prog.info? T).map (·.size)=some k) {V:World} {x:Nat} {pre cs post:List Value} (h:au V x (pre++(cs++post))) (hk:cs.length=k) :
  (loadVar T ⟨x,pre.length,none⟩).run Tryz.prog V=.ok (.agg cs.toArray) V:=by
 have hc:∀ j,j < k→V.cell? ⟨x,pre.length+j,none⟩=cs[j]? := fun j hj=>by
  rw [h.2.1 _ (by simp;omega),List.getElem?_append_right (by omega),Nat.add_sub_cancel_left,List.getElem?_append_left (by omega)]
 rw [fu V T _ k x pre.length hu rfl hi (fun j hj=>by rw [hc j hj,List.getElem?_eq_getElem (by omega)];rfl)]
 congr 2
 congr 1
 apply List.ext_getElem
 ·simp [hk]
 ·intro j h1 h2
  simp only [List.getElem_map,List.getElem_range];rw [hc j (by omega),List.getElem?_eq_getElem h2];rfl
theorem Pu {T:TypeId} {k:Nat} (hi:(Tryz.prog.info? T).map (·.size)=some k) {V:World} {x:Nat} {zs vs post:List Value} (h:au V x (zs++post)) (hz:zs.length=k) (hv:vs.length=k) (h1:∀ v∈vs,v.oneCell'=true) :
  (storeVar T ⟨x,0,none⟩ (.agg vs.toArray)).run Tryz.prog V=.ok () (V.setCells x 0 vs)∧au (V.setCells x 0 vs) x (vs++post):=by
 have r0:au V x zs:=⟨h.1,fun j hj=>by rw [h.2.1 j (by simp;omega),List.getElem?_append_left hj],fun j hj=>h.2.2 j (by simp;omega)⟩;exact ⟨kh hi r0 hz hv h1,by simpa using sF vs V [] zs post (by simpa using h) (by omega)⟩
theorem ed.split {w:World} {cs:List Value} {m:gD} (h:ed w cs m):∃ c0 A7 c7 u8 u9,cs=c0++[.slice A7 m.aR.length c7,u8,u9]∧mg w c0 m.cat∧aA w 5 fQ A7 c7 m.aR:=by
 obtain ⟨c7,Ad,c6,Al,YF,rfl,h1,h2,h3⟩:=h;exact ⟨c7,Ad,c6,_,_,rfl,h1,h2⟩
theorem eD.jP {B E:Nat} {P:Nat→Prop} {w w2 w7 F:World} {c0 c7:List Value} {u7 u8 u9:Value} {m:gD} {c':bX} {ds:List iw} {A:Option Addr} {cd:Nat} (h:eD B w (c0++[u7,u8,u9]) m) (h0:c0.length=7) (hB:B≤w.heap.size) (a:ag w w2) (hE:w.heap.size≤E) (hP:∀ g,P g→w.heap.size≤g∧g < E) (hc:Ds E w2 c7 c') (k27:Kb P w2 w7) (o:w7.ownsRow E 48 5 (.slice A ds.length cd) ds.length (ds.flatMap cv)) (hs:Small (ds.length*16)) (k7F:Kb P w7 F) :
  eD B F (c7++[.slice A ds.length cd,u8,u9]) ⟨c',ds,m.bN,m.last⟩:=by
 obtain ⟨S,hS,hh⟩:=h;obtain ⟨S2,WF,hc⟩:=hc
 refine eD.of (S:=fun j=>(S j∧j < w.heap.size)∨(S2 j∧j < w2.heap.size)∨kR (.slice A ds.length cd) j) (fun j e=>?_) fun V kv=>?_
 ·rcases e with e | e | e
  ·exact (hS j e.1).1
  ·have:=(WF j e.1).1;omega
  ·have:=(o.lt j e).1;omega
 ·have k2:Kb (fun j=>¬ ((S j∧j < w.heap.size)∨(S2 j∧j < w2.heap.size)∨kR (.slice A ds.length cd) j)) w7 V:=(k7F.mono fun j _ e e'=>by
   have:=hP j e
   rcases e' with e' | e' | e'
   ·omega
   ·have:=(WF j e'.1).1;omega
   ·have:=(o.lt j e').1;omega).trans kv
  have k3:Kb (fun j=>¬ ((S j∧j < w.heap.size)∨(S2 j∧j < w2.heap.size))) w2 V:=(k27.mono fun j _ e e'=>by
   have:=hP j e
   rcases e' with e' | e'
   ·omega
   ·have:=(WF j e'.1).1;omega).trans (k2.mono fun j hj e e'=>e (e'.elim .inl fun h=>.inr (.inl h)))
  have m1:=hh V (((Kb.bl a).trans k3).mono fun j hj e e'=>e (.inl ⟨e',(hS j e').2⟩));have m2:=hc V (k3.mono fun j hj e e'=>e (.inr ⟨e',hj⟩))
  have o2:=bB o k2 fun g hg e=>e (.inr (.inr hg))
  have s2:aA V 5 fQ A cd ds:=dC (h:=⟨A,ds.length,cd⟩) cv o2 (fun x hx=>⟨rfl,rfl⟩) hs;obtain ⟨c9,Ad,c6,Al,c8,e9,h1,h2,h3⟩:=m1;have e9':=List.append_inj e9 (by rw [h0,h1.len]);simp only [List.cons.injEq,and_true] at e9';obtain ⟨-,-,rfl,rfl⟩:=e9';exact ⟨c7,A,cd,Al,c8,rfl,m2,s2,h3⟩
def Rw (ds:List iw) (w:World) (e:Ending) (w':World):Prop:=∃ A c,e=.returned (.slice A ds.length c)∧ag w w'∧w'.ownsRow w.heap.size 48 5 (.slice A ds.length c) ds.length (ds.flatMap cv)
theorem Du {w:World} {p:Nat} {d:iw} (R:au w p (cv d)):w.cell? ⟨p,0,none⟩=some (.int .i64 d.aD)∧w.cell? ⟨p,1,none⟩=some (.int .i64 d.number)∧w.cell? ⟨p,2,none⟩=some (.int .i64 d.code)∧w.cell? ⟨p,3,none⟩=some (.int .i64 d.fence)∧w.cell? ⟨p,4,none⟩=some (.int .i64 d.version)∧p < w.heap.size:=⟨R.cell (j:=0) rfl,R.cell (j:=1) rfl,R.cell (j:=2) rfl,R.cell (j:=3) rfl,R.cell (j:=4) rfl,R.1⟩
structure WG (w:World) (m:gD) (q n:Int) (xc:List Value) (c':bX) (fe:Bool) (ds:List iw):Prop where
 ap:∀ V c7,ag w V→mg V c7 m.cat→Calls Tryz.prog 49 #[.agg c7.toArray,.agg xc.toArray] V (ApQ V c' 0)
 fen:∀ V,ag w V→Calls Tryz.prog 50 #[.agg xc.toArray] V fun e w'=>e=.returned (.bool fe)∧ag V w'
 put:∀ V A c,aA V 5 fQ A c m.aR→Calls Tryz.prog 51 #[.slice A m.aR.length c,.func (.func 24) #[] #[],.agg #[.int .i64 q,.int .i64 n,.int .i64 0,.int .i64 (if fe then c'.ax else 0),.int .i64 c'.version]] V (Rw ds V)
 sm:Small (ds.length*16)
theorem sq (m:gD) (cs oc xc:List Value) (q n:Int) (pre post:List Value) (c':bX) (fe:Bool) (ds:List iw) (r:gD × Int) (B:Nat) (w:World) (hB:B≤w.heap.size) (H:eD B w cs m) (ho:oc=pre++(xc++post)) (hp:pre.length=3) (Wj:xc.length=17) (nT:oc[1]? = some (.int .i64 q)) (Hh:oc[2]? = some (.int .i64 n))
  (hn:(n < (ee m.aR q).number∧r=(Mx,181))∨((ee m.aR q).number=n∧r=(m,0))∨((ee m.aR q).number < n∧r=(⟨c',ds,m.bN,m.last⟩,0)∧WG w m q n xc c' fe ds)) :
  Calls Tryz.prog 33 #[.agg cs.toArray,.agg oc.toArray] w (vJ B w r):=by
 obtain ⟨c0,A7,c7,u8,u9,hcs,Ry,aai⟩:=H.w.split;have h0:=Ry.len;have V3:=gH hcs;have HO:=gH ho;clear hcs ho;obtain ⟨W,hW⟩:∃ W,W=((w.alloc (.cells cs.toArray 36)).alloc (.cells oc.toArray 60)).alloc (.cells #[.int .i64 0,.int .i64 0,.slice none 0 0,.slice none 0 0,.slice none 0 0,.slice none 0 0,.slice none 0 0,.slice none 0 0,.slice none 0 0,.int .i64 0] 36):=⟨_,rfl⟩
 have aW:ag w W:=by rw [hW];exact (((ag.refl w).alloc _).alloc _).alloc _
 have zW:W.heap.size=w.heap.size+3:=by rw [hW];simp
 have r0:au W w.heap.size cs:=by rw [hW];exact au.up (au.up (bj (ag.refl _) (by simp)))
 have r1:au W (w.heap.size+1) oc:=by rw [hW];exact au.up (bj (ag.refl _) (by simp))
 have r2:au W (w.heap.size+1+1) dN:=by rw [hW];exact bj (ag.refl _) (by simp)
 have l0:=jh r0 H.w.len;have y1:=r1.cell nT;obtain ⟨d,hd⟩:∃ d,ee m.aR q=d:=⟨_,rfl⟩;have C1:=gH (hd▸Pj m cs q W (H.w.aH aW));have HR:=gH (And.intro r0 (And.intro r1 r2));have HA:=gH aW;have HZ:=gH zW;have HM:=gH H;rw [hd] at hn;have z0:=r0.1;have z1:=r1.1;clear r0 r1 r2 aW zW hd
 go_in
 go_upto_region 1 with fail
 rw [← hW];clear hW;go_wp2_with fail;refine C1.out.mono ?_;rintro e w1 ⟨rfl,a1⟩;obtain ⟨s1,r3,s2,kb⟩:=jT (w:=w1.alloc (.cells #[.int .i64 0,.int .i64 0,.int .i64 0,.int .i64 0,.int .i64 0] 48)) d (aU (w:=w1) (c:=[.int .i64 0,.int .i64 0,.int .i64 0,.int .i64 0,.int .i64 0]) (t:=48) (ag.refl _)) rfl;obtain ⟨F,hF⟩:∃ F,F=(w1.alloc (.cells #[.int .i64 0,.int .i64 0,.int .i64 0,.int .i64 0,.int .i64 0] 48)).setCells w1.heap.size 0 (cv d):=⟨_,rfl⟩;have hs1:=a1.size;have hz:=HZ.out;have AF:=gH (show ag W F from by rw [hF];exact kb.aN (a1.alloc _) fun g hg e=>by have e:g=_:=e;omega);have RF:=gH (show au F w1.heap.size (cv d) from by rw [hF];exact r3);clear r3 s2 kb l0 y1
 go_upto_region 2 with fail
 rw [← hF];clear hF s1 a1;have x1:=(Du RF.out).2.1;have p1:=HR.out.2.1.aH AF.out;have y1:=p1.cell nT;have y2:=p1.cell Hh;have yz:=p1.1;have xz:=RF.out.1;have q0:=HR.out.1.aH AF.out;have l0:=jh q0 HM.out.w.len;have qz:=q0.1;have q2:=HR.out.2.2.aH AF.out
 rcases hn with ⟨hn,rfl⟩ | ⟨hn,rfl⟩ | ⟨hn,rfl,WH⟩
 ·obtain ⟨s3,r6,s4,kb⟩:=jg q2 rfl (Ph F)
  have HE:=gH (kb.aN (HA.out.trans AF.out) fun g hg e=>by have e:g=_:=e;omega);have S4:=gH s4;unfold dN at s3;clear s4 kb r6 q0 q2 p1;go_wp2;refine bodyPost_ret (results_cell_tmp rfl _ rfl S4.out) rfl ?_;exact ⟨HE.out,dN,rfl,VT _ _⟩
 ·obtain ⟨s3,r6,s4,kb⟩:=jg q2 rfl (HM.out.w.aH (HA.out.trans AF.out))
  have HE:=gH (kb.aN (HA.out.trans AF.out) fun g hg e=>by have e:g=_:=e;omega);have S4:=gH s4
  have hd:(d.number==n)=true:=by simpa using hn
  have hd2:¬ n < d.number:=by omega
  clear s4 kb r6 q0 q2 p1 hn;go_wp2;refine bodyPost_ret (results_cell_tmp rfl _ rfl S4.out) rfl ?_;exact ⟨HE.out,cs,rfl,HM.out.aH HE.out⟩
 have hd:(d.number==n)=false:=by rw [beq_eq_false_iff_ne];omega
 have hd2:¬ n < d.number:=by omega
 have HN:=gH WH;have ye:=gH (HA.out.trans AF.out);obtain ⟨G,hG⟩:∃ G,G=F.alloc (.cells #[.int .i64 q,.int .i64 n,.int .i64 0,.int .i64 0,.int .i64 0] 48):=⟨_,rfl⟩
 have aG:ag F G:=by rw [hG];exact (ag.refl F).alloc _
 have RG:=gH (show au G F.heap.size (cv ⟨q,n,0,0,0⟩) from by rw [hG];exact aU (ag.refl _))
 have zG:G.heap.size=F.heap.size+1:=by rw [hG];simp
 have AG:=gH aG;have ZG:=gH zG;clear WH hn l0 q0 q2 p1 aG zG
 go_upto_region 7 with fail
 rw [← hG];clear hG y1 y2 yz qz x1 xz
 have R0:au G w.heap.size ([]++(c0++[.slice A7 m.aR.length c7,u8,u9])):=by rw [List.nil_append,← V3.out];exact (HR.out.1.aH AF.out).aH AG.out
 have R1:au G (w.heap.size+1) (pre++(xc++post)):=by rw [← HO.out];exact (HR.out.2.1.aH AF.out).aH AG.out
 have l1:(D4 ⟨w.heap.size,0,none⟩).run Tryz.prog G=.ok (.agg c0.toArray) G:=Dt (T:=32) (k:=7) Tryz.underlying32 (by kernel_rfl) R0 h0
 have l2:(D5 ⟨w.heap.size+1,3,none⟩).run Tryz.prog G=.ok (.agg xc.toArray) G:=by
  have:=Dt (T:=45) (k:=17) Tryz.underlying45 (by kernel_rfl) R1 Wj;rw [hp] at this;exact this
 have z0:=R0.1;have z1:=R1.1;have C2:=gH (HN.out.ap G c0 (ye.out.trans AG.out) (Ry.aH (ye.out.trans AG.out)));have Jd:=gH (And.intro V3.out (And.intro HO.out (And.intro aai Ry)));clear R0 R1;go_wp2_with fail;refine C2.out.mono ?_;rintro e w2 ⟨a2,k7,rfl,ci⟩;have TG:=ci.w.len;have aZ:=(ag.refl w2).alloc (.cells #[.int .i64 0,.int .i64 0,.slice none 0 0,.slice none 0 0,.slice none 0 0,.slice none 0 0,.slice none 0 0] 32);have rz:au (w2.alloc (.cells #[.int .i64 0,.int .i64 0,.slice none 0 0,.slice none 0 0,.slice none 0 0,.slice none 0 0,.slice none 0 0] 32)) w2.heap.size ([.int .i64 0,.int .i64 0,.slice none 0 0,.slice none 0 0,.slice none 0 0,.slice none 0 0,.slice none 0 0]++[]):=aU (w:=w2) (ag.refl _);obtain ⟨s1,r8⟩:=Pu (T:=32) (k:=7) (by kernel_rfl) rz rfl TG ci.w.one;rw [pk] at s1;obtain ⟨V2,hV2⟩:∃ V,V=(w2.alloc (.cells #[.int .i64 0,.int .i64 0,.slice none 0 0,.slice none 0 0,.slice none 0 0,.slice none 0 0,.slice none 0 0] 32)).setCells w2.heap.size 0 k7:=⟨_,rfl⟩
 have a22:ag w2 V2:=by rw [hV2];exact (cX w2.heap.size k7 _ 0).aN aZ fun g hg e=>by have e:g=_:=e;omega
 have A2:=gH (And.intro a2 a22);have CI:=gH ci;have R8:=gH (show au V2 w2.heap.size k7 from by rw [hV2];rw [List.append_nil] at r8;exact r8);have hza:=HA.out.size;have hzf:=AF.out.size;have hzg:=ZG.out;have hz2:=a2.size;have Pn:=a22.size;clear r8 rz aZ a2 a22 ci l1 l2
 go_upto_region 8 with fail
 rw [← hV2];clear hV2 s1;have AV:=gH (show ag G V2 from A2.out.1.trans A2.out.2);have t7:=RG.out.aH AV.out;have y7:=t7.cell (j:=2) rfl;have f7:=t7.2.2 2 (by simp [cv]);have g7:=t7.1;have k3:=Kb.set V2 F.heap.size 2 (.int .i64 0);have t8:=k3.row R8.out (by omega);have l1:(D4 ⟨w2.heap.size,0,none⟩).run Tryz.prog (V2.setCell ⟨F.heap.size,2,none⟩ (.int .i64 0))=.ok (.agg k7.toArray) (V2.setCell ⟨F.heap.size,2,none⟩ (.int .i64 0)):=fZ (T:=32) Tryz.underlying32 (by kernel_rfl) t8 TG;have Yf:=gH (show ag W V2 from AF.out.trans (AG.out.trans AV.out))
 have t2:au (V2.setCell ⟨F.heap.size,2,none⟩ (.int .i64 0)) w.heap.size (c0++[.slice A7 m.aR.length c7,u8,u9]):=by rw [← Jd.out.1];exact k3.row (HR.out.1.aH Yf.out) (by omega)
 obtain ⟨s1,t2'⟩:=Pu (T:=32) (k:=7) (by kernel_rfl) t2 h0 TG CI.out.w.one;rw [pk] at s1;obtain ⟨V4,TH⟩:∃ V,V=(V2.setCell ⟨F.heap.size,2,none⟩ (.int .i64 0)).setCells w.heap.size 0 k7:=⟨_,rfl⟩;have k4:=gH (show Kb (fun g=>g=F.heap.size∨g=w.heap.size) V2 V4 from by rw [TH];exact (k3.mono fun g _ e=>.inl e).trans ((cX w.heap.size k7 _ 0).mono fun g _ e=>.inr e));have T2:=gH (show au V4 w.heap.size (k7++[.slice A7 m.aR.length c7,u8,u9]) from by rw [TH];exact t2')
 have T7:=gH (show au V4 F.heap.size (cv ⟨q,n,0,0,0⟩) from by
  rw [TH]
  exact (cX w.heap.size k7 _ 0).row (t7.set 2 (.int .i64 0) (by simp [cv])) (by omega))
 have T8:=gH (show au V4 w2.heap.size k7 from by rw [TH];exact (cX w.heap.size k7 _ 0).row t8 (by omega));have T1:=gH (show au V4 (w.heap.size+1) (pre++(xc++post)) from by rw [← HO.out];exact k4.out.row (HR.out.2.1.aH Yf.out) (by omega));have T3:=gH (show au V4 (w.heap.size+1+1) dN from k4.out.row (HR.out.2.2.aH Yf.out) (by omega));clear t7 k3 t8 t2 t2'
 go_upto_region 11 with fail
 rw [← TH];clear TH s1 l1 y7 f7 g7;have AW4:=gH (show ag w V4 from k4.out.aN (HA.out.trans Yf.out) fun g hg e=>by omega)
 have l2:(D5 ⟨w.heap.size+1,3,none⟩).run Tryz.prog V4=.ok (.agg xc.toArray) V4:=by
  have:=Dt (T:=45) (k:=17) Tryz.underlying45 (by kernel_rfl) T1.out Wj;rw [hp] at this;exact this
 have z1:=T1.out.1;have C3:=gH (HN.out.fen V4 AW4.out);go_wp2_with fail;refine C3.out.mono ?_;rintro e w5 ⟨rfl,a5⟩;clear l2;have A5:=gH a5;have hz5:=a5.size;have u7:=T7.out.aH a5;have e8:=(T8.out.aH a5).cell CI.out.w.WE.1;have b8:=(T8.out.aH a5).1;have f3:=u7.2.2 3 (by simp [cv]);have y3:=(Du u7).2.2.2.1;have b7:=u7.1;have CQ:=gH (show ∀ f9:Int,f9=(if fe then c'.ax else 0)→∀ V A c,aA V 5 fQ A c m.aR→Calls Tryz.prog 51 #[.slice A m.aR.length c,.func (.func 24) #[] #[],.agg #[.int .i64 q,.int .i64 n,.int .i64 0,.int .i64 f9,.int .i64 c'.version]] V (Rw ds V) from fun f9 h=>h▸HN.out.put);have U2:=gH (T2.out.aH a5);have U7:=gH u7;have aaV:=k4.out.size;clear a5 u7
 cases fe
 case' true =>
  obtain ⟨V5,Pv⟩:∃ V,V=w5.setCell ⟨F.heap.size,3,none⟩ (.int .i64 c'.ax):=⟨_,rfl⟩;obtain ⟨f,hf⟩:∃ f,f=c'.ax:=⟨_,rfl⟩
  have kk:Kb (fun g=>g=F.heap.size) w5 V5:=by rw [Pv];exact Kb.set _ _ _ _
  have kr:au V5 F.heap.size (cv ⟨q,n,0,f,0⟩):=by rw [Pv,hf];exact U7.out.set 3 _ (by simp [cv])
  have CP:=gH (CQ.out f (by rw [hf];rfl));clear CQ
  go_upto_region 13 with fail
  rw [← Pv]
 case' false =>
  obtain ⟨V5,Pv⟩:∃ V,V=w5:=⟨_,rfl⟩;obtain ⟨f,hf⟩:∃ f:Int,f=0:=⟨_,rfl⟩
  have kk:Kb (fun g=>g=F.heap.size) w5 V5:=by rw [Pv];exact Kb.refl _ _
  have kr:au V5 F.heap.size (cv ⟨q,n,0,f,0⟩):=by rw [Pv,hf];exact U7.out
  have CP:=gH (CQ.out f (by rw [hf];rfl));clear CQ
  go_upto_region 13 with fail
  rw [← Pv]
 all_goals
  have K5:=gH kk;have R7:=gH kr;have hz6:=kk.size;clear Pv hf kk kr e8 b8 f3 y3 b7;have T5:=gH (K5.out.row U2.out (by omega));have e2:=T5.out.cell (j:=1) (v:=.int .i64 c'.version) (by rw [List.getElem?_append_left (by omega)];exact CI.out.w.WE.2);have f4:=R7.out.2.2 4 (by simp [cv]);have y4:=(Du R7.out).2.2.2.2.1;have b7:=R7.out.1;have b2:=T5.out.1;obtain ⟨V6,Yg⟩:∃ V,V=V5.setCell ⟨F.heap.size,4,none⟩ (.int .i64 c'.version):=⟨_,rfl⟩
  have k6:Kb (fun g=>g=F.heap.size) V5 V6:=by rw [Yg];exact Kb.set _ _ _ _
  have K6:=gH k6;have R6:=gH (show au V6 F.heap.size (cv ⟨q,n,0,f,c'.version⟩) from by rw [Yg];exact R7.out.set 4 _ (by simp [cv]));have T6:=gH (K6.out.row T5.out (by omega));have hz7:=k6.size;clear k6
  go_upto_region 14 with fail
  rw [← Yg];clear Yg e2 f4 y4 b7 b2;have KA:=gH (show Kb (fun g=>w.heap.size≤g∧g < G.heap.size) w2 V6 from (Kb.bl A2.out.2).trans ((k4.out.mono fun g _ e=>by omega).trans ((Kb.bl A5.out).trans ((K5.out.mono fun g _ e=>by have e:g=_:=e;omega).trans (K6.out.mono fun g _ e=>by have e:g=_:=e;omega)))));have Yh:=gH (show ag w V6 from KA.out.aN (ye.out.trans (AG.out.trans A2.out.1)) fun g hg e=>by omega);have e7:=T6.out.cell (j:=7) (v:=.slice A7 m.aR.length c7) (by rw [List.getElem?_append_right (by omega),TG];rfl);have b2:=T6.out.1;have ld:(ot ⟨F.heap.size,0,none⟩).run Tryz.prog V6=.ok (.agg #[.int .i64 q,.int .i64 n,.int .i64 0,.int .i64 f,.int .i64 c'.version]) V6:=fZ (T:=48) Tryz.underlying48 (by kernel_rfl) R6.out (by rfl);have C4:=gH (CP.out V6 A7 c7 (Jd.out.2.2.1.aH Yh.out fun _ _ h=>h));clear CP;go_wp2_with fail;refine C4.out.mono ?_;rintro e w7 ⟨D,cd,rfl,a7,o7⟩;have hz8:=a7.size;have T9:=gH (T6.out.aH a7);have e9:=T9.out.cell (j:=7) (v:=.slice A7 m.aR.length c7) (by rw [List.getElem?_append_right (by omega),TG];rfl);have f9:=T9.out.2.2 7 (by simp;omega);have b9:=T9.out.1;have k8:=Kb.set w7 w.heap.size 7 (.slice D ds.length cd)
  have T10:au (w7.setCell ⟨w.heap.size,7,none⟩ (.slice D ds.length cd)) w.heap.size (k7++[.slice D ds.length cd,u8,u9]):=by
   have:=T9.out.set 7 (.slice D ds.length cd) (by simp;omega)
   rwa [List.set_append_right _ _ (by omega),TG] at this
  have hsm:Small (ds.length*16):=HN.out.sm;have o8:=bS o7 (B':=G.heap.size) (by omega);have NEW:=gH (show ∀ Y,Kb (fun g=>w.heap.size≤g∧g < G.heap.size) w7 Y→eD B Y (k7++[.slice D ds.length cd,u8,u9]) ⟨c',ds,m.bN,m.last⟩ from fun Y kY=>eD.jP (E:=G.heap.size) (by rw [← Jd.out.1];exact HM.out) h0 hB (ye.out.trans (AG.out.trans A2.out.1)) (by omega) (fun g e=>e) CI.out (KA.out.trans (Kb.bl a7)) o8 hsm kY);have m8:=NEW.out _ (k8.mono fun g _ e=>by have e:g=_:=e;omega);have lm:=jh T10 m8.w.len;have rz:=(k8.row ((K6.out.row ((K5.out.row (T3.out.aH A5.out) (by omega))) (by omega)).aH a7) (by omega):au _ (w.heap.size+1+1) dN);obtain ⟨s3,r6,s4,kb⟩:=jg rz rfl m8.w;have HE:=gH (And.intro (kb.aN (k8.aN (Yh.out.trans a7) fun g hg e=>by have e:g=_:=e;omega) fun g hg e=>by have e:g=_:=e;omega) (NEW.out _ ((k8.mono fun g _ e=>by have e:g=_:=e;omega).trans (kb.mono fun g _ e=>by have e:g=_:=e;omega))));have S4:=gH s4;clear a7 o7 k8 T10 m8 rz r6 s4 kb o8 hsm e7 b2 ld;go_wp2;refine bodyPost_ret (results_cell_tmp rfl _ rfl S4.out) rfl ?_;exact ⟨HE.out.1,_,rfl,HE.out.2⟩
theorem ed.head {w:World} {cs:List Value} {m:gD} (h:ed w cs m):cs[0]? = some (.int .i64 m.cat.ax)∧cs[9]? = some (.int .i64 m.last):=by
 obtain ⟨As,c1,At,c2,An,c3,Am,c4,Ag,c5,Ad,cd,Al,cl,rfl,h9⟩:=h.at
 exact ⟨rfl,rfl⟩
theorem eD.Ni {B:Nat} {w:World} {cs:List Value} {m:gD} (h:eD B w cs m) (k:Int):eD B w (cs.set 9 (.int .i64 k)) { m with last:=k }:=by
 obtain ⟨S,hS,hh⟩:=h;refine ⟨S,hS,fun V kv=>?_⟩
 obtain ⟨As,c1,At,c2,An,c3,Am,c4,Ag,c5,Ad,cd,Al,cl,rfl,h9⟩:=(hh V kv).at
 exact (show iX V { m with last:=k } As c1 At c2 An c3 Am c4 Ag c5 Ad cd Al cl from ⟨h9.cat,h9.EB,h9.Bb⟩).w
theorem Nj (m:gD) (cs oc:List Value) (nd ak:Int) (B:Nat) (w:World) (hB:B≤w.heap.size) (H:eD B w cs m) (hm:m.bN=[]) (hk:0≤m.last∧m.last < 1000000000) (nT:oc[20]? = some (.int .i64 nd)) (Hh:oc[21]? = some (.int .i64 ak)) :
  Calls Tryz.prog 34 #[.agg cs.toArray,.agg oc.toArray] w (vJ B w (⟨m.cat,m.aR,[⟨m.last+1,nd,ak,m.cat.ax⟩],m.last+1⟩,0)):=by
 obtain ⟨A,ca,zS,cM⟩:=H.w.Bb;rw [hm] at zS cM;have zS:cs[8]? = some (.slice A 0 ca):=zS;obtain ⟨hc0,hc9⟩:=H.w.head;obtain ⟨W,hW⟩:∃ W,W=((w.alloc (.cells cs.toArray 36)).alloc (.cells oc.toArray 60)).alloc (.cells #[.int .i64 0,.int .i64 0,.slice none 0 0,.slice none 0 0,.slice none 0 0,.slice none 0 0,.slice none 0 0,.slice none 0 0,.slice none 0 0,.int .i64 0] 36):=⟨_,rfl⟩
 have aW:ag w W:=by rw [hW];exact (((ag.refl w).alloc _).alloc _).alloc _
 have HZ:=gH (show W.heap.size=w.heap.size+3 from by rw [hW];simp)
 have r0:au W w.heap.size cs:=by rw [hW];exact au.up (au.up (bj (ag.refl _) (by simp)))
 have r1:au W (w.heap.size+1) oc:=by rw [hW];exact au.up (bj (ag.refl _) (by simp))
 have r2:au W (w.heap.size+1+1) dN:=by rw [hW];exact bj (ag.refl _) (by simp)
 have OW:∀ (fn:Fn) (first cap:Array Value) (w:World),(Instr.makeFunc fn first cap).run Tryz.prog w=.ok (.func fn first cap) w:=fun _ _ _ _=>rfl
 have y8:=r0.cell zS;have C1:=gH (EI A ca [] 52 #[.pointer (some ⟨w.heap.size+1,0,none⟩)] (fun _=>false) W (cM.aH aW fun _ _ h=>h) (enters (P:=Tryz.prog) Tryz.func52 (by kernel_rfl) rfl) (fun w' a i hi=>absurd hi (by simp)));have HR:=gH (And.intro r0 (And.intro r1 r2));have HA:=gH aW;have HM:=gH H;have HL:=gH cM;have HC:=gH (And.intro hc0 (And.intro zS (And.intro hc9 (And.intro nT Hh))));have Pw:=gH hm;obtain ⟨k,nV⟩:∃ k,m.last=k:=⟨_,rfl⟩;obtain ⟨ep,xj⟩:∃ k,m.cat.ax=k:=⟨_,rfl⟩;have HK:=gH (And.intro nV xj);rw [nV] at hk hc9 ⊢;rw [xj] at hc0 ⊢
 have k1:¬ (1000000000:Int)≤k:=by omega
 have w1:IntKind.i64.wrap (k+1)=k+1:=IntWalk.i64_in _ (by omega);have z0:=r0.1;have z1:=r1.1;clear aW r0 r1 r2 cM H nV xj hm
 go_in
 go_upto_region 1 with fail
 rw [← hW];clear hW;go_wp2_with fail;refine C1.out.mono ?_;rintro e w1 ⟨rfl,a1⟩;have A1:=gH a1;have q0:=HR.out.1.aH a1;have y8:=q0.cell zS;have y9:=q0.cell hc9;have f9:=q0.2.2 9 (by rw [HM.out.w.len];decide);have qz:=q0.1;have k9:=Kb.set w1 w.heap.size 9 (.int .i64 (k+1));obtain ⟨V1,hV1⟩:∃ V,V=w1.setCell ⟨w.heap.size,9,none⟩ (.int .i64 (k+1)):=⟨_,rfl⟩;have T0:=gH (show au V1 w.heap.size (cs.set 9 (.int .i64 (k+1))) from by rw [hV1];exact q0.set 9 _ (by rw [HM.out.w.len];decide));have K1:=gH (show Kb (fun g=>g=w.heap.size) w1 V1 from by rw [hV1];exact k9);have ML:=gH (HM.out.Ni (k+1));clear a1 q0 k9
 go_upto_region 6 with fail
 rw [← hV1];clear hV1 y8 y9 f9 qz;have hz:=HZ.out;have A0:=gH (show ag w V1 from K1.out.aN (HA.out.trans A1.out) fun g hg e=>by have e:g=_:=e;omega)
 have hl9:(cs.set 9 (.int .i64 (k+1))).length=10:=by rw [List.length_set];exact HM.out.w.len
 have y8:=T0.out.cell (j:=8) (v:=.slice A 0 ca) (by rw [List.getElem?_set_ne (by decide)];exact zS);have y9:=T0.out.cell (j:=9) (v:=.int .i64 (k+1)) (by rw [List.getElem?_set_self (by rw [HM.out.w.len];decide)]);have y0:=T0.out.cell (j:=0) (v:=.int .i64 ep) (by rw [List.getElem?_set_ne (by decide)];exact hc0);have T1:=gH (K1.out.row (HR.out.2.1.aH A1.out) (by omega));have T2:=gH (K1.out.row (HR.out.2.2.aH A1.out) (by omega));have o1:=T1.out.cell nT;have o2:=T1.out.cell Hh;have qz:=T0.out.1;have oz:=T1.out.1;have C2:=gH (MH A ca ⟨k+1,nd,ak,ep⟩ V1 (HL.out.aH A0.out fun _ _ h=>h));go_wp2_with fail;refine C2.out.mono ?_;rintro e w3 ⟨D,cd,rfl,a3,o3⟩;have s3:=a3.size;have sA:=A0.out.size;have s1:=A1.out.size;have sK:=K1.out.size;have p0:=T0.out.aH a3;have y8:=p0.cell (j:=8) (v:=.slice A 0 ca) (by rw [List.getElem?_set_ne (by decide)];exact zS);have f8:=p0.2.2 8 (by rw [hl9];decide);have pz:=p0.1;have k8:=Kb.set w3 w.heap.size 8 (.slice D 1 cd);have NEW:=gH (show ∀ Y,Kb (fun g=>w.heap.size≤g∧g < V1.heap.size) w3 Y→eD B Y ((cs.set 9 (.int .i64 (k+1))).set 8 (.slice D 1 cd)) ⟨m.cat,m.aR,[⟨k+1,nd,ak,ep⟩],k+1⟩ from fun Y kY=>eD.Db (l:=[⟨k+1,nd,ak,ep⟩]) ML.out hB (A0.out.trans a3) (by omega) o3 (by unfold Small;simp) kY);have m8:=NEW.out _ (k8.mono fun g _ e=>by have e:g=_:=e;omega);have lm:=jh (p0.set 8 (.slice D 1 cd) (by rw [hl9];decide)) m8.w.len;obtain ⟨t3,r6,t4,kb⟩:=jg (k8.row (T2.out.aH a3) (by omega)) rfl m8.w;have HE:=gH (And.intro (kb.aN (k8.aN (A0.out.trans a3) fun g hg e=>by have e:g=_:=e;omega) fun g hg e=>by have e:g=_:=e;omega) (NEW.out _ ((k8.mono fun g _ e=>by have e:g=_:=e;omega).trans (kb.mono fun g _ e=>by have e:g=_:=e;omega))))
 have S4:=gH t4;clear a3 o3 p0 k8 m8 r6 t4 kb;go_wp2;refine bodyPost_ret (results_cell_tmp rfl _ rfl S4.out) rfl ?_;exact ⟨HE.out.1,_,rfl,HE.out.2⟩
def ja (o:vk):List Value:=[.int .i64 o.kind,.int .i64 o.aD,.int .i64 o.number,.int .i64 o.cmd.kind,.string o.cmd.aP,.string o.cmd.ac,.string o.cmd.table,.string o.cmd.name,.string o.cmd.role,.slice o.cmd.A o.cmd.n o.cmd.c,.string o.cmd.cU,.int .i64 o.cmd.cN,.slice o.cmd.A2 o.cmd.n2 o.cmd.c2,.int .i64 o.cmd.low,.int .i64 o.cmd.high,.string o.cmd.rs,.string o.cmd.rt,.string o.cmd.rk,.int .i64 o.cmd.right,.bool o.cmd.opt,.int .i64 o.node,.int .i64 o.ask,.int .i64 o.seq]
theorem qD (o:vk):My o (ja o):=rfl
def Yi:QE:=⟨0,⟨#[]⟩,⟨#[]⟩,⟨#[]⟩,⟨#[]⟩,⟨#[]⟩,none,0,0,⟨#[]⟩,0,none,0,0,0,0,⟨#[]⟩,⟨#[]⟩,⟨#[]⟩,0,false⟩
def shS (k:Int):QE:=⟨k,⟨#[114,111,111,116]⟩,⟨#[115]⟩,⟨#[]⟩,⟨#[]⟩,⟨#[]⟩,none,0,0,⟨#[]⟩,0,none,0,0,0,0,⟨#[]⟩,⟨#[]⟩,⟨#[]⟩,0,false⟩
def Dv:vk:=⟨1,1,1,shS 1,0,0,0⟩
def Yj:vk:=⟨1,1,2,shS 2,0,0,0⟩
def Px:vk:=⟨2,0,0,Yi,11,1,0⟩
def Yk (q:Int):vk:=⟨4,0,0,Yi,0,0,q⟩
theorem Kd:FP Yi:=⟨⟨by decide,by decide,by decide,by decide,by decide⟩,by decide,by decide,by decide,by decide⟩
theorem xO (k:Int):FP (shS k):=⟨⟨by show 4≤_;decide,by show 1≤_;decide,by show 0≤_;decide,by show 0≤_;decide,by show 0≤_;decide⟩,by show 0≤_;decide,by show 0≤_;decide,by show 0≤_;decide,by show 0≤_;decide⟩
theorem ET:Small ([cE].length*16)∧∀ x∈[cE],Small x.size:=⟨by unfold Small;decide,fun x hx=>by simp at hx;subst hx;unfold Small cE;decide⟩
theorem smA:FK ir:=⟨⟨⟨by unfold Small;decide,fun x hx=>by simp [ir] at hx;subst hx;exact ⟨by unfold Small;decide,by unfold Small cE;decide⟩⟩,by unfold Small;decide,fun x hx=>by simp [ir] at hx⟩,⟨ET,by unfold Small;decide,fun x hx=>by simp [ir] at hx⟩,by unfold Small;decide,fun x hx=>by simp [ir] at hx⟩
theorem smF:FK oP:=⟨⟨⟨by unfold Small;decide,fun x hx=>by simp [oP] at hx⟩,by unfold Small;decide,fun x hx=>by simp [oP] at hx⟩,⟨ET,by unfold Small;decide,fun x hx=>by simp [oP] at hx⟩,by unfold Small;decide,fun x hx=>by simp [oP] at hx⟩
theorem szR:Small cE.size:=by unfold Small cE;decide
theorem sz1:Small (⟨#[115]⟩:ByteArray).size:=by unfold Small;decide
theorem Rz:Small (⟨#[]⟩:ByteArray).size:=by unfold Small;decide
theorem Ke (V:World) (k:Int):ou V ⟨k,cE,⟨#[115]⟩,⟨#[]⟩,⟨#[]⟩,⟨#[]⟩,[],zM,0,false⟩ none 0 none 0:=⟨df,df,szR,sz1,Rz,Rz,Rz,Rz,Rz,Rz,Rz,(by decide:(Lit.int .i64 0).wf=true)⟩
theorem WI (k:Int) (b:Bool) (hm:∀ V,Calls Tryz.prog 68 #[.agg (xN ⟨k,cE,⟨#[115]⟩,⟨#[]⟩,⟨#[]⟩,⟨#[]⟩,[],zM,0,false⟩ none 0 none 0).toArray] V fun e w'=>e=.returned (.bool true)∧ag V w') (hb:(true&&pJ k 0)=b) (V:World) :
  Calls Tryz.prog 50 #[.agg (xN ⟨k,cE,⟨#[115]⟩,⟨#[]⟩,⟨#[]⟩,⟨#[]⟩,[],zM,0,false⟩ none 0 none 0).toArray] V fun e w'=>e=.returned (.bool b)∧ag V w':=by
 have:=yV k cE ⟨#[115]⟩ ⟨#[]⟩ ⟨#[]⟩ ⟨#[]⟩ none 0 0 ⟨#[]⟩ 0 none 0 0 0 0 ⟨#[]⟩ ⟨#[]⟩ ⟨#[]⟩ 0 false V true (gH hm);rw [hb] at this;exact this
theorem aaj (V:World):Calls Tryz.prog 68 #[.agg (xN lp none 0 none 0).toArray] V fun e w'=>e=.returned (.bool true)∧ag V w' :=
 (xl 1 cE ⟨#[115]⟩ ⟨#[]⟩ ⟨#[]⟩ ⟨#[]⟩ none 0 0 ⟨#[]⟩ 0 none 0 0 0 0 ⟨#[]⟩ ⟨#[]⟩ ⟨#[]⟩ 0 false V (by decide) (by decide) (by decide) (by decide) (by decide) (by decide) (by decide) (by decide) (by decide)).mono fun e w' ⟨he,h⟩=>⟨he.trans (cP (bZ (by decide +kernel))),h⟩
theorem aak (V:World):Calls Tryz.prog 68 #[.agg (xN oO none 0 none 0).toArray] V fun e w'=>e=.returned (.bool true)∧ag V w' :=
 (xl 2 cE ⟨#[115]⟩ ⟨#[]⟩ ⟨#[]⟩ ⟨#[]⟩ none 0 0 ⟨#[]⟩ 0 none 0 0 0 0 ⟨#[]⟩ ⟨#[]⟩ ⟨#[]⟩ 0 false V (by decide) (by decide) (by decide) (by decide) (by decide) (by decide) (by decide) (by decide) (by decide)).mono fun e w' ⟨he,h⟩=>⟨he.trans (cP (bZ (by decide +kernel))),h⟩
theorem wj {x:iw} {w w':World} {e:Ending} (h:tK 48 5 [.int .i64 x.aD,.int .i64 x.number,.int .i64 x.code,.int .i64 x.fence,.int .i64 x.version] w e w'):Rw [x] w e w':=h
theorem do1 (cs:List Value) (w:World) (H:ed w cs ux):Calls Tryz.prog 11 #[.agg cs.toArray,.agg (ja Dv).toArray] w (vJ w.heap.size w (mA,0)) :=
 qu ux cs Dv (ja Dv) w (mA,0) H (qD _) BO VQ QS (xO 1) (by decide +kernel) fun V iv B a hB hm =>
  sq ux iv (ja Dv) (xN lp none 0 none 0) 1 1 [.int .i64 1,.int .i64 1,.int .i64 1] [.int .i64 0,.int .i64 0,.int .i64 0] ir false [⟨1,1,0,0,1⟩] (mA,0) B V hB hm rfl rfl rfl rfl rfl
   (.inr (.inr ⟨by decide,rfl,⟨fun V c7 a h=>Kc jP c7 lp none 0 none 0 V ir 0 h (Ke V 1) (.inl rfl) QO smA,fun V _=>WI 1 false aaj (by decide) V,fun V A c h=>(MG A c ⟨1,1,0,0,1⟩ V h).mono fun _ _ h=>wj h,by unfold Small;decide⟩⟩))
theorem do2 (cs:List Value) (w:World) (H:ed w cs mA):Calls Tryz.prog 11 #[.agg cs.toArray,.agg (ja Dv).toArray] w (vJ w.heap.size w (mA,0)) :=
 qu mA cs Dv (ja Dv) w (mA,0) H (qD _) zN okA VR (xO 1) (by decide +kernel) fun V iv B a hB hm =>
  sq mA iv (ja Dv) (xN lp none 0 none 0) 1 1 [.int .i64 1,.int .i64 1,.int .i64 1] [.int .i64 0,.int .i64 0,.int .i64 0] ir false [⟨1,1,0,0,1⟩] (mA,0) B V hB hm rfl rfl rfl rfl rfl (.inr (.inl ⟨rfl,rfl⟩))
theorem do3 (cs:List Value) (w:World) (H:ed w cs mA):Calls Tryz.prog 11 #[.agg cs.toArray,.agg (ja Px).toArray] w (vJ w.heap.size w (mC,0)) :=
 qu mA cs Px (ja Px) w (mC,0) H (qD _) zN okA VR Kd (by decide +kernel) fun V iv B a hB hm =>
  Nj mA iv (ja Px) 11 1 B V hB hm rfl (by decide) rfl rfl
theorem do4 (cs:List Value) (w:World) (H:ed w cs mC):Calls Tryz.prog 11 #[.agg cs.toArray,.agg (ja Yj).toArray] w (vJ w.heap.size w (mD,0)) :=
 qu mC cs Yj (ja Yj) w (mD,0) H (qD _) Jv okC Zz (xO 2) (by decide +kernel) fun V iv B a hB hm =>
  sq mC iv (ja Yj) (xN oO none 0 none 0) 1 2 [.int .i64 1,.int .i64 1,.int .i64 2] [.int .i64 0,.int .i64 0,.int .i64 0] oP true [⟨1,2,0,1,2⟩] (mD,0) B V hB hm rfl rfl rfl rfl rfl
   (.inr (.inr ⟨by decide,rfl,⟨fun V c7 a h=>Kc ir c7 oO none 0 none 0 V oP 0 h (Ke V 2) (.inr rfl) QP smF,fun V _=>WI 2 true aak (by decide) V,fun V A c h=>(MI A c ⟨1,2,0,1,2⟩ ⟨1,1,0,0,1⟩ V h rfl).mono fun _ _ h=>wj h,by unfold Small;decide⟩⟩))
theorem do5 (cs:List Value) (w:World) (H:ed w cs mD):Calls Tryz.prog 11 #[.agg cs.toArray,.agg (ja Dv).toArray] w (vJ w.heap.size w (Mx,181)) :=
 qu mD cs Dv (ja Dv) w (Mx,181) H (qD _) tG okD VS (xO 1) (by decide +kernel) fun V iv B a hB hm =>
  sq mD iv (ja Dv) (xN lp none 0 none 0) 1 1 [.int .i64 1,.int .i64 1,.int .i64 1] [.int .i64 0,.int .i64 0,.int .i64 0] ir false [⟨1,1,0,0,1⟩] (Mx,181) B V hB hm rfl rfl rfl rfl rfl (.inl ⟨by decide,rfl⟩)
theorem do6 (cs:List Value) (w:World) (H:ed w cs mD):Calls Tryz.prog 11 #[.agg cs.toArray,.agg (ja (Yk 1)).toArray] w (vJ w.heap.size w (mK,0)) :=
 qu mD cs (Yk 1) (ja (Yk 1)) w (mK,0) H (qD _) tG okD VS Kd (by decide +kernel) fun V iv B a hB hm =>
  MC mD iv (ja (Yk 1)) 1 B V hB hm rfl rfl (by decide)
theorem WJ:gm mD 1 2=(⟨1,2,0,1,2⟩,false):=by unfold gm;rw [tG];rfl
theorem WK:gm mK 1 2=(⟨1,2,0,1,2⟩,true):=by unfold gm;rw [Jw];rfl
theorem Kf (m:gD) (As:Option Addr) (ay:Nat) (At:Option Addr) (az:Nat) (An:Option Addr) (aC:Nat) (Am:Option Addr) (aJ:Nat) (Ag:Option Addr) (aQ:Nat) (Ad:Option Addr) (fW:Nat) (Al:Option Addr) (fD:Nat) (w:World) (H:iX w m As ay At az An aC Am aJ Ag aQ Ad fW Al fD) :
  Calls Tryz.prog 16 #[.agg #[.int .i64 m.cat.ax,.int .i64 m.cat.version,.slice As m.cat.ah.aa.length ay,.slice At m.cat.ah.tables.length az,.slice An m.cat.ai.names.length aC,.slice Am m.cat.ai.members.length aJ,.slice Ag m.cat.af.length aQ,.slice Ad m.aR.length fW,.slice Al m.bN.length fD,.int .i64 m.last]] w fun e w'=>e=.returned (.bool (fB m))∧ag w w':=by
 obtain ⟨W,hW⟩:∃ W,W=w.alloc (.cells #[.int .i64 m.cat.ax,.int .i64 m.cat.version,.slice As m.cat.ah.aa.length ay,.slice At m.cat.ah.tables.length az,.slice An m.cat.ai.names.length aC,.slice Am m.cat.ai.members.length aJ,.slice Ag m.cat.af.length aQ,.slice Ad m.aR.length fW,.slice Al m.bN.length fD,.int .i64 m.last] 36):=⟨_,rfl⟩
 have aW:ag w W:=by rw [hW];exact (ag.refl w).alloc _
 have r0:au W (w.heap.size) [.int .i64 m.cat.ax,.int .i64 m.cat.version,.slice As m.cat.ah.aa.length ay,.slice At m.cat.ah.tables.length az,.slice An m.cat.ai.names.length aC,.slice Am m.cat.ai.members.length aJ,.slice Ag m.cat.af.length aQ,.slice Ad m.aR.length fW,.slice Al m.bN.length fD,.int .i64 m.last]:=by rw [hW];exact bj (ag.refl _) (by simp)
 have hlen:=H.EB.len;have fq:=H.Bb.len;obtain ⟨b2,hb2⟩:∃ b,lH m.last 0 1000000000=b:=⟨_,rfl⟩;obtain ⟨b3,hb3⟩:∃ b,dh m.cat=b:=⟨_,rfl⟩;obtain ⟨r,hr⟩:∃ b,fB m=b:=⟨_,rfl⟩;have HR:=gH (show r=(decide (m.aR.length≤4)&&decide (m.bN.length≤64)&&b2&&b3&&kB iw.aD (mn m.cat.ax m.cat.version) m.aR&&kB gS.seq (lI m.cat.ax m.last) m.bN) by rw [← hr];unfold fB;rw [hb2,hb3]);have C2:=gH (fun V=>hb2▸jr m.last 0 1000000000 V);have C3:=gH (show Calls Tryz.prog 41 #[.agg #[.int .i64 m.cat.ax,.int .i64 m.cat.version,.slice As m.cat.ah.aa.length ay,.slice At m.cat.ah.tables.length az,.slice An m.cat.ai.names.length aC,.slice Am m.cat.ai.members.length aJ,.slice Ag m.cat.af.length aQ]] W fun e w''=>e=.returned (.bool b3)∧ag W w'' from hb3▸I2 m.cat As ay At az An aC Am aJ Ag aQ W (H.cat.aH aW));have F6:=gH (H.EB.aH aW fun _ _ h=>h);have HLE:=gH (H.Bb.aH aW fun _ _ h=>h);have bQ:=gH aW;have QC:=gH r0;rw [hr];clear hb2 hb3 hr H r0 aW;obtain ⟨x0,x1,x2,x3,x4,x5,x6,x7,x8,x9⟩:=uX QC.out;have xz:=QC.out.1;by_cases h0:m.aR.length≤4
 case neg =>
  have HV:=gH (show r=false by rw [HR.out,decide_eq_false h0];rfl)
  have g0:(4:Int) < (m.aR.length:Int):=by omega
  clear h0 HR
  go_in
  go_wp2_with fail;rw [← hW];clear hW;go_wp2;go_ret;exact ⟨by rw [HV.out];first | rfl | simp,bQ.out⟩
 have g0:¬ (4:Int) < (m.aR.length:Int):=by omega
 by_cases h1:m.bN.length≤64
 case neg =>
  have HV:=gH (show r=false by rw [HR.out,decide_eq_true h0,decide_eq_false h1];rfl)
  have g1:(64:Int) < (m.bN.length:Int):=by omega
  clear h0 h1 HR
  go_in
  go_wp2_with fail;rw [← hW];clear hW;go_wp2;go_ret;exact ⟨by rw [HV.out];first | rfl | simp,bQ.out⟩
 have g1:¬ (64:Int) < (m.bN.length:Int):=by omega
 have HV:=gH (show r=(b2&&b3&&kB iw.aD (mn m.cat.ax m.cat.version) m.aR&&kB gS.seq (lI m.cat.ax m.last) m.bN) by rw [HR.out,decide_eq_true h0,decide_eq_true h1];rfl);clear h0 h1 HR
 go_in
 go_wp2_with fail;rw [← hW];clear hW;go_wp2_with fail;refine (C2.out _).mono ?_;rintro e w9 ⟨rfl,rfl⟩
 cases b2
 case false =>
  go_wp2;go_ret;exact ⟨by rw [HV.out];first | rfl | simp,bQ.out⟩
 go_wp2_with fail;refine C3.out.mono ?_;rintro e w1 ⟨rfl,a1⟩;have cT:=gH a1;clear x0 x1 x2 x3 x4 x5 x6 x7 x8 x9 xz;have Pa:=gH (QC.out.aH a1);have Pb:=gH (bQ.out.trans a1);clear a1;obtain ⟨x0,x1,x2,x3,x4,x5,x6,x7,x8,x9⟩:=uX Pa.out;have xz:=Pa.out.1
 cases b3
 case false =>
  go_wp2;go_ret;exact ⟨by rw [HV.out];first | rfl | simp,Pb.out⟩
 have Rf:=gH (show r=(kB iw.aD (mn m.cat.ax m.cat.version) m.aR&&kB gS.seq (lI m.cat.ax m.last) m.bN) from HV.out);clear HV;go_wp2_with fail
 go_loopw [3] (fun i wr=>∃ k:Nat,k≤m.aR.length∧i=.int .i64 k∧ag w1 wr∧∀ j,j < k→ix iw.aD (mn m.cat.ax m.cat.version) m.aR j=true) (fun i _=>m.aR.length - (intOf i).toNat)
 case atStart=>exact ⟨0,Nat.zero_le _,rfl,ag.refl _,fun j hj=>absurd hj (Nat.not_lt_zero j)⟩
 case round =>
  obtain ⟨k,hk,rfl,ha,hp⟩:=hrel;have HA:=gH ha;have HP:=gH hp;have Rk:=Pa.out.aH ha;clear hp x0 x1 x2 x3 x4 x5 x6 x7 x8 x9 xz;obtain ⟨x0,x1,x2,x3,x4,x5,x6,x7,x8,x9,xz⟩:=jQ Rk;by_cases hlt:k < m.aR.length
  case neg =>
   have HO:=gH (show kB iw.aD (mn m.cat.ax m.cat.version) m.aR=true from px fun j hj=>HP.out j (by omega));have Yl:=gH (Pb.out.trans ha);have Vs:=gH Rk;clear ha Rk;have TB:=gH (show r=kB gS.seq (lI m.cat.ax m.last) m.bN by rw [Rf.out,HO.out];rfl);have HWM:=gH (cT.out.trans HA.out);obtain ⟨wM,hwM⟩:∃ U,U=wr:=⟨_,rfl⟩;subst hwM;have HBM:=gH Vs.out;have Ym:=gH Yl.out;clear Vs Yl HO HA HP Rf;go_wp2_with fail
   go_loopw [5] (fun i wr=>∃ k:Nat,k≤m.bN.length∧i=.int .i64 k∧ag wM wr∧∀ j,j < k→ix gS.seq (lI m.cat.ax m.last) m.bN j=true) (fun i _=>m.bN.length - (intOf i).toNat)
   case atStart=>exact ⟨0,Nat.zero_le _,rfl,ag.refl _,fun j hj=>absurd hj (Nat.not_lt_zero j)⟩
   case round =>
    obtain ⟨k,hk,rfl,ha,hp⟩:=hrel;have HA:=gH ha;have HP:=gH hp;have Rk:=HBM.out.aH ha;clear hp x0 x1 x2 x3 x4 x5 x6 x7 x8 x9 xz;obtain ⟨x0,x1,x2,x3,x4,x5,x6,x7,x8,x9,xz⟩:=jQ Rk;by_cases hlt:k < m.bN.length
    case neg =>
     have HO:=gH (show kB gS.seq (lI m.cat.ax m.last) m.bN=true from px fun j hj=>HP.out j (by omega));have Yl:=gH (Ym.out.trans ha);have Vs:=gH Rk;clear ha Rk;go_wp2;go_ret;exact ⟨by rw [TB.out,HO.out];rfl,Yl.out⟩
    have cM:=jG (HWM.out.trans ha) HLE.out;clear ha Rk;obtain ⟨b,off,e0,hb,c0,c1,c2,c3⟩:=oB cM hlt;rw [e0] at x8;obtain ⟨x,hx⟩:∃ x,m.bN[k]=x:=⟨_,rfl⟩;rw [hx] at c0 c1 c2 c3;obtain ⟨V,hV⟩:∃ W,W=wr.alloc (.cells #[.int .i64 x.seq,.int .i64 x.node,.int .i64 x.ask,.int .i64 x.ax] 55):=⟨_,rfl⟩
    have aV:ag wr V:=by rw [hV];exact (ag.refl _).alloc _
    have rV:au V wr.heap.size [.int .i64 x.seq,.int .i64 x.node,.int .i64 x.ask,.int .i64 x.ax]:=by rw [hV];exact aU (ag.refl _)
    obtain ⟨b1,hb1⟩:∃ b,lH x.seq 1 m.last=b:=⟨_,rfl⟩;have K1:=gH (fun U=>hb1▸jr x.seq 1 m.last U);obtain ⟨b2,hb2⟩:∃ b,yy x.node=b:=⟨_,rfl⟩;have K2:=gH (fun U=>hb2▸U0 x.node U);obtain ⟨b3,hb3⟩:∃ b,oA x.ask=b:=⟨_,rfl⟩;have K3:=gH (fun U=>hb3▸Ei x.ask U);obtain ⟨b4,hb4⟩:∃ b,lH x.ax 0 m.cat.ax=b:=⟨_,rfl⟩;have K4:=gH (fun U=>hb4▸jr x.ax 0 m.cat.ax U);have HQ:=gH (show (lI m.cat.ax m.last) x=(b1&&b2&&b3&&b4) by show lI m.cat.ax m.last x=_;unfold lI;rw [hb1,hb2,hb3,hb4]);clear hb1 hb2 hb3 hb4;have HX:=gH hx;have Pw:=gH e0;have oq:=gH (HA.out.trans aV);have sI:=gH (jG aV cM);have Rx:=gH (HBM.out.aH oq.out);clear hx cM e0
    cases k with
    | zero =>
     simp only [Nat.zero_mul,Nat.add_zero] at c0 c1 c2 c3;go_wp2_with fail;rw [← hV];clear hV c0 c1 c2 c3 aV hb x0 x1 x2 x3 x4 x5 x6 x7 x8 x9 xz;obtain ⟨y0,y1,y2,y3⟩:=yl rV;have yz:=rV.1;obtain ⟨x0,x1,x2,x3,x4,x5,x6,x7,x8,x9,xz⟩:=jQ Rx.out;rw [Pw.out] at x8;clear rV;have HC:=gH (show ((b1=false)∨(b1=true∧b2=false)∨(b1=true∧b2=true∧b3=false)∨(b1=true∧b2=true∧b3=true∧b4=false))∨(b1=true∧b2=true∧b3=true∧b4=true) from by cases b1<;>cases b2<;>cases b3<;>cases b4<;>simp)
     rcases HC.out with h1 | h1
     ·have HF:=gH (show (lI m.cat.ax m.last) x=false by rw [HQ.out];rcases h1 with h1 | h1 | h1 | h1<;>simp [h1])
      rcases h1 with rfl | ⟨rfl,rfl⟩ | ⟨rfl,rfl,rfl⟩ | ⟨rfl,rfl,rfl,rfl⟩
      all_goals
       refine aj (by kernel_rfl) (by kernel_rfl) ?_
       repeat (go_big_quiet_step ((first | (with_reducible exact Calls.aK (K1.out _)) | (with_reducible exact Calls.aK (K2.out _)) | (with_reducible exact Calls.aK (K3.out _)) | (with_reducible exact Calls.aK (K4.out _)))))
       refine wpQuiet_nil ?_;intro _ hw';obtain ⟨V',hw''⟩:=hw';subst hw'';go_wp2;go_ret;exact ⟨by rw [TB.out,gL hlt (by rw [fR hlt,HX.out];exact HF.out)];first | rfl | simp,(Ym.out.trans oq.out).bt V'⟩
     ·have HF:=gH (show (lI m.cat.ax m.last) x=true by rw [HQ.out];simp [h1])
      obtain ⟨rfl,rfl,rfl,rfl⟩:=h1;refine aj (by kernel_rfl) (by kernel_rfl) ?_
      repeat (go_big_quiet_step ((first | (with_reducible exact Calls.aK (K1.out _)) | (with_reducible exact Calls.aK (K2.out _)) | (with_reducible exact Calls.aK (K3.out _)) | (with_reducible exact Calls.aK (K4.out _)))))
      refine wpQuiet_nil ?_;intro _ hw';obtain ⟨V',hw''⟩:=hw';subst hw'';go_wp2
      go_roundw
      case rel=>exact ⟨0+1,by omega,by go_num,oq.out.bt V',fun j hj=>by
       rcases Nat.lt_or_ge j (0+1 - 1) with h1 | h1
       ·exact HP.out j (by omega)
       ·have:j=0+1 - 1:=by omega
        subst this
        show ix _ _ _ 0=true;rw [fR hlt,HX.out];exact HF.out⟩
      case measure=>simp [intOf];omega
    | succ k =>
     have hl0:k < m.bN.length:=by omega
     obtain ⟨b',off',hA',hb',d0,d1,d2,d3⟩:=oB sI.out hl0;rw [Pw.out] at hA';simp only [Option.some.injEq,Addr.mk.injEq,and_true] at hA';obtain ⟨rfl,rfl⟩:=hA';obtain ⟨y,hy⟩:∃ y,m.bN[k]=y:=⟨_,rfl⟩;rw [hy] at d0 d1 d2 d3;have HY:=gH hy;clear hy
     have v2:IntKind.i64.wrap (((k+1:Nat):Int) - 1)=(k:Int):=by rw [show ((k+1:Nat):Int) - 1=(k:Int) by omega];exact IntWalk.i64_in _ (by omega)
     have v3:IntKind.i64.wrap ((k:Int)+1 - 1)=(k:Int):=by rw [show (k:Int)+1 - 1=(k:Int) by omega];exact IntWalk.i64_in _ (by omega)
     have v4:(0:Int) < (k:Int)+1:=by omega
     have v5:(k:Int) < (m.bN.length:Int):=by omega
     have v6:(0:Int)≤(k:Int):=by omega
     go_wp2_with fail;rw [← hV];clear hV c0 c1 c2 c3 aV hb x0 x1 x2 x3 x4 x5 x6 x7 x8 x9 xz;obtain ⟨y0,y1,y2,y3⟩:=yl rV;have yz:=rV.1;obtain ⟨x0,x1,x2,x3,x4,x5,x6,x7,x8,x9,xz⟩:=jQ Rx.out;rw [Pw.out] at x8;clear rV;by_cases OZ:x.seq≤y.seq
     ·refine aj (by kernel_rfl) (by kernel_rfl) ?_
      repeat (go_big_quiet_step ((first | (with_reducible exact Calls.aK (K1.out _)) | (with_reducible exact Calls.aK (K2.out _)) | (with_reducible exact Calls.aK (K3.out _)) | (with_reducible exact Calls.aK (K4.out _)))))
      refine wpQuiet_nil ?_;intro _ hw';obtain ⟨V',hw''⟩:=hw';subst hw'';go_wp2;go_ret;exact ⟨by rw [TB.out,gL hlt (by rw [eh hlt,HX.out,HY.out,decide_eq_false (by omega)];rfl)];first | rfl | simp,(Ym.out.trans oq.out).bt V'⟩
     ·have HC:=gH (show ((b1=false)∨(b1=true∧b2=false)∨(b1=true∧b2=true∧b3=false)∨(b1=true∧b2=true∧b3=true∧b4=false))∨(b1=true∧b2=true∧b3=true∧b4=true) from by cases b1<;>cases b2<;>cases b3<;>cases b4<;>simp)
      rcases HC.out with h1 | h1
      ·have HF:=gH (show (lI m.cat.ax m.last) x=false by rw [HQ.out];rcases h1 with h1 | h1 | h1 | h1<;>simp [h1])
       rcases h1 with rfl | ⟨rfl,rfl⟩ | ⟨rfl,rfl,rfl⟩ | ⟨rfl,rfl,rfl,rfl⟩
       all_goals
        refine aj (by kernel_rfl) (by kernel_rfl) ?_
        repeat (go_big_quiet_step ((first | (with_reducible exact Calls.aK (K1.out _)) | (with_reducible exact Calls.aK (K2.out _)) | (with_reducible exact Calls.aK (K3.out _)) | (with_reducible exact Calls.aK (K4.out _)))))
        refine wpQuiet_nil ?_;intro _ hw';obtain ⟨V',hw''⟩:=hw';subst hw'';go_wp2;go_ret;exact ⟨by rw [TB.out,gL hlt (by rw [eh hlt,HX.out];simp only [HF.out,Bool.and_false])];first | rfl | simp,(Ym.out.trans oq.out).bt V'⟩
      ·have HF:=gH (show (lI m.cat.ax m.last) x=true by rw [HQ.out];simp [h1])
       obtain ⟨rfl,rfl,rfl,rfl⟩:=h1;refine aj (by kernel_rfl) (by kernel_rfl) ?_
       repeat (go_big_quiet_step ((first | (with_reducible exact Calls.aK (K1.out _)) | (with_reducible exact Calls.aK (K2.out _)) | (with_reducible exact Calls.aK (K3.out _)) | (with_reducible exact Calls.aK (K4.out _)))))
       refine wpQuiet_nil ?_;intro _ hw';obtain ⟨V',hw''⟩:=hw';subst hw'';go_wp2_with fail;clear v2 v3 v4 v5 v6
       go_roundw
       case rel=>exact ⟨k+1+1,by omega,by go_num,oq.out.bt V',fun j hj=>by
        rcases Nat.lt_or_ge j (k+1+1 - 1) with h1 | h1
        ·exact HP.out j (by omega)
        ·have:j=k+1+1 - 1:=by omega
         subst this
         show ix _ _ _ (k+1)=true;rw [eh hlt,HX.out,HY.out];simp only [HF.out,Bool.and_true,decide_eq_true_eq];omega⟩
       case measure=>simp [intOf];omega
  have cM:=jF (cT.out.trans ha) F6.out;clear ha Rk;obtain ⟨b,off,e0,hb,c0,c1,c2,c3,c4⟩:=mL cM hlt;rw [e0] at x7;obtain ⟨x,hx⟩:∃ x,m.aR[k]=x:=⟨_,rfl⟩;rw [hx] at c0 c1 c2 c3 c4;obtain ⟨V,hV⟩:∃ W,W=wr.alloc (.cells #[.int .i64 x.aD,.int .i64 x.number,.int .i64 x.code,.int .i64 x.fence,.int .i64 x.version] 48):=⟨_,rfl⟩
  have aV:ag wr V:=by rw [hV];exact (ag.refl _).alloc _
  have rV:au V wr.heap.size [.int .i64 x.aD,.int .i64 x.number,.int .i64 x.code,.int .i64 x.fence,.int .i64 x.version]:=by rw [hV];exact aU (ag.refl _)
  obtain ⟨b1,hb1⟩:∃ b,lH x.aD 1 4=b:=⟨_,rfl⟩;have K1:=gH (fun U=>hb1▸jr x.aD 1 4 U);obtain ⟨b2,hb2⟩:∃ b,oA x.number=b:=⟨_,rfl⟩;have K2:=gH (fun U=>hb2▸Ei x.number U);obtain ⟨b3,hb3⟩:∃ b,lH x.code 0 65535=b:=⟨_,rfl⟩;have K3:=gH (fun U=>hb3▸jr x.code 0 65535 U);obtain ⟨b4,hb4⟩:∃ b,lH x.fence 0 m.cat.ax=b:=⟨_,rfl⟩;have K4:=gH (fun U=>hb4▸jr x.fence 0 m.cat.ax U);obtain ⟨b5,Pc⟩:∃ b,lH x.version 0 m.cat.version=b:=⟨_,rfl⟩;have K5:=gH (fun U=>Pc▸jr x.version 0 m.cat.version U);have HQ:=gH (show (mn m.cat.ax m.cat.version) x=(b1&&b2&&b3&&b4&&b5) by show mn m.cat.ax m.cat.version x=_;unfold mn;rw [hb1,hb2,hb3,hb4,Pc]);clear hb1 hb2 hb3 hb4 Pc;have HX:=gH hx;have Pw:=gH e0;have oq:=gH (HA.out.trans aV);have sI:=gH (jF aV cM);have Rx:=gH (Pa.out.aH oq.out);clear hx cM e0
  cases k with
  | zero =>
   simp only [Nat.zero_mul,Nat.add_zero] at c0 c1 c2 c3 c4;go_wp2_with fail;rw [← hV];clear hV c0 c1 c2 c3 c4 aV hb x0 x1 x2 x3 x4 x5 x6 x7 x8 x9 xz;obtain ⟨y0,y1,y2,y3,y4,yz⟩:=lX rV;obtain ⟨x0,x1,x2,x3,x4,x5,x6,x7,x8,x9,xz⟩:=jQ Rx.out;rw [Pw.out] at x7;clear rV;have HC:=gH (show ((b1=false)∨(b1=true∧b2=false)∨(b1=true∧b2=true∧b3=false)∨(b1=true∧b2=true∧b3=true∧b4=false)∨(b1=true∧b2=true∧b3=true∧b4=true∧b5=false))∨(b1=true∧b2=true∧b3=true∧b4=true∧b5=true) from by cases b1<;>cases b2<;>cases b3<;>cases b4<;>cases b5<;>simp)
   rcases HC.out with h1 | h1
   ·have HF:=gH (show (mn m.cat.ax m.cat.version) x=false by rw [HQ.out];rcases h1 with h1 | h1 | h1 | h1 | h1<;>simp [h1])
    rcases h1 with rfl | ⟨rfl,rfl⟩ | ⟨rfl,rfl,rfl⟩ | ⟨rfl,rfl,rfl,rfl⟩ | ⟨rfl,rfl,rfl,rfl,rfl⟩
    all_goals
     refine aj (by kernel_rfl) (by kernel_rfl) ?_
     repeat (go_big_quiet_step ((first | (with_reducible exact Calls.aK (K1.out _)) | (with_reducible exact Calls.aK (K2.out _)) | (with_reducible exact Calls.aK (K3.out _)) | (with_reducible exact Calls.aK (K4.out _)) | (with_reducible exact Calls.aK (K5.out _)))))
     refine wpQuiet_nil ?_;intro _ hw';obtain ⟨V',hw''⟩:=hw';subst hw'';go_wp2;go_ret;exact ⟨by rw [Rf.out,gL hlt (by rw [fR hlt,HX.out];exact HF.out)];first | rfl | simp,(Pb.out.trans oq.out).bt V'⟩
   ·have HF:=gH (show (mn m.cat.ax m.cat.version) x=true by rw [HQ.out];simp [h1])
    obtain ⟨rfl,rfl,rfl,rfl,rfl⟩:=h1;refine aj (by kernel_rfl) (by kernel_rfl) ?_
    repeat (go_big_quiet_step ((first | (with_reducible exact Calls.aK (K1.out _)) | (with_reducible exact Calls.aK (K2.out _)) | (with_reducible exact Calls.aK (K3.out _)) | (with_reducible exact Calls.aK (K4.out _)) | (with_reducible exact Calls.aK (K5.out _)))))
    refine wpQuiet_nil ?_;intro _ hw';obtain ⟨V',hw''⟩:=hw';subst hw'';go_wp2
    go_roundw
    case rel=>exact ⟨0+1,by omega,by go_num,oq.out.bt V',fun j hj=>by
     rcases Nat.lt_or_ge j (0+1 - 1) with h1 | h1
     ·exact HP.out j (by omega)
     ·have:j=0+1 - 1:=by omega
      subst this
      show ix _ _ _ 0=true;rw [fR hlt,HX.out];exact HF.out⟩
    case measure=>simp [intOf];omega
  | succ k =>
   have hl0:k < m.aR.length:=by omega
   obtain ⟨b',off',hA',hb',d0,d1,d2,d3,d4⟩:=mL sI.out hl0;rw [Pw.out] at hA';simp only [Option.some.injEq,Addr.mk.injEq,and_true] at hA';obtain ⟨rfl,rfl⟩:=hA';obtain ⟨y,hy⟩:∃ y,m.aR[k]=y:=⟨_,rfl⟩;rw [hy] at d0 d1 d2 d3 d4;have HY:=gH hy;clear hy
   have v2:IntKind.i64.wrap (((k+1:Nat):Int) - 1)=(k:Int):=by rw [show ((k+1:Nat):Int) - 1=(k:Int) by omega];exact IntWalk.i64_in _ (by omega)
   have v3:IntKind.i64.wrap ((k:Int)+1 - 1)=(k:Int):=by rw [show (k:Int)+1 - 1=(k:Int) by omega];exact IntWalk.i64_in _ (by omega)
   have v4:(0:Int) < (k:Int)+1:=by omega
   have v5:(k:Int) < (m.aR.length:Int):=by omega
   have v6:(0:Int)≤(k:Int):=by omega
   go_wp2_with fail;rw [← hV];clear hV c0 c1 c2 c3 c4 aV hb x0 x1 x2 x3 x4 x5 x6 x7 x8 x9 xz;obtain ⟨y0,y1,y2,y3,y4,yz⟩:=lX rV;obtain ⟨x0,x1,x2,x3,x4,x5,x6,x7,x8,x9,xz⟩:=jQ Rx.out;rw [Pw.out] at x7;clear rV;by_cases OZ:x.aD≤y.aD
   ·refine aj (by kernel_rfl) (by kernel_rfl) ?_
    repeat (go_big_quiet_step ((first | (with_reducible exact Calls.aK (K1.out _)) | (with_reducible exact Calls.aK (K2.out _)) | (with_reducible exact Calls.aK (K3.out _)) | (with_reducible exact Calls.aK (K4.out _)) | (with_reducible exact Calls.aK (K5.out _)))))
    refine wpQuiet_nil ?_;intro _ hw';obtain ⟨V',hw''⟩:=hw';subst hw'';go_wp2;go_ret;exact ⟨by rw [Rf.out,gL hlt (by rw [eh hlt,HX.out,HY.out,decide_eq_false (by omega)];rfl)];first | rfl | simp,(Pb.out.trans oq.out).bt V'⟩
   ·have HC:=gH (show ((b1=false)∨(b1=true∧b2=false)∨(b1=true∧b2=true∧b3=false)∨(b1=true∧b2=true∧b3=true∧b4=false)∨(b1=true∧b2=true∧b3=true∧b4=true∧b5=false))∨(b1=true∧b2=true∧b3=true∧b4=true∧b5=true) from by cases b1<;>cases b2<;>cases b3<;>cases b4<;>cases b5<;>simp)
    rcases HC.out with h1 | h1
    ·have HF:=gH (show (mn m.cat.ax m.cat.version) x=false by rw [HQ.out];rcases h1 with h1 | h1 | h1 | h1 | h1<;>simp [h1])
     rcases h1 with rfl | ⟨rfl,rfl⟩ | ⟨rfl,rfl,rfl⟩ | ⟨rfl,rfl,rfl,rfl⟩ | ⟨rfl,rfl,rfl,rfl,rfl⟩
     all_goals
      refine aj (by kernel_rfl) (by kernel_rfl) ?_
      repeat (go_big_quiet_step ((first | (with_reducible exact Calls.aK (K1.out _)) | (with_reducible exact Calls.aK (K2.out _)) | (with_reducible exact Calls.aK (K3.out _)) | (with_reducible exact Calls.aK (K4.out _)) | (with_reducible exact Calls.aK (K5.out _)))))
      refine wpQuiet_nil ?_;intro _ hw';obtain ⟨V',hw''⟩:=hw';subst hw'';go_wp2;go_ret;exact ⟨by rw [Rf.out,gL hlt (by rw [eh hlt,HX.out];simp only [HF.out,Bool.and_false])];first | rfl | simp,(Pb.out.trans oq.out).bt V'⟩
    ·have HF:=gH (show (mn m.cat.ax m.cat.version) x=true by rw [HQ.out];simp [h1])
     obtain ⟨rfl,rfl,rfl,rfl,rfl⟩:=h1;refine aj (by kernel_rfl) (by kernel_rfl) ?_
     repeat (go_big_quiet_step ((first | (with_reducible exact Calls.aK (K1.out _)) | (with_reducible exact Calls.aK (K2.out _)) | (with_reducible exact Calls.aK (K3.out _)) | (with_reducible exact Calls.aK (K4.out _)) | (with_reducible exact Calls.aK (K5.out _)))))
     refine wpQuiet_nil ?_;intro _ hw';obtain ⟨V',hw''⟩:=hw';subst hw'';go_wp2_with fail;clear v2 v3 v4 v5 v6
     go_roundw
     case rel=>exact ⟨k+1+1,by omega,by go_num,oq.out.bt V',fun j hj=>by
      rcases Nat.lt_or_ge j (k+1+1 - 1) with h1 | h1
      ·exact HP.out j (by omega)
      ·have:j=k+1+1 - 1:=by omega
       subst this
       show ix _ _ _ (k+1)=true;rw [eh hlt,HX.out,HY.out];simp only [HF.out,Bool.and_true,decide_eq_true_eq];omega⟩
     case measure=>simp [intOf];omega
theorem Gn {W:World} {p:Nat} {v0 v1 v2 v3 v4 v5 v6 v7 v8 v9 v10 v11 v12 v13 v14 v15 v16 v17 v18 v19 v20 v21 v22:Value} (R:au W p [v0,v1,v2,v3,v4,v5,v6,v7,v8,v9,v10,v11,v12,v13,v14,v15,v16,v17,v18,v19,v20,v21,v22]):(loadVar 60 ⟨p,0,none⟩).run Tryz.prog W=.ok (.agg #[v0,v1,v2,v3,v4,v5,v6,v7,v8,v9,v10,v11,v12,v13,v14,v15,v16,v17,v18,v19,v20,v21,v22]) W:=by
 obtain ⟨e0,e1,e2,e3,e4,e5,e6,e7,e8,e9,e10,e11,e12,e13,e14,e15,e16,e17,e18,e19,e20,e21,e22⟩:=Uj R;have h1:=Gp W p 0 (by rw [e0];rfl) (by rw [e1];rfl) (by rw [e2];rfl) (by rw [e3];rfl) (by rw [e4];rfl) (by rw [e5];rfl) (by rw [e6];rfl) (by rw [e7];rfl) (by rw [e8];rfl) (by rw [e9];rfl) (by rw [e10];rfl) (by rw [e11];rfl) (by rw [e12];rfl) (by rw [e13];rfl) (by rw [e14];rfl) (by rw [e15];rfl) (by rw [e16];rfl) (by rw [e17];rfl) (by rw [e18];rfl) (by rw [e19];rfl) (by rw [e20];rfl) (by rw [e21];rfl) (by rw [e22];rfl);rw [e0,e1,e2,e3,e4,e5,e6,e7,e8,e9,e10,e11,e12,e13,e14,e15,e16,e17,e18,e19,e20,e21,e22] at h1;exact h1
theorem RA (w:World):Calls Tryz.prog 19 #[.int .i64 1] w fun e w'=>e=.returned (.agg #[.int .i64 1,.int .i64 1,.int .i64 1,.int .i64 1,.string ⟨#[114,111,111,116]⟩,.string ⟨#[115]⟩,.string ⟨#[]⟩,.string ⟨#[]⟩,.string ⟨#[]⟩,.slice none 0 0,.string ⟨#[]⟩,.int .i64 0,.slice none 0 0,.int .i64 0,.int .i64 0,.string ⟨#[]⟩,.string ⟨#[]⟩,.string ⟨#[]⟩,.int .i64 0,.bool false,.int .i64 0,.int .i64 0,.int .i64 0])∧ag w w':=by
 go_in
 go_wp2;refine bodyPost_ret (bE (v:=.agg #[.int .i64 1,.int .i64 1,.int .i64 1,.int .i64 1,.string ⟨#[114,111,111,116]⟩,.string ⟨#[115]⟩,.string ⟨#[]⟩,.string ⟨#[]⟩,.string ⟨#[]⟩,.slice none 0 0,.string ⟨#[]⟩,.int .i64 0,.slice none 0 0,.int .i64 0,.int .i64 0,.string ⟨#[]⟩,.string ⟨#[]⟩,.string ⟨#[]⟩,.int .i64 0,.bool false,.int .i64 0,.int .i64 0,.int .i64 0]) rfl _ rfl (Gn (aU (ag.refl _)))) rfl ⟨rfl,(ag.refl _).alloc _⟩
def WL (w:World) (e:Ending) (w':World):Prop:=∃ b:Bool,e=.returned (.bool b)∧ag w w'
theorem Nk (m:gD) (As:Option Addr) (ay:Nat) (At:Option Addr) (az:Nat) (An:Option Addr) (aC:Nat) (Am:Option Addr) (aJ:Nat) (Ag:Option Addr) (aQ:Nat) (Ad:Option Addr) (fW:Nat) (Al:Option Addr) (fD:Nat) (x:QE) (hx:x.n≤9223372036854775807) (hx2:x.n2≤9223372036854775807) (w:World) (H:iX w m As ay At az An aC Am aJ Ag aQ Ad fW Al fD) :
  Calls Tryz.prog 5 #[.agg #[.int .i64 m.cat.ax,.int .i64 m.cat.version,.slice As m.cat.ah.aa.length ay,.slice At m.cat.ah.tables.length az,.slice An m.cat.ai.names.length aC,.slice Am m.cat.ai.members.length aJ,.slice Ag m.cat.af.length aQ,.slice Ad m.aR.length fW,.slice Al m.bN.length fD,.int .i64 m.last],.agg #[.int .i64 x.kind,.string x.aP,.string x.ac,.string x.table,.string x.name,.string x.role,.slice x.A x.n x.c,.string x.cU,.int .i64 x.cN,.slice x.A2 x.n2 x.c2,.int .i64 x.low,.int .i64 x.high,.string x.rs,.string x.rt,.string x.rk,.int .i64 x.right,.bool x.opt]] w (WL w):=by
 obtain ⟨W,hW⟩:∃ W,W=(w.alloc (.cells #[.int .i64 m.cat.ax,.int .i64 m.cat.version,.slice As m.cat.ah.aa.length ay,.slice At m.cat.ah.tables.length az,.slice An m.cat.ai.names.length aC,.slice Am m.cat.ai.members.length aJ,.slice Ag m.cat.af.length aQ,.slice Ad m.aR.length fW,.slice Al m.bN.length fD,.int .i64 m.last] 36)).alloc (.cells #[.int .i64 x.kind,.string x.aP,.string x.ac,.string x.table,.string x.name,.string x.role,.slice x.A x.n x.c,.string x.cU,.int .i64 x.cN,.slice x.A2 x.n2 x.c2,.int .i64 x.low,.int .i64 x.high,.string x.rs,.string x.rt,.string x.rk,.int .i64 x.right,.bool x.opt] 45):=⟨_,rfl⟩
 have aW:ag w W:=by rw [hW];exact ((ag.refl w).alloc _).alloc _
 have r0:au W (w.heap.size) [.int .i64 m.cat.ax,.int .i64 m.cat.version,.slice As m.cat.ah.aa.length ay,.slice At m.cat.ah.tables.length az,.slice An m.cat.ai.names.length aC,.slice Am m.cat.ai.members.length aJ,.slice Ag m.cat.af.length aQ,.slice Ad m.aR.length fW,.slice Al m.bN.length fD,.int .i64 m.last]:=by rw [hW];exact au.up (bj (ag.refl _) (by simp))
 have r1:au W (w.heap.size+1) [.int .i64 x.kind,.string x.aP,.string x.ac,.string x.table,.string x.name,.string x.role,.slice x.A x.n x.c,.string x.cU,.int .i64 x.cN,.slice x.A2 x.n2 x.c2,.int .i64 x.low,.int .i64 x.high,.string x.rs,.string x.rt,.string x.rk,.int .i64 x.right,.bool x.opt]:=by rw [hW];exact bj (ag.refl _) (by simp)
 have hlen:m.aR.length*16≤140737488351232:=H.EB.2.1;have fq:m.bN.length*16≤140737488351232:=H.Bb.2.1;have CL:=gH (Qo m.cat As ay At az An aC Am aJ Ag aQ W (H.cat.aH aW));have bQ:=gH aW;have R0:=gH r0;have R1:=gH r1;obtain ⟨x0,x1,x2,x3,x4,x5,x6,x7,x8,x9,xz⟩:=jQ r0;clear H r0 r1 aW
 go_in
 go_wp2_with fail;rw [← hW];clear hW;go_wp2_with fail;refine CL.out.mono ?_;rintro e w1 ⟨bg,rfl,sV,a1⟩;have A1:=gH (bQ.out.trans a1);have p0:=R0.out.aH a1;have p1:=R1.out.aH a1;clear x0 x1 x2 x3 x4 x5 x6 x7 x8 x9 xz a1 sV CL;have x7:=p0.cell (j:=7) rfl;have x8:=p0.cell (j:=8) rfl;have xz:=p0.1;have y6:=p1.cell (j:=6) rfl;have y9:=p1.cell (j:=9) rfl;have yz:=p1.1;clear p0 p1
 cases bg
 all_goals
  go_wp2_with fail
  all_goals
   go_ret;exact ⟨_,rfl,A1.out⟩
theorem WM (w:World):Calls Tryz.prog 18 #[] w fun e w'=>ag w w'∧∃ cs,e=.returned (.agg cs.toArray)∧ed w' cs ux:=by
 refine (Zj w).mono ?_;rintro e w' ⟨b,rfl,a,h⟩;exact ⟨a,_,rfl,h.w⟩
theorem Kg (w:World):Calls Tryz.prog 19 #[.int .i64 1] w fun e w'=>e=.returned (.agg (ja Dv).toArray)∧ag w w':=RA w
theorem mgr (w:World):Calls Tryz.prog 20 #[.int .i64 1] w fun e w'=>e=.returned (.agg (ja Px).toArray)∧ag w w':=by
 go_in
 go_wp2;refine bodyPost_ret (bE (v:=.agg (ja Px).toArray) rfl _ rfl (CE (cs:=ja Px) (aU (ag.refl _)) rfl)) rfl ⟨rfl,(ag.refl _).alloc _⟩
structure BoxM (w:World) (b:Nat) (cs:List Value) (m:gD):Prop where
 row:au w b cs
 Hk:ed w cs m
theorem BoxM.aH {w w':World} {b:Nat} {cs:List Value} {m:gD} (h:BoxM w b cs m) (a:ag w w'):BoxM w' b cs m:=⟨h.row.aH a,h.Hk.aH a⟩
theorem BoxM.ld {w:World} {b:Nat} {cs:List Value} {m:gD} (h:BoxM w b cs m):(lW ⟨b,0,none⟩).run Tryz.prog w=.ok (.agg cs.toArray) w:=jh h.row h.Hk.len
theorem qE {w:World} {cs:List Value} {m:gD} (h:ed w cs m):(qN ⟨w.heap.size,0,none⟩ (.agg cs.toArray)).run Tryz.prog (w.alloc (.cells #[.int .i64 0,.int .i64 0,.slice none 0 0,.slice none 0 0,.slice none 0 0,.slice none 0 0,.slice none 0 0,.slice none 0 0,.slice none 0 0,.int .i64 0] 36))=.ok () ((w.alloc (.cells #[.int .i64 0,.int .i64 0,.slice none 0 0,.slice none 0 0,.slice none 0 0,.slice none 0 0,.slice none 0 0,.slice none 0 0,.slice none 0 0,.int .i64 0] 36)).setCells w.heap.size 0 cs)∧ag w ((w.alloc (.cells #[.int .i64 0,.int .i64 0,.slice none 0 0,.slice none 0 0,.slice none 0 0,.slice none 0 0,.slice none 0 0,.slice none 0 0,.slice none 0 0,.int .i64 0] 36)).setCells w.heap.size 0 cs)∧BoxM ((w.alloc (.cells #[.int .i64 0,.int .i64 0,.slice none 0 0,.slice none 0 0,.slice none 0 0,.slice none 0 0,.slice none 0 0,.slice none 0 0,.slice none 0 0,.int .i64 0] 36)).setCells w.heap.size 0 cs) w.heap.size cs m:=by
 have a:=(ag.refl w).alloc (.cells #[.int .i64 0,.int .i64 0,.slice none 0 0,.slice none 0 0,.slice none 0 0,.slice none 0 0,.slice none 0 0,.slice none 0 0,.slice none 0 0,.int .i64 0] 36);obtain ⟨s1,r,_,kb⟩:=jg (aU (w:=w) (c:=dN) (t:=36) (ag.refl _)) rfl (h.aH a)
 have a2:ag w ((w.alloc (.cells #[.int .i64 0,.int .i64 0,.slice none 0 0,.slice none 0 0,.slice none 0 0,.slice none 0 0,.slice none 0 0,.slice none 0 0,.slice none 0 0,.int .i64 0] 36)).setCells w.heap.size 0 cs):=kb.aN a fun g hg e=>by have e:g=_:=e;omega
 exact ⟨s1,a2,r,h.aH a2⟩
theorem qF {V w:World} {b:Nat} {cs:List Value} {m:gD} (r:au w b dN) (a:ag V w) (hb:V.heap.size≤b) (h:eD (b+1) w cs m):(qN ⟨b,0,none⟩ (.agg cs.toArray)).run Tryz.prog w=.ok () (w.setCells b 0 cs)∧ag V (w.setCells b 0 cs)∧BoxM (w.setCells b 0 cs) b cs m:=by
 obtain ⟨s1,r2,_,kb⟩:=jg r rfl h.w;exact ⟨s1,kb.aN a fun g hg e=>by have e:g=_:=e;omega,r2,(h.kb kb fun j e=>.inl (by have e:j=_:=e;omega)).w⟩
theorem xP (w:World) (d:iw):(tJ ⟨w.heap.size,0,none⟩ (.agg #[.int .i64 d.aD,.int .i64 d.number,.int .i64 d.code,.int .i64 d.fence,.int .i64 d.version])).run Tryz.prog (w.alloc (.cells #[.int .i64 0,.int .i64 0,.int .i64 0,.int .i64 0,.int .i64 0] 48))=.ok () ((w.alloc (.cells #[.int .i64 0,.int .i64 0,.int .i64 0,.int .i64 0,.int .i64 0] 48)).setCells w.heap.size 0 (cv d))∧ag w ((w.alloc (.cells #[.int .i64 0,.int .i64 0,.int .i64 0,.int .i64 0,.int .i64 0] 48)).setCells w.heap.size 0 (cv d))∧au ((w.alloc (.cells #[.int .i64 0,.int .i64 0,.int .i64 0,.int .i64 0,.int .i64 0] 48)).setCells w.heap.size 0 (cv d)) w.heap.size (cv d):=by
 obtain ⟨s1,r,_,kb⟩:=jT (w:=w.alloc (.cells #[.int .i64 0,.int .i64 0,.int .i64 0,.int .i64 0,.int .i64 0] 48)) d (aU (w:=w) (c:=[.int .i64 0,.int .i64 0,.int .i64 0,.int .i64 0,.int .i64 0]) (t:=48) (ag.refl _)) rfl;exact ⟨s1,kb.aN ((ag.refl w).alloc _) fun g hg e=>by have e:g=_:=e;omega,r⟩
theorem Nl (w:World):Calls Tryz.prog 8 #[] w fun e w'=>e=.returned (.bool true)∧ag w w':=by
 go_in
 go_wp2_with fail;refine (WM _).mono ?_;rintro e w1 ⟨a1,c0,rfl,h0⟩;have A1:=gH a1;have H0:=gH h0;clear a1 h0;go_wp2_with fail;refine (Kg _).mono ?_;rintro e w2 ⟨rfl,a2⟩;have A2:=gH (A1.out.trans a2);have C1:=gH (do1 c0 w2 (H0.out.aH a2));clear a2;go_wp2_with fail;refine C1.out.mono ?_;rintro e w3 ⟨a3,ca,rfl,ma⟩;obtain ⟨s1,a4,bm⟩:=qE ma.w;obtain ⟨W1,hW1⟩:∃ V,V=(w3.alloc (.cells #[.int .i64 0,.int .i64 0,.slice none 0 0,.slice none 0 0,.slice none 0 0,.slice none 0 0,.slice none 0 0,.slice none 0 0,.slice none 0 0,.int .i64 0] 36)).setCells w3.heap.size 0 ca:=⟨_,rfl⟩;obtain ⟨ba,hba⟩:∃ b,b=w3.heap.size:=⟨_,rfl⟩;have AW1:=gH (show ag w W1 from hW1▸(A2.out.trans (a3.trans a4)));have uO:=gH (show BoxM W1 ba ca mA from by rw [hW1,hba];exact bm);clear a3 ma a4 bm C1 A1 A2 H0
 go_upto_region 2 with fail
 rw [← hW1,← hba];clear hW1 hba s1;have KX2:=gH (show ∀ V,ag W1 V→(lW ⟨ba,0,none⟩).run Tryz.prog V=.ok (.agg ca.toArray) V from fun V a=>(uO.out.aH a).ld);have KD2:=gH (show ∀ V,ag W1 V→Calls Tryz.prog 11 #[.agg ca.toArray,.agg (ja Dv).toArray] V (vJ V.heap.size V (mA,0)) from fun V a=>do2 ca V (uO.out.aH a).Hk)
 go_cut [3,4] from 23 to 28 (fun s3 s4 wx=>∃ bx cx,s3=.pointer (some ⟨bx,0,none⟩)∧s4=.int .i64 0∧ag W1 wx∧BoxM wx bx cx mA)
 case first =>
  go_region_held3 (fun V=>(lW ⟨ba,0,none⟩).run Tryz.prog V=.ok (.agg ca.toArray) V)
   ((
    refine KX2.out _ ?_;first
    | with_reducible exact (ag.refl _).drew
    | with_reducible exact b6
    | with_reducible exact b5
    | with_reducible exact b4
    | with_reducible exact ((ag.refl _).alloc _).drew
    | with_reducible exact b5.alloc _
    | with_reducible exact b4.alloc _
    | fail))
   ((
    first
    | (go_at_call 19;first
     | ((with_reducible refine (Kg W1.drew).mono ?_);rintro e w4 ⟨rfl,a4⟩;have b4:ag W1 w4:=(ag.refl _).drew.trans a4)
     | (refine (Kg _).mono ?_;rintro e w4 ⟨rfl,a4⟩;have b4:ag W1 w4:=((ag.refl _).alloc _).drew.trans a4;have Py:au w4 W1.heap.size dN:=bj (w:=W1) (c:=dN) (t:=36) ((ag.refl _).drew.trans a4) rfl;have hb4:W1.heap.size+1≤w4.heap.size:=Py.1))
    | (go_at_call 11;first
     | ((with_reducible refine (KD2.out w4 b4).mono ?_);rintro e w5 ⟨a5,cx,rfl,m5⟩;have b5:ag W1 w5:=b4.trans a5;first | (have t6:=qF (Py.aH a5) b5 (Nat.le_refl _) (m5.down hb4);obtain ⟨s6,b6,x6⟩:=t6;have X6:=gH x6;clear x6) | (obtain ⟨s6,b6,x6⟩:=qE m5.w;have b6:=b5.trans b6;have X6:=gH x6;clear x6))
     | ((with_reducible refine (KD2.out _ (b4.alloc _)).mono ?_);rintro e w5 ⟨a5,cx,rfl,m5⟩;have b5:ag W1 w5:=(b4.alloc _).trans a5;have WN:au w5 w4.heap.size dN:=bj (w:=w4) (c:=dN) (t:=36) a5 rfl;obtain ⟨s6,b6,x6⟩:=qF WN b5 b4.size (m5.down (by simp));have X6:=gH x6;clear x6))))
  all_goals
   go_wp2
   go_meet
   case rel=>exact ⟨_,_,rfl,rfl,b6,X6.out⟩
 case rest =>
 obtain ⟨bb,cb,rfl,rfl,aB,rB⟩:=hcut;obtain ⟨W2,Kh⟩:∃ V,V=wc:=⟨_,rfl⟩;rw [← Kh] at aB rB ⊢;clear Kh;have Dw:=gH rB;have AW2:=gH (AW1.out.trans aB);have uO:=gH (uO.out.aH aB);clear aB rB
 go_upto_region 3 with fail
 have KX3:=gH (show ∀ V,ag W2 V→(lW ⟨ba,0,none⟩).run Tryz.prog V=.ok (.agg ca.toArray) V from fun V a=>(uO.out.aH a).ld);have KD3:=gH (show ∀ V,ag W2 V→Calls Tryz.prog 11 #[.agg ca.toArray,.agg (ja Px).toArray] V (vJ V.heap.size V (mC,0)) from fun V a=>do3 ca V (uO.out.aH a).Hk)
 go_cut [5,6] from 29 to 34 (fun s3 s4 wx=>∃ bx cx,s3=.pointer (some ⟨bx,0,none⟩)∧s4=.int .i64 0∧ag W2 wx∧BoxM wx bx cx mC)
 case first =>
  go_region_held3 (fun V=>(lW ⟨ba,0,none⟩).run Tryz.prog V=.ok (.agg ca.toArray) V)
   ((
    refine KX3.out _ ?_;first
    | with_reducible exact (ag.refl _).drew
    | with_reducible exact b6
    | with_reducible exact b5
    | with_reducible exact b4
    | with_reducible exact ((ag.refl _).alloc _).drew
    | with_reducible exact b5.alloc _
    | with_reducible exact b4.alloc _
    | fail))
   ((
    first
    | (go_at_call 20;first
     | ((with_reducible refine (mgr W2.drew).mono ?_);rintro e w4 ⟨rfl,a4⟩;have b4:ag W2 w4:=(ag.refl _).drew.trans a4)
     | (refine (mgr _).mono ?_;rintro e w4 ⟨rfl,a4⟩;have b4:ag W2 w4:=((ag.refl _).alloc _).drew.trans a4;have Py:au w4 W2.heap.size dN:=bj (w:=W2) (c:=dN) (t:=36) ((ag.refl _).drew.trans a4) rfl;have hb4:W2.heap.size+1≤w4.heap.size:=Py.1))
    | (go_at_call 11;first
     | ((with_reducible refine (KD3.out w4 b4).mono ?_);rintro e w5 ⟨a5,cx,rfl,m5⟩;have b5:ag W2 w5:=b4.trans a5;first | (have t6:=qF (Py.aH a5) b5 (Nat.le_refl _) (m5.down hb4);obtain ⟨s6,b6,x6⟩:=t6;have X6:=gH x6;clear x6) | (obtain ⟨s6,b6,x6⟩:=qE m5.w;have b6:=b5.trans b6;have X6:=gH x6;clear x6))
     | ((with_reducible refine (KD3.out _ (b4.alloc _)).mono ?_);rintro e w5 ⟨a5,cx,rfl,m5⟩;have b5:ag W2 w5:=(b4.alloc _).trans a5;have WN:au w5 w4.heap.size dN:=bj (w:=w4) (c:=dN) (t:=36) a5 rfl;obtain ⟨s6,b6,x6⟩:=qF WN b5 b4.size (m5.down (by simp));have X6:=gH x6;clear x6))))
  all_goals
   go_wp2
   go_meet
   case rel=>exact ⟨_,_,rfl,rfl,b6,X6.out⟩
 case rest =>
 obtain ⟨bc,cc,rfl,rfl,aB,rB⟩:=hcut;obtain ⟨W3,Kh⟩:∃ V,V=wc:=⟨_,rfl⟩;rw [← Kh] at aB rB ⊢;clear Kh;have Dx:=gH rB;have AW3:=gH (AW2.out.trans aB);have uO:=gH (uO.out.aH aB);have Dw:=gH (Dw.out.aH aB);clear aB rB
 go_upto_region 4 with fail
 have ld:=Dx.out.ld;have C4:=gH (show Calls Tryz.prog 11 #[.agg cc.toArray,.agg #[.int .i64 1,.int .i64 1,.int .i64 2,.int .i64 2,.string ⟨#[114,111,111,116]⟩,.string ⟨#[115]⟩,.string ⟨#[]⟩,.string ⟨#[]⟩,.string ⟨#[]⟩,.slice none 0 0,.string ⟨#[]⟩,.int .i64 0,.slice none 0 0,.int .i64 0,.int .i64 0,.string ⟨#[]⟩,.string ⟨#[]⟩,.string ⟨#[]⟩,.int .i64 0,.bool false,.int .i64 0,.int .i64 0,.int .i64 0]] W3 (vJ W3.heap.size W3 (mD,0)) from do4 cc W3 Dx.out.Hk);go_wp2_with fail;refine C4.out.mono ?_;rintro e w3 ⟨a3,cd,rfl,m3⟩;obtain ⟨s1,a4,bm⟩:=qE m3.w;obtain ⟨W4,hW⟩:∃ V,V=(w3.alloc (.cells #[.int .i64 0,.int .i64 0,.slice none 0 0,.slice none 0 0,.slice none 0 0,.slice none 0 0,.slice none 0 0,.slice none 0 0,.slice none 0 0,.int .i64 0] 36)).setCells w3.heap.size 0 cd:=⟨_,rfl⟩;obtain ⟨bd,hb⟩:∃ b,b=w3.heap.size:=⟨_,rfl⟩
 have aX:ag W3 W4:=hW▸(a3.trans a4)
 have AW4:=gH (AW3.out.trans aX);have EU:=gH (show BoxM W4 bd cd mD from by rw [hW,hb];exact bm);have uO:=gH (uO.out.aH aX);have Dw:=gH (Dw.out.aH aX);have Dx:=gH (Dx.out.aH aX);clear a3 m3 a4 bm aX ld C4
 go_upto_region 5 with fail
 rw [← hW,← hb];clear hW hb s1;have KX5:=gH (show ∀ V,ag W4 V→(lW ⟨bd,0,none⟩).run Tryz.prog V=.ok (.agg cd.toArray) V from fun V a=>(EU.out.aH a).ld);have KD5:=gH (show ∀ V,ag W4 V→Calls Tryz.prog 11 #[.agg cd.toArray,.agg (ja Dv).toArray] V (vJ V.heap.size V (Mx,181)) from fun V a=>do5 cd V (EU.out.aH a).Hk)
 go_cut [9,10] from 42 to 47 (fun s3 s4 wx=>∃ bx cx,s3=.pointer (some ⟨bx,0,none⟩)∧s4=.int .i64 181∧ag W4 wx∧BoxM wx bx cx Mx)
 case first =>
  go_region_held3 (fun V=>(lW ⟨bd,0,none⟩).run Tryz.prog V=.ok (.agg cd.toArray) V)
   ((
    refine KX5.out _ ?_;first
    | with_reducible exact (ag.refl _).drew
    | with_reducible exact b6
    | with_reducible exact b5
    | with_reducible exact b4
    | with_reducible exact ((ag.refl _).alloc _).drew
    | with_reducible exact b5.alloc _
    | with_reducible exact b4.alloc _
    | fail))
   ((
    first
    | (go_at_call 19;first
     | ((with_reducible refine (Kg W4.drew).mono ?_);rintro e w4 ⟨rfl,a4⟩;have b4:ag W4 w4:=(ag.refl _).drew.trans a4)
     | (refine (Kg _).mono ?_;rintro e w4 ⟨rfl,a4⟩;have b4:ag W4 w4:=((ag.refl _).alloc _).drew.trans a4;have Py:au w4 W4.heap.size dN:=bj (w:=W4) (c:=dN) (t:=36) ((ag.refl _).drew.trans a4) rfl;have hb4:W4.heap.size+1≤w4.heap.size:=Py.1))
    | (go_at_call 11;first
     | ((with_reducible refine (KD5.out w4 b4).mono ?_);rintro e w5 ⟨a5,cx,rfl,m5⟩;have b5:ag W4 w5:=b4.trans a5;first | (have t6:=qF (Py.aH a5) b5 (Nat.le_refl _) (m5.down hb4);obtain ⟨s6,b6,x6⟩:=t6;have X6:=gH x6;clear x6) | (obtain ⟨s6,b6,x6⟩:=qE m5.w;have b6:=b5.trans b6;have X6:=gH x6;clear x6))
     | ((with_reducible refine (KD5.out _ (b4.alloc _)).mono ?_);rintro e w5 ⟨a5,cx,rfl,m5⟩;have b5:ag W4 w5:=(b4.alloc _).trans a5;have WN:au w5 w4.heap.size dN:=bj (w:=w4) (c:=dN) (t:=36) a5 rfl;obtain ⟨s6,b6,x6⟩:=qF WN b5 b4.size (m5.down (by simp));have X6:=gH x6;clear x6))))
  all_goals
   go_wp2
   go_meet
   case rel=>exact ⟨_,_,rfl,rfl,b6,X6.out⟩
 case rest =>
 obtain ⟨be,ce,rfl,rfl,aB,rB⟩:=hcut;obtain ⟨W5,Kh⟩:∃ V,V=wc:=⟨_,rfl⟩;rw [← Kh] at aB rB ⊢;clear Kh;have Bbe:=gH rB;have AW5:=gH (AW4.out.trans aB);have uO:=gH (uO.out.aH aB);have Dw:=gH (Dw.out.aH aB);have Dx:=gH (Dx.out.aH aB);have EU:=gH (EU.out.aH aB);clear aB rB
 go_upto_region 6 with fail
 have ld:=EU.out.ld
 have C6:=gH (show Calls Tryz.prog 6 #[.agg cd.toArray,.int .i64 1,.int .i64 2] W5 fun e w'=>e=.returned (.tuple #[.agg #[.int .i64 1,.int .i64 2,.int .i64 0,.int .i64 1,.int .i64 2],.bool false])∧ag W5 w' from by
  have:=JF mD cd 1 2 W5 EU.out.Hk;rw [WJ] at this
  exact this)
 go_wp2_with fail;refine C6.out.mono ?_;rintro e w3 ⟨rfl,a3⟩;obtain ⟨s1,a4,rd⟩:=xP w3 ⟨1,2,0,1,2⟩;obtain ⟨W6,hW⟩:∃ V,V=(w3.alloc (.cells #[.int .i64 0,.int .i64 0,.int .i64 0,.int .i64 0,.int .i64 0] 48)).setCells w3.heap.size 0 (cv ⟨1,2,0,1,2⟩):=⟨_,rfl⟩;obtain ⟨bf,hb⟩:∃ b,b=w3.heap.size:=⟨_,rfl⟩
 have aX:ag W5 W6:=hW▸(a3.trans a4)
 have Yh:=gH (AW5.out.trans aX);have TI:=gH (show au W6 bf (cv ⟨1,2,0,1,2⟩) from by rw [hW,hb];exact rd);have uO:=gH (uO.out.aH aX);have Dw:=gH (Dw.out.aH aX);have Dx:=gH (Dx.out.aH aX);have EU:=gH (EU.out.aH aX);clear a3 a4 rd aX ld C6
 go_upto_region 7 with fail
 rw [← hW,← hb];clear hW hb s1;have ld:=EU.out.ld;have C7:=gH (show Calls Tryz.prog 11 #[.agg cd.toArray,.agg #[.int .i64 4,.int .i64 0,.int .i64 0,.int .i64 0,.string ⟨#[]⟩,.string ⟨#[]⟩,.string ⟨#[]⟩,.string ⟨#[]⟩,.string ⟨#[]⟩,.slice none 0 0,.string ⟨#[]⟩,.int .i64 0,.slice none 0 0,.int .i64 0,.int .i64 0,.string ⟨#[]⟩,.string ⟨#[]⟩,.string ⟨#[]⟩,.int .i64 0,.bool false,.int .i64 0,.int .i64 0,.int .i64 1]] W6 (vJ W6.heap.size W6 (mK,0)) from do6 cd W6 EU.out.Hk);go_wp2_with fail;refine C7.out.mono ?_;rintro e w3 ⟨a3,cg,rfl,m3⟩;obtain ⟨s1,a4,bm⟩:=qE m3.w;obtain ⟨W7,hW⟩:∃ V,V=(w3.alloc (.cells #[.int .i64 0,.int .i64 0,.slice none 0 0,.slice none 0 0,.slice none 0 0,.slice none 0 0,.slice none 0 0,.slice none 0 0,.slice none 0 0,.int .i64 0] 36)).setCells w3.heap.size 0 cg:=⟨_,rfl⟩;obtain ⟨bg,hb⟩:∃ b,b=w3.heap.size:=⟨_,rfl⟩
 have aX:ag W6 W7:=hW▸(a3.trans a4)
 have AW7:=gH (Yh.out.trans aX);have Yn:=gH (show BoxM W7 bg cg mK from by rw [hW,hb];exact bm);have uO:=gH (uO.out.aH aX);have Dw:=gH (Dw.out.aH aX);have Dx:=gH (Dx.out.aH aX);have EU:=gH (EU.out.aH aX);have TI:=gH (TI.out.aH aX);clear a3 m3 a4 bm aX ld C7
 go_upto_region 8 with fail
 rw [← hW,← hb];clear hW hb s1;have ld:=Yn.out.ld
 have C8:=gH (show Calls Tryz.prog 6 #[.agg cg.toArray,.int .i64 1,.int .i64 2] W7 fun e w'=>e=.returned (.tuple #[.agg #[.int .i64 1,.int .i64 2,.int .i64 0,.int .i64 1,.int .i64 2],.bool true])∧ag W7 w' from by
  have:=JF mK cg 1 2 W7 Yn.out.Hk;rw [WK] at this
  exact this)
 go_wp2_with fail;refine C8.out.mono ?_;rintro e w3 ⟨rfl,a3⟩;obtain ⟨s1,a4,rd⟩:=xP w3 ⟨1,2,0,1,2⟩;obtain ⟨W8,hW⟩:∃ V,V=(w3.alloc (.cells #[.int .i64 0,.int .i64 0,.int .i64 0,.int .i64 0,.int .i64 0] 48)).setCells w3.heap.size 0 (cv ⟨1,2,0,1,2⟩):=⟨_,rfl⟩;obtain ⟨bh,hb⟩:∃ b,b=w3.heap.size:=⟨_,rfl⟩
 have aX:ag W7 W8:=hW▸(a3.trans a4)
 have AW8:=gH (AW7.out.trans aX);have Rbh:=gH (show au W8 bh (cv ⟨1,2,0,1,2⟩) from by rw [hW,hb];exact rd);have uO:=gH (uO.out.aH aX);have Dw:=gH (Dw.out.aH aX);have Dx:=gH (Dx.out.aH aX);have EU:=gH (EU.out.aH aX);have Yn:=gH (Yn.out.aH aX);have TI:=gH (TI.out.aH aX);clear a3 a4 rd aX ld C8
 go_upto_region 9 with fail
 rw [← hW,← hb];clear hW hb s1;have v1:W8.cell? ⟨ba,1,none⟩=some (.int .i64 1):=uO.out.row.cell (by obtain ⟨_,_,_,_,_,_,_,_,_,_,_,_,_,_,rfl,_⟩:=uO.out.Hk.at;rfl);have v2:W8.cell? ⟨bb,1,none⟩=some (.int .i64 1):=Dw.out.row.cell (by obtain ⟨_,_,_,_,_,_,_,_,_,_,_,_,_,_,rfl,_⟩:=Dw.out.Hk.at;rfl);obtain ⟨Al,kl,h8,-⟩:=Dx.out.Hk.Bb;have v3:W8.cell? ⟨bc,8,none⟩=some (.slice Al 1 kl):=Dx.out.row.cell h8;have v4:W8.cell? ⟨bf,3,none⟩=some (.int .i64 1):=TI.out.cell rfl;have z1:=uO.out.row.1;have z2:=Dw.out.row.1;have z3:=Dx.out.row.1;have z4:=TI.out.1;go_wp2;go_ret;exact ⟨rfl,AW8.out⟩
theorem Nn (m:gD) (cs:List Value) (c:Int) (w:World) (H:ed w cs m) :
  Calls Tryz.prog 17 #[.agg cs.toArray,.int .i64 c] w fun e w'=>e=.returned (.agg #[.int .i64 (ee m.aR c).aD,.int .i64 (ee m.aR c).number,.int .i64 (ee m.aR c).code,.int .i64 (ee m.aR c).fence,.int .i64 (ee m.aR c).version])∧ag w w':=by
 obtain ⟨A,ca,Tz,cM⟩:=H.EB;have hlen:=cM.len;obtain ⟨W,hW⟩:∃ W,W=(w.alloc (.cells cs.toArray 36)).alloc (.cells #[.int .i64 0,.int .i64 0,.int .i64 0,.int .i64 0,.int .i64 0] 48):=⟨_,rfl⟩
 have aW:ag w W:=by rw [hW];exact ((ag.refl w).alloc _).alloc _
 have r0:au W w.heap.size cs:=by rw [hW];exact au.up (bj (ag.refl _) (by simp))
 have r1:au W (w.heap.size+1) [.int .i64 0,.int .i64 0,.int .i64 0,.int .i64 0,.int .i64 0]:=by rw [hW];exact bj (ag.refl _) (by simp)
 have y7:=r0.cell Tz;have z0:=r0.1;have HS:=gH (cM.aH aW fun _ _ h=>h);have HR:=gH r1;have HA:=gH aW
 have RET:=gH (show ∀ d,ee m.aR c=d→(tJ ⟨w.heap.size+1,0,none⟩ (.agg #[.int .i64 d.aD,.int .i64 d.number,.int .i64 d.code,.int .i64 d.fence,.int .i64 d.version])).run Tryz.prog W=.ok () (W.setCells (w.heap.size+1) 0 (cv d))∧(ot ⟨w.heap.size+1,0,none⟩).run Tryz.prog (W.setCells (w.heap.size+1) 0 (cv d))=.ok (.agg #[.int .i64 (ee m.aR c).aD,.int .i64 (ee m.aR c).number,.int .i64 (ee m.aR c).code,.int .i64 (ee m.aR c).fence,.int .i64 (ee m.aR c).version]) (W.setCells (w.heap.size+1) 0 (cv d))∧ag w (W.setCells (w.heap.size+1) 0 (cv d)) from fun d hd=>by
  obtain ⟨s1,r3,s2,kb⟩:=jT d HR.out rfl;rw [hd]
  exact ⟨s1,s2,kb.aN HA.out fun g hg e=>by have e:g=_:=e;omega⟩)
 clear H cM aW r0 r1 Tz
 go_in
 go_upto_region 1 with fail
 rw [← hW];clear hW;go_wp2_with fail
 go_loopw [5] (fun i wr=>∃ k:Nat,k≤m.aR.length∧i=.int .i64 k∧wr=W∧∀ j,j < k→∀ (hj:j < m.aR.length),(m.aR[j].aD==c)=false) (fun i _=>m.aR.length - (intOf i).toNat)
 case atStart=>exact ⟨0,Nat.zero_le _,rfl,rfl,fun j hj=>absurd hj (Nat.not_lt_zero j)⟩
 case round =>
  obtain ⟨k,hk,rfl,rfl,hp⟩:=hrel;have HP:=gH hp;clear hp;by_cases hlt:k < m.aR.length
  ·obtain ⟨b,off,rfl,hb,c0,c1,c2,c3,c4⟩:=mL HS.out hlt
   obtain ⟨d,hd⟩:∃ d,m.aR[k]=d:=⟨_,rfl⟩;rw [hd] at c0 c1 c2 c3 c4;have HD:=gH hd;clear hd;obtain ⟨q,hq⟩:∃ q,(d.aD==c)=q:=⟨_,rfl⟩;have HQ:=gH hq
   cases q
   ·go_wp2
    go_roundw
    case rel=>exact ⟨k+1,by omega,by go_num,trivial,bC (p:=fun j=>∀ (hj:j < m.aR.length),(m.aR[j].aD==c)=false) HP.out (fun _=>by rw [HD.out];exact HQ.out)⟩
    case measure=>simp [intOf];omega
   ·have HL:=gH (show ee m.aR c=d from by
     have:=dV (fun d:iw=>d.aD==c) m.aR k hlt (by show (m.aR[k].aD==c)=true;rw [HD.out];exact HQ.out) (fun i hi=>HP.out i hi (by omega));unfold ee;rw [this,if_neg (by omega),← HD.out]
     simp [List.getD,hlt])
    obtain ⟨s1,s2,aE⟩:=RET.out d HL.out;have l1:=zR c0 c1 c2 c3 c4;have S2:=gH s2;have HE:=gH aE;clear s2 aE;go_wp2;refine bodyPost_ret (bE rfl _ rfl S2.out) rfl ?_;exact ⟨by first | rfl | trivial,HE.out⟩
  ·have HL:=gH (show ee m.aR c=uJ from by
    have:=dU (fun d:iw=>d.aD==c) m.aR (fun i hi=>HP.out i (by omega) hi);unfold ee
    rw [this,if_pos (by decide)])
   obtain ⟨s1,s2,aE⟩:=RET.out uJ HL.out;unfold uJ at s1 s2;simp only at s1;have S2:=gH s2;have HE:=gH aE;clear s2 aE;go_wp2;refine bodyPost_ret (bE rfl _ rfl S2.out) rfl ?_;exact ⟨by first | rfl | trivial,HE.out⟩
theorem Np (m:gD) (cs:List Value) (c n:Int) (w:World) (H:ed w cs m) :
  Calls Tryz.prog 7 #[.agg cs.toArray,.int .i64 c,.int .i64 n] w fun e w'=>e=.returned (.tuple #[.agg #[.int .i64 (gm m c n).1.aD,.int .i64 (gm m c n).1.number,.int .i64 (gm m c n).1.code,.int .i64 (gm m c n).1.fence,.int .i64 (gm m c n).1.version],.bool (gm m c n).2])∧ag w w':=by
 obtain ⟨A,ca,zS,cM⟩:=H.Bb;have hlen:=cM.len;obtain ⟨W,hW⟩:∃ W,W=(w.alloc (.cells cs.toArray 36)).alloc (.cells #[.int .i64 0,.int .i64 0,.int .i64 0,.int .i64 0,.int .i64 0] 48):=⟨_,rfl⟩
 have aW:ag w W:=by rw [hW];exact ((ag.refl w).alloc _).alloc _
 have zW:W.heap.size=w.heap.size+2:=by rw [hW];simp
 have r0:au W w.heap.size cs:=by rw [hW];exact au.up (bj (ag.refl _) (by simp))
 have r1:au W (w.heap.size+1) [.int .i64 0,.int .i64 0,.int .i64 0,.int .i64 0,.int .i64 0]:=by rw [hW];exact bj (ag.refl _) (by simp)
 have l0:=jh r0 H.len;obtain ⟨d,hd⟩:∃ d,ee m.aR c=d:=⟨_,rfl⟩;have C2:=gH (show ∀ V,ag W V→Calls Tryz.prog 17 #[.agg cs.toArray,.int .i64 c] V _ from fun V a=>hd▸Nn m cs c V (H.aH (aW.trans a)));obtain ⟨r,hr⟩:∃ r,fB m=r:=⟨_,rfl⟩
 have C1:=gH (show Calls Tryz.prog 16 #[.agg cs.toArray] W fun e w'=>e=.returned (.bool r)∧ag W w' from by
  obtain ⟨As,c1,At,c2,An,c3,Am,c4,Ag,c5,Ad,cd,Al,cl,rfl,h⟩:=(H.aH aW).at
  have:=Kf m As c1 At c2 An c3 Am c4 Ag c5 Ad cd Al cl W h
  rwa [hr] at this)
 obtain ⟨g1,hg1⟩:∃ b,(c==0)=b:=⟨_,rfl⟩;obtain ⟨g2,hg2⟩:∃ b,(d.aD != c)=b:=⟨_,rfl⟩;obtain ⟨g3,hg3⟩:∃ b,(d.number != n)=b:=⟨_,rfl⟩
 have HF:=gH (show gm m c n=if !r || g2 || g3 || g1 then (uJ,false) else (d,!(m.bN.any fun l=>decide (l.ax < d.fence))) from by
  unfold gm;rw [hd,hr];subst hg1 hg2 hg3
  by_cases e1:c=0<;>by_cases e2:d.aD=c<;>by_cases e3:d.number=n<;>cases r<;>simp [e1,e2,e3])
 have HR:=gH (And.intro r0 r1);have HA:=gH aW;have HZ:=gH zW;have HM:=gH H;have VX:=gH zS;have HS:=gH cM
 have NO:=gH (show ∀ V,ag W V→(tJ ⟨w.heap.size+1,0,none⟩ (.agg #[.int .i64 0,.int .i64 0,.int .i64 0,.int .i64 0,.int .i64 0])).run Tryz.prog V=.ok () (V.setCells (w.heap.size+1) 0 (cv uJ))∧(ot ⟨w.heap.size+1,0,none⟩).run Tryz.prog (V.setCells (w.heap.size+1) 0 (cv uJ))=.ok (.agg #[.int .i64 0,.int .i64 0,.int .i64 0,.int .i64 0,.int .i64 0]) (V.setCells (w.heap.size+1) 0 (cv uJ))∧ag w (V.setCells (w.heap.size+1) 0 (cv uJ)) from fun V a=>by
  obtain ⟨s1,r3,s2,kb⟩:=jT uJ (HR.out.2.aH a) rfl
  exact ⟨s1,s2,kb.aN (HA.out.trans a) fun g hg e=>by have e:g=_:=e;omega⟩)
 clear H cM aW r0 r1 hd hr zS zW
 go_in
 go_upto_region 1 with fail
 rw [← hW];clear hW;go_wp2_with fail;refine C1.out.mono ?_;rintro e w1 ⟨rfl,a1⟩;have A1:=gH a1;clear a1
 cases r
 case false =>
  obtain ⟨s1,s2,aE⟩:=NO.out w1 A1.out;have S2:=gH s2;have HE:=gH aE;clear s2 aE;go_wp2;refine bodyPost_ret (results_cell_tmp rfl _ rfl S2.out) rfl ?_;exact ⟨by rw [HF.out];rfl,HE.out⟩
 have l1:=jh (HR.out.1.aH A1.out) HM.out.len;clear l0;go_wp2_with fail;refine (C2.out w1 A1.out).mono ?_;rintro e w2 ⟨rfl,a2⟩;have cT:=gH (A1.out.trans a2);obtain ⟨s1,r3,s2,kb⟩:=jT (w:=w2.alloc (.cells #[.int .i64 0,.int .i64 0,.int .i64 0,.int .i64 0,.int .i64 0] 48)) d (aU (w:=w2) (c:=[.int .i64 0,.int .i64 0,.int .i64 0,.int .i64 0,.int .i64 0]) (t:=48) (ag.refl _)) rfl;obtain ⟨F,hF⟩:∃ F,F=(w2.alloc (.cells #[.int .i64 0,.int .i64 0,.int .i64 0,.int .i64 0,.int .i64 0] 48)).setCells w2.heap.size 0 (cv d):=⟨_,rfl⟩;have hz:=HZ.out;have hs1:=cT.out.size
 have aF:ag W F:=by rw [hF];exact kb.aN (cT.out.alloc _) fun g hg e=>by have e:g=_:=e;omega
 have rF:au F w2.heap.size [.int .i64 d.aD,.int .i64 d.number,.int .i64 d.code,.int .i64 d.fence,.int .i64 d.version]:=by rw [hF];exact r3
 have ye:=gH aF;have X4:=gH rF;have q0:=HR.out.1.aH aF;have x0:=rF.cell (j:=0) rfl;have x1:=rF.cell (j:=1) rfl;have xz:=rF.1;have y8:=q0.cell VX.out;have qz:=q0.1;clear a2 r3 s2 kb aF rF q0 l1
 go_upto_region 4 with fail
 rw [← hF];clear hF s1
 cases g2
 case true =>
  obtain ⟨s1,s2,aE⟩:=NO.out F ye.out;have S2:=gH s2;have HE:=gH aE;clear s2 aE;go_wp2;refine bodyPost_ret (results_cell_tmp rfl _ rfl S2.out) rfl ?_;exact ⟨by rw [HF.out];rfl,HE.out⟩
 cases g3
 case true =>
  obtain ⟨s1,s2,aE⟩:=NO.out F ye.out;have S2:=gH s2;have HE:=gH aE;clear s2 aE;go_wp2;refine bodyPost_ret (results_cell_tmp rfl _ rfl S2.out) rfl ?_;exact ⟨by rw [HF.out];rfl,HE.out⟩
 cases g1
 case true =>
  obtain ⟨s1,s2,aE⟩:=NO.out F ye.out;have S2:=gH s2;have HE:=gH aE;clear s2 aE;go_wp2;refine bodyPost_ret (results_cell_tmp rfl _ rfl S2.out) rfl ?_;exact ⟨by rw [HF.out];rfl,HE.out⟩
 have HF2:=gH (show gm m c n=(d,!(m.bN.any fun l=>decide (l.ax < d.fence))) from HF.out);clear HF NO C1 C2;go_wp2_with fail;clear x0 x1 y8
 go_loopw [9,10] (fun u i wr=>∃ (k:Nat) (f:Bool),k≤m.bN.length∧u=.bool f∧i=.int .i64 k∧ag F wr∧f=!((m.bN.take k).any fun l=>decide (l.ax < d.fence))) (fun _ i _=>m.bN.length - (intOf i).toNat)
 case atStart=>exact ⟨0,true,Nat.zero_le _,rfl,rfl,ag.refl _,by simp⟩
 case round =>
  obtain ⟨k,f,hk,rfl,rfl,ha,hf⟩:=hrel;have iy:=gH ha;have HFF:=gH hf;have q0:=HR.out.1.aH (ye.out.trans ha);have y8:=q0.cell VX.out;have q2:=X4.out.aH ha;have x3:=q2.cell (j:=3) rfl;have bz:=q2.1;have qz2:=q0.1;clear hf ha;by_cases hlt:k < m.bN.length
  ·obtain ⟨b,off,rfl,hb,c0,c1,c2,c3⟩:=oB (HS.out.aH (HA.out.trans (ye.out.trans iy.out)) fun _ _ h=>h) hlt
   obtain ⟨l,hl⟩:∃ l,m.bN[k]=l:=⟨_,rfl⟩;rw [hl] at c0 c1 c2 c3
   have HN:=gH (show (f&&decide (d.fence≤l.ax))=!((m.bN.take (k+1)).any fun l=>decide (l.ax < d.fence)) from by
    rw [List.take_succ_eq_append_getElem hlt,List.any_append,hl,HFF.out];simp only [List.any_cons,List.any_nil,Bool.or_false,Bool.not_or]
    congr 1
    by_cases h:l.ax < d.fence
    ·rw [decide_eq_true h,decide_eq_false (by omega)];rfl
    ·rw [decide_eq_false h,decide_eq_true (by omega)];rfl)
   clear hl q0 q2
   cases f
   all_goals
    go_wp2_with fail;refine aj (by kernel_rfl) (by kernel_rfl) ?_
    repeat (go_big_quiet_step (fail))
    refine wpQuiet_nil ?_;intro _ hw';obtain ⟨z,hw''⟩:=hw';subst hw'';go_wp2
    go_roundw
    case rel=>exact ⟨k+1,_,by omega,rfl,by go_num,iy.out.bt z,HN.out⟩
    case measure=>simp [intOf];omega
  ·have nV:k=m.bN.length:=by omega
   have HFR:=gH (show f=!(m.bN.any fun l=>decide (l.ax < d.fence)) from by rw [HFF.out,nV,List.take_length]);have q2:=X4.out.aH iy.out;obtain ⟨x0,x1,x2⟩:=YD q2;have x4:=q2.cell (j:=4) rfl;obtain ⟨s1,r7,s2,kb⟩:=jT d (HR.out.2.aH (ye.out.trans iy.out)) rfl;have HE:=gH (kb.aN (HA.out.trans (ye.out.trans iy.out)) fun g hg e=>by have e:g=_:=e;omega);have S2:=gH s2;clear r7 s2 kb nV q2 q0;go_wp2;refine bodyPost_ret (results_cell_tmp rfl _ rfl S2.out) rfl ?_;exact ⟨by rw [HF2.out,HFR.out];rfl,HE.out⟩
end Go.Proofs.YtakddkhipelmjaaGreat
