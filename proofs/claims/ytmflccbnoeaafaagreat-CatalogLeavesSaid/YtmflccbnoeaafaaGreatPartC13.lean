import Derived.DeepKeys3
import Derived.ChangeKeys
import Derived.WideKeyEntry
import Derived.Test.YtmflccbnoeaafaaGreatPartC12
namespace Go.Proofs.YtmflccbnoeaafaaGreat
open Go.RowKit Go.Deep
set_option maxRecDepth 100000
set_option linter.unusedVariables false
set_option maxHeartbeats 64000000
theorem Su (name owner s:ByteArray) (b1:Nat) (w:World) (hb1:b1 < w.heap.size) (hc1:w.cell? ⟨b1,0,none⟩=some (.string s)) :
  Calls Tryz.prog 72 #[.agg #[.string name,.string owner],.pointer (some ⟨b1,0,none⟩)] w fun e w'=>e=.returned (.bool (bk name s))∧ag w w':=by
 go_enter Tryz.func72,Tryz.ntmps72
 go_wp2_with fail;go_ret;exact ⟨rfl,(ag.refl _).alloc _⟩
theorem ER:dL.toList=[114,111,111,116]:=by first | rfl | kernel_rfl | decide
theorem KQ (r:ByteArray):bk r dL=(r.toList==[114,111,111,116]):=by unfold bk;rw [ER]
theorem Sv (r to over:ByteArray) (b0 b1 b2:Nat) (As:Option Addr) (n ar:Nat) (q:Nat) (w:World) (h0:b0 < w.heap.size) (h1:b1 < w.heap.size) (h2:b2 < w.heap.size) (hc0:w.cell? ⟨b0,2,none⟩=some (.slice As n ar)) (hc1:w.cell? ⟨b1,2,none⟩=some (.string to)) (hc2:w.cell? ⟨b2,0,none⟩=some (.int .i64 q))
  (hq:q < n) (hn:n*16≤140737488351232) (hA:∃ b off,As=some ⟨b,off,none⟩∧b < w.heap.size∧w.cell? ⟨b,off+q*2+1,none⟩=some (.string over)) :
  Calls Tryz.prog 74 #[.string r,.pointer (some ⟨b1,0,none⟩),.pointer (some ⟨b0,0,none⟩),.pointer (some ⟨b2,0,none⟩)] w fun e w'=>e=.returned (.bool (bk r dL || bk r to || bk r over))∧ag w w':=by
 obtain ⟨b,off,rfl,hb,hc⟩:=hA;rw [KQ]
 cases e1:(r.toList==[114,111,111,116])
 ·cases e2:bk r to
  ·have Ka:(r.toList==to.toList)=false:=e2
   clear e2
   go_enter Tryz.func74,Tryz.ntmps74
   go_wp2_with fail;go_ret;exact ⟨rfl,ag.refl _⟩
  ·have Ka:(r.toList==to.toList)=true:=e2
   clear e2
   go_enter Tryz.func74,Tryz.ntmps74
   go_wp2_with fail;go_ret;exact ⟨rfl,ag.refl _⟩
 ·go_enter Tryz.func74,Tryz.ntmps74
  go_wp2_with fail;go_ret;exact ⟨rfl,ag.refl _⟩
theorem sY {o:bE} {s:ByteArray} {q:Nat} (hi:cE o.ae s=q) (hq:q < o.ae.length):oa o s=o.ae[q].owner:=by
 unfold oa;rw [if_neg (by omega),hi];simp [List.getElem?_eq_getElem hq]
theorem Du (c:bW) (As:Option Addr) (ar:Nat) (At:Option Addr) (ax:Nat) (An:Option Addr) (aI:Nat) (Am:Option Addr) (aK:Nat) (Ag:Option Addr) (aS:Nat) (is:List ByteArray) (Ai:Option Addr) (oM:Nat) (ts tn to:ByteArray) (A2:Option Addr) (n2 c2:Nat) (A3:Option Addr) (n3 c3:Nat) (t:cu) (ht:t.aa=ts∧t.owner=to) (w:World) (H:eH w c As ar At ax An aI Am aK Ag aS) (x8:aL w 1 dK Ai oM is) (hsc:0≤cE c.ai.ae ts) :
  Calls Tryz.prog 35 #[.agg #[.int .i64 c.aA,.int .i64 c.version,.slice As c.ai.ae.length ar,.slice At c.ai.tables.length ax,.slice An c.aj.names.length aI,.slice Am c.aj.members.length aK,.slice Ag c.af.length aS],.slice Ai is.length oM,.agg #[.string ts,.string tn,.string to,.slice A2 n2 c2,.slice A3 n3 c3]] w fun e w'=>e=.returned (.bool (jA c.ai is t))∧ag w w':=by
 have hlen:=H.gQ.len;have rh:=enters (P:=Tryz.prog) Tryz.func72 (by kernel_rfl) rfl;have rx:=enters (P:=Tryz.prog) Tryz.func74 (by kernel_rfl) rfl;obtain ⟨W,hW⟩:∃ W,W=(w.alloc (.cells #[.int .i64 c.aA,.int .i64 c.version,.slice As c.ai.ae.length ar,.slice At c.ai.tables.length ax,.slice An c.aj.names.length aI,.slice Am c.aj.members.length aK,.slice Ag c.af.length aS] 32)).alloc (.cells #[.string ts,.string tn,.string to,.slice A2 n2 c2,.slice A3 n3 c3] 53):=⟨_,rfl⟩
 have aW:ag w W:=by rw [hW];exact ((ag.refl w).alloc _).alloc _
 have r0:ap W (w.heap.size) [.int .i64 c.aA,.int .i64 c.version,.slice As c.ai.ae.length ar,.slice At c.ai.tables.length ax,.slice An c.aj.names.length aI,.slice Am c.aj.members.length aK,.slice Ag c.af.length aS]:=by rw [hW];exact ap.up (bv (ag.refl _) (by simp))
 have r1:ap W (w.heap.size+1) [.string ts,.string tn,.string to,.slice A2 n2 c2,.slice A3 n3 c3]:=by rw [hW];exact bv (ag.refl _) (by simp)
 obtain ⟨q,hq⟩:=Int.eq_ofNat_of_zero_le hsc;have ye : -1≤cE c.ai.ae ts∧cE c.ai.ae ts < c.ai.ae.length:=bg _ _
 have q9:q < c.ai.ae.length:=by omega
 have HB:=gH (show jA c.ai is t=is.any (fun r=>bk r dL || bk r to || bk r c.ai.ae[q].owner) from by
  unfold jA
  rw [ht.1,ht.2,sY hq q9])
 have CI:=gH (show ∀ w',ag W w'→Calls Tryz.prog 41 #[.slice As c.ai.ae.length ar,.func (.func 72) #[] #[.pointer (some ⟨w.heap.size+1,0,none⟩)]] w' fun e w''=>e=.returned (.int .i64 q)∧ag w' w'' from
  fun w' a=>(wE As ar c.ai.ae 72 #[.pointer (some ⟨w.heap.size+1,0,none⟩)] (fun s=>bk s.name ts) w' (bm (aW.trans a) H.gQ) rh (fun w'' b j hj=>by
   have p1:=r1.az (a.trans b)
   exact Su _ _ _ _ w'' p1.1 (p1.cell (j:=0) rfl))).mono fun e w'' ⟨he,hw⟩=>⟨he.trans (by rw [← hq];rfl),hw⟩)
 obtain ⟨v,hv⟩:∃ v,is.any (fun r=>bk r dL || bk r to || bk r c.ai.ae[q].owner)=v:=⟨_,rfl⟩
 have CC:=gH (show ∀ b2 w',ag W w'→w'.cell? ⟨b2,0,none⟩=some (.int .i64 q)→Calls Tryz.prog 73 #[.slice Ai is.length oM,.func (.func 74) #[] #[.pointer (some ⟨w.heap.size+1,0,none⟩),.pointer (some ⟨w.heap.size,0,none⟩),.pointer (some ⟨b2,0,none⟩)]] w' fun e w''=>e=.returned (.bool v)∧ag w' w'' from
  fun b2 w' a hb2=>(KH Ai oM is 74 #[.pointer (some ⟨w.heap.size+1,0,none⟩),.pointer (some ⟨w.heap.size,0,none⟩),.pointer (some ⟨b2,0,none⟩)] (fun r=>bk r dL || bk r to || bk r c.ai.ae[q].owner) w' (aM (aW.trans a) x8) rx (fun w'' b j hj=>by
   have p0:=r0.az (a.trans b);have p1:=r1.az (a.trans b);have z2:b2 < w'.heap.size:=World.block_lt_of_cell? w' ⟨b2,0,none⟩ hb2;have c2:w''.cell? ⟨b2,0,none⟩=some (.int .i64 q):=(Below.cell b (p:=⟨b2,0,none⟩) z2).trans hb2;obtain ⟨bs,off,hA,Sw,_,t1,_,_⟩:=oC (bm ((aW.trans a).trans b) H.gQ) q9
   exact Sv _ to c.ai.ae[q].owner w.heap.size _ b2 As _ ar q w'' p0.1 p1.1 (Nat.lt_of_lt_of_le z2 b.size) (p0.cell (j:=2) rfl) (p1.cell (j:=2) rfl) c2 q9 (by have:=H.gQ.2.1;unfold Small at this;omega) ⟨bs,off,hA,Sw,t1⟩)).mono fun e w'' ⟨he,hw⟩=>⟨he.trans (by rw [hv]),hw⟩)
 rw [hv] at HB;have br:=gH aW;have je:=gH r0;clear hv hq ye hsc H x8 ht r0 r1 aW
 go_enter Tryz.func35,Tryz.ntmps35
 go_wp2_with fail;rw [← hW];clear hW;refine (CI.out W (ag.refl W)).mono ?_;rintro e w1 ⟨rfl,a1⟩;have cG:=gH a1;have C2:=gH (CC.out w1.heap.size (w1.alloc (.cells #[.int .i64 q] 3)) (a1.alloc _) (by simp));clear a1;go_wp2_with fail;refine C2.out.mono ?_;rintro e w2 ⟨rfl,a2⟩;have fx:=gH ((br.out.trans cG.out).trans (((ag.refl w1).alloc _).trans a2));clear a2;go_wp2_with fail;go_ret;exact ⟨by rw [HB.out];rfl,fx.out⟩
theorem Om (g:cB) (ts tn:ByteArray) (A2:Option Addr) (n2 c2:Nat) (A3:Option Addr) (n3 c3:Nat) (rt:Int) (op:Bool) (is:List ByteArray) (Ai:Option Addr) (oM:Nat) (bi b1 b2 b3:Nat) (w:World) (Sx:bi < w.heap.size) (h1:b1 < w.heap.size) (h2:b2 < w.heap.size) (h3:b3 < w.heap.size) (hci:w.cell? ⟨bi,0,none⟩=some (.slice Ai is.length oM)) (hc1:w.cell? ⟨b1,0,none⟩=some (.string ts)) (aad:w.cell? ⟨b1,1,none⟩=some (.string tn)) (hc2:w.cell? ⟨b2,0,none⟩=some (.int .i64 rt)) (hc3:w.cell? ⟨b3,0,none⟩=some (.bool op)) (x8:aL w 1 dK Ai oM is) :
  Calls Tryz.prog 76 #[.agg #[.string g.aa,.string g.table,.int .i64 g.right,.string g.aC,.string g.to,.bool g.opt],.pointer (some ⟨b1,0,none⟩),.pointer (some ⟨b2,0,none⟩),.pointer (some ⟨b3,0,none⟩),.pointer (some ⟨bi,0,none⟩)] w fun e w'=>e=.returned (.bool (bk g.aa ts&&bk g.table tn&&(g.right==rt)&&(g.opt || !op)&&dQ is g.to))∧ag w w':=by
 obtain ⟨i,hi⟩:∃ i,dQ is g.to=i:=⟨_,rfl⟩;have C:=gH (show ∀ w',ag w w'→Calls Tryz.prog 18 #[.slice Ai is.length oM,.string g.to] w' fun e w''=>e=.returned (.bool i)∧w'=w'' from fun w' a=>hi▸fY Ai oM is g.to w' (aM a x8));rw [hi];clear hi x8;obtain ⟨gs,gt,gr,gg,gto,go⟩:=g;dsimp only at C ⊢
 cases e1:bk gs ts
 ·have Od:(gs.toList==ts.toList)=false:=e1
  clear e1
  go_enter Tryz.func76,Tryz.ntmps76
  go_wp2_with fail;go_ret;exact ⟨rfl,(ag.refl _).alloc _⟩
 have Od:(gs.toList==ts.toList)=true:=e1;clear e1
 cases e2:bk gt tn
 ·have Ka:(gt.toList==tn.toList)=false:=e2
  clear e2
  go_enter Tryz.func76,Tryz.ntmps76
  go_wp2_with fail;go_ret;exact ⟨rfl,(ag.refl _).alloc _⟩
 have Ka:(gt.toList==tn.toList)=true:=e2;clear e2
 cases e3:(gr==rt)
 ·go_enter Tryz.func76,Tryz.ntmps76
  go_wp2_with fail;go_ret;exact ⟨rfl,(ag.refl _).alloc _⟩
 cases go<;>cases op
 all_goals
  go_enter Tryz.func76,Tryz.ntmps76
  go_wp2_with (go_at_call 18;refine (C.out _ ((ag.refl w).alloc _)).mono ?_;rintro e w1 ⟨rfl,rfl⟩)
  go_ret;exact ⟨rfl,(ag.refl _).alloc _⟩
theorem Bc (l:List cB) (Ag:Option Addr) (aS:Nat) (is:List ByteArray) (Ai:Option Addr) (oM:Nat) (ts tn to:ByteArray) (A2:Option Addr) (n2 c2:Nat) (A3:Option Addr) (n3 c3:Nat) (rt:Int) (op:Bool) (w:World) (hl:aL w 6 mr Ag aS l) (x8:aL w 1 dK Ai oM is) :
  Calls Tryz.prog 36 #[.slice Ag l.length aS,.slice Ai is.length oM,.agg #[.string ts,.string tn,.string to,.slice A2 n2 c2,.slice A3 n3 c3],.int .i64 rt,.bool op] w fun e w'=>e=.returned (.bool (fC l is ts tn rt op))∧ag w w':=by
 have bR:=enters (P:=Tryz.prog) Tryz.func76 (by kernel_rfl) rfl;obtain ⟨W,hW⟩:∃ W,W=(((w.alloc (.cells #[.slice Ai is.length oM] 26)).alloc (.cells #[.string ts,.string tn,.string to,.slice A2 n2 c2,.slice A3 n3 c3] 53)).alloc (.cells #[.int .i64 rt] 38)).alloc (.cells #[.bool op] 4):=⟨_,rfl⟩
 have aW:ag w W:=by rw [hW];exact ((((ag.refl w).alloc _).alloc _).alloc _).alloc _
 have r0:ap W (w.heap.size) [.slice Ai is.length oM]:=by rw [hW];exact ap.up (ap.up (ap.up (bv (ag.refl _) (by simp))))
 have r1:ap W (w.heap.size+1) [.string ts,.string tn,.string to,.slice A2 n2 c2,.slice A3 n3 c3]:=by rw [hW];exact ap.up (ap.up (bv (ag.refl _) (by simp)))
 have r2:ap W (w.heap.size+1+1) [.int .i64 rt]:=by rw [hW];exact ap.up (bv (ag.refl _) (by simp))
 have r3:ap W (w.heap.size+1+1+1) [.bool op]:=by rw [hW];exact bv (ag.refl _) (by simp)
 obtain ⟨v,hv⟩:∃ v,fC l is ts tn rt op=v:=⟨_,rfl⟩
 have C:=gH ((Dr Ag aS l 76 #[.pointer (some ⟨w.heap.size+1,0,none⟩),.pointer (some ⟨w.heap.size+1+1,0,none⟩),.pointer (some ⟨w.heap.size+1+1+1,0,none⟩),.pointer (some ⟨w.heap.size,0,none⟩)] (fun g=>bk g.aa ts&&bk g.table tn&&(g.right==rt)&&(g.opt || !op)&&dQ is g.to) W (eZ aW hl) bR (fun w'' b j hj=>by
   have p0:=r0.az b;have p1:=r1.az b;have p2:=r2.az b;have p3:=r3.az b
   exact Om l[j] ts tn A2 n2 c2 A3 n3 c3 rt op is Ai oM _ _ _ _ w'' p0.1 p1.1 p2.1 p3.1 (p0.cell (j:=0) rfl) (p1.cell (j:=0) rfl) (p1.cell (j:=1) rfl) (p2.cell (j:=0) rfl) (p3.cell (j:=0) rfl) (aM (aW.trans b) x8))).mono (R':=fun e w''=>e=.returned (.bool v)∧ag W w'') fun e w'' ⟨he,hw⟩=>⟨he.trans (by rw [← hv];rfl),hw⟩)
 rw [hv];have br:=gH aW;clear hv hl x8 r0 r1 r2 r3 aW
 go_enter Tryz.func36,Tryz.ntmps36
 go_wp2_with fail;rw [← hW];clear hW;refine C.out.mono ?_;rintro e w1 ⟨rfl,a1⟩;have cG:=gH (br.out.trans a1);clear a1;go_wp2_with fail;go_ret;exact ⟨rfl,cG.out⟩
theorem yq (c:bW) (h:¬ c.af.length≤64):bM c=false:=by unfold bM;rw [decide_eq_false h];rfl
theorem jh (c:bW) (k:Nat) (hk:k < c.af.length) (h:iM c c.af[k]=false):bM c=false:=by
 unfold bM;rw [all_false _ _ k hk h];simp
theorem rC (c:bW) (k:Nat) (hk:k < c.af.length) (h0:0 < k) (h:0≤cS (c.af[k - 1]'(by omega)) c.af[k]):bM c=false:=by
 have h1:k - 1+1 < c.af.length:=by omega
 have e:(c.af[k - 1+1]'h1)=c.af[k]:=by congr 1;omega
 unfold bM;rw [jH _ _ (k - 1) h1 (by rw [e];exact h)];simp
structure Sy (w:World) (B3:Nat) (l0:List Value) (p:cB) (wr:World):Prop where
 az:ag w wr
 box:ap wr w.heap.size l0
 last:ap wr B3 [.string p.aa,.string p.table,.int .i64 p.right,.string p.aC,.string p.to]
theorem Sy.to {w:World} {B3:Nat} {l0:List Value} {p:cB} {wr w':World} (h:Sy w B3 l0 p wr) (a:ag wr w'):Sy w B3 l0 p w':=⟨h.az.trans a,h.box.az a,h.last.az a⟩
theorem ES (a b:cB):jZ b a=true↔cS a b=0:=by rw [jQ,AU]
theorem Dv (c:bW) (As:Option Addr) (ar:Nat) (At:Option Addr) (ax:Nat) (An:Option Addr) (aI:Nat) (Am:Option Addr) (aK:Nat) (Ag:Option Addr) (aS:Nat) (w:World) (H:eH w c As ar At ax An aI Am aK Ag aS) :
  Calls Tryz.prog 62 #[.agg #[.int .i64 c.aA,.int .i64 c.version,.slice As c.ai.ae.length ar,.slice At c.ai.tables.length ax,.slice An c.aj.names.length aI,.slice Am c.aj.members.length aK,.slice Ag c.af.length aS]] w fun e w'=>e=.returned (.bool (bM c))∧ag w w':=by
 have hlen:=H.kv.len;obtain ⟨W,hW⟩:∃ W,W=w.alloc (.cells #[.int .i64 c.aA,.int .i64 c.version,.slice As c.ai.ae.length ar,.slice At c.ai.tables.length ax,.slice An c.aj.names.length aI,.slice Am c.aj.members.length aK,.slice Ag c.af.length aS] 32):=⟨_,rfl⟩
 have aW:ag w W:=by rw [hW];exact (ag.refl w).alloc _
 have r0:ap W (w.heap.size) [.int .i64 c.aA,.int .i64 c.version,.slice As c.ai.ae.length ar,.slice At c.ai.tables.length ax,.slice An c.aj.names.length aI,.slice Am c.aj.members.length aK,.slice Ag c.af.length aS]:=by rw [hW];exact bv (ag.refl _) (by simp)
 obtain ⟨ck,gA⟩:∃ b,bF c.ai=b:=⟨_,rfl⟩;obtain ⟨rk,uj⟩:∃ b,bN c.aj=b:=⟨_,rfl⟩;obtain ⟨ro,hro⟩:∃ b,dQ c.aj.names dL=b:=⟨_,rfl⟩;obtain ⟨ow,how⟩:∃ b,iA c=b:=⟨_,rfl⟩;have HS:=gH (show bM c=(decide (c.af.length≤64)&&ck&&rk&&ro&&ow&&(c.af.all (iM c)&&aN cS c.af)) by unfold bM;rw [gA,uj,hro,how]);have C1:=gH (show ∀ w',ag W w'→Calls Tryz.prog 42 #[.agg #[.slice As c.ai.ae.length ar,.slice At c.ai.tables.length ax]] w' fun e w''=>e=.returned (.int .i64 (if ck=true then 0 else 63))∧ag w' w'' from fun w' a=>(lg c.ai As ar At ax w' (bm (aW.trans a) H.gQ) (aQ (aW.trans a) H.tab)).mono fun e w'' ⟨he,hw⟩=>⟨he.trans (by unfold eK;rw [gA]),hw⟩);have C2:=gH (show ∀ w',ag W w'→Calls Tryz.prog 108 #[.agg #[.slice An c.aj.names.length aI,.slice Am c.aj.members.length aK]] w' fun e w''=>e=.returned (.int .i64 (if rk=true then 0 else 1))∧ag w' w'' from fun w' a=>uj▸Hg c.aj An aI Am aK w' (aM (aW.trans a) H.fK) (bJ (aW.trans a) H.mem));have C3:=gH (show ∀ w',ag W w'→Calls Tryz.prog 18 #[.slice An c.aj.names.length aI,.string ⟨#[114,111,111,116]⟩] w' fun e w''=>e=.returned (.bool ro)∧w'=w'' from fun w' a=>hro▸fY An aI c.aj.names dL w' (aM (aW.trans a) H.fK));have C4:=gH (show ∀ w',ag W w'→Calls Tryz.prog 109 #[.agg #[.int .i64 c.aA,.int .i64 c.version,.slice As c.ai.ae.length ar,.slice At c.ai.tables.length ax,.slice An c.aj.names.length aI,.slice Am c.aj.members.length aK,.slice Ag c.af.length aS]] w' fun e w''=>e=.returned (.bool ow)∧ag w' w'' from fun w' a=>how▸KP c As ar At ax An aI Am aK Ag aS w' (H.az (aW.trans a)))
 have CN:=gH (show ∀ w',ag w w'→∀ s,Calls Tryz.prog 18 #[.slice An c.aj.names.length aI,.string s] w' fun e w''=>e=.returned (.bool (dQ c.aj.names s))∧w'=w'' from fun w' a s=>fY An aI c.aj.names s w' (aM a H.fK));have CT:=gH (show ∀ w',ag w w'→∀ s n,Calls Tryz.prog 31 #[.agg #[.int .i64 c.aA,.int .i64 c.version,.slice As c.ai.ae.length ar,.slice At c.ai.tables.length ax,.slice An c.aj.names.length aI,.slice Am c.aj.members.length aK,.slice Ag c.af.length aS],.string s,.string n] w' (Hf w' c.ai s n) from fun w' a s n=>sX c As ar At ax An aI Am aK Ag aS s n w' (aQ a H.tab));have HH:=gH H;have br:=gH aW;have je:=gH r0;clear gA uj hro how H aW r0
 go_enter Tryz.func62,Tryz.ntmps62
 by_cases m64:c.af.length≤64
 case neg =>
  have Wd:(64:Int) < (c.af.length:Int):=by omega
  have HF:=gH (yq c m64);go_wp2_with fail;go_ret;exact ⟨by rw [HF.out];rfl,(ag.refl _).alloc _⟩
 have Wd:¬ (64:Int) < (c.af.length:Int):=by omega
 go_wp2_with fail;rw [← hW];refine (C1.out W (ag.refl W)).mono ?_;rintro e w1 ⟨rfl,a1⟩;clear hW;have H1:=gH a1;have p0:=je.out.az a1;have x2:=p0.cell (j:=2) rfl;have x3:=p0.cell (j:=3) rfl;have x4:=p0.cell (j:=4) rfl;have x5:=p0.cell (j:=5) rfl;have x6:=p0.cell (j:=6) rfl;have x0:=p0.cell (j:=0) rfl;have x1:=p0.cell (j:=1) rfl;have xz:=p0.1;clear a1 p0
 cases ck
 case false =>
  have HF:=gH (show bM c=false by rw [HS.out];simp);go_wp2_with fail;go_ret;exact ⟨by rw [HF.out];rfl,br.out.trans H1.out⟩
 go_wp2_with fail;refine (C2.out w1 H1.out).mono ?_;rintro e w2 ⟨rfl,a2⟩;clear x0 x1 x2 x3 x4 x5 x6 xz;have H2:=gH (H1.out.trans a2);have p0:=je.out.az (H1.out.trans a2);have x2:=p0.cell (j:=2) rfl;have x3:=p0.cell (j:=3) rfl;have x4:=p0.cell (j:=4) rfl;have x5:=p0.cell (j:=5) rfl;have x6:=p0.cell (j:=6) rfl;have x0:=p0.cell (j:=0) rfl;have x1:=p0.cell (j:=1) rfl;have xz:=p0.1;clear a2 p0 H1
 cases rk
 case false =>
  have HF:=gH (show bM c=false by rw [HS.out];simp);go_wp2_with fail;go_ret;exact ⟨by rw [HF.out];rfl,br.out.trans H2.out⟩
 go_wp2_with fail;refine (C3.out w2 H2.out).mono ?_;rintro e w3 ⟨rfl,rfl⟩
 cases ro
 case false =>
  have HF:=gH (show bM c=false by rw [HS.out];simp);go_wp2_with fail;go_ret;exact ⟨by rw [HF.out];rfl,br.out.trans H2.out⟩
 go_wp2_with fail;refine (C4.out w2 H2.out).mono ?_;rintro e w4 ⟨rfl,a4⟩;clear x0 x1 x2 x3 x4 x5 x6 xz;have H4:=gH (H2.out.trans a4);have p0:=je.out.az (H2.out.trans a4);have x6:=p0.cell (j:=6) rfl;have xz:=p0.1;clear a4 p0 H2
 cases ow
 case false =>
  have HF:=gH (show bM c=false by rw [HS.out];simp);go_wp2_with fail;go_ret;exact ⟨by rw [HF.out];rfl,br.out.trans H4.out⟩
 obtain ⟨B3,We⟩:∃ B,B=w4.heap.size:=⟨_,rfl⟩
 have zB:w.heap.size+1≤B3:=by have:=je.out.1;have:=(br.out.trans H4.out).size;have:=H4.out.size;omega
 have S0:=gH (show Sy w B3 [.int .i64 c.aA,.int .i64 c.version,.slice As c.ai.ae.length ar,.slice At c.ai.tables.length ax,.slice An c.aj.names.length aI,.slice Am c.aj.members.length aK,.slice Ag c.af.length aS] ⟨⟨#[]⟩,⟨#[]⟩,0,⟨#[]⟩,⟨#[]⟩,false⟩ (w4.alloc (.cells #[.string ⟨#[]⟩,.string ⟨#[]⟩,.int .i64 0,.string ⟨#[]⟩,.string ⟨#[]⟩] 114)) from by
  have a:=(ag.refl w4).alloc (.cells #[.string ⟨#[]⟩,.string ⟨#[]⟩,.int .i64 0,.string ⟨#[]⟩,.string ⟨#[]⟩] 114)
  exact ⟨(br.out.trans H4.out).trans a,(je.out.az H4.out).az a,by rw [We];exact aO (c:=[.string ⟨#[]⟩,.string ⟨#[]⟩,.int .i64 0,.string ⟨#[]⟩,.string ⟨#[]⟩]) (ag.refl _)⟩)
 go_wp2_with fail;rw [← We]
 go_loopw [39] (fun i wr=>∃ (k:Nat) (p:cB),k≤c.af.length∧i=.int .i64 k∧Sy w B3 [.int .i64 c.aA,.int .i64 c.version,.slice As c.ai.ae.length ar,.slice At c.ai.tables.length ax,.slice An c.aj.names.length aI,.slice Am c.aj.members.length aK,.slice Ag c.af.length aS] p wr∧(0 < k→∀ (h:k - 1 < c.af.length),fd p=fd c.af[k - 1])∧∀ j,j < k→∀ (hj:j < c.af.length),iM c c.af[j]=true∧(0 < j→cS (c.af[j - 1]'(by omega)) c.af[j] < 0)) (fun i _=>c.af.length - (intOf i).toNat)
 case atStart=>exact ⟨0,_,Nat.zero_le _,rfl,S0.out,fun h=>absurd h (by omega),fun j hj=>absurd hj (Nat.not_lt_zero j)⟩
 case round =>
  clear x6 xz S0 We;obtain ⟨k,p,hk,rfl,hs,hp,hall⟩:=hrel;have HP:=gH hp;have KU:=gH hall;have SR:=gH hs;by_cases hlt:k < c.af.length
  case neg =>
   clear hp hall hs
   have HF:=gH (show bM c=true by
    rw [HS.out,decide_eq_true m64,all_true _ _ fun j hj=>(KU.out j (by omega) hj).1,AP cS c.af fun j h1 hj=>(KU.out j (by omega) hj).2 (by omega)];rfl)
   go_wp2_with fail;go_ret;exact ⟨by rw [HF.out];rfl,SR.out.az⟩
  obtain ⟨b,off,rfl,hb,t0,t1,t2,t3,t4,t5,sg⟩:=mL (eZ hs.az HH.out.kv) hlt;obtain ⟨g,hg⟩:∃ g,c.af[k]=g:=⟨_,rfl⟩;rw [hg] at t0 t1 t2 t3 t4 t5 sg;have p0:=hs.box;obtain ⟨x0,x1,x2,x3,x4,x5,x6,xz⟩:=dM p0;obtain ⟨G,hG⟩:∃ V,V=wr.alloc (.cells #[.string g.aa,.string g.table,.int .i64 g.right,.string g.aC,.string g.to,.bool g.opt] 106):=⟨_,rfl⟩
  have aG:ag wr G:=by rw [hG];exact (ag.refl wr).alloc _
  have SG:=gH (hs.to aG);have RG:=gH (show ap G wr.heap.size [.string g.aa,.string g.table,.int .i64 g.right,.string g.aC,.string g.to,.bool g.opt] by rw [hG];exact aO (ag.refl _));have C:=gH (CT.out G (hs.az.trans aG) g.aa g.table);have HG:=gH hg;have Bd:=gH (show iM c c.af[k]=(decide (0≤bj c.ai.tables g.aa g.table)&&lh g.right&&!bk g.aC g.to&&dQ c.aj.names g.aC&&dQ c.aj.names g.to) by rw [hg];rfl);clear hp hall hs hg aG p0 sg;go_wp2_with fail;rw [← hG];clear hG;refine C.out.mono ?_;rintro e w5 ⟨A2,c2,A3,c3,rfl,a5⟩;generalize iK c.ai g.aa g.table=T;obtain ⟨tb,uY⟩:∃ tb,decide (0≤bj c.ai.tables g.aa g.table)=tb:=⟨_,rfl⟩;obtain ⟨kb,hkb⟩:∃ kb,lh g.right=kb:=⟨_,rfl⟩;obtain ⟨eb,Wf⟩:∃ eb,bk g.aC g.to=eb:=⟨_,rfl⟩;obtain ⟨i1,ra⟩:∃ i,dQ c.aj.names g.aC=i:=⟨_,rfl⟩;obtain ⟨i2,qr⟩:∃ i,dQ c.aj.names g.to=i:=⟨_,rfl⟩;rw [uY,hkb,Wf,ra,qr] at Bd;rw [uY];have K1:=gH (show ∀ w',Calls Tryz.prog 33 #[.int .i64 g.right] w' fun e w''=>e=.returned (.bool kb)∧w'=w'' from fun w'=>hkb▸He g.right w');obtain ⟨X,hX⟩:∃ V,V=w5.alloc (.cells #[.string T.aa,.string T.name,.string T.owner,.slice A2 T.ak.length c2,.slice A3 T.rules.length c3] 53):=⟨_,rfl⟩
  have aX:ag w5 X:=by rw [hX];exact (ag.refl w5).alloc _
  have SW:=gH (SG.out.to (a5.trans aX));have N1:=gH (show Calls Tryz.prog 18 #[.slice An c.aj.names.length aI,.string g.aC] X fun e w''=>e=.returned (.bool i1)∧X=w'' from ra▸CN.out X SW.out.az g.aC);have N2:=gH (show Calls Tryz.prog 18 #[.slice An c.aj.names.length aI,.string g.to] X fun e w''=>e=.returned (.bool i2)∧X=w'' from qr▸CN.out X SW.out.az g.to);have RX:=RG.out.az (a5.trans aX);clear t0 t1 t2 t3 t4 t5 x0 x1 x2 x3 x4 x5 x6 xz hb;obtain ⟨e0,e1,e2,e3,e4,e5,ez⟩:=j0 RX;have p0:=SW.out.box;have x4:=p0.cell (j:=4) rfl;have x6:=p0.cell (j:=6) rfl;have xz:=p0.1;have y0:=(RG.out.az a5).cell (j:=0) rfl;have y2:=(RG.out.az a5).cell (j:=2) rfl;have y3:=(RG.out.az a5).cell (j:=3) rfl;have y4:=(RG.out.az a5).cell (j:=4) rfl;have yz:=(RG.out.az a5).1;have q0:=(SG.out.to a5).box;have v4:=q0.cell (j:=4) rfl;have vz:=q0.1;clear aX RX p0 q0 uY hkb ra qr a5;have aae:(g.aC.toList==g.to.toList)=eb:=Wf;clear Wf
  cases tb
  case false =>
   have HF:=gH (jh c k hlt (by rw [Bd.out];rfl));go_wp2_with fail;go_ret;exact ⟨by rw [HF.out];rfl,by rw [← hX];exact SW.out.az⟩
  cases kb
  case false =>
   have HF:=gH (jh c k hlt (by rw [Bd.out];rfl));go_wp2_with fail;refine (K1.out _).mono ?_;rintro e w6 ⟨rfl,rfl⟩;go_wp2_with fail;go_ret;exact ⟨by rw [HF.out];rfl,by rw [← hX];exact SW.out.az⟩
  cases eb
  case true =>
   have HF:=gH (jh c k hlt (by rw [Bd.out];rfl));go_wp2_with fail;refine (K1.out _).mono ?_;rintro e w6 ⟨rfl,rfl⟩;go_wp2_with fail;go_ret;exact ⟨by rw [HF.out];rfl,by rw [← hX];exact SW.out.az⟩
  go_wp2_with fail;refine (K1.out _).mono ?_;rintro e w6 ⟨rfl,rfl⟩;clear y0 y2 y3 y4 yz v4 vz;rw [← hX];clear hX;go_wp2_with fail;refine N1.out.mono ?_;rintro e w6 ⟨rfl,rfl⟩
  cases i1
  case false =>
   have HF:=gH (jh c k hlt (by rw [Bd.out];rfl));go_wp2_with fail;go_ret;exact ⟨by rw [HF.out];rfl,SW.out.az⟩
  go_wp2_with fail;refine N2.out.mono ?_;rintro e w6 ⟨rfl,rfl⟩
  cases i2
  case false =>
   have HF:=gH (jh c k hlt (by rw [Bd.out];rfl));go_wp2_with fail;go_ret;exact ⟨by rw [HF.out];rfl,SW.out.az⟩
  have ET:=gH (show iM c c.af[k]=true by rw [Bd.out];rfl);go_wp2_with fail;by_cases h0:0 < k
  case neg =>
   have w5:decide ((0:Int) < (k:Int))=false:=decide_eq_false (by omega)
   have w6:¬ (0:Int) < (k:Int):=by omega
   have CO:=gH True.intro;have CR:=gH True.intro;refine av (by kernel_rfl) (by kernel_rfl) ?_
   repeat (go_big_quiet_step ((first | (go_at_call 63;exact Calls.bD (CO.out _)) | (go_at_call 65;exact Calls.bD (CR.out _)))))
   refine wpQuiet_nil ?_;intro _ hw';obtain ⟨x,hw''⟩:=hw';subst hw'';go_wp2_with fail;refine (Q2 g _).mono ?_;rintro e w7 ⟨rfl,a7⟩;have S7:=gH (SW.out.to (((ag.refl _).bH x).trans a7));have r7:=S7.out.last;have d0:=r7.cell (j:=0) rfl;have d1:=r7.cell (j:=1) rfl;have d2:=r7.cell (j:=2) rfl;have d3:=r7.cell (j:=3) rfl;have d4:=r7.cell (j:=4) rfl;have f0:=r7.2.2 0 (by simp);have f1:=r7.2.2 1 (by simp);have f2:=r7.2.2 2 (by simp);have f3:=r7.2.2 3 (by simp);have f4:=r7.2.2 4 (by simp);have z7:=r7.1;clear a7 r7;go_wp2_with fail
   go_roundw
   case rel =>
    refine ⟨k+1,g,by omega,by go_num,⟨(i9 _ _ _ _ _ _ _).aZ S7.out.az (fun _ _ e=>by omega),(i9 _ _ _ _ _ _ _).row S7.out.box (by omega),jg S7.out.last rfl _ _ _ _ _⟩,fun _ h=>by rw [← HG.out];rfl,er (p:=fun j=>∀ (hj:j < c.af.length),iM c c.af[j]=true∧(0 < j→cS (c.af[j - 1]'(by omega)) c.af[j] < 0)) KU.out (fun _=>⟨ET.out,fun h=>absurd h h0⟩)⟩
   case measure=>simp [intOf];omega
  have w5:decide ((0:Int) < (k:Int))=true:=decide_eq_true (by omega)
  have w6:(0:Int) < (k:Int):=by omega
  have oF:k - 1 < c.af.length:=by omega
  obtain ⟨b',off',hA',hb',s0,s1,s2,s3,s4,s5,_⟩:=mL (eZ SW.out.az HH.out.kv) oF;simp only [Option.some.injEq,Addr.mk.injEq,and_true] at hA';obtain ⟨rfl,rfl⟩:=hA';obtain ⟨p',KY⟩:∃ p',(c.af[k - 1]'(by omega))=p':=⟨_,rfl⟩;rw [KY] at s0 s1 s2 s3 s4 s5;have Gk:=gH KY;have HPE:=gH (show fd p=fd p' by rw [← KY];exact HP.out h0 oF);have v1:IntKind.i64.wrap ((k:Int) - 1)=(k:Int) - 1:=IntWalk.i64_in _ (by omega)
  have v2:(0:Int)≤(k:Int) - 1:=by omega
  have v3:((k:Int) - 1).toNat=k - 1:=by omega
  have v4:(k:Int) - 1 < (c.af.length:Int):=by omega
  have r7:=SW.out.last;have d0:=r7.cell (j:=0) rfl;have d1:=r7.cell (j:=1) rfl;have d2:=r7.cell (j:=2) rfl;have d3:=r7.cell (j:=3) rfl;have d4:=r7.cell (j:=4) rfl;have z7:=r7.1;have CO:=gH (show ∀ x:ii X,Calls Tryz.prog 63 #[.agg #[.string g.aa,.string g.table,.int .i64 g.right,.string g.aC,.string g.to,.bool g.opt]] (bH X x) fun e w''=>e=.returned (.agg #[.string g.aa,.string g.table,.int .i64 g.right,.string g.aC,.string g.to])∧ag (bH X x) w'' from fun x=>Q2 g _);obtain ⟨z,hz⟩:∃ z,cS p' g=z:=⟨_,rfl⟩;have CR:=gH (show ∀ x:ii X,Calls Tryz.prog 65 #[.agg #[.string p'.aa,.string p'.table,.int .i64 p'.right,.string p'.aC,.string p'.to,.bool p'.opt],.agg #[.string g.aa,.string g.table,.int .i64 g.right,.string g.aC,.string g.to,.bool g.opt]] (bH X x) fun e w''=>e=.returned (.int .i64 z)∧ag (bH X x) w'' from fun x=>hz▸Bb p' g _);obtain ⟨fb,hfb⟩:∃ fb,od g.aa g.table g.right g.aC g.to p.aa p.table p.right p.aC p.to=fb:=⟨_,rfl⟩
  have YA:=gH (show (cS p' g=0)↔fb=true from by
   rw [← hfb,Hb,gL,HPE.out,← gL,ES])
  have HZ:=gH hz;clear r7 KY hz
  cases fb
  case true =>
   have HF:=gH (rC c k hlt h0 (by rw [Gk.out,HG.out,YA.out.2 rfl];exact Int.le_refl _));refine av (by kernel_rfl) (by kernel_rfl) ?_
   repeat (go_big_quiet_step (first | (go_at_call 63;exact Calls.bD (CO.out _)) | (go_at_call 65;exact Calls.bD (CR.out _))))
   refine wpQuiet_nil ?_;intro _ hw';obtain ⟨x,hw''⟩:=hw';subst hw'';go_wp2_with fail;go_ret;exact ⟨by rw [HF.out];rfl,(SW.out.to ((ag.refl _).bH x)).az⟩
  have hz0:z≠0:=fun e=>by have:=YA.out.1 (HZ.out.trans e);cases this
  by_cases hzp:(0:Int) < z
  ·have HF:=gH (rC c k hlt h0 (by rw [Gk.out,HG.out,HZ.out];omega))
   clear hz0;refine av (by kernel_rfl) (by kernel_rfl) ?_
   repeat (go_big_quiet_step (first | (go_at_call 63;exact Calls.bD (CO.out _)) | (go_at_call 65;exact Calls.bD (CR.out _))))
   refine wpQuiet_nil ?_;intro _ hw';obtain ⟨x,hw''⟩:=hw';subst hw'';go_wp2_with fail;go_ret;exact ⟨by rw [HF.out];rfl,(SW.out.to ((ag.refl _).bH x)).az⟩
  ·have Q3:=gH (show cS (c.af[k - 1]'(by omega)) c.af[k] < 0 by rw [Gk.out,HG.out,HZ.out];omega)
   clear hz0;refine av (by kernel_rfl) (by kernel_rfl) ?_
   repeat (go_big_quiet_step (first | (go_at_call 63;exact Calls.bD (CO.out _)) | (go_at_call 65;exact Calls.bD (CR.out _))))
   refine wpQuiet_nil ?_;intro _ hw';obtain ⟨x,hw''⟩:=hw';subst hw'';go_wp2_with fail;refine (Q2 g _).mono ?_;rintro e w7 ⟨rfl,a7⟩;have S7:=gH (SW.out.to (((ag.refl _).bH x).trans a7));have r7:=S7.out.last;have d0:=r7.cell (j:=0) rfl;have d1:=r7.cell (j:=1) rfl;have d2:=r7.cell (j:=2) rfl;have d3:=r7.cell (j:=3) rfl;have d4:=r7.cell (j:=4) rfl;have f0:=r7.2.2 0 (by simp);have f1:=r7.2.2 1 (by simp);have f2:=r7.2.2 2 (by simp);have f3:=r7.2.2 3 (by simp);have f4:=r7.2.2 4 (by simp);have z7:=r7.1;clear a7 r7;go_wp2_with fail
   go_roundw
   case rel =>
    refine ⟨k+1,g,by omega,by go_num,⟨(i9 _ _ _ _ _ _ _).aZ S7.out.az (fun _ _ e=>by omega),(i9 _ _ _ _ _ _ _).row S7.out.box (by omega),jg S7.out.last rfl _ _ _ _ _⟩,fun _ h=>by rw [← HG.out];rfl,er (p:=fun j=>∀ (hj:j < c.af.length),iM c c.af[j]=true∧(0 < j→cS (c.af[j - 1]'(by omega)) c.af[j] < 0)) KU.out (fun _=>⟨ET.out,fun _=>Q3.out⟩)⟩
   case measure=>simp [intOf];omega
end Go.Proofs.YtmflccbnoeaafaaGreat
namespace Go.Proofs.YtmflccbnoeaafaaGreat
open Go.RowKit
set_option maxRecDepth 100000
set_option linter.unusedVariables false
set_option maxHeartbeats 64000000
def lH:bW:=⟨0,0,⟨[],[]⟩,⟨[],[]⟩,[]⟩
def laid (l:List cB) (g:cB):List cB:=if mv l g then l.map (fun y=>if jZ y g then { y with opt:=y.opt || g.opt } else y) else bQ l (cN cS l g) g
noncomputable def dX (c:bW) (g:cB):bW × Int :=
 if !dH c || !lh g.right || bk g.aC g.to then (lH,1)
 else if bj c.ai.tables g.aa g.table < 0 then (lH,61)
 else if !dQ c.aj.names g.aC || !dQ c.aj.names g.to then (lH,71)
 else if !fM c c.af g then (lH,91)
 else if decide (64≤c.af.length)&&!mv c.af g then (lH,2)
 else ({ c with af:=laid c.af g },0)
noncomputable def ji (c:bW) (role s n:ByteArray):Bool:=dH c&&(decide (0≤bj c.ai.tables s n)&&dQ c.aj.names role)&&jA c.ai (cT c.aj role) (iK c.ai s n)
noncomputable def pM (c:bW) (role s n:ByteArray) (r:Int):Bool:=dH c&&(decide (0≤bj c.ai.tables s n)&&dQ c.aj.names role)&&lh r&&(jA c.ai (cT c.aj role) (iK c.ai s n) || fC c.af (cT c.aj role) s n r false)
theorem il {l:List cB}:aN cS l=true↔l.Pairwise fun a b=>cS a b < 0:=by
 constructor
 ·exact fun h=>List.pairwise_iff_getElem.2 fun i j hi hj px=>eh mK.lt h i j hi hj px
 ·exact fun h=>(dh _ _).2 fun k hk=>List.pairwise_iff_getElem.1 h k (k+1) (by omega) hk (by omega)
theorem bO {c:bW}:bM c=true↔c.af.length≤64∧(bF c.ai=true∧bN c.aj=true∧dQ c.aj.names dL=true∧iA c=true)∧(∀ g∈c.af,iM c g=true)∧aN cS c.af=true:=by
 unfold bM;simp only [Bool.and_eq_true,decide_eq_true_eq,List.all_eq_true];exact ⟨fun h=>⟨h.1.1.1.1.1,⟨h.1.1.1.1.2,h.1.1.1.2,h.1.1.2,h.1.2⟩,h.2⟩,fun h=>⟨⟨⟨⟨⟨h.1,h.2.1.1⟩,h.2.1.2.1⟩,h.2.1.2.2.1⟩,h.2.1.2.2.2⟩,h.2.2⟩⟩
theorem cZ {c:bW}:dH c=true↔bM c=true∧∀ g∈c.af,Held c g:=by
 unfold dH;rw [Bool.and_eq_true,beq_iff_eq]
 constructor
 ·rintro ⟨h1,h2⟩
  refine ⟨h1,fun g hg=>?_⟩;unfold cH at h2;rw [if_pos h1,List.length_filter_eq_length_iff] at h2;exact iU.1 (h2 g hg)
 ·rintro ⟨h1,h2⟩
  refine ⟨h1,?_⟩;unfold cH;rw [if_pos h1,List.length_filter_eq_length_iff]
  exact fun g hg=>iU.2 (h2 g hg)
theorem sZ {c:bW} (h:bM c=true) {l:List cB} (hl:l.Sublist c.af):bM { c with af:=l }=true:=by
 obtain ⟨h1,h2,h3,h4⟩:=bO.1 h;exact bO.2 ⟨Nat.le_trans hl.length_le h1,h2,fun g hg=>h3 g (hl.subset hg),il.2 ((il.1 h4).sublist hl)⟩
theorem yr {c c':bW} (ho:c'.ai=c.ai) (hr:c'.aj=c.aj) (f:cB→cB) (hf:∀ x∈c.af,f x∈c'.af∧fd (f x)=fd x∧(x.opt=true→(f x).opt=true)):∀ g,Held c g→Held c' (f g):=by
 intro g hg
 induction hg with
 | mk g l hg hl hj ih =>
  obtain ⟨h1,h2,h3⟩:=hf g hg;refine .mk (f g) (l.map f) h1 (fun x hx=>?_) ?_
  ·obtain ⟨y,hy,rfl⟩:=List.mem_map.1 hx
   exact ih y hy
  ·unfold fd at h2
   simp only [Prod.mk.injEq] at h2;obtain ⟨e1,e2,e3,e4,e5⟩:=h2;unfold fM at hj ⊢;rw [ho,hr,e4,e1,e2,e3];rw [Bool.or_eq_true] at hj ⊢
   refine hj.imp id fun hj=>?_
   unfold fC at hj ⊢;rw [List.any_eq_true] at hj ⊢;obtain ⟨x,hx,hx2⟩:=hj;obtain ⟨k1,k2,k3⟩:=hf x (hl x hx).mem;unfold fd at k2;simp only [Prod.mk.injEq] at k2;obtain ⟨d1,d2,d3,d4,d5⟩:=k2;refine ⟨f x,List.mem_map.2 ⟨x,hx,rfl⟩,?_⟩;rw [d1,d2,d3,d5];simp only [Bool.and_eq_true,Bool.not_true,Bool.or_false] at hx2 ⊢;exact ⟨⟨hx2.1.1,k3 hx2.1.2⟩,hx2.2⟩
theorem Be {c:bW} (h:bM c=true):dH { c with af:=cH c }=true:=by
 have hs:cH c=c.af.filter (oc c):=by unfold cH;rw [if_pos h]
 refine cZ.2 ⟨sZ h (by rw [hs];exact List.filter_sublist),fun g YB=>?_⟩
 have YC:g∈c.af.filter (oc c):=by rw [← hs];exact YB
 have hh:=iU.1 (List.mem_filter.1 YC).2;clear YC YB
 induction hh with
 | mk g l hg hl hj ih =>
  refine .mk g l ?_ ih hj
  show g∈cH c
  rw [hs];exact List.mem_filter.2 ⟨hg,iU.2 (.mk g l hg hl hj)⟩
theorem uZ {a b x y:cB} (h1:fd a=fd x) (h2:fd b=fd y):cS a b=cS x y:=by
 unfold fd at h1 h2;simp only [Prod.mk.injEq] at h1 h2;obtain ⟨a1,a2,a3,a4,a5⟩:=h1;obtain ⟨b1,b2,b3,b4,b5⟩:=h2;unfold cS;rw [a1,a2,a3,a4,a5,b1,b2,b3,b4,b5]
theorem qH {c c':bW} (ho:c'.ai=c.ai) (hr:c'.aj=c.aj) {a b:cB} (h:fd a=fd b):iM c' a=iM c b:=by
 unfold fd at h;simp only [Prod.mk.injEq] at h;obtain ⟨a1,a2,a3,a4,a5⟩:=h;unfold iM;rw [ho,hr,a1,a2,a3,a4,a5]
def lI (g y:cB):cB:=if jZ y g then { y with opt:=y.opt || g.opt } else y
theorem lj (g y:cB):fd (lI g y)=fd y:=by unfold lI;split<;>rfl
theorem yt (g y:cB) (h:y.opt=true):(lI g y).opt=true:=by unfold lI;split<;>simp [h]
theorem qI {l:List cB} {g:cB} (h:mv l g=false):∀ y∈l,jZ y g=false:=by
 unfold mv at h;rw [List.any_eq_false] at h
 exact fun y hy=>by simpa using h y hy
theorem j9 {l:List cB} {g:cB} (h:mv l g=false):laid l g=bQ l (cN cS l g) g:=by unfold laid;rw [h];rfl
theorem kf {l:List cB} {g:cB} (h:mv l g=true):laid l g=l.map (lI g):=by unfold laid;rw [h];rfl
theorem yu (l:List cB) (g x:cB) (hx:x∈l):lI g x∈laid l g:=by
 cases h:mv l g
 ·rw [j9 h]
  have:lI g x=x:=by unfold lI;rw [qI h x hx];rfl
  rw [this];exact cj.2 (.inr hx)
 ·rw [kf h];exact List.mem_map.2 ⟨x,hx,rfl⟩
theorem yv {l:List cB} {g x:cB} (h:x∈laid l g):fd x=fd g∨∃ y∈l,x=lI g y:=by
 cases hi:mv l g
 ·rw [j9 hi] at h
  rcases cj.1 h with e | e
  ·exact .inl (by rw [e])
  ·exact .inr ⟨x,e,by unfold lI;rw [qI hi x e];rfl⟩
 ·rw [kf hi] at h
  obtain ⟨y,hy,e⟩:=List.mem_map.1 h;exact .inr ⟨y,hy,e.symm⟩
theorem Bf {l:List cB} {g:cB} (hr:aN cS l=true):aN cS (laid l g)=true:=by
 cases hi:mv l g
 ·rw [j9 hi]
  refine iT mK.lt mK.dU hr fun y hy e=>?_
  have:=qI hi y hy;rw [(jQ _ _).1 e] at this;cases this
 ·rw [kf hi]
  refine il.2 (List.pairwise_map.2 ((il.1 hr).imp fun {a b} h=>?_));rw [uZ (lj g a) (lj g b)];exact h
theorem Hh {l:List cB} {g:cB} (h:l.length≤64) (hn:¬ (64≤l.length∧mv l g=false)):(laid l g).length≤64:=by
 cases hi:mv l g
 ·rw [j9 hi,eI _ _ _ (fD _ _ _)]
  have:¬ 64≤l.length:=fun h=>hn ⟨h,hi⟩
  omega
 ·rw [kf hi];simpa using h
structure Hi (c:bW) (g:cB) (x:bW):Prop where
 whole:dH c=true
 ok:iM c g=true
 just:fM c c.af g=true
 room:¬ (64≤c.af.length∧mv c.af g=false)
 is:x={ c with af:=laid c.af g }
theorem sr {c:bW} {g:cB} (h:(dX c g).2=0):Hi c g (dX c g).1:=by
 unfold dX at h ⊢;by_cases h1:(!dH c || !lh g.right || bk g.aC g.to)=true
 ·rw [if_pos h1] at h;exact absurd h (by decide)
 rw [if_neg h1] at h ⊢;by_cases h2:bj c.ai.tables g.aa g.table < 0
 ·rw [if_pos h2] at h;exact absurd h (by decide)
 rw [if_neg h2] at h ⊢;by_cases h3:(!dQ c.aj.names g.aC || !dQ c.aj.names g.to)=true
 ·rw [if_pos h3] at h;exact absurd h (by decide)
 rw [if_neg h3] at h ⊢;by_cases h4:(!fM c c.af g)=true
 ·rw [if_pos h4] at h;exact absurd h (by decide)
 rw [if_neg h4] at h ⊢;by_cases h5:(decide (64≤c.af.length)&&!mv c.af g)=true
 ·rw [if_pos h5] at h;exact absurd h (by decide)
 rw [if_neg h5];simp only [Bool.or_eq_true,not_or,Bool.not_eq_true,Bool.not_eq_false',Bool.and_eq_true,not_and,decide_eq_true_eq,Bool.not_eq_true',Bool.not_eq_false] at h1 h3 h4 h5;refine ⟨h1.1.1,?_,h4,fun ⟨a,b⟩=>(by have:=h5 a;rw [b] at this;cases this),rfl⟩;unfold iM;rw [h1.1.2,h1.2,h3.1,h3.2,decide_eq_true (show 0≤bj c.ai.tables g.aa g.table by omega)];rfl
theorem Hi.s9 {c:bW} {g:cB} {x:bW} (h:Hi c g x):dH x=true:=by
 obtain ⟨h1,h2⟩:=cZ.1 h.whole;obtain ⟨k1,k2,k3,k4⟩:=bO.1 h1;have hx:=h.is
 have ho:x.ai=c.ai:=by rw [hx]
 have hr:x.aj=c.aj:=by rw [hx]
 have hg:x.af=laid c.af g:=by rw [hx]
 have hm:∀ y∈c.af,Held x (lI g y):=fun y hy=>yr ho hr (lI g) (fun z hz=>⟨by rw [hg];exact yu _ _ _ hz,lj _ _,yt _ _⟩) y (h2 y hy)
 refine cZ.2 ⟨bO.2 ⟨by rw [hg];exact Hh k1 h.room,by rw [hx];exact k2,fun y hy=>?_,by rw [hg];exact Bf k4⟩,fun y hy=>?_⟩
 ·rw [hg] at hy
  rcases yv hy with e | ⟨z,hz,e⟩
  ·rw [qH ho hr e];exact h.ok
  ·rw [qH ho hr (show fd y=fd z by rw [e];exact lj _ _)];exact k3 z hz
 ·rw [hg] at hy
  rcases yv hy with e | ⟨z,hz,e⟩
  ·refine .mk y (c.af.map (lI g)) (by rw [hg];exact hy) (fun v hv=>?_) ?_
   ·obtain ⟨u,hu,rfl⟩:=List.mem_map.1 hv
    exact hm u hu
   ·have hj:=h.just
    unfold fd at e;simp only [Prod.mk.injEq] at e;obtain ⟨e1,e2,e3,e4,e5⟩:=e;unfold fM at hj ⊢;rw [ho,hr,e4,e1,e2,e3];rw [Bool.or_eq_true] at hj ⊢
    refine hj.imp id fun hj=>?_
    unfold fC at hj ⊢;rw [List.any_eq_true] at hj ⊢;obtain ⟨u,hu,wG⟩:=hj;refine ⟨lI g u,List.mem_map.2 ⟨u,hu,rfl⟩,?_⟩;have k:=lj g u;unfold fd at k;simp only [Prod.mk.injEq] at k;obtain ⟨d1,d2,d3,d4,d5⟩:=k;rw [d1,d2,d3,d5];simp only [Bool.and_eq_true,Bool.not_true,Bool.or_false] at wG ⊢;exact ⟨⟨wG.1.1,yt g u wG.1.2⟩,wG.2⟩
  ·rw [e];exact hm z hz
theorem ll {c:bW} {g:cB} (h:iM c g=true):0≤bj c.ai.tables g.aa g.table∧lh g.right=true∧bk g.aC g.to=false∧dQ c.aj.names g.aC=true∧dQ c.aj.names g.to=true:=by
 unfold iM at h;simp only [Bool.and_eq_true,decide_eq_true_eq,Bool.not_eq_true'] at h;exact ⟨h.1.1.1.1,h.1.1.1.2,h.1.1.2,h.1.2,h.2⟩
theorem Hi.more {c:bW} {g:cB} {x:bW} (h:Hi c g x) {role s n:ByteArray} {r:Int} (hm:pM c role s n r=true):pM x role s n r=true:=by
 have ho:x.ai=c.ai:=by rw [h.is]
 have hr:x.aj=c.aj:=by rw [h.is]
 unfold pM at hm ⊢;rw [h.s9,ho,hr];rw [h.whole] at hm;simp only [Bool.and_eq_true,Bool.or_eq_true] at hm ⊢;refine ⟨hm.1,hm.2.imp id fun hg=>?_⟩;unfold fC at hg ⊢;rw [List.any_eq_true] at hg ⊢;obtain ⟨u,hu,wG⟩:=hg;refine ⟨lI g u,by rw [h.is];exact yu _ _ _ hu,?_⟩;have k:=lj g u;unfold fd at k;simp only [Prod.mk.injEq] at k;obtain ⟨d1,d2,d3,d4,d5⟩:=k;rw [d1,d2,d3,d5];simp only [Bool.and_eq_true,Bool.not_false,Bool.or_true] at wG ⊢;exact wG
end Go.Proofs.YtmflccbnoeaafaaGreat
namespace Go.Proofs.YtmflccbnoeaafaaGreat
open Go.RowKit Go.Deep
set_option maxRecDepth 100000
set_option linter.unusedVariables false
set_option maxHeartbeats 64000000
section
variable {P : Program} {k : TypeId} {w w' : World} {b n : Nat} {z : Value} {f : List UInt8 → Value}
theorem eL.Dw {t e:TypeId} (h:eL P k w b n z f) (K:Maps.Keyed P k) (ht:P.underlying t=some (.map k e)) (hz:(zeroValue e).run P w=.ok z w) (key:Value) (s:List UInt8) (hs:keyOf P k key=some (.string s)) :
  (Instr.lookup t (.map (some b)) key false).run P w=.ok (f s) w:=by
 obtain ⟨D,hD,ho,hf⟩:=h;obtain ⟨v,ps,hrun,hv⟩:=ho.lookup K ht hz (zd:=.held z) (zp:=[]) rfl hs;rw [hf] at hv;unfold yw at hv;simp only [Option.some.injEq,Prod.mk.injEq,DataW.held.injEq] at hv;rw [hrun,hv.1]
theorem eL.Wh {t e:TypeId} (h:eL P k w b n z f) (K:Maps.Keyed P k) (ht:P.underlying t=some (.map k e)) (hn:n < maxLen) (key:Value) (s:List UInt8) (hs:keyOf P k key=some (.string s)) (v:Value) :
  ∃ w',(Instr.mapUpdate t (.map (some b)) key v).run P w=.ok () w'∧eL P k w' b (n+1) z (fun x=>if x=s then v else f x)∧w.grownBy w' (some b):=by
 obtain ⟨D,hD,ho,hf⟩:=h;obtain ⟨w',hrun,h1,h2⟩:=ho.update K ht hn hs (val:=v) (d:=.held v) (ps:=[]) rfl;refine ⟨w',hrun,⟨D.put (.string s) (.held v),hD.put _ _,h1,fun x=>?_⟩,h2⟩
 show _=DataW.held (if x=s then v else f x)
 by_cases e:x=s
 ·subst e
  rw [if_pos rfl];exact Maps.atKey_put_same hD (by trivial) _ _
 ·rw [if_neg e,Maps.atKey_put_other (by intro e2;exact e (Lit.string.inj e2))]
  exact hf x
end
def lm (g:cB):Value:=.agg #[.string g.aa,.string g.table,.int .i64 g.right,.string g.aC,.string g.to]
def oh (g:cB):List Lit:=[.string g.aa.data.toList,.string g.table.data.toList,.int .i64 g.right,.string g.aC.data.toList,.string g.to.data.toList]
def jC (g:cB):List UInt8:=keyBytes (oh g)
theorem oN:Maps.Keyed Tryz.prog 114:=Maps.Keyed.of_law (deep_law (m:=3) (by decide) (by kernel_rfl) (by kernel_rfl) (by kernel_rfl))
theorem Hj {P:Program} {t:TypeId} (h:P.underlying t=some .string) (d:Nat) (s:ByteArray) (hs:s.size≤maxLen):P.keyLits (d+1) t [.string s]=some [.string s.data.toList]:=by simp [Program.keyLits,h,hs]
theorem Hk {P:Program} {t:TypeId} {q:IntKind} (h:P.underlying t=some (.int q)) (d:Nat) (n:Int) (hn:(Lit.int q n).wf=true):P.keyLits (d+1) t [.int q n]=some [.int q n]:=by simp [Program.keyLits,h,hn]
theorem EU (g:cB) (h:oL g) (d:Nat):Tryz.prog.keyLits (d+2) 114 [.string g.aa,.string g.table,.int .i64 g.right,.string g.aC,.string g.to]=some (oh g):=by
 have e1:=fun s hs=>Hj Tryz.underlying9 d s hs
 have e2:=Hk Tryz.underlying38 d g.right h.2.2.2.2
 have k1:Tryz.prog.cellsOf 114=5:=by kernel_rfl
 have k2:Tryz.prog.cellsOf 9=1:=by kernel_rfl
 have k3:Tryz.prog.cellsOf 38=1:=by kernel_rfl
 unfold Program.keyLits;simp only [Tryz.underlying114];simp [k1,k2,k3,e1 _ h.1.max,e1 _ h.2.1.max,e1 _ h.2.2.1.max,e1 _ h.2.2.2.1.max,e2,oh]
theorem mN (g:cB) (h:oL g):keyOf Tryz.prog 114 (lm g)=some (.string (jC g)):=by
 obtain ⟨d,hd⟩:∃ d,Tryz.prog.types.size+1=d+2:=⟨Tryz.prog.types.size - 1,by kernel_rfl⟩
 have k:(Tryz.prog.keyType 114&&(lm g).formed Tryz.prog 114)=true:=by
  rw [Bool.and_eq_true];exact ⟨by kernel_rfl,by unfold lm;kernel_rfl⟩
 have e:=EU g h d;unfold keyOf;rw [Tryz.underlying114,hd];simp only [k,if_true];unfold lm;simp only [Value.cells];rw [e];rfl
theorem vd (g h:cB) (hg:oL g) (hh:oL h):jC g=jC h↔fd g=fd h:=by
 constructor
 ·intro e
  have:=keyBytes_inj (l:=oh g) (l':=oh h) (by simp [oh,Alike,Lit.sameKind]) (fun a ha=>?_) (fun a ha=>?_) e
  ·unfold oh at this
   simp only [List.cons.injEq,Lit.string.injEq,Lit.int.injEq,and_true,true_and] at this;obtain ⟨e1,e2,e3,e4,e5⟩:=this;unfold fd;rw [nC e1,nC e2,e3,nC e4,nC e5]
  ·simp only [oh,List.mem_cons,List.not_mem_nil,or_false] at ha
   rcases ha with rfl | rfl | rfl | rfl | rfl
   ·simpa [Lit.keyWf] using hg.1.max
   ·simpa [Lit.keyWf] using hg.2.1.max
   ·exact hg.2.2.2.2
   ·simpa [Lit.keyWf] using hg.2.2.1.max
   ·simpa [Lit.keyWf] using hg.2.2.2.1.max
  ·simp only [oh,List.mem_cons,List.not_mem_nil,or_false] at ha
   rcases ha with rfl | rfl | rfl | rfl | rfl
   ·simpa [Lit.keyWf] using hh.1.max
   ·simpa [Lit.keyWf] using hh.2.1.max
   ·exact hh.2.2.2.2
   ·simpa [Lit.keyWf] using hh.2.2.1.max
   ·simpa [Lit.keyWf] using hh.2.2.2.1.max
 ·intro e
  unfold fd at e;simp only [Prod.mk.injEq] at e;obtain ⟨e1,e2,e3,e4,e5⟩:=e;unfold jC oh;rw [e1,e2,e3,e4,e5]
end Go.Proofs.YtmflccbnoeaafaaGreat
namespace Go.Proofs.YtmflccbnoeaafaaGreat
open Go.RowKit Go.Deep Go.WideElems Go.ChangeMaps
set_option maxRecDepth 100000
set_option linter.unusedVariables false
set_option maxHeartbeats 64000000
section
variable {P : Program} {k : TypeId} {w w' : World} {b n : Nat} {z : Value} {f : List UInt8 → Value}
theorem Hl {b:Nat} {o:Obj} (hb:w.heap[b]? = some o):setBlock w b o=w:=by
 obtain ⟨h1,h2⟩:=Array.getElem?_eq_some_iff.1 hb;unfold setBlock
 have:w.heap.setIfInBounds b o=w.heap:=by
  apply Array.ext
  ·simp
  ·intro i ra qr
   rw [Array.getElem_setIfInBounds qr]
   split
   ·rename_i e;subst e;exact h2.symm
   ·rfl
 rw [this]
theorem Bh {t e:TypeId} (K:WideMaps.KeyLaw P k) (ht:P.underlying t=some (.map k e)) (hz:∀ u:World,(zeroValue e).run P u=.ok z u) {es:Array MapEntry} {clock:Nat} (hb:w.heap[b]? = some (.map es clock)) (F:Fit P k yw es clock) {key:Value} {kl:Lit} (hkey:keyOf P k key=some kl) {v:Value} {w1:World}
  (hE:(Instr.mapEntry t (.map (some b)) key).run P w=.ok v w1):∃ v0,(Instr.lookup t (.map (some b)) key false).run P w=.ok v0 w∧(Instr.lookup t (.map (some b)) key false).run P w1=.ok v0 w1:=by
 have look:∀ (u:World) (l:Array MapEntry) (c:Nat),u.heap[b]? = some (.map l c)→∀ a,(Instr.findKey k key l.toList).run P u=.ok a u→(Instr.lookup t (.map (some b)) key false).run P u=.ok (match a with | some (_,y)=>y | none=>z) u:=fun u l c hu a ha=>by
  cases a with
  | none=>simp [Instr.lookup,run_underlying ht,MapKept.run_getObj_map hu,K.check u _ hkey,ha,hz,Result.andThen]
  | some q=>obtain ⟨j,y⟩:=q;simp [Instr.lookup,run_underlying ht,MapKept.run_getObj_map hu,K.check u _ hkey,ha,Result.andThen]
 rcases K.find w hkey es.toList F.keys with ⟨h1,h2⟩ | ⟨j,e0,h1,h2,h3⟩
 ·have e1:w1=setBlock w b (.map (es.push ⟨key,z,clock⟩) (clock+1)):=by
   simp [Instr.mapEntry,run_underlying ht,MapKept.run_getObj_map hb,K.check w false hkey,h1,hz,MapKept.run_setObj_map _ hb,Result.andThen] at hE;rw [← hE.2];rfl
  have hb1:w1.heap[b]? = some (.map (es.push ⟨key,z,clock⟩) (clock+1)):=by rw [e1];exact heap_setBlock_same hb _
  refine ⟨z,look w es clock hb none h1,?_⟩
  have oF:∀ x∈(es.push ⟨key,z,clock⟩).toList,∃ l,keyOf P k x.key=some l:=fun x hx=>by
   rw [Array.toList_push,List.mem_append,List.mem_singleton] at hx
   rcases hx with hx | rfl
   ·exact F.keys x hx
   ·exact ⟨_,hkey⟩
  rcases K.find w1 hkey _ oF with ⟨g1,g2⟩ | ⟨j',e',g1,g2,g3⟩
  ·exact absurd rfl (g2 ⟨key,z,clock⟩ (by simp))
  ·have hm:e'∈(es.push ⟨key,z,clock⟩).toList:=List.mem_of_getElem? g2
   rw [Array.toList_push,List.mem_append,List.mem_singleton] at hm
   rcases hm with hm | hm
   ·exact absurd g3 (h2 e' hm)
   ·have:=look w1 _ _ hb1 _ g1
    rw [hm] at this;exact this
 ·have hj:es[j]? = some e0:=by simpa using h2
  have Sz:es.modify j (fun e=>{ e with key:=key })=es:=by
   apply Array.ext';rw [Array.toList_modify,modify_eq_set _ _ _ _ h2]
   have:({ e0 with key:=key }:MapEntry)=e0:=by rw [← h3]
   rw [this];exact set_self _ _ _ h2
  have e1:w1=w:=by
   simp [Instr.mapEntry,run_underlying ht,MapKept.run_getObj_map hb,K.check w false hkey,h1,hj,h3,K.stays w hkey,Sz,MapKept.run_setObj_map _ hb,Result.andThen] at hE;rw [← hE.2];exact Hl hb
  subst e1;exact ⟨_,look _ es clock hb _ h1,look _ es clock hb _ h1⟩
theorem eL.entry {t e:TypeId} (h:eL P k w b n z f) (K:WideMaps.KeyLaw P k) (ht:P.underlying t=some (.map k e)) (hz:∀ u:World,(zeroValue e).run P u=.ok z u) (hn:n < maxLen) (key:Value) (s:List UInt8) (hs:keyOf P k key=some (.string s)) (v:Value) :
  ∃ v0 st w1 w2,(Instr.mapEntry t (.map (some b)) key).run P w=.ok (.tuple #[v0,goInt st]) w1∧w.grownBy w1 (some b)∧(Instr.lookup t (.map (some b)) key false).run P w1=.ok (f s) w1 ∧
   (Instr.entryStore t (.map (some b)) (goInt st) v).run P w1=.ok () w2∧eL P k w2 b (n+1) z (fun x=>if x=s then v else f x)∧w.grownBy w2 (some b):=by
 have hl:=h.Dw (Maps.Keyed.of_law K) ht (hz w) key s hs;obtain ⟨w',hrun,hM,hg⟩:=h.Wh (Maps.Keyed.of_law K) ht hn key s hs v;obtain ⟨D,hD,ho,hf⟩:=h;obtain ⟨es,clock,hb,F,hsz,he⟩:=ho;obtain ⟨v0,st,Ve,wH,hE,_,hS⟩:=entry_then_store K ht hz hb F hs;have hb1:(setBlock w b (.map Ve wH)).heap[b]? = some (.map Ve wH):=heap_setBlock_same hb _;obtain ⟨es',clock',hSt,YD⟩:=hS (setBlock w b (.map Ve wH)) v hb1
 have e2:setBlock (setBlock w b (.map Ve wH)) b (.map es' clock')=setBlock w b (.map es' clock'):=by
  unfold setBlock;simp
 have e3:w'=setBlock w b (.map es' clock'):=by
  rw [hrun] at YD
  simpa using YD
 obtain ⟨u0,k1,k2⟩:=Bh K ht hz hb F hs hE
 have e4:u0=f s:=by rw [hl] at k1;simpa using k1.symm
 subst e4;refine ⟨v0,st,_,_,hE,?_,k2,hSt,?_,?_⟩
 ·exact ⟨rfl,rfl,rfl,by simp [setBlock],fun i _ hi=>heap_setBlock_other hb _ (fun e=>hi (by rw [e]))⟩
 ·rw [e2,← e3];exact hM
 ·rw [e2,← e3];exact hg
end
theorem yy:WideMaps.KeyLaw Tryz.prog 114:=deep_law (m:=3) (by decide) (by kernel_rfl) (by kernel_rfl) (by kernel_rfl)
end Go.Proofs.YtmflccbnoeaafaaGreat
namespace Go.Proofs.YtmflccbnoeaafaaGreat
open Go.RowKit Go.Deep
set_option maxRecDepth 100000
set_option linter.unusedVariables false
set_option maxHeartbeats 64000000
theorem pN:(Tryz.prog.info? 106).map (fun i=>(i.zero,i.size,i.bytes))=some (some (.agg #[.string ByteArray.empty,.string ByteArray.empty,.int .i64 0,.string ByteArray.empty,.string ByteArray.empty,.bool false]),6,80):=by kernel_rfl
theorem Dx {ops:Array Oper} {rest:List Oper} {o:Oper} {a:Act} {w:World} {Q:Exit→Act→World→Prop} (hgd:o.guard=none) (s x:Operand)
  (ho:o.op=.call { callee:=.builtin .append,args:=#[s,x],argTypes:=#[30,30] }) (base:Nat) (v:Value) (n:Nat) (xs:List Value) (hs:a.eval s=v) (hown:w.ownsRow base 106 6 v n xs)
  (b:Nat) (y:cB) (hx:a.eval x=.slice (some ⟨b,0,none⟩) 1 1) (hb:w.heap[b]? = some (.cells #[.string y.aa,.string y.table,.int .i64 y.right,.string y.aC,.string y.to,.bool y.opt] 106)) (hn:n≤1000000) (hbase:base≤w.heap.size)
  (h:∀ g cap w',w'.ownsRow base 106 6 (.slice (some ⟨g,0,none⟩) (n+1) cap) (n+1) (xs++cC y)→w.grownBy w' v.ownBlock→(v.ownBlock=some g∨g=w.heap.size)→wpList Tryz.prog ops Q rest (a.put o.dst (.slice (some ⟨g,0,none⟩) (n+1) cap)) w'):wpList Tryz.prog ops Q (o::rest) a w:=by
 obtain ⟨i0,eU,hz0,hz1,hz2⟩:=info_parts pN
 exact wpList_append_lies w hgd s x 30 ho base 106 i0 _ 6 80 Tryz.underlying30 eU hz0 hz1 hz2 rfl (by decide) v n xs hs hown ⟨b,0,none⟩ 1 1 [.string y.aa,.string y.table,.int .i64 y.right,.string y.aC,.string y.to,.bool y.opt] hx rfl (World.news_of_block (cs:=#[.string y.aa,.string y.table,.int .i64 y.right,.string y.aC,.string y.to,.bool y.opt]) (t:=106) (fr:=(0,0)) hb) (by simp [Value.oneCell']) (by omega) (by unfold maxLen;omega) (by omega) hbase _ rfl fun g cap w' h1 h2 h3 _=>h g cap w' h1 h2 h3
end Go.Proofs.YtmflccbnoeaafaaGreat
namespace Go.Proofs.YtmflccbnoeaafaaGreat
open Go.Shelf Go.Proofs
set_option maxRecDepth 100000
set_option linter.unusedVariables false
set_option maxHeartbeats 64000000
def yA:Go.Shelf.Ren:=⟨fun | 6=>64 | 15=>111 | 14=>110 | 28=>182 | 29=>183 | 20=>174 | 21=>175 | 22=>176 | 23=>177 | 24=>178 | 25=>179 | 26=>180 | 27=>181 | 46=>216 | 47=>217 | 48=>218 | 49=>219 | 50=>220 | 57=>249 | n=>n,fun | 22=>30 | 24=>106 | 25=>117 | 3=>3 | 39=>149 | 0=>0 | 53=>208 | 55=>210 | 4=>4 | 46=>202 | 45=>201 | 50=>87 | 5=>5 | 9=>9 | 66=>234 | 70=>238 | 76=>255 | 77=>256 | n=>n,fun | n=>n⟩
theorem wI:Go.Proofs.SlLaysF0.n6 Tryz.prog yA:={
 mixed:=by kernel_rfl
 f6:=⟨Tryz.f64.name,by decide,Tryz.func64.trans (congrArg some (by kernel_rfl))⟩
 f14:=⟨Tryz.f110.name,by decide,Tryz.func110.trans (congrArg some (by kernel_rfl))⟩
 f15:=Tryz.func111.trans (congrArg some (by kernel_rfl))
 f20:=⟨Tryz.f174.name,by decide,Tryz.func174.trans (congrArg some (by kernel_rfl))⟩
 f21:=⟨Tryz.f175.name,by decide,Tryz.func175.trans (congrArg some (by kernel_rfl))⟩
 f22:=⟨Tryz.f176.name,by decide,Tryz.func176.trans (congrArg some (by kernel_rfl))⟩
 f23:=⟨Tryz.f177.name,by decide,Tryz.func177.trans (congrArg some (by kernel_rfl))⟩
 f24:=⟨Tryz.f178.name,by decide,Tryz.func178.trans (congrArg some (by kernel_rfl))⟩
 f25:=⟨Tryz.f179.name,by decide,Tryz.func179.trans (congrArg some (by kernel_rfl))⟩
 f26:=⟨Tryz.f180.name,by decide,Tryz.func180.trans (congrArg some (by kernel_rfl))⟩
 f27:=⟨Tryz.f181.name,by decide,Tryz.func181.trans (congrArg some (by kernel_rfl))⟩
 f28:=Tryz.func182.trans (congrArg some (by kernel_rfl))
 f29:=Tryz.func183.trans (congrArg some (by kernel_rfl))
 f46:=⟨Tryz.f216.name,by decide,Tryz.func216.trans (congrArg some (by kernel_rfl))⟩
 f47:=Tryz.func217.trans (congrArg some (by kernel_rfl))
 f48:=Tryz.func218.trans (congrArg some (by kernel_rfl))
 f49:=⟨Tryz.f219.name,by decide,Tryz.func219.trans (congrArg some (by kernel_rfl))⟩
 f50:=⟨Tryz.f220.name,by decide,Tryz.func220.trans (congrArg some (by kernel_rfl))⟩
 f57:=⟨Tryz.f249.name,by decide,Tryz.func249.trans (congrArg some (by kernel_rfl))⟩
 t0:=Tryz.underlying0
 a0:=Tryz.isAgg0
 z0:=Tryz.sizeOf0
 v0:=Tryz.zeroValue0
 t3:=Tryz.underlying3
 a3:=Tryz.isAgg3
 z3:=Tryz.sizeOf3
 v3:=Tryz.zeroValue3
 t4:=Tryz.underlying4
 a4:=Tryz.isAgg4
 z4:=Tryz.sizeOf4
 v4:=Tryz.zeroValue4
 t5:=Tryz.underlying5
 a5:=Tryz.isAgg5
 z5:=Tryz.sizeOf5
 v5:=Tryz.zeroValue5
 t9:=Tryz.underlying9
 a9:=Tryz.isAgg9
 z9:=Tryz.sizeOf9
 v9:=Tryz.zeroValue9
 t22:=Tryz.underlying30
 a22:=Tryz.isAgg30
 z22:=Tryz.sizeOf30
 v22:=Tryz.zeroValue30
 t25:=Tryz.underlying117
 a25:=Tryz.isAgg117
 z25:=Tryz.sizeOf117
 v25:=Tryz.zeroValue117
 t39:=Tryz.underlying149
 a39:=Tryz.isAgg149
 z39:=Tryz.sizeOf149
 v39:=Tryz.zeroValue149
 t45:=Tryz.underlying201
 a45:=Tryz.isAgg201
 z45:=Tryz.sizeOf201
 v45:=Tryz.zeroValue201
 t46:=Tryz.underlying202
 a46:=Tryz.isAgg202
 z46:=Tryz.sizeOf202
 v46:=Tryz.zeroValue202
 t50:=Tryz.underlying87
 a50:=Tryz.isAgg87
 z50:=Tryz.sizeOf87
 v50:=Tryz.zeroValue87
 t53:=Tryz.underlying208
 a53:=Tryz.isAgg208
 z53:=Tryz.sizeOf208
 v53:=Tryz.zeroValue208
 t55:=Tryz.underlying210
 a55:=Tryz.isAgg210
 z55:=Tryz.sizeOf210
 v55:=Tryz.zeroValue210
 t66:=Tryz.underlying234
 a66:=Tryz.isAgg234
 z66:=Tryz.sizeOf234
 v66:=Tryz.zeroValue234
 t70:=Tryz.underlying238
 a70:=Tryz.isAgg238
 z70:=Tryz.sizeOf238
 v70:=Tryz.zeroValue238
 t76:=Tryz.underlying255
 a76:=Tryz.isAgg255
 z76:=Tryz.sizeOf255
 v76:=Tryz.zeroValue255
 t77:=Tryz.underlying256
 a77:=Tryz.isAgg256
 z77:=Tryz.sizeOf256
 v77:=Tryz.zeroValue256 }
end Go.Proofs.YtmflccbnoeaafaaGreat
namespace Go.Proofs.YtmflccbnoeaafaaGreat
open Go.RowKit Go.Sort Go.Shelf Go.Deep
set_option maxRecDepth 100000
set_option linter.unusedVariables false
set_option maxHeartbeats 64000000
instance:Inhabited cB:=⟨⟨ByteArray.empty,ByteArray.empty,0,ByteArray.empty,ByteArray.empty,false⟩⟩
theorem td (s:cB):∀ u∈cC s,u.oneCell'=true:=by intro u hu;simp only [cC,List.mem_cons,List.not_mem_nil,or_false] at hu;rcases hu with rfl | rfl | rfl | rfl | rfl | rfl<;>simp [Value.oneCell']
theorem Wi:my cS:=⟨mK.lt,mK.dU,fun a b d h=>by
 have:=(gL a b).1 ((jQ a b).1 h);unfold fd at this;simp only [Prod.mk.injEq] at this;obtain ⟨h1,h2,h3,h4,h5⟩:=this;unfold cS
 rw [h1,h2,h3,h4,h5]⟩
theorem Hm (blk cap B:Nat) (l:List cB) (h0:0 < l.length) (hsz:l.length≤1000000) (w:World) (ho:w.ownsRow B 106 6 (.slice (some ⟨blk,0,none⟩) l.length cap) l.length (l.flatMap cC)) :
  Calls Tryz.prog 64 #[.slice (some ⟨blk,0,none⟩) l.length cap,.func (.func 65) #[] #[]] w (gK 106 6 cC cS w B blk cap l) :=
 pH wI 6 Tryz.isAgg106 Tryz.sizeOf106 cC (fun _=>rfl) td cS Wi.swo 65 #[] 106 B blk cap l h0 hsz w ho (enters (P:=Tryz.prog) Tryz.func65 (by kernel_rfl) rfl) (fun W x y=>sW x y W)
theorem Wj (f:Value) (hf:∃ g,f=.func (.func g) #[] #[]) (w:World):Calls Tryz.prog 174 #[.slice none 0 0,.int .i64 0,.int .i64 0,f] w fun e w'=>e=.returned (.tuple #[])∧w=w':=by
 obtain ⟨g,rfl⟩:=hf
 go_enter Tryz.func174,Tryz.ntmps174
 go_wp2_with fail
 go_loopw [8] (fun i wr=>i=.int .i64 1∧wr=w) (fun _ _=>0)
 case atStart=>exact ⟨rfl,rfl⟩
 case round =>
  obtain ⟨rfl,rfl⟩:=hrel;go_wp2_with fail
  go_end0
  exact ⟨rfl,rfl⟩
theorem Oo (w:World):Calls Tryz.prog 183 #[.int .u64 0] w fun e w'=>e=.returned (.int .i64 0)∧w=w':=by
 go_enter Tryz.func183,Tryz.ntmps183
 go_wp2_with fail;go_ret;exact ⟨Eq.trans (b:=.returned (.int .i64 (wrap64 (wrap64 (Lib.len8 0))))) rfl (by rw [show wrap64 (wrap64 (Lib.len8 0))=0 by decide +kernel]),rfl⟩
theorem Wk (w:World):Calls Tryz.prog 111 #[.int .u64 0] w fun e w'=>e=.returned (.int .i64 0)∧w=w':=by
 go_enter Tryz.func111,Tryz.ntmps111
 go_wp2_with fail;refine (Oo w).mono ?_;rintro e w1 ⟨rfl,rfl⟩;go_wp2_with fail;go_ret;exact ⟨by rfl,rfl⟩
theorem Wl (g:FuncId) (w:World):Calls Tryz.prog 110 #[.slice none 0 0,.int .i64 0,.int .i64 0,.int .i64 0,.func (.func g) #[] #[]] w fun e w'=>e=.returned (.tuple #[])∧w=w':=by
 have C:=gH (Wj (.func (.func g) #[] #[]) ⟨g,rfl⟩ w)
 go_enter Tryz.func110,Tryz.ntmps110
 go_wp2_with fail
 go_loopw [1,2,3] (fun a b l wr=>a=.int .i64 0∧b=.int .i64 0∧l=.int .i64 0∧wr=w) (fun _ _ _ _=>0)
 case atStart=>exact ⟨rfl,rfl,rfl,rfl⟩
 case round =>
  obtain ⟨rfl,rfl,rfl,rfl⟩:=hrel;go_wp2_with fail;refine C.out.mono ?_;rintro e w1 ⟨rfl,rfl⟩;go_wp2_with fail;refine bodyPost_ret (results_none rfl _ _ _) rfl ?_;exact ⟨rfl,rfl⟩
theorem SA (g:FuncId) (w:World):Calls Tryz.prog 64 #[.slice none 0 0,.func (.func g) #[] #[]] w fun e w'=>e=.returned (.tuple #[])∧w=w':=by
 go_enter Tryz.func64,Tryz.ntmps64
 go_wp2_with fail;refine (Wk w).mono ?_;rintro e w1 ⟨rfl,rfl⟩;go_wp2_with fail;refine (Wl g w).mono ?_;rintro e w1 ⟨rfl,rfl⟩;go_wp2_with fail
 go_end0
 exact ⟨rfl,rfl⟩
theorem K0 (hd:Hd) (B:Nat) (l:List cB) (hn:l=[]→hd=⟨none,0,0⟩) (hsz:l.length≤1000000) (w:World) (ho:w.ownsRow B 106 6 (.slice hd.a l.length hd.c) l.length (l.flatMap cC)) :
  Calls Tryz.prog 64 #[.slice hd.a l.length hd.c,.func (.func 65) #[] #[]] w fun e w'=>e=.returned (.tuple #[]) ∧
   ∃ l':List cB,l'.Perm l∧(∀ i j (hi:i < l'.length) (hj:j < l'.length),i < j→¬ cS l'[j] l'[i] < 0)∧w'.ownsRow B 106 6 (.slice hd.a l.length hd.c) l.length (l'.flatMap cC)∧∀ W,ag W w→W.heap.size≤B→ag W w':=by
 cases l with
 | nil =>
  obtain rfl:=hn rfl;refine (SA 65 w).mono ?_;rintro e w' ⟨rfl,rfl⟩;exact ⟨rfl,[],.nil,fun i j hi=>absurd hi (by simp),ho,fun W a _=>a⟩
 | cons x l =>
  obtain ⟨g,cap,hv,hB,_⟩:=aR ho (by simp);simp only [Value.slice.injEq] at hv;rw [hv.1] at ho ⊢;refine (Hm g hd.c B (x::l) (by simp) hsz w ho).mono ?_;rintro e w' ⟨rfl,l',h1,h2,h3,h4⟩;exact ⟨rfl,l',h1,h2,h3,fun W a hW=>h4.aZ a fun k hk e=>by omega⟩
end Go.Proofs.YtmflccbnoeaafaaGreat
