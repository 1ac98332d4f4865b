import Derived.Deep.DeepMust
import Derived.Test.YtmflccbnoeaafaaGreatPartC4
namespace Go.Proofs.YtmflccbnoeaafaaGreat
open Go.RowKit Go.Deep
set_option maxRecDepth 100000
set_option linter.unusedVariables false
set_option maxHeartbeats 64000000
theorem nJ {w:World} {cI:List (List Value)} {l:List em} (h:cF w 2 ia cI l):cI.flatten=l.flatMap fP:=fy (fun _ _ h=>h.1) h
theorem nQ {α:Type} {c:α→α→Int} (dU:∀ a b,c a b = - c b a) (l:List α):aN c l=true↔qX c l∧nk (fun a b=>decide (c a b=0)) l:=by
 rw [dh]
 constructor
 ·intro h
  refine ⟨fun k hk=>?_,fun k hk=>?_⟩
  ·have h1:=h k hk
   have h2:=dU l[k+1] (l[k]'(by omega));omega
  ·have h1:=h k hk
   have h2:=dU l[k+1] (l[k]'(by omega));simp only [decide_eq_false_iff_not];omega
 ·intro ⟨h1,h2⟩ k hk
  have h3:=h1 k hk;have h4:=h2 k hk;simp only [decide_eq_false_iff_not] at h4;have h5:=dU l[k+1] (l[k]'(by omega));omega
theorem lX {w:World} {B size n:Nat} {e:TypeId} {v:Value} {xs:List Value} (h:w.ownsRow B e size v n xs):∀ A n c,v=.slice A n c→c≤9223372036854775807:=by
 intro A n c hv
 rcases h.2 with ⟨rfl,_⟩ | ⟨g,cap,cur,rfl,_,_,_,hcm,_⟩
 ·simp only [Value.slice.injEq] at hv;omega
 ·simp only [Value.slice.injEq] at hv
  have:cap≤maxLen:=hcm;unfold maxLen at this;omega
theorem Uy (x y:ByteArray) (bx:Nat) (g:FuncId) (ar:Array Value) (c:ByteArray→ByteArray→Int) (w:World) (hc:w.cell? ⟨bx,0,none⟩=some (.func (.func g) #[] ar)) (bR:∀ (args:Array Value) (w:World),(callFunc g args).run Tryz.prog w=.ok (.enter g args) w)
  (hp:∀ w',ag w w'→Calls Tryz.prog g (#[.string (x),.string (y)]++ar) w' fun e w''=>e=.returned (.int .i64 (c x y))∧ag w' w'') :
  Calls Tryz.prog 187 #[.string (x),.string (y),.pointer (some ⟨bx,0,none⟩)] w fun e w'=>e=.returned (.bool (decide (c x y=0)))∧ag w w':=by
 have HP:=gH hp;have lf:bx < w.heap.size:=World.block_lt_of_cell? _ _ hc
 have Yc:bx < w.heap.size+1:=by omega
 clear hp
 go_enter Tryz.func187,Tryz.ntmps187
 go_wp2_with fail;refine (HP.out _ (ag.refl w)).mono ?_;rintro e w1 ⟨rfl,a1⟩;have HA:=gH ((ag.refl w).trans a1);clear a1;go_wp2_with fail;go_ret;exact ⟨Eq.trans (b:=.returned (.bool _)) rfl (eD (dF (by first | rfl | simp))),HA.out⟩
theorem Mz (A:Option Addr) (cap:Nat) (l:List ByteArray) (g:FuncId) (ar:Array Value) (c:ByteArray→ByteArray→Int) (w:World) (h:aL w 1 dK A cap l) (hb:l.length≤1000000) (dU:∀ a b,c a b = - c b a) (bR:∀ (args:Array Value) (w:World),(callFunc g args).run Tryz.prog w=.ok (.enter g args) w)
  (hp:∀ w' (x y:ByteArray),ag w w'→Calls Tryz.prog g (#[.string (x),.string (y)]++ar) w' fun e w''=>e=.returned (.int .i64 (c x y))∧ag w' w'') :
  Calls Tryz.prog 114 #[.slice A l.length cap,.func (.func g) #[] ar] w fun e w'=>e=.returned (.bool (aN c l))∧ag w w':=by
 have hlen:=h.len;obtain ⟨W,hW⟩:∃ W,W=w.alloc (.cells #[.func (.func g) #[] ar] 131):=⟨_,rfl⟩
 have aW:ag w W:=by rw [hW];exact (ag.refl w).alloc _
 have zW:W.heap.size=w.heap.size+1:=by rw [hW];simp
 have cW:W.cell? ⟨w.heap.size,0,none⟩=some (.func (.func g) #[] ar):=by rw [hW];simp
 have C1:=gH (Mx A cap l g ar c W (aM aW h) bR fun w' a i hi=>hp w' _ _ (aW.trans a));have HH:=gH (And.intro h (And.intro hp (And.intro dU (And.intro aW cW))));have rx:=enters (P:=Tryz.prog) Tryz.func187 (by kernel_rfl) rfl;have hsm:=kP h (P:=fun x:ByteArray=>Small x.size) (fun _ _ h=>h.2);have nU:=gH hsm;clear h hp dU aW hsm
 go_enter Tryz.func114,Tryz.ntmps114
 go_wp2_with fail;rw [← hW];refine C1.out.mono ?_;rintro e w1 ⟨b,rfl,hb1,a1⟩;have HB:=gH hb1;have cG:=gH a1;have Uz:=a1.cell_kept cW;clear hW hb1
 cases b
 ·clear a1 Uz cW
  go_wp2_with fail;go_ret;refine ⟨Eq.trans (b:=.returned (.bool _)) rfl (eD (dF ?_)),HH.out.2.2.2.1.trans cG.out⟩;have:=nQ HH.out.2.2.1 l;have h2:=HB.out
  simp_all
 ·have C2:=gH (iq A cap l w1 w1 (ag.refl _) (aM (HH.out.2.2.2.1.trans a1) HH.out.1) hb)
  clear a1;go_wp2_with fail;refine C2.out.mono ?_;rintro e w2 ⟨v,cI,rfl,a2,ho,hch⟩;rw [fG hch] at ho;obtain ⟨A2,bT,hv⟩:=dw ho;subst hv;have Yd:=a2.cell_kept Uz
  have C3:=gH (Uw (.slice A2 l.length bT) l 187 #[.pointer (some ⟨w.heap.size,0,none⟩)] (fun a b=>decide (c a b=0)) w1.heap.size w2 ho nU.out.1 (lX ho) nU.out.2 rx (fun w' kb x y=>by
   have iH:¬ fN (.slice A2 l.length bT) w.heap.size:=gh ho (by have:=cG.out.size;omega);have ha:ag w w':=kb.aZ ((HH.out.2.2.2.1.trans cG.out).trans a2) (fun g hg=>gh ho (by have:=cG.out.size;omega))
   exact Uy x y w.heap.size g ar c w' (kb.cell Yd iH) bR (fun w'' a=>HH.out.2.1 w'' x y (ha.trans a))))
  have HK:=gH (show ∀ w',Kb (fN (.slice A2 l.length bT)) w2 w'→ag w w' from fun w' kb=>kb.aZ ((HH.out.2.2.2.1.trans cG.out).trans a2) (fun g hg=>gh ho (by have:=cG.out.size;omega)));clear a2 ho hch;go_wp2_with fail;refine C3.out.mono ?_;rintro e w3 ⟨A3,m,c3,rfl,hm,kb⟩;have HM:=gH hm;have iw:=gH (HK.out w3 kb);clear hm kb;go_wp2_with fail;go_ret;refine ⟨Eq.trans (b:=.returned (.bool _)) rfl (eD (dF ?_)),iw.out⟩;have h1:=nQ HH.out.2.2.1 l;have h2:=HB.out.1 (by first | trivial | rfl);have h3:=HM.out;by_cases e:m=l.length
  ·rw [h1.2 ⟨h2,h3.1 e⟩]
   simp [e]
  ·have:aN c l=false:=by
    rw [Bool.eq_false_iff];intro h;exact e (h3.2 (h1.1 h).2)
   rw [this];simp;omega
theorem UA (x y:em) (bx:Nat) (g:FuncId) (ar:Array Value) (c:em→em→Int) (w:World) (hc:w.cell? ⟨bx,0,none⟩=some (.func (.func g) #[] ar)) (bR:∀ (args:Array Value) (w:World),(callFunc g args).run Tryz.prog w=.ok (.enter g args) w)
  (hp:∀ w',ag w w'→Calls Tryz.prog g (#[.agg #[.string (x).role,.string (x).of],.agg #[.string (y).role,.string (y).of]]++ar) w' fun e w''=>e=.returned (.int .i64 (c x y))∧ag w' w'') :
  Calls Tryz.prog 190 #[.agg #[.string (x).role,.string (x).of],.agg #[.string (y).role,.string (y).of],.pointer (some ⟨bx,0,none⟩)] w fun e w'=>e=.returned (.bool (decide (c x y=0)))∧ag w w':=by
 have HP:=gH hp;have lf:bx < w.heap.size:=World.block_lt_of_cell? _ _ hc
 have Yc:bx < w.heap.size+1:=by omega
 clear hp
 go_enter Tryz.func190,Tryz.ntmps190
 go_wp2_with fail;refine (HP.out _ (((ag.refl w).alloc _).alloc _)).mono ?_;rintro e w1 ⟨rfl,a1⟩;have HA:=gH ((((ag.refl w).alloc _).alloc _).trans a1);clear a1;go_wp2_with fail;go_ret;exact ⟨Eq.trans (b:=.returned (.bool _)) rfl (eD (dF (by first | rfl | simp))),HA.out⟩
theorem MA (A:Option Addr) (cap:Nat) (l:List em) (g:FuncId) (ar:Array Value) (c:em→em→Int) (w:World) (h:aL w 2 ia A cap l) (hb:l.length≤1000000) (dU:∀ a b,c a b = - c b a) (bR:∀ (args:Array Value) (w:World),(callFunc g args).run Tryz.prog w=.ok (.enter g args) w)
  (hp:∀ w' (x y:em),ag w w'→Calls Tryz.prog g (#[.agg #[.string (x).role,.string (x).of],.agg #[.string (y).role,.string (y).of]]++ar) w' fun e w''=>e=.returned (.int .i64 (c x y))∧ag w' w'') :
  Calls Tryz.prog 115 #[.slice A l.length cap,.func (.func g) #[] ar] w fun e w'=>e=.returned (.bool (aN c l))∧ag w w':=by
 have hlen:=h.len;obtain ⟨W,hW⟩:∃ W,W=w.alloc (.cells #[.func (.func g) #[] ar] 154):=⟨_,rfl⟩
 have aW:ag w W:=by rw [hW];exact (ag.refl w).alloc _
 have zW:W.heap.size=w.heap.size+1:=by rw [hW];simp
 have cW:W.cell? ⟨w.heap.size,0,none⟩=some (.func (.func g) #[] ar):=by rw [hW];simp
 have C1:=gH (My A cap l g ar c W (bJ aW h) bR fun w' a i hi=>hp w' _ _ (aW.trans a));have HH:=gH (And.intro h (And.intro hp (And.intro dU (And.intro aW cW))));have rx:=enters (P:=Tryz.prog) Tryz.func190 (by kernel_rfl) rfl;have hsm:=kP h (P:=fun x:em=>Small x.role.size∧Small x.of.size) (fun _ _ h=>h.2);have nU:=gH hsm;clear h hp dU aW hsm
 go_enter Tryz.func115,Tryz.ntmps115
 go_wp2_with fail;rw [← hW];refine C1.out.mono ?_;rintro e w1 ⟨b,rfl,hb1,a1⟩;have HB:=gH hb1;have cG:=gH a1;have Uz:=a1.cell_kept cW;clear hW hb1
 cases b
 ·clear a1 Uz cW
  go_wp2_with fail;go_ret;refine ⟨Eq.trans (b:=.returned (.bool _)) rfl (eD (dF ?_)),HH.out.2.2.2.1.trans cG.out⟩;have:=nQ HH.out.2.2.1 l;have h2:=HB.out
  simp_all
 ·have C2:=gH (nI A cap l w1 w1 (ag.refl _) (bJ (HH.out.2.2.2.1.trans a1) HH.out.1) hb)
  clear a1;go_wp2_with fail;refine C2.out.mono ?_;rintro e w2 ⟨v,cI,rfl,a2,ho,hch⟩;rw [nJ hch] at ho;obtain ⟨A2,bT,hv⟩:=dw ho;subst hv;have Yd:=a2.cell_kept Uz
  have C3:=gH (Ux (.slice A2 l.length bT) l 190 #[.pointer (some ⟨w.heap.size,0,none⟩)] (fun a b=>decide (c a b=0)) w1.heap.size w2 ho nU.out.1 (lX ho) nU.out.2 rx (fun w' kb x y=>by
   have iH:¬ fN (.slice A2 l.length bT) w.heap.size:=gh ho (by have:=cG.out.size;omega);have ha:ag w w':=kb.aZ ((HH.out.2.2.2.1.trans cG.out).trans a2) (fun g hg=>gh ho (by have:=cG.out.size;omega))
   exact UA x y w.heap.size g ar c w' (kb.cell Yd iH) bR (fun w'' a=>HH.out.2.1 w'' x y (ha.trans a))))
  have HK:=gH (show ∀ w',Kb (fN (.slice A2 l.length bT)) w2 w'→ag w w' from fun w' kb=>kb.aZ ((HH.out.2.2.2.1.trans cG.out).trans a2) (fun g hg=>gh ho (by have:=cG.out.size;omega)));clear a2 ho hch;go_wp2_with fail;refine C3.out.mono ?_;rintro e w3 ⟨A3,m,c3,rfl,hm,kb⟩;have HM:=gH hm;have iw:=gH (HK.out w3 kb);clear hm kb;go_wp2_with fail;go_ret;refine ⟨Eq.trans (b:=.returned (.bool _)) rfl (eD (dF ?_)),iw.out⟩;have h1:=nQ HH.out.2.2.1 l;have h2:=HB.out.1 (by first | trivial | rfl);have h3:=HM.out;by_cases e:m=l.length
  ·rw [h1.2 ⟨h2,h3.1 e⟩]
   simp [e]
  ·have:aN c l=false:=by
    rw [Bool.eq_false_iff];intro h;exact e (h3.2 (h1.1 h).2)
   rw [this];simp;omega
end Go.Proofs.YtmflccbnoeaafaaGreat
namespace Go.Proofs.YtmflccbnoeaafaaGreat
open Go.RowKit
set_option maxRecDepth 100000
set_option linter.unusedVariables false
set_option maxHeartbeats 64000000
theorem mX (a b:ByteArray):bk a b=bk b a:=by
 unfold bk;rw [Bool.eq_iff_iff];simp;exact eq_comm
theorem qL {a b c:ByteArray} (h:bk a b=true) (h2:bk b c=true):bk a c=true:=by
 unfold bk at *;simp at *;rw [h,h2]
theorem tI (A:Option Addr) (cap:Nat) (l:List ByteArray) (name:ByteArray) (w:World) (h:aL w 1 dK A cap l) :
  Calls Tryz.prog 40 #[.slice A l.length cap,.string name] w fun e w'=>e=.returned (.int .i64 (bK (fun c=>bk c name) l))∧w=w':=by
 have hlen:=h.len
 go_enter Tryz.func40,Tryz.ntmps40
 go_wp2_with fail
 go_loop [8] (fun i=>∃ k:Nat,k≤l.length∧i=.int .i64 k∧∀ j,j < k→∀ (hj:j < l.length),bk l[j] name=false) (fun i=>l.length - (intOf i).toNat)
 case atStart=>exact ⟨0,Nat.zero_le _,rfl,fun j hj=>absurd hj (Nat.not_lt_zero j)⟩
 case round =>
  obtain ⟨k,hk,rfl,hp⟩:=hrel;have HP:=gH hp;clear hp;by_cases hlt:k < l.length
  ·obtain ⟨b,off,rfl,hb,c0,hs⟩:=gw h hlt
   cases heq:bk l[k] name
   ·have h2:(name.toList==l[k].toList)=false:=(mX _ _).trans heq
    have HN:=gH (er (p:=fun j=>∀ (hj:j < l.length),bk l[j] name=false) HP.out (fun _=>heq));clear heq;go_wp2_with fail
    go_round
    case rel=>exact ⟨k+1,by omega,by go_num,HN.out⟩
    case measure=>simp [intOf];omega
   ·have h2:(name.toList==l[k].toList)=true:=(mX _ _).trans heq
    have HQ:=gH heq;clear heq;go_wp2_with fail;go_ret;have heq:=HQ.out;exact ⟨by rw [fR (fun c=>bk c name) l k hlt heq (fun i hi=>HP.out i hi (by omega))];rfl,rfl⟩
  ·go_wp2_with fail
   go_ret;exact ⟨by rw [gJ (fun c=>bk c name) l (fun i hi=>HP.out i (by omega) hi)];rfl,rfl⟩
theorem gY {α:Type} (p:α→Bool) (l:List α) (q:Nat) (hq:q < l.length) (h:bK p l=q):p l[q]=true:=by
 induction l generalizing q with
 | nil=>simp at hq
 | cons x l ih =>
  simp only [bK] at h;by_cases hx:p x=true
  ·rw [if_pos hx] at h
   have:q=0:=by omega
   subst this;simpa using hx
  ·rw [if_neg hx] at h
   by_cases hy:bK p l < 0
   ·rw [if_pos hy] at h;omega
   ·rw [if_neg hy] at h
    cases q with
    | zero=>omega
    | succ q=>simpa using ih q (by simpa using hq) (by omega)
theorem all_false {α:Type} (p:α→Bool) (l:List α) (k:Nat) (hk:k < l.length) (h:p l[k]=false):l.all p=false:=by
 rw [Bool.eq_false_iff];intro ha;have:=List.all_eq_true.1 ha l[k] (List.getElem_mem hk);rw [h] at this;cases this
theorem all_true {α:Type} (p:α→Bool) (l:List α) (h:∀ k (hk:k < l.length),p l[k]=true):l.all p=true:=by
 rw [List.all_eq_true];intro x hx;obtain ⟨i,hi,rfl⟩:=List.getElem_of_mem hx;exact h i hi
def VO (a b:ByteArray):Bool:=Op.bytesLess a.toList b.toList
theorem Eh:∀ (a b:List UInt8),decide (Lib.compareBytes a b < 0)=Op.bytesLess a b
 | [],[]=>rfl
 | [],_::_=>rfl
 | _::_,[]=>rfl
 | x::a,y::b=>by
  unfold Lib.compareBytes Op.bytesLess;by_cases h:x < y
  ·simp [h]
  ·by_cases h2:y < x
   ·have h3:¬ x=y:=fun e=>by subst e;exact UInt8.lt_irrefl _ h2
    simp [h,h2,h3]
   ·have h3:x=y:=UInt8.le_antisymm (UInt8.not_lt.1 h2) (UInt8.not_lt.1 h)
    subst h3;have:=Eh a b;simp [UInt8.lt_irrefl,this]
theorem pK:∀ (a b:List UInt8),(Lib.compareBytes a b=0)↔a=b
 | [],[]=>by simp [Lib.compareBytes]
 | [],_::_=>by simp [Lib.compareBytes]
 | _::_,[]=>by simp [Lib.compareBytes]
 | x::a,y::b=>by
  unfold Lib.compareBytes;by_cases h:x < y
  ·have h3:¬ x=y:=fun e=>by subst e;exact UInt8.lt_irrefl _ h
   simp [h,h3]
  ·by_cases h2:y < x
   ·have h3:¬ x=y:=fun e=>by subst e;exact UInt8.lt_irrefl _ h2
    simp [h,h2,h3]
   ·have h3:x=y:=UInt8.le_antisymm (UInt8.not_lt.1 h2) (UInt8.not_lt.1 h)
    subst h3;have:=pK a b;simp [UInt8.lt_irrefl,this]
theorem wa:∀ (a b:List UInt8),Lib.compareBytes a b = - Lib.compareBytes b a
 | [],[]=>rfl
 | [],_::_=>rfl
 | _::_,[]=>rfl
 | x::a,y::b=>by
  unfold Lib.compareBytes;by_cases h:x < y
  ·have h2:¬ y < x:=UInt8.lt_asymm h
   simp [h,h2]
  ·by_cases h2:y < x
   ·simp [h,h2]
   ·simp [h,h2];exact wa a b
theorem ua:∀ (a b c:List UInt8),Lib.compareBytes a b < 0→Lib.compareBytes b c < 0→Lib.compareBytes a c < 0
 | [],[],c=>fun h=>by simp [Lib.compareBytes] at h
 | [],_::_,[]=>fun _ h=>by simp [Lib.compareBytes] at h
 | [],_::_,_::_=>fun _ _=>by simp [Lib.compareBytes]
 | _::_,[],c=>fun h=>by simp [Lib.compareBytes] at h
 | _::_,_::_,[]=>fun _ h=>by simp [Lib.compareBytes] at h
 | x::a,y::b,z::c=>by
  unfold Lib.compareBytes;intro h1 h2;by_cases xy:x < y
  ·by_cases yz:y < z
   ·have:=UInt8.lt_trans xy yz;simp [this]
   ·simp only [yz,if_false] at h2
    by_cases zy:z < y
    ·simp [zy] at h2
    ·have e:y=z:=UInt8.le_antisymm (UInt8.not_lt.1 zy) (UInt8.not_lt.1 yz)
     subst e;simp [xy]
  ·simp only [xy,if_false] at h1
   by_cases yx:y < x
   ·simp [yx] at h1
   ·have e:x=y:=UInt8.le_antisymm (UInt8.not_lt.1 yx) (UInt8.not_lt.1 xy)
    subst e;simp only [yx,if_false] at h1;by_cases yz:x < z
    ·simp [yz]
    ·simp only [yz,if_false] at h2 ⊢
     by_cases zy:z < x
     ·simp [zy] at h2
     ·simp only [zy,if_false] at h2 ⊢
      exact ua a b c h1 h2
theorem MB (a b:ByteArray):decide (bw a b < 0)=VO a b:=by
 unfold bw VO;rw [Lib.toList_data,Lib.toList_data];exact Eh _ _
theorem gu (a b:ByteArray):(bw a b=0)↔bk a b=true:=by
 unfold bw bk;rw [Lib.toList_data,Lib.toList_data,pK];simp
theorem li (a b:ByteArray):bw a b = - bw b a:=wa _ _
theorem lG {a b c:ByteArray} (h1:bw a b < 0) (h2:bw b c < 0):bw a c < 0:=ua _ _ _ h1 h2
end Go.Proofs.YtmflccbnoeaafaaGreat
namespace Go.Proofs.YtmflccbnoeaafaaGreat
open Go.RowKit Go.Deep
set_option maxRecDepth 100000
set_option linter.unusedVariables false
set_option maxHeartbeats 64000000
theorem iV {α:Type} (p:α→Bool) (l:List α):decide (0≤bK p l)=l.any p:=by
 induction l with
 | nil=>rfl
 | cons x l ih =>
  rw [List.any_cons,← ih]
  show decide (0≤(if p x then (0:Int) else if bK p l < 0 then -1 else bK p l+1))=_
  cases h:p x
  ·simp only [Bool.false_or]
   by_cases h2:bK p l < 0
   ·simp [h2]
   ·simp [h2];omega
  ·simp
theorem fY (A:Option Addr) (cap:Nat) (l:List ByteArray) (name:ByteArray) (w:World) (h:aL w 1 dK A cap l) :
  Calls Tryz.prog 18 #[.slice A l.length cap,.string name] w fun e w'=>e=.returned (.bool (l.any fun c=>bk c name))∧w=w':=by
 have C:=gH (tI A cap l name w h);have HE:=gH (iV (fun c=>bk c name) l);obtain ⟨i,hi⟩:∃ i,bK (fun c=>bk c name) l=i:=⟨_,rfl⟩;rw [hi] at C HE;clear hi
 go_enter Tryz.func18,Tryz.ntmps18
 go_wp2_with fail;refine C.out.mono ?_;rintro e w1 ⟨rfl,rfl⟩;go_wp2_with fail;go_ret;exact ⟨by rw [← HE.out];rfl,rfl⟩
open Classical in
noncomputable def dI (ms:List em) (s t:ByteArray):Bool:=decide (Reach ms (txt s) (txt t))
def dQ (l:List ByteArray) (s:ByteArray):Bool:=l.any fun c=>bk c s
noncomputable def np (r:fX) (m:em):Bool:=dQ r.names m.role&&dQ r.names m.of&&!dI r.members m.of m.role
noncomputable def bN (r:fX):Bool:=decide (r.names.length≤16)&&decide (r.members.length≤256)&&aN bw r.names&&aN eV r.members&&(r.names.all bP&&r.members.all (np r))
theorem wd (a b:em):eV a b = - eV b a:=by
 unfold eV iQ;have h1:=li a.role b.role;have h2:=li a.of b.of;by_cases e:bw a.role b.role=0
 ·have e2:bw b.role a.role=0:=by omega
  simp [e,e2];exact h2
 ·have e2:¬ bw b.role a.role=0:=by omega
  simp [e,e2];exact h1
theorem qj {w w':World} {ms:List em} {s':ByteArray} {bf:Nat} {c:dR→Nat} {n:Nat} (M:eL Tryz.prog 9 w bf n (.int .i64 0) (nY c)) (a:ag w w') (hc:∀ s,0 < c s↔Reach ms (txt s') s) (t:ByteArray) (ht:t.size≤maxLen) :
  (Instr.lookup 121 (.map (some bf)) (.string t) false).run Tryz.prog w'=.ok (.int .i64 (c (txt t))) w'∧decide ((0:Int) < c (txt t))=dI ms s' t :=
 ⟨(M.az a).look Tryz.underlying9 Tryz.underlying121 (qd w') t ht,by
  unfold dI;have:=hc (txt t);by_cases h:Reach ms (txt s') (txt t)
  ·simp [h,this.2 h]
  ·have h2:¬ 0 < c (txt t):=fun h3=>h (this.1 h3)
   simp [h];omega⟩
theorem JT (r:fX) (An:Option Addr) (aI:Nat) (Am:Option Addr) (aK:Nat) (w:World) (hn:aL w 1 dK An aI r.names) (hm:aL w 2 ia Am aK r.members) :
  Calls Tryz.prog 68 #[.agg #[.slice An r.names.length aI,.slice Am r.members.length aK]] w fun e w'=>e=.returned (.bool (bN r))∧ag w w':=by
 have hlen:=hn.len;have fl:=hm.len
 have l1:w.heap.size < w.heap.size+1:=by omega
 by_cases h1:r.names.length≤16
 case neg =>
  have HF:=gH (show bN r=false by unfold bN;simp [h1])
  have hi:(16:Int) < (r.names.length:Int):=by omega
  go_enter Tryz.func68,Tryz.ntmps68
  go_wp2_with fail;go_ret;exact ⟨by rw [HF.out];rfl,(ag.refl _).alloc _⟩
 by_cases h2:r.members.length≤256
 case neg =>
  have HF:=gH (show bN r=false by unfold bN;simp [h2])
  have hi:¬ (16:Int) < (r.names.length:Int):=by omega
  have qr:(256:Int) < (r.members.length:Int):=by omega
  go_enter Tryz.func68,Tryz.ntmps68
  go_wp2_with fail;go_ret;exact ⟨by rw [HF.out];rfl,(ag.refl _).alloc _⟩
 have hi:¬ (16:Int) < (r.names.length:Int):=by omega
 have qr:¬ (256:Int) < (r.members.length:Int):=by omega
 obtain ⟨W,hW⟩:∃ W,W=w.alloc (.cells #[.slice An r.names.length aI,.slice Am r.members.length aK] 29):=⟨_,rfl⟩
 have aW:ag w W:=by rw [hW];exact (ag.refl w).alloc _
 have r0:∀ w',ag W w'→(w'.cell? ⟨w.heap.size,0,none⟩=some (.slice An r.names.length aI)∧w'.cell? ⟨w.heap.size,1,none⟩=some (.slice Am r.members.length aK)∧w.heap.size < w'.heap.size):=fun w' a=>by
  rw [hW] at a;obtain ⟨hb,_,hz,_,_⟩:=cJ a;exact ⟨by rw [hb];rfl,by rw [hb];rfl,hz.1⟩
 have UB:=enters (P:=Tryz.prog) Tryz.func83 (by kernel_rfl) rfl;have UC:=enters (P:=Tryz.prog) Tryz.func116 (by kernel_rfl) rfl;have C1:=gH (fun w' (a:ag w w')=>Mz An aI r.names 83 #[] bw w' (aM a hn) (by omega) li UB fun w'' x y _=>(ik x y w'').mono fun e w3 ⟨he,hw⟩=>⟨he,hw▸ag.refl _⟩);have C2:=gH (fun w' (a:ag w w')=>MA Am aK r.members 116 #[] eV w' (bJ a hm) (by omega) wd UC fun w'' x y _=>CX x y w'');obtain ⟨b1,hb1⟩:∃ b,aN bw r.names=b:=⟨_,rfl⟩;obtain ⟨b2,hb2⟩:∃ b,aN eV r.members=b:=⟨_,rfl⟩;rw [hb1] at C1;rw [hb2] at C2;have Im:=gH (show bN r=(b1&&b2&&(r.names.all bP&&r.members.all (np r))) by unfold bN;simp [h1,h2,hb1,hb2]);have je:=gH r0;have br:=gH aW;have NW:=gH (And.intro hn hm);clear hb1 hb2 r0 aW hn hm
 go_enter Tryz.func68,Tryz.ntmps68
 go_wp2_with fail;rw [← hW];clear hW;refine (C1.out W br.out).mono ?_;rintro e w1 ⟨rfl,a1⟩;have cG:=gH a1;obtain ⟨e0,e1,e2⟩:=je.out w1 a1;clear a1
 cases b1
 ·have HF:=gH (show bN r=false by rw [Im.out];rfl)
  go_wp2_with fail;go_ret;exact ⟨by rw [HF.out];rfl,br.out.trans cG.out⟩
 go_wp2_with fail;refine (C2.out w1 (br.out.trans cG.out)).mono ?_;rintro e w2 ⟨rfl,a2⟩;have fx:=gH (cG.out.trans a2);clear a2 e0 e1 e2;obtain ⟨e0,e1,e2⟩:=je.out w2 fx.out
 cases b2
 ·have HF:=gH (show bN r=false by rw [Im.out];rfl)
  go_wp2_with fail;go_ret;exact ⟨by rw [HF.out];rfl,br.out.trans fx.out⟩
 go_wp2_with fail
 go_loopw [32] (fun i wr=>∃ k:Nat,k≤r.names.length∧i=.int .i64 k∧ag W wr∧∀ j,j < k→∀ (hj:j < r.names.length),bP r.names[j]=true) (fun i _=>r.names.length - (intOf i).toNat)
 case atStart=>exact ⟨0,Nat.zero_le _,rfl,fx.out,fun j hj=>absurd hj (Nat.not_lt_zero j)⟩
 case round =>
  clear e0 e1 e2;obtain ⟨k,hk,rfl,ha,hp⟩:=hrel;have HA:=gH ha;have HP:=gH hp;obtain ⟨e0,e1,e2⟩:=je.out wr ha;clear ha hp;by_cases hlt:k < r.names.length
  ·obtain ⟨b,off,rfl,hb,c0,hs⟩:=gw (aM (br.out.trans HA.out) NW.out.1) hlt
   obtain ⟨x,hx⟩:∃ x,r.names[k]=x:=⟨_,rfl⟩;rw [hx] at c0 hs;obtain ⟨q,hq⟩:∃ q,bP x=q:=⟨_,rfl⟩;have HQ:=gH (show bP r.names[k]=q by rw [hx];exact hq);have CN:=gH (hq▸cz x wr hs.max);clear hx hq;go_wp2_with fail;refine CN.out.mono ?_;rintro e w3 ⟨rfl,rfl⟩
   cases q
   ·have HF:=gH (show bN r=false by rw [Im.out,all_false _ _ k hlt HQ.out];rfl)
    go_wp2_with fail;go_ret;exact ⟨by rw [HF.out];rfl,br.out.trans HA.out⟩
   ·go_wp2_with fail
    go_roundw
    case rel=>exact ⟨k+1,by omega,by go_num,HA.out,er (p:=fun j=>∀ (hj:j < r.names.length),bP r.names[j]=true) HP.out (fun _=>HQ.out)⟩
    case measure=>simp [intOf];omega
  ·have HN:=gH (show r.names.all bP=true from all_true _ _ fun j hj=>HP.out j (by omega) hj)
   go_wp2_with fail
   go_loopw [43] (fun i wr=>∃ k:Nat,k≤r.members.length∧i=.int .i64 k∧ag W wr∧∀ j,j < k→∀ (hj:j < r.members.length),np r r.members[j]=true) (fun i _=>r.members.length - (intOf i).toNat)
   case atStart=>exact ⟨0,Nat.zero_le _,rfl,HA.out,fun j hj=>absurd hj (Nat.not_lt_zero j)⟩
   case round =>
    clear e0 e1 e2;obtain ⟨k,hk,rfl,ha,hp⟩:=hrel;have HA:=gH ha;have HP:=gH hp;obtain ⟨e0,e1,e2⟩:=je.out wr ha;clear ha hp;by_cases hlt:k < r.members.length
    ·obtain ⟨b,off,rfl,hb,t0,t1,hs1,hs2⟩:=ku (bJ (br.out.trans HA.out) NW.out.2) hlt
     obtain ⟨m,Q4⟩:∃ m,r.members[k]=m:=⟨_,rfl⟩;rw [Q4] at t0 t1 hs1 hs2;obtain ⟨X,hX⟩:∃ X,X=wr.alloc (.cells #[.string m.role,.string m.of] 103):=⟨_,rfl⟩
     have aX:ag wr X:=by rw [hX];exact (ag.refl _).alloc _
     have x0:X.cell? ⟨wr.heap.size,0,none⟩=some (.string m.role):=by rw [hX];simp
     have x1:X.cell? ⟨wr.heap.size,1,none⟩=some (.string m.of):=by rw [hX];simp
     have x2:wr.heap.size < X.heap.size:=by rw [hX];simp
     have x3:w.heap.size < X.heap.size:=by omega
     have x4:=aX.cell_kept e0;have x5:=aX.cell_kept e1;have NX:=gH ((br.out.trans HA.out).trans aX);have Ye:=gH (HA.out.trans aX);have HMM:=gH Q4;obtain ⟨i1,ra⟩:∃ i,dQ r.names m.role=i:=⟨_,rfl⟩;obtain ⟨i2,Qq⟩:∃ i,dQ r.names m.of=i:=⟨_,rfl⟩;have K1:=gH (show ∀ w',ag X w'→Calls Tryz.prog 18 #[.slice An r.names.length aI,.string m.role] w' fun e w''=>e=.returned (.bool i1)∧w'=w'' from fun w' a=>ra▸fY An aI r.names m.role w' (aM (NX.out.trans a) NW.out.1));have K2:=gH (show ∀ w',ag X w'→Calls Tryz.prog 18 #[.slice An r.names.length aI,.string m.of] w' fun e w''=>e=.returned (.bool i2)∧w'=w'' from fun w' a=>Qq▸fY An aI r.names m.of w' (aM (NX.out.trans a) NW.out.1));have K3:=gH (show ∀ w',ag X w'→Calls Tryz.prog 69 #[.agg #[.slice An r.names.length aI,.slice (some ⟨b,off,none⟩) r.members.length aK],.string m.of] w' (Ql w' r.members m.of) from fun w' a=>xD r An aI _ aK m.of w' (bJ (NX.out.trans a) NW.out.2) hs2);have ET:=gH (show np r r.members[k]=(i1&&i2&&!dI r.members m.of m.role) by unfold np;rw [Q4,ra,Qq]);have KS:=gH (show ∀ w',ag X w'→(ag X w'∧w'.cell? ⟨w.heap.size,0,none⟩=some (.slice An r.names.length aI)∧w'.cell? ⟨w.heap.size,1,none⟩=some (.slice (some ⟨b,off,none⟩) r.members.length aK)∧w'.cell? ⟨wr.heap.size,0,none⟩=some (.string m.role)∧w'.cell? ⟨wr.heap.size,1,none⟩=some (.string m.of)) from fun w' a=>⟨a,a.cell_kept x4,a.cell_kept x5,a.cell_kept x0,a.cell_kept x1⟩);clear Q4 ra Qq aX
     cases i1
     ·have HF:=gH (show bN r=false by rw [Im.out,all_false (np r) r.members k hlt (by rw [ET.out];rfl)];simp)
      go_wp2_with fail;rw [← hX];clear hX;refine av (by kernel_rfl) (by kernel_rfl) ?_
      repeat (go_big_quiet_step ((go_at_call 18;exact Calls.bD ((K1.out _ ((ag.refl X).bH _)).mono fun e w'' ⟨he,hw⟩=>⟨he,hw▸ag.refl _⟩))))
      refine wpQuiet_nil ?_;intro _ hw';obtain ⟨y,hw''⟩:=hw';subst hw'';go_wp2_with fail;go_ret;exact ⟨by rw [HF.out];rfl,NX.out.bH y⟩
     cases i2
     ·have HF:=gH (show bN r=false by rw [Im.out,all_false (np r) r.members k hlt (by rw [ET.out];rfl)];simp)
      go_wp2_with fail;rw [← hX];clear hX;refine av (by kernel_rfl) (by kernel_rfl) ?_
      repeat (go_big_quiet_step ((go_at_call 18;first | exact Calls.bD ((K1.out _ ((ag.refl X).bH _)).mono fun e w'' ⟨he,hw⟩=>⟨he,hw▸ag.refl _⟩) | exact Calls.bD ((K2.out _ ((ag.refl X).bH _)).mono fun e w'' ⟨he,hw⟩=>⟨he,hw▸ag.refl _⟩))))
      refine wpQuiet_nil ?_;intro _ hw';obtain ⟨y,hw''⟩:=hw';subst hw'';go_wp2_with fail;go_ret;exact ⟨by rw [HF.out];rfl,NX.out.bH y⟩
     go_wp2_with fail;rw [← hX];clear hX
     go_region_held3 (fun w'=>ag X w'∧w'.cell? ⟨w.heap.size,0,none⟩=some (.slice An r.names.length aI)∧w'.cell? ⟨w.heap.size,1,none⟩=some (.slice (some ⟨b,off,none⟩) r.members.length aK)∧w'.cell? ⟨wr.heap.size,0,none⟩=some (.string m.role)∧w'.cell? ⟨wr.heap.size,1,none⟩=some (.string m.of))
      (first | exact KS.out _ (ag.refl _).drew | exact KS.out _ (And.left (by assumption)) | exact KS.out _ (ag.trans (And.left (by assumption:ag X _∧_)) (by assumption)))
      ((first | (go_at_call 18;first | (refine (K1.out _ (And.left (by assumption:ag X _∧_))).mono ?_;rintro e w4 ⟨rfl,rfl⟩) | (refine (K2.out _ (And.left (by assumption:ag X _∧_))).mono ?_;rintro e w4 ⟨rfl,rfl⟩)) | (go_at_call 69;refine (K3.out _ (And.left (by assumption:ag X _∧_))).mono ?_;rintro e w5 ⟨bf,rfl,a5,c5,n5,M5,UD,Qr⟩;have LK:=(qj M5 (ag.refl _) Qr m.role hs1.max).1;have RR:=gH (qj M5 (ag.refl _) Qr m.role hs1.max).2;have BB:=UD (txt m.role))))
     have gN:=gH (And.left (by assumption:ag X w5∧_));have Kp:=RR;clear M5 UD Qr LK RR a5;by_cases h5:0 < c5 (txt m.role)
     ·have Yf:(0:Int) < ((c5 (txt m.role):Nat):Int):=by omega
      have HF:=gH (show bN r=false by rw [Im.out,all_false (np r) r.members k hlt (by rw [ET.out,← Kp.out];simp [h5])];simp);go_wp2_with fail;go_ret;exact ⟨by rw [HF.out];rfl,NX.out.trans gN.out⟩
     ·have Yf:¬ (0:Int) < ((c5 (txt m.role):Nat):Int):=by omega
      have HT:=gH (show np r r.members[k]=true by rw [ET.out,← Kp.out];simp [h5]);go_wp2_with fail
      go_roundw
      case rel=>exact ⟨k+1,by omega,by go_num,Ye.out.trans gN.out,er (p:=fun j=>∀ (hj:j < r.members.length),np r r.members[j]=true) HP.out (fun _=>HT.out)⟩
      case measure=>simp [intOf];omega
    ·have HF:=gH (show bN r=true by rw [Im.out,HN.out,all_true _ _ fun j hj=>HP.out j (by omega) hj];rfl)
     go_wp2_with fail;go_ret;exact ⟨by rw [HF.out];rfl,br.out.trans HA.out⟩
theorem Hg (r:fX) (An:Option Addr) (aI:Nat) (Am:Option Addr) (aK:Nat) (w:World) (hn:aL w 1 dK An aI r.names) (hm:aL w 2 ia Am aK r.members) :
  Calls Tryz.prog 108 #[.agg #[.slice An r.names.length aI,.slice Am r.members.length aK]] w fun e w'=>e=.returned (.int .i64 (if bN r then 0 else 1))∧ag w w':=by
 obtain ⟨q,hq⟩:∃ q,bN r=q:=⟨_,rfl⟩;have C:=gH (fun w' (a:ag w w')=>hq▸JT r An aI Am aK w' (aM a hn) (bJ a hm));rw [hq];clear hq
 go_enter Tryz.func108,Tryz.ntmps108
 go_wp2_with fail;refine (C.out _ ((ag.refl w).alloc _)).mono ?_;rintro e w1 ⟨rfl,a1⟩;have HA:=gH (((ag.refl w).alloc _).trans a1);clear a1
 cases q
 all_goals
  go_wp2_with fail;go_ret;exact ⟨rfl,HA.out⟩
end Go.Proofs.YtmflccbnoeaafaaGreat
namespace Go.Proofs.YtmflccbnoeaafaaGreat
open Go.RowKit
set_option maxRecDepth 100000
set_option linter.unusedVariables false
set_option maxHeartbeats 64000000
theorem lT (a b:ByteArray):bk a b=true↔txt a=txt b:=by
 unfold txt;rw [← gu];exact pK _ _
theorem sS {α:Type} [DecidableEq α]:∀ {l l':List α},l.Nodup→(∀ x∈l,x∈l')→l.length≤l'.length
 | [],l',_,_=>Nat.zero_le _
 | a::l,l',hn,hs=>by
  rw [List.nodup_cons] at hn;have h1:a∈l':=hs a (by simp)
  have h2:=sS (l:=l) (l':=l'.erase a) hn.2 fun x hx=>(List.mem_erase_of_ne (by intro e;subst e;exact hn.1 hx)).2 (hs x (by simp [hx]))
  have h3:=List.length_erase_of_mem h1;have h4:=List.length_pos_of_mem h1;simp only [List.length_cons];omega
end Go.Proofs.YtmflccbnoeaafaaGreat
namespace Go.Proofs.YtmflccbnoeaafaaGreat
open Go.RowKit Go.Deep
set_option maxRecDepth 100000
set_option linter.unusedVariables false
set_option maxHeartbeats 64000000
structure dY (w:World) (B:Nat) (hn hm:Hd) (r:fX):Prop where
 fK:w.ownsRow B 9 1 hn.v r.names.length (r.names.flatMap bY)
 mem:w.ownsRow B 103 2 hm.v r.members.length (r.members.flatMap fP)
 mU:∀ g∈hn.blk,g∉hm.blk
def kO (r:fX):Prop:=(Small (r.names.length*16)∧∀ x∈r.names,Small x.size)∧(Small (r.members.length*16)∧∀ m∈r.members,Small m.role.size∧Small m.of.size)
theorem tj {w:World} {r:fX} {An Am:Option Addr} {aI aK:Nat} (hn:aL w 1 dK An aI r.names) (hm:aL w 2 ia Am aK r.members):kO r:=⟨gT hn,kP hm fun _ _ h=>h.2⟩
theorem dY.names {w:World} {B:Nat} {hn hm:Hd} {r:fX} (h:dY w B hn hm r) (sm:kO r):aL w 1 dK hn.a hn.c r.names:=en bY h.fK (fun x hx=>⟨rfl,rfl,sm.1.2 x hx⟩) sm.1.1
theorem dY.Ht {w:World} {B:Nat} {hn hm:Hd} {r:fX} (h:dY w B hn hm r) (sm:kO r):aL w 2 ia hm.a hm.c r.members:=en fP h.mem (fun x hx=>⟨rfl,rfl,sm.2.2 x hx⟩) sm.2.1
theorem dY.az {w w':World} {B:Nat} {hn hm:Hd} {r:fX} (h:dY w B hn hm r) (a:ag w w'):dY w' B hn hm r:=⟨bu h.fK a,bu h.mem a,h.mU⟩
theorem dY.down {w:World} {B B':Nat} {hn hm:Hd} {r:fX} (h:dY w B hn hm r) (hb:B'≤B):dY w B' hn hm r:=⟨bV h.fK hb,bV h.mem hb,h.mU⟩
theorem dY.vn {w:World} {B:Nat} {hn hm:Hd} {r:fX} (h:dY w B hn hm r):hn.v=.slice hn.a r.names.length hn.c:=bL h.fK
theorem dY.vm {w:World} {B:Nat} {hn hm:Hd} {r:fX} (h:dY w B hn hm r):hm.v=.slice hm.a r.members.length hm.c:=bL h.mem
theorem fT {W:World} {b:Nat} {a c:Value} (h:ap W b [a,c]):(loadVar 29 ⟨b,0,none⟩).run Tryz.prog W=.ok (.agg #[a,c]) W:=by
 have e0:=h.cell (j:=0) rfl;have e1:=h.cell (j:=1) rfl;have h1:=El W b 0 (by rw [e0];rfl) (by rw [e1];rfl);rw [e0,e1] at h1;exact h1
theorem dV (w:World) (c:List Value) (t:TypeId):ap (w.alloc (.cells c.toArray t)) w.heap.size c:=by
 refine ⟨by simp,fun j hj=>?_,fun j hj=>?_⟩
 ·rw [World.cell?_alloc_at _ _ _ _ rfl];simp
 ·exact World.frozen?_alloc_at _ _ _ _ rfl
theorem rG (ms:List em) (s:ByteArray):dI ms s s=true:=by
 unfold dI;simp only [decide_eq_true_eq];exact .refl _
theorem G5 (A:Option Addr) (cap:Nat) (l:List ByteArray) (g:FuncId) (ar:Array Value) (p:ByteArray→Bool) (w:World) (h:aL w 1 dK A cap l) (bR:∀ (args:Array Value) (w:World),(callFunc g args).run Tryz.prog w=.ok (.enter g args) w)
  (hp:∀ w',ag w w'→∀ i (hi:i < l.length),Calls Tryz.prog g (#[.string l[i]]++ar) w' fun e w''=>e=.returned (.bool (p l[i]))∧ag w' w'') :
  Calls Tryz.prog 118 #[.slice A l.length cap,.func (.func g) #[] ar] w fun e w'=>e=.returned (.int .i64 (bK p l))∧ag w w':=by
 have hlen:=h.len;have HC:=gH hp;clear hp
 go_enter Tryz.func118,Tryz.ntmps118
 go_wp2_with fail
 go_loopw [8] (fun i wr=>∃ k:Nat,k≤l.length∧i=.int .i64 k∧ag w wr∧∀ j,j < k→∀ (hj:j < l.length),p l[j]=false) (fun i _=>l.length - (intOf i).toNat)
 case atStart=>exact ⟨0,Nat.zero_le _,rfl,ag.refl _,fun j hj=>absurd hj (Nat.not_lt_zero j)⟩
 case round =>
  obtain ⟨k,hk,rfl,ha,hp⟩:=hrel;have HA:=gH ha;have HP:=gH hp;clear hp;by_cases hlt:k < l.length
  ·have eT:=aM ha h
   clear ha;obtain ⟨b,off,rfl,hb,c0,hs⟩:=gw eT hlt;have HK:=gH (HC.out wr HA.out k hlt);clear eT;obtain ⟨q,hq⟩:∃ q,p l[k]=q:=⟨_,rfl⟩;rw [hq] at HK;have HQ:=gH hq;clear hq
   cases q
   ·go_wp2_with fail
    refine HK.out.mono ?_;rintro e w1 ⟨rfl,a1⟩;have cG:=gH (HA.out.trans a1);clear a1;go_wp2_with fail
    go_roundw
    case rel=>exact ⟨k+1,by omega,by go_num,cG.out,er (p:=fun j=>∀ (hj:j < l.length),p l[j]=false) HP.out (fun _=>HQ.out)⟩
    case measure=>simp [intOf];omega
   ·go_wp2_with fail
    refine HK.out.mono ?_;rintro e w1 ⟨rfl,a1⟩;have cG:=gH (HA.out.trans a1);clear a1;go_wp2_with fail;go_ret;exact ⟨by rw [fR p l k hlt HQ.out (fun i hi=>HP.out i hi (by omega))];rfl,cG.out⟩
  ·clear ha
   go_wp2_with fail;go_ret;exact ⟨by rw [gJ p l (fun i hi=>HP.out i (by omega) hi)];rfl,HA.out⟩
theorem C9 {α:Type} (p:α→Bool) (l:List α):decide (0≤bK p l)=l.any p:=by
 induction l with
 | nil=>rfl
 | cons x l ih =>
  rw [List.any_cons,← ih]
  show decide (0≤(if p x then (0:Int) else if bK p l < 0 then -1 else bK p l+1))=_
  cases h:p x
  ·simp only [Bool.false_or]
   by_cases h2:bK p l < 0
   ·simp [h2]
   ·simp [h2];omega
  ·simp
def JU (l:List ByteArray) (q:ByteArray→Bool) (v:Value) (B:Nat) (w:World) (e:Ending) (w':World):Prop :=
 ∃ h:Hd,e=.returned h.v∧w'.ownsRow B 9 1 h.v (l.filter fun x=>!q x).length ((l.filter fun x=>!q x).flatMap bY)∧Kb (fN v) w w'∧∀ g∈h.blk,v.ownBlock=some g
theorem gZ {α:Type} (q:α→Bool) (l:List α) (h:∀ i (hi:i < l.length),q l[i]=false):(l.filter fun x=>!q x)=l:=by
 rw [List.filter_eq_self];intro x hx;obtain ⟨i,hi,rfl⟩:=List.getElem_of_mem hx;rw [h i hi];rfl
theorem zC {α:Type} (p:α→Bool) (l:List α) (h:bK p l < 0):∀ i (hi:i < l.length),p l[i]=false:=by
 intro i hi;have:=C9 p l;have h0:decide (0≤bK p l)=false:=decide_eq_false (by omega);rw [h0] at this;rw [Bool.eq_false_iff];intro hp;have h2:l.any p=true:=List.any_eq_true.2 ⟨l[i],List.getElem_mem hi,hp⟩;rw [h2] at this
 cases this
theorem pj {α:Type} (p:α→Bool):∀ (l:List α) (k:Nat),bK p l=k→∀ i (hi:i < l.length),i < k→p l[i]=false
 | [],k,h,i,hi,_=>by simp at hi
 | x::l,k,h,i,hi,hik=>by
  have e:bK p (x::l)=(if p x then (0:Int) else if bK p l < 0 then -1 else bK p l+1):=rfl;rw [e] at h
  cases hx:p x
  ·rw [hx] at h
   simp only [Bool.false_eq_true,if_false] at h;by_cases hn:bK p l < 0
   ·rw [if_pos hn] at h;omega
   ·rw [if_neg hn] at h
    cases i with
    | zero=>simpa using hx
    | succ i =>
     have:=pj p l (k - 1) (by omega) i (by simpa using hi) (by omega)
     simpa using this
  ·rw [hx] at h
   simp only [if_true] at h;omega
structure sj (q:ByteArray→Bool) (l l':List ByteArray) (i j:Nat):Prop where
 len:l'.length=l.length
 kept:l'.take i=(l.take j).filter fun x=>!q x
 rest:l'.drop j=l.drop j
 ij:i < j
 jl:j≤l.length
theorem sj.start {q:ByteArray→Bool} {l:List ByteArray} {i:Nat} (hi:i < l.length) (hq:q l[i]=true) (hf:∀ k (hk:k < l.length),k < i→q l[k]=false):sj q l l i (i+1):=by
 refine ⟨rfl,?_,rfl,by omega,by omega⟩;rw [List.take_succ_eq_append_getElem hi,List.filter_append,gZ q (l.take i) (fun k hk=>by rw [List.getElem_take];exact hf k (by rw [List.length_take] at hk;omega) (by rw [List.length_take] at hk;omega))];simp [hq]
theorem sj.get {q:ByteArray→Bool} {l l':List ByteArray} {i j:Nat} (h:sj q l l' i j) (hj:j < l.length):l'[j]'(by rw [h.len];exact hj)=l[j]:=by
 have h1:=congrArg (fun x=>x[0]?) h.rest;simp only [List.getElem?_drop,Nat.add_zero] at h1;rw [List.getElem?_eq_getElem (by rw [h.len];exact hj),List.getElem?_eq_getElem hj] at h1;exact Option.some.inj h1
theorem sj.skip {q:ByteArray→Bool} {l l':List ByteArray} {i j:Nat} (h:sj q l l' i j) (hj:j < l.length) (hq:q l[j]=true):sj q l l' i (j+1):=by
 refine ⟨h.len,?_,?_,by have:=h.ij;omega,by omega⟩
 ·rw [List.take_succ_eq_append_getElem hj,List.filter_append,← h.kept]
  simp [hq]
 ·have:=congrArg (List.drop 1) h.rest
  simpa [List.drop_drop] using this
theorem sj.keep {q:ByteArray→Bool} {l l':List ByteArray} {i j:Nat} (h:sj q l l' i j) (hj:j < l.length) (hq:q l[j]=false):sj q l (l'.set i l[j]) (i+1) (j+1):=by
 have px:=h.ij;have hl:=h.len;refine ⟨by rw [List.length_set];exact h.len,?_,?_,by omega,by omega⟩
 ·rw [List.take_succ_eq_append_getElem hj,List.filter_append,← h.kept,List.take_succ_eq_append_getElem (by rw [List.length_set];omega),List.take_set_of_le (Nat.le_refl _)]
  simp [hq]
 ·rw [List.drop_set_of_lt (by omega)]
  have:=congrArg (List.drop 1) h.rest
  simpa [List.drop_drop] using this
theorem UE (v:Value) (l:List ByteArray) (g:FuncId) (ar:Array Value) (q:ByteArray→Bool) (B:Nat) (w:World) (ho:w.ownsRow B 9 1 v l.length (l.flatMap bY)) (hs:Small (l.length*16)) (iu:∀ A n c,v=.slice A n c→c≤9223372036854775807) (sm:∀ x∈l,Small x.size) (bR:∀ (args:Array Value) (w:World),(callFunc g args).run Tryz.prog w=.ok (.enter g args) w)
  (hq:∀ w',Kb (fN v) w w'→∀ x:ByteArray,Small x.size→Calls Tryz.prog g (#[.string x]++ar) w' fun e w''=>e=.returned (.bool (q x))∧ag w' w'') :
  Calls Tryz.prog 70 #[v,.func (.func g) #[] ar] w (JU l q v B w):=by
 have hlen:l.length*16≤140737488351232:=hs;obtain ⟨hd,rfl,xg⟩:=m9 ho;obtain ⟨A,n,cap⟩:=hd;have xg:n=l.length:=xg;subst xg
 show Calls Tryz.prog 70 #[.slice A l.length cap,.func (.func g) #[] ar] w (JU l q (.slice A l.length cap) B w)
 have eT:aL w 1 dK A cap l:=en (h:=⟨A,l.length,cap⟩) bY ho (fun x hx=>⟨rfl,rfl,sm x hx⟩) hs;obtain ⟨k,hk⟩:∃ k,bK q l=k:=⟨_,rfl⟩;have C:=gH (hk▸G5 A cap l g ar q w eT bR (fun w' a i hi=>hq w' (Kb.aH a) l[i] (sm _ (List.getElem_mem hi))));have Ps:=bg q l;rw [hk] at Ps;by_cases xH:k < 0
 ·have oF:k = -1:=by omega
  have HF:=gH (show (l.filter fun x=>!q x)=l from gZ q l (zC q l (by rw [hk];exact xH)));subst oF;have HO:=gH ho;clear hk Ps eT hq sm ho iu xH
  go_enter Tryz.func70,Tryz.ntmps70
  go_wp2_with fail;refine C.out.mono ?_;rintro e w1 ⟨rfl,a1⟩;have HA:=gH a1;clear a1;go_wp2_with fail;go_ret;refine ⟨⟨A,l.length,cap⟩,rfl,?_,Kb.aH HA.out,fun g hg=>Hd.au.1 hg⟩;rw [HF.out];exact bu HO.out HA.out
 obtain ⟨i,rfl⟩:∃ i:Nat,k=i:=⟨k.toNat,by omega⟩
 have N4:i < l.length:=by omega
 have DY:=gY q l i N4 hk;have hst:=sj.start N4 DY (fun j hj Gw=>pj q l i hk j hj Gw);obtain ⟨g0,cap',hv,se,mo,hr⟩:=aR ho (by omega)
 have hv:A=some ⟨g0,0,none⟩∧cap=cap':=by
  have:Value.slice A l.length cap=Value.slice (some ⟨g0,0,none⟩) l.length cap':=hv;simp only [Value.slice.injEq,true_and] at this;exact this
 obtain ⟨rfl,rfl⟩:=hv;have iu:=iu _ _ _ rfl;have hI:fh 9 1 bY (fun x:ByteArray=>Small x.size) w w B g0 cap l.length l:=⟨ho,rfl,sm,Kb.refl _ _⟩
 have BZ:∀ w1 w2:World,Kb (fun k=>k=g0) w1 w2→Kb (fN (.slice (some ⟨g0,0,none⟩) l.length cap)) w1 w2:=fun w1 w2 k=>k.mono fun g _ e=>by subst e;rfl
 have HQ:=gH (show ∀ w',Kb (fun k=>k=g0) w w'→_ from fun w' k=>hq w' (BZ _ _ k));have HI:=gH hI;have HST:=gH hst
 have W9:((i:Int) == -1)=false:=by rw [beq_eq_false_iff_ne];omega
 clear hq hI ho hr sm hk Ps hst eT xH DY
 go_enter Tryz.func70,Tryz.ntmps70
 go_wp2_with fail;refine C.out.mono ?_;rintro e w1 ⟨rfl,a1⟩;have HA:=gH a1;clear a1;go_wp2_with fail
 go_loopw [5,6] (fun u5 u6 wr=>∃ (m j:Nat) (l':List ByteArray),u5=.int .i64 m∧u6=.int .i64 j∧sj q l l' m j∧fh 9 1 bY (fun x:ByteArray=>Small x.size) w wr B g0 cap l.length l') (fun _ u6 _=>l.length - (intOf u6).toNat)
 case atStart=>exact ⟨i,i+1,l,rfl,by go_num,HST.out,HI.out.az HA.out⟩
 case round =>
  obtain ⟨m,j,l',rfl,rfl,hd,hI⟩:=hrel;have HD:=gH hd;have HJ:=gH hI;have rQ:=hI.len;have hmj:=hd.ij;have hjl:=hd.jl;by_cases hlt:j < l.length
  ·have hj':j < l'.length:=by omega
   obtain ⟨b,off,vR,hb0,c0,hs0⟩:=gw (t8 hI hs) hj';simp only [Option.some.injEq,Addr.mk.injEq,and_true] at vR;obtain ⟨rfl,rfl⟩:=vR;have hg:=hd.get hlt;rw [hg] at c0 hs0;obtain ⟨x,hx⟩:∃ x,l[j]=x:=⟨_,rfl⟩;rw [hx] at c0 hs0;obtain ⟨r,hr⟩:∃ r,q x=r:=⟨_,rfl⟩;have Cc:=gH (hr▸HQ.out wr hI.kb x hs0);have HX:=gH hx;have HR:=gH (show q l[j]=r by rw [hx];exact hr);clear hd hI hx hr hg;simp only [Nat.zero_add] at c0
   cases r
   ·go_wp2_with fail
    refine Cc.out.mono ?_;rintro e w2 ⟨rfl,a2⟩;obtain ⟨F,hF⟩:∃ F,F=w2:=⟨_,rfl⟩;have I3:=gH (show fh 9 1 bY (fun x:ByteArray=>Small x.size) w F B g0 cap l.length l' from hF▸HJ.out.az a2);subst hF;clear a2;obtain ⟨_,_,i5,_,_,km⟩:=aR I3.out.own (by omega);simp only [Value.slice.injEq,true_and,Option.some.injEq,Addr.mk.injEq,and_true] at i5;obtain ⟨rfl,rfl⟩:=i5
    have fq:(l'.flatMap bY).length=l.length*1:=by rw [ce (size:=1) (fun _=>rfl),rQ]
    obtain ⟨u0,z0⟩:∃ u,F.cell? ⟨g0,m,none⟩=some u:=⟨_,by rw [km.2.1 m (by rw [fq];omega),List.getElem?_eq_getElem (by rw [fq];omega)]⟩;have z1:F.frozen? ⟨g0,m,none⟩=false:=km.2.2 m (by rw [fq];omega);have z2:g0 < F.heap.size:=km.1;clear km fq
    have B0:=gH (show fh 9 1 bY (fun x:ByteArray=>Small x.size) w (F.setCell ⟨g0,m,none⟩ (.string x)) B g0 cap l.length (l'.set m l[j]) from by
     have:=vZ I3.out (m:=m) (i:=j) (by omega) hj';rw [HD.out.get hlt,HX.out] at this;rw [HX.out]
     simpa using this)
    have I4:=gH (HD.out.keep hlt HR.out)
    have Oc:(m:Int) < (l.length:Int):=by omega
    go_wp2_with fail
    go_roundw
    case rel=>exact ⟨m+1,j+1,_,by go_num,by go_num,I4.out,B0.out⟩
    case measure=>simp [intOf];omega
   ·have I4:=gH (HD.out.skip hlt HR.out)
    go_wp2_with fail;refine Cc.out.mono ?_;rintro e w2 ⟨rfl,a2⟩;have Ra:=gH (HJ.out.az a2);clear a2;go_wp2_with fail
    go_roundw
    case rel=>exact ⟨m,j+1,l',rfl,by go_num,I4.out,Ra.out⟩
    case measure=>simp [intOf];omega
  ·have Pt:j=l.length:=by omega
   have hcm:¬ cap=m:=by omega
   obtain ⟨_,_,i5,_,_,km⟩:=aR hI.own (by omega);simp only [Value.slice.injEq,true_and,Option.some.injEq,Addr.mk.injEq,and_true] at i5;obtain ⟨rfl,rfl⟩:=i5
   have fq:(l'.flatMap bY).length=l.length*1:=by rw [ce (size:=1) (fun _=>rfl),rQ]
   have qY:∀ w:World,(zeroValue 9).run Tryz.prog w=.ok (.string ByteArray.empty) w:=fun w=>by kernel_rfl
   obtain ⟨n3,uL⟩:∃ n3,l.length - m=n3:=⟨_,rfl⟩
   have nu:∀ ty,(Builtin.clear_ #[26] ty #[.slice (some ⟨g0,m*1,none⟩) n3 (cap - m)]).run Tryz.prog wr=.ok (.tuple #[]) (wr.setCells g0 (m*1) (Builtin.zeroCells (.string ByteArray.empty:Value).cells n3).toList):=fun ty=>by
    refine kL wr _ _ ty _ Tryz.underlying26 qY (by intro u hu;have hu:u∈([.string ByteArray.empty]:List Value):=hu;simp only [List.mem_cons,List.not_mem_nil,or_false] at hu;subst hu;rfl) g0 (m*1) (cap - m) n3 (by omega) (fun j hj=>?_) (fun j hj=>?_)
    ·have hj':j < n3*1:=hj
     have hl:m*1+j < (l'.flatMap bY).length:=by rw [fq];omega
     rw [km.2.1 _ hl,List.getElem?_eq_getElem hl];rfl
    ·have hj':j < n3*1:=hj
     exact km.2.2 _ (by rw [fq];omega)
   obtain ⟨Z,hZ⟩:∃ Z,Z=wr.setCells g0 (m*1) (Builtin.zeroCells (.string ByteArray.empty:Value).cells n3).toList:=⟨_,rfl⟩;have HZ:=gH (show Kb (fun k=>k=g0) w Z from hZ▸hI.kb.trans (bA g0 _ _ _))
   have HP:=gH (show JU l q (.slice (some ⟨g0,0,none⟩) l.length cap) B w (.returned (.slice (some ⟨g0,0,none⟩) m cap)) Z from by
    have hm:m=(l.filter fun x=>!q x).length:=by
     have:=congrArg List.length hd.kept;rw [List.length_take,Pt,List.take_length] at this;omega
    have hx:l'.take m=l.filter fun x=>!q x:=by
     have:=hd.kept;rw [Pt,List.take_length] at this;exact this
    refine ⟨⟨some ⟨g0,0,none⟩,m,cap⟩,rfl,?_,BZ _ _ HZ.out,fun g hg=>Hd.au.1 hg⟩;have o1:=xi (bG (g:=g0) rfl (Builtin.zeroCells (.string ByteArray.empty:Value).cells n3).toList (m*1) hI.own) (m:=m) (by omega);rw [← hZ] at o1
    have e:(fu (l'.flatMap bY) (m*1) (Builtin.zeroCells (.string ByteArray.empty:Value).cells n3).toList).take (m*1)=(l.filter fun x=>!q x).flatMap bY:=by
     rw [lF _ _ _ (by rw [ed,fq];show m*1+n3*1≤_;omega),List.append_assoc,List.take_append_of_le_length (by rw [List.length_take,fq];omega),List.take_take,Nat.min_self,fI (size:=1) (fun _=>rfl),hx]
    rw [e] at o1;rw [← hm]
    exact o1)
   rw [← hZ,← uL] at nu;simp only [Nat.mul_one] at nu
   have k3:(m:Int)≤(l.length:Int):=by omega
   have k5:(l.length:Int)≤(cap:Int):=by omega
   have k6:(m:Int)≤(cap:Int):=by omega
   clear hI km fq qY hZ uL BZ hd HD HJ HI HST C Pt;go_wp2_with fail;go_ret;exact HP.out
noncomputable def JV (r:fX) (role:ByteArray):Int:=if bN r then (if dQ r.names role then 0 else 71) else 1
noncomputable def cT (r:fX) (role:ByteArray):List ByteArray:=if bN r&&dQ r.names role then r.names.filter (dI r.members role) else []
noncomputable def BJ (r:fX) (a b:ByteArray):Bool:=bN r&&dQ r.names a&&dQ (r.names.filter (dI r.members a)) b
def yD (r:fX) (role:ByteArray) (w:World) (e:Ending) (w':World):Prop :=
 ∃ h:Hd,e=.returned (.tuple #[h.v,.int .i64 (JV r role)])∧ag w w'∧w'.ownsRow w.heap.size 9 1 h.v (cT r role).length ((cT r role).flatMap bY)
theorem Da {r:fX} (h:bN r=true):r.names.length≤16∧r.members.length≤256:=by
 unfold bN at h;simp only [Bool.and_eq_true,decide_eq_true_eq] at h;exact ⟨h.1.1.1.1,h.1.1.1.2⟩
theorem mQ {r:fX} {role x:ByteArray} (h:x∈cT r role):x∈r.names:=by
 unfold cT at h
 split at h
 ·exact (List.mem_filter.1 h).1
 ·simp at h
theorem mR (r:fX) (role:ByteArray):(cT r role).length≤r.names.length:=by
 unfold cT
 split
 ·exact List.length_filter_le _ _
 ·simp
theorem Yg (x:ByteArray) (bx bf n:Nat) (c:dR→Nat) (w:World) (hx:x.size≤maxLen) (hc:w.cell? ⟨bx,0,none⟩=some (.map (some bf))) (M:eL Tryz.prog 9 w bf n (.int .i64 0) (nY c)) :
  Calls Tryz.prog 71 (#[.string x]++#[.pointer (some ⟨bx,0,none⟩)]) w fun e w'=>e=.returned (.bool (decide (c (txt x)=0)))∧ag w w':=by
 have Q5:=M.look Tryz.underlying9 Tryz.underlying121 (qd w) x hx;have hz:bx < w.heap.size:=World.block_lt_of_cell? w ⟨bx,0,none⟩ hc;obtain ⟨k,hk⟩:∃ k,c (txt x)=k:=⟨_,rfl⟩
 have LK:(Instr.lookup 121 (.map (some bf)) (.string x) false).run Tryz.prog w=.ok (.int .i64 k) w:=by rw [← hk];exact Q5
 rw [hk];clear M hk Q5
 show Calls Tryz.prog 71 #[.string x,.pointer (some ⟨bx,0,none⟩)] w _
 go_enter Tryz.func71,Tryz.ntmps71
 go_wp2_with fail;go_ret;refine ⟨Eq.trans (b:=.returned (.bool _)) rfl (eD (dF ?_)),ag.refl _⟩;rw [Bool.eq_iff_iff];simp
theorem Ho (r:fX) (An:Option Addr) (aI:Nat) (Am:Option Addr) (aK:Nat) (role:ByteArray) (w:World) (hn:aL w 1 dK An aI r.names) (hm:aL w 2 ia Am aK r.members) (lp:Small role.size) :
  Calls Tryz.prog 32 #[.agg #[.slice An r.names.length aI,.slice Am r.members.length aK],.string role] w (yD r role w):=by
 have hlen:=hn.len
 have l1:w.heap.size < w.heap.size+1:=by omega
 obtain ⟨W,hW⟩:∃ W,W=w.alloc (.cells #[.slice An r.names.length aI,.slice Am r.members.length aK] 29):=⟨_,rfl⟩
 have aW:ag w W:=by rw [hW];exact (ag.refl w).alloc _
 have r0:∀ w',ag W w'→(w'.cell? ⟨w.heap.size,0,none⟩=some (.slice An r.names.length aI)∧w'.cell? ⟨w.heap.size,1,none⟩=some (.slice Am r.members.length aK)∧w.heap.size < w'.heap.size):=fun w' a=>by
  rw [hW] at a;obtain ⟨hb,_,hz,_,_⟩:=cJ a;exact ⟨by rw [hb];rfl,by rw [hb];rfl,hz.1⟩
 obtain ⟨q,hq⟩:∃ q,bN r=q:=⟨_,rfl⟩;obtain ⟨i,hi⟩:∃ i,dQ r.names role=i:=⟨_,rfl⟩;have C1:=gH (fun w' (a:ag w w')=>hq▸JT r An aI Am aK w' (aM a hn) (bJ a hm));have C2:=gH (show ∀ w',ag w w'→Calls Tryz.prog 18 #[.slice An r.names.length aI,.string role] w' fun e w''=>e=.returned (.bool i)∧w'=w'' from fun w' a=>hi▸fY An aI r.names role w' (aM a hn));have C3:=gH (fun w' (a:ag w w')=>xD r An aI Am aK role w' (bJ a hm) lp);have HE:=gH (show JV r role=if q then (if i then 0 else 71) else 1 by unfold JV;rw [hq,hi]);have HL:=gH (show cT r role=if q&&i then r.names.filter (dI r.members role) else [] by unfold cT;rw [hq,hi]);have HB:=gH (show q=true→r.names.length≤16 from fun h=>(Da (by rw [hq];exact h)).1);have nU:=gH (gT hn);have je:=gH r0;have br:=gH aW;have HN:=gH hn;clear hq hi r0 aW hn hm
 go_enter Tryz.func32,Tryz.ntmps32
 go_wp2_with fail;rw [← hW];clear hW;refine (C1.out W br.out).mono ?_;rintro e w1 ⟨rfl,a1⟩;have cG:=gH a1;obtain ⟨e0,e1,e2⟩:=je.out w1 a1;clear a1
 cases q
 ·have HP:=gH (show yD r role w (.returned (.tuple #[.slice none 0 0,.int .i64 1])) w1 from ⟨⟨none,0,0⟩,by rw [HE.out];rfl,br.out.trans cG.out,by rw [HL.out];exact dl _ _ _ _⟩)
  go_wp2_with fail
  go_ret2
  exact HP.out
 go_wp2_with fail;refine (C2.out w1 (br.out.trans cG.out)).mono ?_;rintro e w2 ⟨rfl,rfl⟩
 cases i
 ·have HP:=gH (show yD r role w (.returned (.tuple #[.slice none 0 0,.int .i64 71])) w1 from ⟨⟨none,0,0⟩,by rw [HE.out];rfl,br.out.trans cG.out,by rw [HL.out];exact dl _ _ _ _⟩)
  go_wp2_with fail
  go_ret2
  exact HP.out
 go_wp2_with fail;refine (C3.out w1 (br.out.trans cG.out)).mono ?_;rintro e w3 ⟨bf,rfl,a3,c,nc,M,bd,hr⟩;obtain ⟨X,hX⟩:∃ X,X=w3.alloc (.cells #[.map (some bf)] 121):=⟨_,rfl⟩
 have aX:ag w3 X:=by rw [hX];exact (ag.refl w3).alloc _
 have xc:X.cell? ⟨w3.heap.size,0,none⟩=some (.map (some bf)):=by rw [hX];simp
 have Qs:=((br.out.trans cG.out).trans a3).trans aX;clear e0 e1 e2;obtain ⟨e0,e1,e2⟩:=je.out w3 (cG.out.trans a3)
 have l3:w.heap.size < w3.heap.size+1:=by omega
 have C4:=gH (iq An aI r.names X X (ag.refl _) (aM Qs HN.out) (by have:=HB.out (by first | trivial | rfl);omega));have HM:=gH (And.intro (M.az aX) (And.intro xc (And.intro Qs (And.intro hr (show w3.heap.size < X.heap.size by rw [hX];simp)))));clear M bd hr aX a3 Qs xc;go_wp2_with fail;rw [← hX];clear hX;refine C4.out.mono ?_;rintro e w4 ⟨v,cI,rfl,a4,ho,hch⟩;rw [fG hch] at ho;obtain ⟨A2,bT,hv⟩:=dw ho;subst hv;obtain ⟨M,xc,Qs,hr,Z1⟩:=HM.out;have Z2:=Qs.size;have bR:=enters (P:=Tryz.prog) Tryz.func71 (by kernel_rfl) rfl
 have C5:=gH (UE (.slice A2 r.names.length bT) r.names 71 #[.pointer (some ⟨w3.heap.size,0,none⟩)] (fun x=>decide (c (txt x)=0)) X.heap.size w4 ho nU.out.1 (lX ho) nU.out.2 bR (fun w' kb x hx=>by
  have h1:¬ fN (.slice A2 r.names.length bT) bf:=gh ho M.lt;have h2:¬ fN (.slice A2 r.names.length bT) w3.heap.size:=gh ho Z1
  exact Yg x w3.heap.size bf nc c w' hx.max (kb.cell (a4.cell_kept xc) h2) ((M.az a4).kb kb h1)))
 have HK:=gH (show ∀ w',Kb (fN (.slice A2 r.names.length bT)) w4 w'→ag w w' from fun w' kb=>kb.aZ (Qs.trans a4) (fun g hg=>gh ho (by omega)))
 have HF:=gH (show (r.names.filter fun x=>!decide (c (txt x)=0))=cT r role from by
  rw [HL.out];simp only [Bool.and_self,if_true]
  refine List.filter_congr fun x _=>?_
  unfold dI;have:=hr (txt x);by_cases h:Reach r.members (txt role) (txt x)
  ·have:=this.2 h
   simp [h];omega
  ·have:¬ 0 < c (txt x):=fun h2=>h (this.1 h2)
   simp [h];omega)
 have NX:=gH Z2;clear M xc Qs hr Z1 Z2 bR a4 ho hch;go_wp2_with fail;refine C5.out.mono ?_;rintro e w5 ⟨h,rfl,ho,kb,hblk⟩;rw [HF.out] at ho;have HP:=gH (show yD r role w (.returned (.tuple #[h.v,.int .i64 0])) w5 from ⟨h,by rw [HE.out];rfl,HK.out w5 kb,bV ho NX.out⟩);clear ho kb hblk;go_wp2_with fail
 go_ret2
 exact HP.out
theorem ZC (r:fX) (An:Option Addr) (aI:Nat) (Am:Option Addr) (aK:Nat) (a b:ByteArray) (w:World) (hn:aL w 1 dK An aI r.names) (hm:aL w 2 ia Am aK r.members) (lp:Small a.size) :
  Calls Tryz.prog 45 #[.agg #[.slice An r.names.length aI,.slice Am r.members.length aK],.string a,.string b] w fun e w'=>e=.returned (.bool (BJ r a b))∧ag w w':=by
 have C1:=gH (fun w' (x:ag w w')=>Ho r An aI Am aK a w' (aM x hn) (bJ x hm) lp);have nU:=gH (gT hn);obtain ⟨q,hq⟩:∃ q,bN r=q:=⟨_,rfl⟩;obtain ⟨i,hi⟩:∃ i,dQ r.names a=i:=⟨_,rfl⟩;have HE:=gH (show JV r a=if q then (if i then 0 else 71) else 1 by unfold JV;rw [hq,hi]);have HI:=gH (show BJ r a b=(q&&i&&dQ (cT r a) b) by unfold BJ cT;rw [hq,hi];cases q<;>cases i<;>rfl);clear hq hi hn hm
 go_enter Tryz.func45,Tryz.ntmps45
 go_wp2_with fail;refine (C1.out _ ((ag.refl w).alloc _)).mono ?_;rintro e w1 ⟨h,rfl,a1,ho⟩;have HA:=gH (((ag.refl w).alloc _).trans a1);obtain ⟨bb,ol⟩:∃ bb,dQ (cT r a) b=bb:=⟨_,rfl⟩
 have C2:=gH (show Calls Tryz.prog 18 #[h.v,.string b] w1 fun e w''=>e=.returned (.bool bb)∧w1=w'' from by
  rw [bL ho]
  refine (fY h.a h.c (cT r a) b w1 (en bY ho (fun x hx=>⟨rfl,rfl,nU.out.2 x (mQ hx)⟩) ?_)).mono fun e w'' ⟨he,hw⟩=>⟨he.trans (by rw [← ol];rfl),hw⟩
  have:=nU.out.1;have:=mR r a
  unfold Small at *;omega)
 rw [HE.out];rw [ol] at HI;clear a1 ho ol
 cases q
 ·go_wp2_with fail
  go_ret;exact ⟨by rw [HI.out];rfl,HA.out⟩
 cases i
 ·go_wp2_with fail
  go_ret;exact ⟨by rw [HI.out];rfl,HA.out⟩
 go_wp2_with fail;refine C2.out.mono ?_;rintro e w2 ⟨rfl,rfl⟩;go_wp2_with fail;go_ret;exact ⟨by rw [HI.out];rfl,HA.out⟩
theorem Ae (m:em):∀ u∈fP m,u.oneCell'=true:=by intro u hu;simp only [fP,List.mem_cons,List.not_mem_nil,or_false] at hu;rcases hu with rfl | rfl<;>simp [Value.oneCell']
theorem dg {w:World} {b:Nat} {xs:List Value} (h:ap w b xs) (hl:xs.length=2) (v0 v1:Value):ap ((w.setCell ⟨b,0,none⟩ v0).setCell ⟨b,1,none⟩ v1) b [v0,v1]:=by
 match xs,hl with
 | [x0,x1],_ =>
  have h1:=h.set 0 v0 (by simp);have h2:=h1.set 1 v1 (by simp)
  simpa using h2
end Go.Proofs.YtmflccbnoeaafaaGreat
