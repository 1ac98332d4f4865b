import Derived.Test.YtakddkhipelmjaaGreatPartF6
set_option maxRecDepth 100000
set_option linter.unusedVariables false
set_option maxHeartbeats 64000000
namespace Go.Proofs.YtakddkhipelmjaaGreat
open Go.Deep Go.RowKit
def eX (o:bF):Int:=if bw o then 0 else 63
theorem ql (o:bF) (As:Option Addr) (ay:Nat) (At:Option Addr) (az:Nat) (w:World) (en:aA w 2 eL As ay o.aa) (dw:aA w 5 dE At az o.tables) :
  Calls Tryz.prog 111 #[.agg #[.slice As o.aa.length ay,.slice At o.tables.length az]] w
   fun e w'=>e=.returned (.int .i64 (eX o))∧ag w w':=by
 have hlen:=en.len;have fq:=dw.len;by_cases d1:8 < o.aa.length
 ·have HF:=gH (show eX o=63 by simp [eX,bw,lL,show ¬ o.aa.length≤8 by omega])
  have e1:¬ ((o.aa.length:Int)≤8):=by omega
  have Iy:decide ((o.aa.length:Int)≤8)=false:=decide_eq_false e1
  go_in
  go_wp2_with fail
  go_loopw [3,4] (fun ok i wr=>ok=.bool false∧i=.int .i64 0∧ag (w.alloc (.cells #[.slice As o.aa.length ay,.slice At o.tables.length az] 25)) wr) (fun _ _ _=>0)
  case atStart=>exact ⟨rfl,rfl,ag.refl _⟩
  case round =>
   obtain ⟨rfl,rfl,ha⟩:=hrel;have lx:=gH ha;clear ha;go_wp2_with fail
   go_loopw [3,6] (fun ok i wr=>ok=.bool false∧i=.int .i64 0∧ag (w.alloc (.cells #[.slice As o.aa.length ay,.slice At o.tables.length az] 25)) wr) (fun _ _ _=>0)
   case atStart=>exact ⟨rfl,rfl,lx.out⟩
   case round =>
    obtain ⟨rfl,rfl,ha⟩:=hrel;have NU:=gH ha;clear ha;go_wp2;go_ret;exact ⟨by rw [HF.out];rfl,((ag.refl w).alloc _).trans NU.out⟩
 have e1:(o.aa.length:Int)≤8:=by omega
 have Iy:decide ((o.aa.length:Int)≤8)=true:=decide_eq_true e1;by_cases d2:64 < o.tables.length
 ·have HF:=gH (show eX o=63 by simp [eX,bw,lL,show ¬ o.tables.length≤64 by omega])
  have e2:¬ ((o.tables.length:Int)≤64):=by omega
  have G9:decide ((o.tables.length:Int)≤64)=false:=decide_eq_false e2
  go_in
  go_wp2_with fail
  go_loopw [3,4] (fun ok i wr=>ok=.bool false∧i=.int .i64 0∧ag (w.alloc (.cells #[.slice As o.aa.length ay,.slice At o.tables.length az] 25)) wr) (fun _ _ _=>0)
  case atStart=>exact ⟨rfl,rfl,ag.refl _⟩
  case round =>
   obtain ⟨rfl,rfl,ha⟩:=hrel;have lx:=gH ha;clear ha;go_wp2_with fail
   go_loopw [3,6] (fun ok i wr=>ok=.bool false∧i=.int .i64 0∧ag (w.alloc (.cells #[.slice As o.aa.length ay,.slice At o.tables.length az] 25)) wr) (fun _ _ _=>0)
   case atStart=>exact ⟨rfl,rfl,lx.out⟩
   case round =>
    obtain ⟨rfl,rfl,ha⟩:=hrel;have NU:=gH ha;clear ha;go_wp2;go_ret;exact ⟨by rw [HF.out];rfl,((ag.refl w).alloc _).trans NU.out⟩
 have e2:(o.tables.length:Int)≤64:=by omega
 have G9:decide ((o.tables.length:Int)≤64)=true:=decide_eq_true e2;obtain ⟨g1,hg1⟩:∃ g,aM (fun a b=>eO (aT a.ac b.ac) (aT a.name b.name)) o.tables=g:=⟨_,rfl⟩;obtain ⟨g2,hg2⟩:∃ g,aM (fun a b=>aT a.name b.name) o.aa=g:=⟨_,rfl⟩;have HR:=gH (show eX o=if (g1&&g2&&(o.aa.all (iB o)&&o.tables.all (bP o))) then 0 else 63 by simp [eX,bw,lL,hg1,hg2,show o.aa.length≤8 by omega,show o.tables.length≤64 by omega])
 have C1:=gH (show ∀ w',ag w w'→Calls Tryz.prog 178 #[.slice At o.tables.length az,.func (.func 179) #[] #[]] w' fun e w''=>e=.returned (.bool g1)∧ag w' w'' from
  fun w' a=>(Ld At az o.tables w' (br a dw)).mono fun e w'' ⟨he,hw⟩=>⟨he.trans (by rw [← hg1]),hw⟩)
 have C2:=gH (show ∀ w',ag w w'→Calls Tryz.prog 180 #[.slice As o.aa.length ay,.func (.func 181) #[] #[]] w' fun e w''=>e=.returned (.bool g2)∧ag w' w'' from
  fun w' a=>(Lc As ay o.aa w' (bI a en)).mono fun e w'' ⟨he,hw⟩=>⟨he.trans (by rw [← hg2]),hw⟩)
 clear hg1 hg2
 go_in
 go_wp2_with fail;refine (C1.out _ ((ag.refl w).alloc _)).mono ?_;rintro e w1 ⟨rfl,a1⟩;obtain ⟨fH,ly,hz,mr,HA⟩:=cz a1;have gj:=gH a1;clear a1 C1
 cases g1
 ·have HF:=gH (show eX o=63 by rw [HR.out];rfl)
  go_wp2_with fail
  go_loopw [3,4] (fun ok i wr=>ok=.bool false∧i=.int .i64 0∧ag (w.alloc (.cells #[.slice As o.aa.length ay,.slice At o.tables.length az] 25)) wr) (fun _ _ _=>0)
  case atStart=>exact ⟨rfl,rfl,gj.out⟩
  case round =>
   obtain ⟨rfl,rfl,ha⟩:=hrel;have lx:=gH ha;clear ha;go_wp2_with fail
   go_loopw [3,6] (fun ok i wr=>ok=.bool false∧i=.int .i64 0∧ag (w.alloc (.cells #[.slice As o.aa.length ay,.slice At o.tables.length az] 25)) wr) (fun _ _ _=>0)
   case atStart=>exact ⟨rfl,rfl,lx.out⟩
   case round =>
    obtain ⟨rfl,rfl,ha⟩:=hrel;have NU:=gH ha;clear ha;go_wp2;go_ret;exact ⟨by rw [HF.out];rfl,((ag.refl w).alloc _).trans NU.out⟩
 go_wp2_with fail;refine (C2.out _ HA.out).mono ?_;rintro e w2 ⟨rfl,a2⟩;have rQ:=gH (gj.out.trans a2);clear a2 C2 gj HA fH ly hz mr;obtain ⟨fH,ly,hz,mr,HA⟩:=cz rQ.out
 cases g2
 ·have HF:=gH (show eX o=63 by rw [HR.out];rfl)
  go_wp2_with fail
  go_loopw [3,4] (fun ok i wr=>ok=.bool false∧i=.int .i64 0∧ag (w.alloc (.cells #[.slice As o.aa.length ay,.slice At o.tables.length az] 25)) wr) (fun _ _ _=>0)
  case atStart=>exact ⟨rfl,rfl,rQ.out⟩
  case round =>
   obtain ⟨rfl,rfl,ha⟩:=hrel;have lx:=gH ha;clear ha;go_wp2_with fail
   go_loopw [3,6] (fun ok i wr=>ok=.bool false∧i=.int .i64 0∧ag (w.alloc (.cells #[.slice As o.aa.length ay,.slice At o.tables.length az] 25)) wr) (fun _ _ _=>0)
   case atStart=>exact ⟨rfl,rfl,lx.out⟩
   case round =>
    obtain ⟨rfl,rfl,ha⟩:=hrel;have NU:=gH ha;clear ha;go_wp2;go_ret;exact ⟨by rw [HF.out];rfl,((ag.refl w).alloc _).trans NU.out⟩
 have se:=gH (show eX o=if (o.aa.all (iB o)&&o.tables.all (bP o)) then 0 else 63 by rw [HR.out];rfl);clear HR;go_wp2_with fail
 go_loopw [3,4] (fun ok i wr=>∃ (k:Nat) (b:Bool),k≤o.aa.length∧i=.int .i64 k∧ok=.bool b∧ag (w.alloc (.cells #[.slice As o.aa.length ay,.slice At o.tables.length az] 25)) wr∧(b=true→∀ j,j < k→∀ (hj:j < o.aa.length),iB o o.aa[j]=true)∧(b=false→eX o=63)) (fun ok i _=>o.aa.length - (intOf i).toNat)
 case atStart=>exact ⟨0,true,Nat.zero_le _,rfl,rfl,rQ.out,fun _ j hj=>absurd hj (Nat.not_lt_zero j),fun h=>by cases h⟩
 case round =>
  clear fH ly hz mr HA rQ;obtain ⟨k,b,hk,rfl,rfl,ha,hp,hq⟩:=hrel;obtain ⟨fH,ly,hz,mr,HA⟩:=cz ha;have gj:=gH ha;clear ha
  cases b
  ·have HF:=gH (hq rfl)
   clear hp hq;go_wp2_with fail
   go_loopw [3,6] (fun ok i wr=>ok=.bool false∧i=.int .i64 0∧ag (w.alloc (.cells #[.slice As o.aa.length ay,.slice At o.tables.length az] 25)) wr) (fun _ _ _=>0)
   case atStart=>exact ⟨rfl,rfl,gj.out⟩
   case round =>
    obtain ⟨rfl,rfl,ha⟩:=hrel;have NU:=gH ha;clear ha;go_wp2;go_ret;exact ⟨by rw [HF.out];rfl,((ag.refl w).alloc _).trans NU.out⟩
  have HP:=gH (hp rfl);clear hp hq;by_cases hlt:k < o.aa.length
  ·have lZ:=bI HA.out en
   obtain ⟨b,off,rfl,hb,c0,c1,s0,s1⟩:=iC lZ hlt;obtain ⟨p,gf⟩:∃ p,o.aa[k]=p:=⟨_,rfl⟩;rw [gf] at c0 c1 s0 s1;have HO:=gH (show iB o o.aa[k]=(bA p.name&&bA p.owner&&decide (within o.tables p.name≤8)) by rw [gf];rfl);clear gf lZ
   cases hN:bA p.name
   ·have HF:=gH (show eX o=63 by rw [se.out,all_false _ _ k hlt (by rw [HO.out,hN];rfl)];rfl)
    go_wp2_with (go_at_call 107;refine (cI _ _ (by first | exact s0.max | exact s1.max)).mono ?_;rintro e w' ⟨rfl,rfl⟩)
    go_roundw
    case rel=>exact ⟨k+1,false,by omega,by go_num,rfl,gj.out.alloc _,(fun h=>by cases h),fun _=>HF.out⟩
    case measure=>simp [intOf];omega
   cases hO:bA p.owner
   ·have HF:=gH (show eX o=63 by rw [se.out,all_false _ _ k hlt (by rw [HO.out,hN,hO];rfl)];rfl)
    go_wp2_with (go_at_call 107;refine (cI _ _ (by first | exact s0.max | exact s1.max)).mono ?_;rintro e w' ⟨rfl,rfl⟩)
    go_roundw
    case rel=>exact ⟨k+1,false,by omega,by go_num,rfl,gj.out.alloc _,(fun h=>by cases h),fun _=>HF.out⟩
    case measure=>simp [intOf];omega
   obtain ⟨n,hn⟩:∃ n,within o.tables p.name=n:=⟨_,rfl⟩
   have Cw:=gH (show ∀ w',ag w w'→Calls Tryz.prog 183 #[.agg #[.slice (some ⟨b,off,none⟩) o.aa.length ay,.slice At o.tables.length az],.string p.name] w' fun e w''=>e=.returned (.int .i64 n)∧ag w' w'' from
    fun w' a=>(td _ At az o.tables p.name w' (br a dw)).mono fun e w'' ⟨he,hw⟩=>⟨he.trans (by rw [← hn]),hw⟩)
   have NP:=gH (show iB o o.aa[k]=decide (n≤8) by rw [HO.out,hN,hO,hn];rfl);clear HO hn
   go_wp2_with (go_at_call 107;refine (cI _ _ (by first | exact s0.max | exact s1.max)).mono ?_;rintro e w' ⟨rfl,rfl⟩)
   refine (Cw.out _ (HA.out.alloc _)).mono ?_;rintro e w3 ⟨rfl,a3⟩;have Xn:=gH ((gj.out.alloc _).trans a3);clear a3 Cw;by_cases h8:n≤8
   ·have E7:(n:Int)≤8:=by omega
    have HN:=gH (bC (p:=fun j=>∀ (hj:j < o.aa.length),iB o o.aa[j]=true) HP.out (fun _=>by rw [NP.out];exact decide_eq_true h8));go_wp2
    go_roundw
    case rel=>exact ⟨k+1,true,by omega,by go_num,by simp,Xn.out,fun _=>HN.out,fun h=>by cases h⟩
    case measure=>simp [intOf];omega
   ·have E7:¬ (n:Int)≤8:=by omega
    have HF:=gH (show eX o=63 by rw [se.out,all_false _ _ k hlt (by rw [NP.out];exact decide_eq_false h8)];rfl);go_wp2
    go_roundw
    case rel=>exact ⟨k+1,false,by omega,by go_num,by simp [E7],Xn.out,(fun h=>by cases h),fun _=>HF.out⟩
    case measure=>simp [intOf];omega
  have LZ:=gH (show eX o=if o.tables.all (bP o) then 0 else 63 by rw [se.out,all_true _ _ fun j hj=>HP.out j (by omega) hj];rfl);clear HP se;go_wp2_with fail
  go_loopw [3,6] (fun ok i wr=>∃ (k:Nat) (b:Bool),k≤o.tables.length∧i=.int .i64 k∧ok=.bool b∧ag (w.alloc (.cells #[.slice As o.aa.length ay,.slice At o.tables.length az] 25)) wr∧(b=true→∀ j,j < k→∀ (hj:j < o.tables.length),bP o o.tables[j]=true)∧(b=false→eX o=63)) (fun ok i _=>o.tables.length - (intOf i).toNat)
  case atStart=>exact ⟨0,true,Nat.zero_le _,rfl,rfl,gj.out,fun _ j hj=>absurd hj (Nat.not_lt_zero j),fun h=>by cases h⟩
  case round =>
   clear fH ly hz mr HA gj;obtain ⟨k2,b,hk2,rfl,rfl,ha,hp,hq⟩:=hrel;obtain ⟨fH,ly,hz,mr,HA⟩:=cz ha;have gj:=gH ha;clear ha
   cases b
   ·have HF:=gH (hq rfl)
    clear hp hq;go_wp2;go_ret;exact ⟨by rw [HF.out];rfl,HA.out⟩
   have HP:=gH (hp rfl);clear hp hq;by_cases fd:k2 < o.tables.length
   ·have E8:=br HA.out dw
    have lZ:=bI HA.out en;obtain ⟨b,off,B2,iV,B3,jm,rfl,hb,c0,c1,c2,c3,c4,dt,ew,s0,s1,s2⟩:=fh E8 fd;obtain ⟨p,gf⟩:∃ p,o.tables[k2]=p:=⟨_,rfl⟩;rw [gf] at c0 c1 c2 c3 c4 dt ew s0 s1 s2;obtain ⟨f,hf⟩:∃ f,bP o p=f:=⟨_,rfl⟩;have HO:=gH (show bP o o.tables[k2]=f by rw [gf];exact hf)
    have Cr:=gH (show ∀ x:gX wr,Calls Tryz.prog 184 #[.agg #[.slice As o.aa.length ay,.slice (some ⟨b,off,none⟩) o.tables.length az],.agg #[.string p.ac,.string p.name,.string p.owner,.slice B2 p.av.length iV,.slice B3 p.rules.length jm]] (bt wr x) fun e w'=>e=.returned (.bool f)∧ag (bt wr x) w' from
     fun x=>(GN o p As ay _ az B2 iV B3 jm (bt wr x) (bI ((ag.refl wr).bt x) lZ) (br ((ag.refl wr).bt x) E8) (bW ((ag.refl wr).bt x) dt) (eQ ((ag.refl wr).bt x) ew) s1 s2).mono fun e w'' ⟨he,hw⟩=>⟨he.trans (by rw [← hf]),hw⟩)
    clear hf gf E8 lZ dt ew;go_wp2_with fail;refine aj (by kernel_rfl) (by kernel_rfl) ?_
    repeat (go_big_quiet_step ((first | (go_at_call 184;exact Calls.aL (Cr.out _)))))
    refine wpQuiet_nil ?_;intro _ hw';obtain ⟨x,hw''⟩:=hw';subst hw''
    cases f
    ·have HF:=gH (show eX o=63 by rw [LZ.out,all_false _ _ k2 fd HO.out];rfl)
     go_wp2
     go_roundw
     case rel=>exact ⟨k2+1,false,by omega,by go_num,rfl,gj.out.bt x,(fun h=>by cases h),fun _=>HF.out⟩
     case measure=>simp [intOf];omega
    ·have HN:=gH (bC (p:=fun j=>∀ (hj:j < o.tables.length),bP o o.tables[j]=true) HP.out (fun _=>HO.out))
     go_wp2
     go_roundw
     case rel=>exact ⟨k2+1,true,by omega,by go_num,rfl,gj.out.bt x,fun _=>HN.out,fun h=>by cases h⟩
     case measure=>simp [intOf];omega
   ·have HF:=gH (show eX o=0 by rw [LZ.out,all_true _ _ fun j hj=>HP.out j (by omega) hj];rfl)
    go_wp2;go_ret;exact ⟨by rw [HF.out];rfl,HA.out⟩
def dD:bF:=⟨[],[]⟩
theorem qx {o:bF} (h:bw o=true):Qm o:=by
 unfold bw lL at h;simp only [Bool.and_eq_true,decide_eq_true_eq,List.all_eq_true] at h;obtain ⟨⟨⟨⟨h1,h2⟩,_⟩,_⟩,_,h3⟩:=h;refine ⟨by omega,by omega,fun t ht=>?_⟩;have h4:=h3 t ht;unfold bP at h4;simp only [Bool.and_eq_true,decide_eq_true_eq,List.all_eq_true] at h4;obtain ⟨⟨⟨⟨_,h5⟩,h6⟩,_⟩,h7,_⟩:=h4
 have h8:t.av.length≤8:=by unfold eY at h5;simp only [Bool.and_eq_true,decide_eq_true_eq] at h5;exact h5.1.2
 refine ⟨by omega,by omega,fun r hr=>?_⟩;have h9:=h7 r hr;unfold ey at h9;simp only [Bool.and_eq_true] at h9
 have h1:tq t.av r.av=true:=by have hf:=h9.1;unfold cK at hf;simp only [Bool.and_eq_true] at hf;exact hf.1.1.1
 have:=KM t.av r.av h1;omega
def Mo (w:World) (B n3:Nat) (r:bF × Int) (e:Ending) (w':World):Prop :=
 e=.returned (.int .i64 r.2)∧Kb (fun g=>B≤g) w w'∧(r.2=0→∃ hs ht L,L.map bK.t=r.1.tables∧dM w' B hs ht r.1.aa L∧au w' n3 [.slice hs.a r.1.aa.length hs.c,.slice ht.a r.1.tables.length ht.c])
def rL (w:World) (r:bF × Int) (e:Ending) (w':World):Prop :=
 ∃ hs ht L,L.map bK.t=r.1.tables∧e=.returned (.tuple #[.agg #[.slice hs.a r.1.aa.length hs.c,.slice ht.a r.1.tables.length ht.c],.int .i64 r.2])∧ag w w'∧dM w' w.heap.size hs ht r.1.aa L
def ju (o:bF) (r:bF × Int):bF × Int:=if bw o then r else (dD,63)
theorem DR (w:World) (B:Nat):dM w B ⟨none,0,0⟩ ⟨none,0,0⟩ [] []:=⟨cO _ _ _ _,cO _ _ _ _,fun x hx=>by simp at hx,by simp [iQ]⟩
theorem wK {w w':World} {c:Int} (a:ag w w'):rL w (dD,c) (.returned (.tuple #[.agg #[.slice none 0 0,.slice none 0 0],.int .i64 c])) w':=⟨⟨none,0,0⟩,⟨none,0,0⟩,[],rfl,rfl,a,DR _ _⟩
theorem th (o:bF) (As:Option Addr) (ay:Nat) (At:Option Addr) (az:Nat) (g:FuncId) (cs:Array Value) (r:bF × Int) (w:World) (en:aA w 2 eL As ay o.aa) (dw:aA w 5 dE At az o.tables)
  (dc:∀ (args:Array Value) (w:World),(callFunc g args).run Tryz.prog w=.ok (.enter g args) w) (hr:r.2≠0→r.1=dD)
  (hdo:bw o=true→∀ (w':World) (hs ht:Hd) (L:List bK) (B n3:Nat),ag w w'→w.heap.size≤B→B≤n3→L.map bK.t=o.tables→dM w' B hs ht o.aa L→(∀ g∈hs.blk++(ht.blk++L.flatMap bK.ig),g≠n3) →
   au w' n3 [.slice hs.a o.aa.length hs.c,.slice ht.a o.tables.length ht.c]→Calls Tryz.prog g (#[.pointer (some ⟨n3,0,none⟩)]++cs) w' (Mo w' B n3 r)) :
  Calls Tryz.prog 253 #[.agg #[.slice As o.aa.length ay,.slice At o.tables.length az],.func (.func g) #[] cs] w (rL w (ju o r)):=by
 have hlen:=en.len;have fq:=dw.len
 have l1:w.heap.size < w.heap.size+1:=by omega
 have l2:w.heap.size < w.heap.size+1+1:=by omega
 obtain ⟨W,hW⟩:∃ W,W=(w.alloc (.cells #[.slice As o.aa.length ay,.slice At o.tables.length az] 25)).alloc (.cells #[.slice none 0 0,.slice none 0 0] 25):=⟨_,rfl⟩
 have aW:ag w W:=by rw [hW];exact ((ag.refl w).alloc _).alloc _
 have r1:au W w.heap.size [.slice As o.aa.length ay,.slice At o.tables.length az]:=by rw [hW];exact (aU (ag.refl _)).aH ((ag.refl _).alloc _)
 have r2:au W (w.heap.size+1) [.slice none 0 0,.slice none 0 0]:=by
  rw [hW];have:=(aU (w:=w.alloc (.cells #[.slice As o.aa.length ay,.slice At o.tables.length az] 25)) (c:=[.slice none 0 0,.slice none 0 0]) (t:=25) (ag.refl _))
  simpa using this
 have zW:W.heap.size=w.heap.size+2:=by rw [hW];simp
 obtain ⟨c,hc⟩:∃ c,bw o=c:=⟨_,rfl⟩
 have CK:=gH (show ∀ w',ag w w'→Calls Tryz.prog 111 #[.agg #[.slice As o.aa.length ay,.slice At o.tables.length az]] w' fun e w''=>e=.returned (.int .i64 (if c=true then 0 else 63))∧ag w' w'' from
  fun w' a=>(ql o As ay At az w' (bI a en) (br a dw)).mono fun e w'' ⟨he,hw⟩=>⟨he.trans (by unfold eX;rw [hc]),hw⟩)
 have CO:=gH (show c=true→∀ w',ag w w'→_ from fun h w' a=>Sr o As ay At az w' (bI a en) (br a dw) (qx (hc.trans h)));have X7:=gH (fun h:c=true=>hdo (hc.trans h));have HE:=gH (show ju o r=if c=true then r else (dD,63) by unfold ju;rw [hc]);have bQ:=gH aW;have HR:=gH hr;have uy:=gH r1;have se:=gH r2;have HZ:=gH zW;clear hc hdo en dw r1 r2 aW zW hr
 go_in
 go_wp2_with fail;rw [← hW];refine (CK.out W bQ.out).mono ?_;rintro e w1 ⟨rfl,a1⟩;have b2:=se.out.aH a1;have d0:=b2.cell (j:=0) rfl;have d1:=b2.cell (j:=1) rfl;have f0:=b2.2.2 0 (by simp);have f1:=b2.2.2 1 (by simp);have z2:=b2.1;have cT:=gH (bQ.out.trans a1);have TL:=gH b2;clear hW
 cases c
 ·clear a1 b2
  go_wp2_with fail;obtain ⟨F,hF⟩:∃ F,F=(w1.setCell ⟨w.heap.size+1,0,none⟩ (.slice none 0 0)).setCell ⟨w.heap.size+1,1,none⟩ (.slice none 0 0):=⟨_,rfl⟩
  have rF:au F (w.heap.size+1) [.slice none 0 0,.slice none 0 0]:=by rw [hF];exact (TL.out.set 0 _ (by simp)).set 1 _ (by simp)
  have aF:ag w F:=by rw [hF];exact (cT.out.setCell _ _ (Nat.le_succ _)).setCell _ _ (Nat.le_succ _)
  rw [← hF];refine bodyPost_ret (results_cell_tmp (v:=.agg #[.slice none 0 0,.slice none 0 0]) rfl _ rfl ?hl) rfl ?_
  case hl=>exact iI rF
  rw [HE.out];exact wK aF
 ·have b1:=uy.out.aH a1
  have c0:=b1.cell (j:=0) rfl;have c1:=b1.cell (j:=1) rfl;have z1:=b1.1;have ki:=gH (show w.heap.size+2≤w1.heap.size by have:=a1.size;have:=HZ.out;omega);clear a1 b1 b2;go_wp2_with fail;refine (CO.out (by simp) w1 cT.out).mono ?_;rintro e w2 ⟨hs,ht,L,hL,rfl,a2,ob⟩;obtain ⟨W3,hW3⟩:∃ W3,W3=w2.alloc (.cells #[.slice hs.a o.aa.length hs.c,.slice ht.a o.tables.length ht.c] 25):=⟨_,rfl⟩
  have a3:ag w2 W3:=by rw [hW3];exact (ag.refl _).alloc _
  have r3:au W3 w2.heap.size [.slice hs.a o.aa.length hs.c,.slice ht.a o.tables.length ht.c]:=by rw [hW3];exact aU (ag.refl _)
  have HD:=gH (X7.out (by simp) W3 hs ht L w1.heap.size w2.heap.size (cT.out.trans (a2.trans a3)) cT.out.size a2.size hL (ob.aH a3) (fun g hg e=>by have:=(ob.lt g hg).2;omega) r3);have nU:=gH (cT.out.trans (a2.trans a3));have Ls:=gH (TL.out.aH (a2.trans a3));clear a2 a3 ob hL CO X7 r3 c0 c1 z1 d0 d1 f0 f1 z2 CK;obtain ⟨r0,rc⟩:=r;have kP:=gH (show w.heap.size+1 < w1.heap.size from TL.out.1);go_wp2_with fail;rw [← hW3];clear hW3;refine HD.out.mono ?_;rintro e w4 ⟨rfl,k4,hz4⟩;have b4:=k4.row Ls.out (by have:=kP.out;omega);have d0:=b4.cell (j:=0) rfl;have d1:=b4.cell (j:=1) rfl;have f0:=b4.2.2 0 (by simp);have f1:=b4.2.2 1 (by simp);have z2:=b4.1;have HB4:=gH b4;have ul:=gH (k4.aN nU.out (fun g hg h1=>by have:=cT.out.size;omega));have Io:=gH hz4;clear b4 k4 hz4;by_cases qZ:rc=0
  ·subst qZ
   obtain ⟨hs',lz,L',DJ,ob',r4⟩:=Io.out rfl;have c0:=r4.cell (j:=0) rfl;have c1:=r4.cell (j:=1) rfl;have z3:=r4.1;have HO:=gH ob';have HL':=gH DJ;clear ob' DJ r4;go_wp2_with fail;obtain ⟨F,hF⟩:∃ F,F=(w4.setCell ⟨w.heap.size+1,0,none⟩ (.slice hs'.a r0.aa.length hs'.c)).setCell ⟨w.heap.size+1,1,none⟩ (.slice lz.a r0.tables.length lz.c):=⟨_,rfl⟩
   have kF:Kb (fun g=>g=w.heap.size+1) w4 F:=by rw [hF];exact (Kb.set _ _ _ _).trans (Kb.set _ _ _ _)
   have rF:au F (w.heap.size+1) [.slice hs'.a r0.aa.length hs'.c,.slice lz.a r0.tables.length lz.c]:=by rw [hF];exact (HB4.out.set 0 _ (by simp)).set 1 _ (by simp)
   rw [← hF];refine bodyPost_ret (results_cell_tmp (v:=.agg #[.slice hs'.a r0.aa.length hs'.c,.slice lz.a r0.tables.length lz.c]) rfl _ rfl ?hl2) rfl ?_
   case hl2=>exact iI rF
   rw [HE.out];refine ⟨hs',lz,L',HL'.out,rfl,kF.aN ul.out (fun g hg e=>by omega),?_⟩;refine dM.down (HO.out.kb kF fun g hg e=>?_) (by have:=cT.out.size;omega);have:=(HO.out.lt g hg).1;have:=kP.out;omega
  ·have t1:(rc != 0)=true:=by simpa using qZ
   have Bc:r0=dD:=HR.out qZ;have fO:=gH Bc;have J2:=gH qZ;clear qZ Bc;go_wp2_with fail;obtain ⟨F,hF⟩:∃ F,F=(w4.setCell ⟨w.heap.size+1,0,none⟩ (.slice none 0 0)).setCell ⟨w.heap.size+1,1,none⟩ (.slice none 0 0):=⟨_,rfl⟩
   have rF:au F (w.heap.size+1) [.slice none 0 0,.slice none 0 0]:=by rw [hF];exact (HB4.out.set 0 _ (by simp)).set 1 _ (by simp)
   have aF:ag w F:=by rw [hF];exact (ul.out.setCell _ _ (Nat.le_succ _)).setCell _ _ (Nat.le_succ _)
   rw [← hF];refine bodyPost_ret (results_cell_tmp (v:=.agg #[.slice none 0 0,.slice none 0 0]) rfl _ rfl ?XW) rfl ?_
   case XW=>exact iI rF
   rw [HE.out,fO.out];exact wK aF
def gu (o:bF) (s n:ByteArray) (f:cp→cp × Int):bF × Int :=
 match o.tables[(bp o.tables s n).toNat]? with
 | some t=>if bp o.tables s n < 0 then (dD,61) else if (f t).2=0 then (⟨o.aa,o.tables.set (bp o.tables s n).toNat (f t).1⟩,0) else (dD,(f t).2)
 | none=>(dD,61)
theorem vB {o:bF} {s n:ByteArray} {f:cp→cp × Int} (h:bp o.tables s n < 0):gu o s n f=(dD,61):=by
 unfold gu;split
 ·rw [if_pos h]
 ·rfl
theorem vC {o:bF} {s n:ByteArray} {f:cp→cp × Int} {q:Nat} (h:bp o.tables s n=q) (hq:q < o.tables.length):gu o s n f=if (f o.tables[q]).2=0 then (⟨o.aa,o.tables.set q (f o.tables[q]).1⟩,0) else (dD,(f o.tables[q]).2):=by
 unfold gu;rw [h];simp only [Int.toNat_natCast,List.getElem?_eq_getElem hq];rw [if_neg (by omega)]
theorem uC {α:Type} {L:List α} {q:Nat} {x y:α} (hq:q < L.length) (h:x∈L.set q y):x=y∨∃ i,∃ hi:i < L.length,i≠q∧x=L[i]:=by
 obtain ⟨i,hi,rfl⟩:=List.getElem_of_mem h;rw [List.length_set] at hi;by_cases e:i=q
 ·subst e;exact .inl (by simp)
 ·exact .inr ⟨i,hi,e,by rw [List.getElem_set_ne (fun h=>e h.symm)]⟩
theorem Le (A:Option Addr) (cap:Nat) (l:List fJ) (vt:Value) (name:ByteArray) (w:World) (h:aA w 2 eL A cap l) :
  Calls Tryz.prog 318 #[.agg #[.slice A l.length cap,vt],.string name] w fun e w'=>e=.returned (.int .i64 (cy l name))∧ag w w':=by
 have hlen:=h.len
 go_in
 go_wp2_with fail
 go_loop [5] (fun i=>∃ k:Nat,k≤l.length∧i=.int .i64 k∧∀ j,j < k→∀ (hj:j < l.length),aS l[j].name name=false) (fun i=>l.length - (intOf i).toNat)
 case atStart=>exact ⟨0,Nat.zero_le _,rfl,fun j hj=>absurd hj (Nat.not_lt_zero j)⟩
 case round =>
  obtain ⟨k,hk,rfl,hp⟩:=hrel;have HP:=gH hp;clear hp;by_cases hlt:k < l.length
  ·obtain ⟨b,off,rfl,hb,c0,c1,hs⟩:=iC h hlt
   cases heq:aS l[k].name name
   ·have h2:(l[k].name.toList==name.toList)=false:=heq
    have HN:=gH (bC (p:=fun j=>∀ (hj:j < l.length),aS l[j].name name=false) HP.out (fun _=>heq));clear heq;go_wp2
    go_round
    case rel=>exact ⟨k+1,by omega,by go_num,HN.out⟩
    case measure=>simp [intOf];omega
   ·have h2:(l[k].name.toList==name.toList)=true:=heq
    have HQ:=gH heq;clear heq;go_wp2;go_ret;have heq:=HQ.out;exact ⟨by rw [show cy l name=k from dV (fun c:fJ=>aS c.name name) l k hlt heq (fun i hi=>HP.out i hi (by omega))];rfl,(ag.refl _).alloc _⟩
  ·go_wp2
   go_ret;exact ⟨by rw [show cy l name = -1 from dU (fun c:fJ=>aS c.name name) l (fun i hi=>HP.out i (by omega) hi)];rfl,(ag.refl _).alloc _⟩
theorem sW (vs:Value) (A:Option Addr) (cap:Nat) (l:List cp) (s n:ByteArray) (w:World) (h:aA w 5 dE A cap l) :
  Calls Tryz.prog 147 #[.agg #[vs,.slice A l.length cap],.string s,.string n] w fun e w'=>e=.returned (.int .i64 (bp l s n))∧ag w w':=by
 have hlen:=h.len
 go_in
 go_wp2_with fail
 go_loop [7] (fun i=>∃ k:Nat,k≤l.length∧i=.int .i64 k∧∀ j,j < k→∀ (hj:j < l.length),(aS l[j].ac s&&aS l[j].name n)=false) (fun i=>l.length - (intOf i).toNat)
 case atStart=>exact ⟨0,Nat.zero_le _,rfl,fun j hj=>absurd hj (Nat.not_lt_zero j)⟩
 case round =>
  obtain ⟨k,hk,rfl,hp⟩:=hrel;have HP:=gH hp;clear hp;by_cases hlt:k < l.length
  ·obtain ⟨b,off,B2,iV,B3,jm,rfl,hb,c0,c1,c2,c3,c4,dt,ew,lZ⟩:=fh h hlt
   clear dt ew lZ
   cases heq:aS l[k].ac s
   ·have h2:(l[k].ac.toList==s.toList)=false:=heq
    have HN:=gH (bC (p:=fun j=>∀ (hj:j < l.length),(aS l[j].ac s&&aS l[j].name n)=false) HP.out (fun _=>by rw [heq];rfl));clear heq;go_wp2
    go_round
    case rel=>exact ⟨k+1,by omega,by go_num,HN.out⟩
    case measure=>simp [intOf];omega
   have h2:(l[k].ac.toList==s.toList)=true:=heq
   cases GP:aS l[k].name n
   ·have h3:(l[k].name.toList==n.toList)=false:=GP
    have HN:=gH (bC (p:=fun j=>∀ (hj:j < l.length),(aS l[j].ac s&&aS l[j].name n)=false) HP.out (fun _=>by rw [heq,GP];rfl));clear heq GP;go_wp2
    go_round
    case rel=>exact ⟨k+1,by omega,by go_num,HN.out⟩
    case measure=>simp [intOf];omega
   ·have h3:(l[k].name.toList==n.toList)=true:=GP
    have HQ:=gH (show (aS l[k].ac s&&aS l[k].name n)=true by rw [heq,GP];rfl);clear heq GP;go_wp2;go_ret;have heq:=HQ.out;exact ⟨by rw [show bp l s n=k from dV (fun t:cp=>aS t.ac s&&aS t.name n) l k hlt heq (fun i hi=>HP.out i hi (by omega))];rfl,(ag.refl _).alloc _⟩
  ·go_wp2
   go_ret;exact ⟨by rw [show bp l s n = -1 from dU (fun t:cp=>aS t.ac s&&aS t.name n) l (fun i hi=>HP.out i (by omega) hi)];rfl,(ag.refl _).alloc _⟩
theorem GQ (vs:Value) (A:Option Addr) (cap:Nat) (l:List cp) (s:ByteArray) (w:World) (h:aA w 5 dE A cap l) :
  Calls Tryz.prog 317 #[.agg #[vs,.slice A l.length cap],.string s] w fun e w'=>e=.returned (.int .i64 (within l s))∧ag w w':=by
 have hlen:=h.len
 go_in
 go_wp2_with fail
 go_loop [5,6] (fun n i=>∃ k:Nat,k≤l.length∧i=.int .i64 k∧n=.int .i64 (within (l.take k) s)) (fun _ i=>l.length - (intOf i).toNat)
 case atStart=>exact ⟨0,Nat.zero_le _,rfl,rfl⟩
 case round =>
  obtain ⟨k,hk,rfl,rfl⟩:=hrel;have hw:=qK (l.take k) s;have hw2:(l.take k).length≤k:=List.length_take_le _ _;by_cases hlt:k < l.length
  ·obtain ⟨b,off,A2,bJ,A3,fN,rfl,hb,c0,c1,c2,c3,c4,hs⟩:=fh h hlt
   clear hs;have HS:=gH (rC l s k hlt)
   cases heq:aS l[k].ac s
   ·have h2:(l[k].ac.toList==s.toList)=false:=heq
    have HN:=gH (show within (l.take (k+1)) s=within (l.take k) s by rw [HS.out,heq];simp);clear heq HS;go_wp2
    go_round
    case rel=>exact ⟨k+1,by omega,by go_num,by rw [HN.out]⟩
    case measure=>simp [intOf];omega
   ·have h2:(l[k].ac.toList==s.toList)=true:=heq
    have HN:=gH (show within (l.take (k+1)) s=within (l.take k) s+1 by rw [HS.out,heq];simp);clear heq HS;go_wp2
    go_round
    case rel=>exact ⟨k+1,by omega,by go_num,by rw [HN.out];go_num⟩
    case measure=>simp [intOf];omega
  ·go_wp2
   go_ret;exact ⟨by rw [List.take_of_length_le (by omega)];rfl,(ag.refl _).alloc _⟩
theorem Lf (vs:Value) (At:Option Addr) (az:Nat) (ts:List cp) (A:Option Addr) (cap:Nat) (l:List eB) (r:fF) (A2:Option Addr) (bJ:Nat) (w:World) (ht:aA w 5 dE At az ts) (h:aA w 3 fG A cap l) (h2:aA w 1 dg A2 bJ r.av) :
  Calls Tryz.prog 321 #[.agg #[vs,.slice At ts.length az],.slice A l.length cap,.agg #[.string r.name,.int .i64 r.kind,.slice A2 r.av.length bJ,.int .i64 r.low,.int .i64 r.high,.string r.ac,.string r.table,.string r.key]] w
   fun e w'=>e=.returned (.int .i64 (lO ts l r))∧ag w w':=by
 obtain ⟨i,hi⟩:∃ i,bp ts r.ac r.table=i:=⟨_,rfl⟩;have hlen:=ht.len;have fq:=h2.len;have aaK:=h.len
 have Cw:=gH (show ∀ w',ag w w'→Calls Tryz.prog 147 #[.agg #[vs,.slice At ts.length az],.string r.ac,.string r.table] w' fun e w''=>e=.returned (.int .i64 i)∧ag w' w'' from
  fun w' a=>(sW vs At az ts r.ac r.table w' (br a ht)).mono fun e w'' ⟨he,hw⟩=>⟨he.trans (by rw [← hi]),hw⟩)
 by_cases kG:0≤i
 ·obtain ⟨q,rfl⟩:=Int.eq_ofNat_of_zero_le kG
  have mO:q < ts.length:=by have:=(bk (fun t=>aS t.ac r.ac&&aS t.name r.table) ts).2;unfold bp at hi;omega
  have HE:=gH (wH (l:=l) hi mO);rw [HE.out];clear HE hi
  go_in
  go_wp2_with fail;refine (Cw.out _ (((ag.refl w).alloc _).alloc _)).mono ?_;rintro e w1 ⟨rfl,a1⟩;obtain ⟨Bf,hbr,hz,HA⟩:=fP a1;have Xm:=br HA.out ht;clear a1 Cw;obtain ⟨b,off,B2,iV,B3,jm,rfl,hb,c0,c1,c2,c3,c4,dt,ew,lZ⟩:=fh Xm mO;obtain ⟨t,IW⟩:∃ t,ts[q]=t:=⟨_,rfl⟩;rw [IW] at c0 c1 c2 c3 c4 dt ew lZ;have HT:=gH IW;clear IW lZ;have IV:=ew.len;have aaL:=dt.len;obtain ⟨k,hk⟩:∃ k,fL t.rules r.key=k:=⟨_,rfl⟩;obtain ⟨w2,hw2⟩:∃ w2,w2=w1.alloc (.cells #[.string t.ac,.string t.name,.string t.owner,.slice B2 t.av.length iV,.slice B3 t.rules.length jm] 80):=⟨_,rfl⟩
  have a2:ag w1 w2:=by rw [hw2];exact (ag.refl w1).alloc _
  have nQ:=eQ a2 ew
  have Cb:=gH (show Calls Tryz.prog 362 #[.slice B3 t.rules.length jm,.string r.key] w2 fun e w''=>e=.returned (.int .i64 k)∧w2=w'' from
   (Ko B3 jm t.rules r.key w2 nQ).mono fun e w'' ⟨he,hw⟩=>⟨he.trans (by rw [← hk];rfl),hw⟩)
  have Bh:∀ o,w2.cell? ⟨w1.heap.size,o,none⟩=(#[.string t.ac,.string t.name,.string t.owner,.slice B2 t.av.length iV,.slice B3 t.rules.length jm]:Array Value)[o]? := by intro o;rw [hw2];simp
  have hzt:w1.heap.size < w2.heap.size:=by rw [hw2];simp
  have Su:∀ o,w2.cell? ⟨w.heap.size+1,o,none⟩=_:=fun o=>(Below.cell a2 (p:=⟨w.heap.size+1,o,none⟩) hz.2).trans (hbr o)
  have oY:=gH (HA.out.trans a2);have Lb:=bW a2 dt;have h02:=bW oY.out h;have Sv:=aO oY.out h2;have hz2:w.heap.size+1 < w2.heap.size:=Nat.lt_of_lt_of_le hz.2 a2.size;go_wp2_with fail;rw [← hw2];clear hw2 Xm dt ew;refine Cb.out.mono ?_;rintro e w' ⟨rfl,hw'⟩;subst hw';clear Cb Bf hbr c0 c1 c2 c3 c4;by_cases F5:0≤k
  ·obtain ⟨m,rfl⟩:=Int.eq_ofNat_of_zero_le F5
   have F7:m < t.rules.length:=by have:=(bk (fun c=>aS c.name r.key) t.rules).2;unfold fL at hk;omega
   have HE:=gH (wJ (l:=l) hk F7);clear hk;obtain ⟨b3,Qp,D2,jO,rfl,hb3,e0,e1,e2,e3,e4,e5,e6,e7,hcs,IX⟩:=jC nQ F7;obtain ⟨p,hp⟩:∃ p,t.rules[m]=p:=⟨_,rfl⟩;rw [hp] at e0 e1 e2 e3 e4 e5 e6 e7 hcs IX;have HP:=gH hp;clear hp nQ IX
   cases hk2:(p.kind != 2)
   ·have HV:=gH (show j9 ts[q] l r=if dm l t.av r.av p.av then 0 else 63 by
     have hk3:(p.kind==2)=true:=by simpa using hk2
     rw [HT.out,HE.out,HP.out,if_pos hk3])
    clear HE HT HP;have O9:=hcs.len;by_cases d1:p.av.length=r.av.length
    ·have f1:((p.av.length:Int) != (r.av.length:Int))=false:=by simp [d1]
     go_wp2_with fail;clear e0 e1 e2 e3 e4 e5 e6 e7
     go_loopw [11,12,13] (fun i _ _ wr=>∃ k:Nat,k≤p.av.length∧i=.int .i64 k∧ag w2 wr∧∀ j,j < k→∀ (hj:j < r.av.length) (mv:j < p.av.length),l8 l t.av r.av[j] p.av[j]=true) (fun i _ _ _=>p.av.length - (intOf i).toNat)
     case atStart=>exact ⟨0,Nat.zero_le _,rfl,ag.refl _,fun j hj=>absurd hj (Nat.not_lt_zero j)⟩
     case round =>
      obtain ⟨k,hk,rfl,ha,hp⟩:=hrel;have HP:=gH hp;clear hp;have L9:=gH ha;by_cases hlt:k < p.av.length
      ·have NV:k < r.av.length:=by omega
       obtain ⟨b5,aaA,rfl,Pc,g5,_⟩:=er (aO ha Sv) NV;obtain ⟨b6,aa4,rfl,hb6,g6,_⟩:=er (aO ha hcs) hlt;have q1:wr.cell? ⟨w.heap.size+1,2,none⟩=some (.slice (some ⟨b5,aaA,none⟩) r.av.length bJ):=ha.lv (Su 2);have q2:wr.cell? ⟨w1.heap.size,3,none⟩=some (.slice B2 t.av.length iV):=ha.lv (Bh 3);have z1:w.heap.size+1 < wr.heap.size:=Nat.lt_of_lt_of_le hz2 ha.size;have z2:w1.heap.size < wr.heap.size:=Nat.lt_of_lt_of_le hzt ha.size;have pc:=bW ha h02;have hct:=bW ha Lb;clear ha;obtain ⟨x,hx⟩:∃ x,bR l r.av[k]=x:=⟨_,rfl⟩;obtain ⟨y,hy⟩:∃ y,bR t.av p.av[k]=y:=⟨_,rfl⟩
       have C1:=gH (show Calls Tryz.prog 361 #[.slice A l.length cap,.string r.av[k]] wr fun e w'=>e=.returned (.int .i64 x)∧wr=w' from
        (nw A cap l r.av[k] wr pc).mono fun e w' ⟨he,hw⟩=>⟨he.trans (by rw [← hx];rfl),hw⟩)
       have C2:=gH (show ∀ z:gX wr,Calls Tryz.prog 361 #[.slice B2 t.av.length iV,.string p.av[k]] (bt wr z) fun e w'=>e=.returned (.int .i64 y)∧bt wr z=w' from
        fun z=>(nw B2 iV t.av p.av[k] (bt wr z) (bW ((ag.refl wr).bt z) hct)).mono fun e w' ⟨he,hw⟩=>⟨he.trans (by rw [← hy];rfl),hw⟩)
       have Yq:=gH (show l8 l t.av r.av[k] p.av[k]=(decide (0≤x)&&decide (0≤y)&&(fl l x==fl t.av y)) by unfold l8;rw [hx,hy])
       have Ng:x < l.length:=by have:=(bk (fun c=>aS c.name r.av[k]) l).2;unfold bR at hx;omega
       have hyl:y < t.av.length:=by have:=(bk (fun c=>aS c.name p.av[k]) t.av).2;unfold bR at hy;omega
       clear hx hy;go_wp2_with fail;refine C1.out.mono ?_;rintro e w' ⟨rfl,hw'⟩;subst hw';go_wp2_with fail;refine aj (by kernel_rfl) (by kernel_rfl) ?_
       repeat (go_big_quiet_step ((first | (go_at_call 361;exact Calls.aK (C2.out _)))))
       refine wpQuiet_nil ?_;intro _ hw';obtain ⟨z,hw''⟩:=hw';subst hw'';by_cases hx0:x < 0
       ·have HF:=gH (show j9 ts[q] l r=63 by rw [HV.out,kM _ _ _ _ k NV hlt (by rw [Yq.out,decide_eq_false (by omega)];rfl)];rfl)
        have dx:decide (x < 0)=true:=decide_eq_true hx0;go_wp2_with fail;refine aj (by kernel_rfl) (by kernel_rfl) ?_
        repeat (go_big_quiet_step (fail))
        refine wpQuiet_nil ?_;intro _ hw';obtain ⟨Sw,hw''⟩:=hw';subst hw'';go_wp2;go_ret;exact ⟨by rw [HF.out];rfl,oY.out.trans ((L9.out.bt z).bt Sw)⟩
       have dx:decide (x < 0)=false:=decide_eq_false hx0;by_cases hy0:y < 0
       ·have HF:=gH (show j9 ts[q] l r=63 by rw [HV.out,kM _ _ _ _ k NV hlt (by rw [Yq.out,decide_eq_false (show ¬ 0≤y by omega),Bool.and_false];rfl)];rfl)
        have dy:decide (y < 0)=true:=decide_eq_true hy0;go_wp2_with fail;refine aj (by kernel_rfl) (by kernel_rfl) ?_
        repeat (go_big_quiet_step (fail))
        refine wpQuiet_nil ?_;intro _ hw';obtain ⟨Sw,hw''⟩:=hw';subst hw'';go_wp2;go_ret;exact ⟨by rw [HF.out];rfl,oY.out.trans ((L9.out.bt z).bt Sw)⟩
       have dy:decide (y < 0)=false:=decide_eq_false hy0;obtain ⟨x',rfl⟩:=Int.eq_ofNat_of_zero_le (show 0≤x by omega);obtain ⟨y',rfl⟩:=Int.eq_ofNat_of_zero_le (show 0≤y by omega)
       have Xo:x' < l.length:=by omega
       have Xp:y' < t.av.length:=by omega
       obtain ⟨b7,aa5,rfl,hb7,d70,d71,d72,_⟩:=ky pc Xo;obtain ⟨b8,aa6,rfl,hb8,d80,d81,d82,_⟩:=ky hct Xp
       have Xq:=gH (show l8 l t.av r.av[k] p.av[k]=(l[x'].kind==t.av[y'].kind) by
        rw [Yq.out,decide_eq_true (show (0:Int)≤(x':Int) by omega),decide_eq_true (show (0:Int)≤(y':Int) by omega)];simp [fl,List.getElem?_eq_getElem Xo,List.getElem?_eq_getElem Xp])
       clear Yq C1 C2 hx0 hy0
       cases nV:(l[x'].kind != t.av[y'].kind)
       ·have HN:=gH (bC (p:=fun j=>∀ (hj:j < r.av.length) (mv:j < p.av.length),l8 l t.av r.av[j] p.av[j]=true) HP.out (fun _ _=>by rw [Xq.out];simpa using nV))
        go_wp2_with fail;refine aj (by kernel_rfl) (by kernel_rfl) ?_
        repeat (go_big_quiet_step (fail))
        refine wpQuiet_nil ?_;intro _ hw';obtain ⟨Sw,hw''⟩:=hw';subst hw'';go_wp2
        go_roundw
        case rel=>exact ⟨k+1,by omega,by go_num,(L9.out.bt z).bt Sw,HN.out⟩
        case measure=>simp [intOf];omega
       ·have HF:=gH (show j9 ts[q] l r=63 by rw [HV.out,kM _ _ _ _ k NV hlt (by rw [Xq.out];simpa using nV)];rfl)
        go_wp2_with fail;refine aj (by kernel_rfl) (by kernel_rfl) ?_
        repeat (go_big_quiet_step (fail))
        refine wpQuiet_nil ?_;intro _ hw';obtain ⟨Sw,hw''⟩:=hw';subst hw'';go_wp2;go_ret;exact ⟨by rw [HF.out];rfl,oY.out.trans ((L9.out.bt z).bt Sw)⟩
      ·have HF:=gH (show j9 ts[q] l r=0 by rw [HV.out,p9 _ _ _ _ d1 (fun j hj mv=>HP.out j (by omega) hj mv)];rfl)
       clear ha;go_wp2;go_ret;exact ⟨by rw [HF.out];rfl,oY.out.trans L9.out⟩
    ·have f1:((p.av.length:Int) != (r.av.length:Int))=true:=by simp;omega
     have HR:=gH (show j9 ts[q] l r=63 by rw [HV.out,AE _ _ _ _ d1];rfl);go_wp2;go_ret;exact ⟨by rw [HR.out];rfl,oY.out⟩
   ·have HV:=gH (show j9 ts[q] l r=61 by
     have hk3:¬ ((p.kind==2)=true):=by simpa using hk2
     rw [HT.out,HE.out,HP.out,if_neg hk3])
    go_wp2;go_ret;exact ⟨by rw [HV.out];rfl,oY.out⟩
  ·have jd:k < 0:=by omega
   have HE:=gH (wI (l:=l) (by rw [hk];exact jd):j9 t l r=61);clear hk;go_wp2;go_ret;exact ⟨by rw [HT.out,HE.out];rfl,oY.out⟩
 ·have kj:i < 0:=by omega
  have HE:=gH (wG (l:=l) (by rw [hi];exact kj):lO ts l r=61);rw [HE.out];clear HE hi
  go_in
  go_wp2_with fail;refine (Cw.out _ (((ag.refl w).alloc _).alloc _)).mono ?_;rintro e w1 ⟨rfl,a1⟩;have HA:=gH ((((ag.refl w).alloc _).alloc _).trans a1);clear a1;go_wp2;go_ret;exact ⟨rfl,HA.out⟩
def lw (o:bF):Bool:=o.aa.all (iB o)&&aM (fun a b=>aT a.name b.name) o.aa&&aM (fun a b=>eO (aT a.ac b.ac) (aT a.name b.name)) o.tables&&decide (o.aa.length≤8)
theorem nR (o:bF) (k:Nat) (hk:k < o.aa.length) (h:iB o o.aa[k]=false):lw o=false:=by
 unfold lw;rw [all_false _ _ k hk h];rfl
theorem DT (o:bF) (k:Nat) (hk:k < o.aa.length) (h0:0 < k) (h:nJ (o.aa[k - 1]'(by omega)).name o.aa[k].name=false):lw o=false:=by
 have h1:k - 1+1 < o.aa.length:=by omega
 have e:(o.aa[k - 1+1]'h1)=o.aa[k]:=by congr 1;omega
 unfold lw;rw [eu _ _ (k - 1) h1]
 ·simp
 ·rw [e]
  rw [← io] at h;have:=of_decide_eq_false h;omega
theorem ue (o:bF) (k:Nat) (hk:k < o.tables.length) (h0:0 < k) (h:¬ eO (aT (o.tables[k - 1]'(by omega)).ac o.tables[k].ac) (aT (o.tables[k - 1]'(by omega)).name o.tables[k].name) < 0):lw o=false:=by
 have h1:k - 1+1 < o.tables.length:=by omega
 have e:(o.tables[k - 1+1]'h1)=o.tables[k]:=by congr 1;omega
 unfold lw;rw [eu (fun a b:cp=>eO (aT a.ac b.ac) (aT a.name b.name)) _ (k - 1) h1]
 ·simp
 ·rw [e];omega
theorem jM {α:Type} (c:α→α→Int) (l:List α) (h:∀ k,1≤k→∀ (hk:k < l.length),c (l[k - 1]'(by omega)) l[k] < 0):aM c l=true :=
 (cR c l).2 fun k hk=>h (k+1) (by omega) hk
theorem GR (o:bF) (As:Option Addr) (ay:Nat) (At:Option Addr) (az:Nat) (w:World) (en:aA w 2 eL As ay o.aa) (dw:aA w 5 dE At az o.tables) :
  Calls Tryz.prog 224 #[.agg #[.slice As o.aa.length ay,.slice At o.tables.length az]] w
   fun e w'=>e=.returned (.bool (lw o))∧ag w w':=by
 have hlen:=en.len;have fq:=dw.len
 go_in
 go_wp2_with fail
 go_loopw [3] (fun i wr=>∃ k:Nat,k≤o.aa.length∧i=.int .i64 k∧ag (w.alloc (.cells #[.slice As o.aa.length ay,.slice At o.tables.length az] 25)) wr∧∀ j,j < k→∀ (hj:j < o.aa.length),iB o o.aa[j]=true∧(0 < j→nJ (o.aa[j - 1]'(by omega)).name o.aa[j].name=true)) (fun i _=>o.aa.length - (intOf i).toNat)
 case atStart=>exact ⟨0,Nat.zero_le _,rfl,ag.refl _,fun j hj=>absurd hj (Nat.not_lt_zero j)⟩
 case round =>
  obtain ⟨k,hk,rfl,ha,hp⟩:=hrel;have HP:=gH hp;clear hp;obtain ⟨fH,ly,hz,mr,HA⟩:=cz ha;have gj:=gH ha;clear ha;by_cases hlt:k < o.aa.length
  ·have lZ:=bI HA.out en
   have E8:=br HA.out dw;obtain ⟨b,off,rfl,hb,c0,c1,s0,s1⟩:=iC lZ hlt;obtain ⟨p,gf⟩:∃ p,o.aa[k]=p:=⟨_,rfl⟩;rw [gf] at c0 c1 s0 s1;have sM:=gH gf;obtain ⟨n,hn⟩:∃ n,within o.tables p.name=n:=⟨_,rfl⟩
   have hnl:n*16≤140737488351232:=by have:=qK o.tables p.name;omega
   have HO:=gH (show iB o o.aa[k]=(bA p.name&&bA p.owner&&decide (n≤8)) by rw [gf];unfold iB;rw [hn])
   have Ct:=gH (show ∀ x:gX (wr.alloc (.cells #[.string p.name,.string p.owner] 109)),Calls Tryz.prog 317 #[.agg #[.slice (some ⟨b,off,none⟩) o.aa.length ay,.slice At o.tables.length az],.string p.name] (bt _ x) fun e w''=>e=.returned (.int .i64 n)∧ag (bt _ x) w'' from
    fun x=>(GQ _ At az o.tables p.name (bt _ x) (br (((ag.refl wr).alloc _).bt x) E8)).mono fun e w'' ⟨he,hw⟩=>⟨he.trans (by rw [← hn]),hw⟩)
   clear hn E8
   cases hN:bA p.name
   ·have HF:=gH (nR o k hlt (by rw [HO.out,hN];rfl))
    clear lZ gf;go_wp2_with fail;refine aj (by kernel_rfl) (by kernel_rfl) ?_
    repeat (go_big_quiet_step ((first | (go_at_call 316;exact Calls.aK (cY _ _ (by first | exact s0.max | exact s1.max))) | (go_at_call 317;exact Calls.aL (Ct.out _)))))
    refine wpQuiet_nil ?_;intro _ hw';obtain ⟨x,hw''⟩:=hw';subst hw'';go_wp2;go_ret;exact ⟨by rw [HF.out];rfl,(HA.out.alloc _).bt x⟩
   cases hO:bA p.owner
   ·have HF:=gH (nR o k hlt (by rw [HO.out,hN,hO];rfl))
    clear lZ gf;go_wp2_with fail;refine aj (by kernel_rfl) (by kernel_rfl) ?_
    repeat (go_big_quiet_step ((first | (go_at_call 316;exact Calls.aK (cY _ _ (by first | exact s0.max | exact s1.max))) | (go_at_call 317;exact Calls.aL (Ct.out _)))))
    refine wpQuiet_nil ?_;intro _ hw';obtain ⟨x,hw''⟩:=hw';subst hw'';go_wp2;go_ret;exact ⟨by rw [HF.out];rfl,(HA.out.alloc _).bt x⟩
   have NP:=gH (show iB o o.aa[k]=decide (n≤8) by rw [HO.out,hN,hO];rfl);by_cases h0:0 < k
   ·have jd:k - 1 < o.aa.length:=by omega
    obtain ⟨b',off',hA',hb',e0,e1,_,_⟩:=iC lZ jd;simp only [Option.some.injEq,Addr.mk.injEq,and_true] at hA';obtain ⟨rfl,rfl⟩:=hA';obtain ⟨p',js⟩:∃ p',(o.aa[k - 1]'(by omega))=p':=⟨_,rfl⟩;rw [js] at e0 e1;have Lg:=gH js;have w1:IntKind.i64.wrap ((k:Int) - 1)=(k:Int) - 1:=IntWalk.i64_in _ (by omega)
    have w2:(0:Int)≤(k:Int) - 1:=by omega
    have w3:((k:Int) - 1).toNat=k - 1:=by omega
    have w4:(k:Int) - 1 < (o.aa.length:Int):=by omega
    have w5:decide ((0:Int) < (k:Int))=true:=decide_eq_true (by omega);clear lZ gf js
    cases hL:nJ p'.name p.name
    ·have DJ:Op.bytesLess p'.name.toList p.name.toList=false:=hL
     have HF:=gH (DT o k hlt h0 (by rw [sM.out,Lg.out];exact hL));clear hL;go_wp2_with fail;refine aj (by kernel_rfl) (by kernel_rfl) ?_
     repeat (go_big_quiet_step ((first | (go_at_call 316;exact Calls.aK (cY _ _ (by first | exact s0.max | exact s1.max))) | (go_at_call 317;exact Calls.aL (Ct.out _)))))
     refine wpQuiet_nil ?_;intro _ hw';obtain ⟨x,hw''⟩:=hw';subst hw'';go_wp2;go_ret;exact ⟨by rw [HF.out];rfl,(HA.out.alloc _).bt x⟩
    have DJ:Op.bytesLess p'.name.toList p.name.toList=true:=hL;have Ha:=gH (show nJ (o.aa[k - 1]'(by omega)).name o.aa[k].name=true by rw [sM.out,Lg.out];exact hL);clear hL;by_cases h8:n≤8
    ·have E7:¬ ((8:Int) < (n:Int)):=by omega
     have d8:decide ((8:Int) < (n:Int))=false:=decide_eq_false E7;have HN:=gH (bC (p:=fun j=>∀ (hj:j < o.aa.length),iB o o.aa[j]=true∧(0 < j→nJ (o.aa[j - 1]'(by omega)).name o.aa[j].name=true)) HP.out (fun _=>⟨by rw [NP.out];exact decide_eq_true h8,fun _=>Ha.out⟩));go_wp2_with fail;refine aj (by kernel_rfl) (by kernel_rfl) ?_
     repeat (go_big_quiet_step ((first | (go_at_call 316;exact Calls.aK (cY _ _ (by first | exact s0.max | exact s1.max))) | (go_at_call 317;exact Calls.aL (Ct.out _)))))
     refine wpQuiet_nil ?_;intro _ hw';obtain ⟨x,hw''⟩:=hw';subst hw'';go_wp2
     go_roundw
     case rel=>exact ⟨k+1,by omega,by go_num,(gj.out.alloc _).bt x,HN.out⟩
     case measure=>simp [intOf];omega
    ·have E7:(8:Int) < (n:Int):=by omega
     have d8:decide ((8:Int) < (n:Int))=true:=decide_eq_true E7;have HF:=gH (nR o k hlt (by rw [NP.out];exact decide_eq_false h8));go_wp2_with fail;refine aj (by kernel_rfl) (by kernel_rfl) ?_
     repeat (go_big_quiet_step ((first | (go_at_call 316;exact Calls.aK (cY _ _ (by first | exact s0.max | exact s1.max))) | (go_at_call 317;exact Calls.aL (Ct.out _)))))
     refine wpQuiet_nil ?_;intro _ hw';obtain ⟨x,hw''⟩:=hw';subst hw'';go_wp2;go_ret;exact ⟨by rw [HF.out];rfl,(HA.out.alloc _).bt x⟩
   ·have w5:decide ((0:Int) < (k:Int))=false:=decide_eq_false (by omega)
    have w6:(k:Int)≤0:=by omega
    clear lZ gf;by_cases h8:n≤8
    ·have E7:¬ ((8:Int) < (n:Int)):=by omega
     have d8:decide ((8:Int) < (n:Int))=false:=decide_eq_false E7;have HN:=gH (bC (p:=fun j=>∀ (hj:j < o.aa.length),iB o o.aa[j]=true∧(0 < j→nJ (o.aa[j - 1]'(by omega)).name o.aa[j].name=true)) HP.out (fun _=>⟨by rw [NP.out];exact decide_eq_true h8,fun h=>absurd h h0⟩));go_wp2_with fail;refine aj (by kernel_rfl) (by kernel_rfl) ?_
     repeat (go_big_quiet_step ((first | (go_at_call 316;exact Calls.aK (cY _ _ (by first | exact s0.max | exact s1.max))) | (go_at_call 317;exact Calls.aL (Ct.out _)))))
     refine wpQuiet_nil ?_;intro _ hw';obtain ⟨x,hw''⟩:=hw';subst hw'';go_wp2
     go_roundw
     case rel=>exact ⟨k+1,by omega,by go_num,(gj.out.alloc _).bt x,HN.out⟩
     case measure=>simp [intOf];omega
    ·have E7:(8:Int) < (n:Int):=by omega
     have d8:decide ((8:Int) < (n:Int))=true:=decide_eq_true E7;have HF:=gH (nR o k hlt (by rw [NP.out];exact decide_eq_false h8));go_wp2_with fail;refine aj (by kernel_rfl) (by kernel_rfl) ?_
     repeat (go_big_quiet_step ((first | (go_at_call 316;exact Calls.aK (cY _ _ (by first | exact s0.max | exact s1.max))) | (go_at_call 317;exact Calls.aL (Ct.out _)))))
     refine wpQuiet_nil ?_;intro _ hw';obtain ⟨x,hw''⟩:=hw';subst hw'';go_wp2;go_ret;exact ⟨by rw [HF.out];rfl,(HA.out.alloc _).bt x⟩
  have HR:=gH (show lw o=(aM (fun a b=>eO (aT a.ac b.ac) (aT a.name b.name)) o.tables&&decide (o.aa.length≤8)) by
   unfold lw;rw [all_true _ _ fun j hj=>(HP.out j (by omega) hj).1,jM (fun a b:fJ=>aT a.name b.name) _ fun j TJ hj=>(nz _ _).2 ((HP.out j (by omega) hj).2 (by omega))]
   rfl)
  clear HP;go_wp2_with fail
  go_loopw [5] (fun i wr=>∃ k:Nat,1≤k∧(k≤o.tables.length∨k=1)∧i=.int .i64 k∧ag (w.alloc (.cells #[.slice As o.aa.length ay,.slice At o.tables.length az] 25)) wr∧∀ j,j < k→1≤j→∀ (hj:j < o.tables.length),eO (aT (o.tables[j - 1]'(by omega)).ac o.tables[j].ac) (aT (o.tables[j - 1]'(by omega)).name o.tables[j].name) < 0) (fun i _=>o.tables.length - (intOf i).toNat)
  case atStart=>exact ⟨1,by omega,.inr rfl,rfl,gj.out,fun j hj TJ=>by omega⟩
  case round =>
   clear fH ly hz mr HA gj;obtain ⟨k2,aa7,hk2,rfl,ha,hp⟩:=hrel;have HP:=gH hp;clear hp;obtain ⟨fH,ly,hz,mr,HA⟩:=cz ha;have gj:=gH ha;clear ha;by_cases fd:k2 < o.tables.length
   ·have E8:=br HA.out dw
    have jd:k2 - 1 < o.tables.length:=by omega
    obtain ⟨b,off,B2,iV,B3,jm,rfl,hb,c0,c1,c2,c3,c4,_⟩:=fh E8 fd;obtain ⟨b',off',D2,jO,D3,aaM,hA',hb',e0,e1,e2,e3,e4,_⟩:=fh E8 jd;simp only [Option.some.injEq,Addr.mk.injEq,and_true] at hA';obtain ⟨rfl,rfl⟩:=hA';obtain ⟨p,gf⟩:∃ p,o.tables[k2]=p:=⟨_,rfl⟩;obtain ⟨p',js⟩:∃ p',(o.tables[k2 - 1]'jd)=p':=⟨_,rfl⟩;rw [gf] at c0 c1 c2 c3 c4;rw [js] at e0 e1 e2 e3 e4;have HO:=gH (show eO (aT (o.tables[k2 - 1]'jd).ac o.tables[k2].ac) (aT (o.tables[k2 - 1]'jd).name o.tables[k2].name)=eO (aT p'.ac p.ac) (aT p'.name p.name) by rw [gf,js]);have NM:=gH (Kw p'.ac p.ac p'.name p.name);clear gf js E8;have w1:IntKind.i64.wrap ((k2:Int) - 1)=(k2:Int) - 1:=IntWalk.i64_in _ (by omega)
    have w2:(0:Int)≤(k2:Int) - 1:=by omega
    have w3:((k2:Int) - 1).toNat=k2 - 1:=by omega
    have w4:(k2:Int) - 1 < (o.tables.length:Int):=by omega
    cases hG:(!(nJ p'.ac p.ac || aS p'.ac p.ac))
    ·have Sk:(Op.bytesLess p'.ac.toList p.ac.toList || p'.ac.toList==p.ac.toList)=true:=by have h1:=hG;rw [Bool.not_eq_false'] at h1;exact h1
     cases hE:aS p'.ac p.ac
     ·have Xe:(p'.ac.toList==p.ac.toList)=false:=hE
      have hG2:Op.bytesLess p'.ac.toList p.ac.toList=true:=by rw [Xe] at Sk;simpa using Sk
      have HN:=gH (bC (p:=fun j=>1≤j→∀ (hj:j < o.tables.length),eO (aT (o.tables[j - 1]'(by omega)).ac o.tables[j].ac) (aT (o.tables[j - 1]'(by omega)).name o.tables[j].name) < 0) HP.out (fun _ _=>by rw [HO.out];exact of_decide_eq_true (by rw [NM.out,hG,hE];rfl)));clear hG hE;go_wp2
      go_roundw
      case rel=>exact ⟨k2+1,by omega,.inl (by omega),by go_num,(gj.out.alloc _).alloc _,HN.out⟩
      case measure=>simp [intOf];omega
     ·have Xe:(p'.ac.toList==p.ac.toList)=true:=hE
      cases hL:nJ p'.name p.name
      ·have DJ:Op.bytesLess p'.name.toList p.name.toList=false:=hL
       have HF:=gH (ue o k2 fd (by omega) (by rw [HO.out];exact of_decide_eq_false (by rw [NM.out,hG,hE,hL];rfl)));clear hG hE hL;go_wp2;go_ret;exact ⟨by rw [HF.out];rfl,(HA.out.alloc _).alloc _⟩
      ·have DJ:Op.bytesLess p'.name.toList p.name.toList=true:=hL
       have HN:=gH (bC (p:=fun j=>1≤j→∀ (hj:j < o.tables.length),eO (aT (o.tables[j - 1]'(by omega)).ac o.tables[j].ac) (aT (o.tables[j - 1]'(by omega)).name o.tables[j].name) < 0) HP.out (fun _ _=>by rw [HO.out];exact of_decide_eq_true (by rw [NM.out,hG,hE,hL];rfl)));clear hG hE hL;go_wp2
       go_roundw
       case rel=>exact ⟨k2+1,by omega,.inl (by omega),by go_num,(gj.out.alloc _).alloc _,HN.out⟩
       case measure=>simp [intOf];omega
    ·have Sk:(Op.bytesLess p'.ac.toList p.ac.toList || p'.ac.toList==p.ac.toList)=false:=by have h1:=hG;rw [Bool.not_eq_true'] at h1;exact h1
     have HF:=gH (ue o k2 fd (by omega) (by rw [HO.out];exact of_decide_eq_false (by rw [NM.out,hG];rfl)));clear hG;go_wp2;go_ret;exact ⟨by rw [HF.out];rfl,(HA.out.alloc _).alloc _⟩
   ·have HF:=gH (show lw o=decide ((o.aa.length:Int)≤8) by
     rw [HR.out,jM (fun a b:cp=>eO (aT a.ac b.ac) (aT a.name b.name)) _ fun j TJ hj=>HP.out j (by omega) TJ hj,Bool.true_and];by_cases h:o.aa.length≤8
     ·rw [decide_eq_true h,decide_eq_true (by omega)]
     ·rw [decide_eq_false h,decide_eq_false (by omega)])
    go_wp2;go_ret;exact ⟨by rw [HF.out];rfl,HA.out⟩
theorem kx (o:bF) (t:cp) (k:Nat) (hk:k < t.rules.length) (h:ey o.tables t.av t.rules[k]=false):bP o t=false:=by
 unfold bP;rw [all_false _ _ k hk h];simp
theorem AK (o:bF) (t:cp) (k:Nat) (hk:k < t.rules.length) (h0:0 < k) (h:nJ (t.rules[k - 1]'(by omega)).name t.rules[k].name=false):bP o t=false:=by
 have h1:k - 1+1 < t.rules.length:=by omega
 have e:(t.rules[k - 1+1]'h1)=t.rules[k]:=by congr 1;omega
 unfold bP;rw [eu (fun a b:fF=>aT a.name b.name) _ (k - 1) h1]
 ·simp
 ·rw [e]
  rw [← io] at h;have:=of_decide_eq_false h;omega
theorem DU (o:bF) (t:cp) (As:Option Addr) (ay:Nat) (At:Option Addr) (az:Nat) (A:Option Addr) (cap:Nat) (A2:Option Addr) (bJ:Nat) (w:World) (en:aA w 2 eL As ay o.aa) (dw:aA w 5 dE At az o.tables)
  (h:aA w 3 fG A cap t.av) (h2:aA w 8 fc A2 bJ t.rules) (hn:Small t.name.size) (ho:Small t.owner.size) :
  Calls Tryz.prog 225 #[.agg #[.slice As o.aa.length ay,.slice At o.tables.length az],.agg #[.string t.ac,.string t.name,.string t.owner,.slice A t.av.length cap,.slice A2 t.rules.length bJ]] w
   fun e w'=>e=.returned (.bool (bP o t))∧ag w w':=by
 have fq:=h2.len;obtain ⟨i,hi⟩:∃ i,cy o.aa t.ac=i:=⟨_,rfl⟩;obtain ⟨m,hm⟩:∃ m,eY t.av=m:=⟨_,rfl⟩;have fO:=gH (show bP o t=(bA t.name&&bA t.owner&&m&&decide (t.rules.length≤8)&&decide (0≤i)&&(t.rules.all (ey o.tables t.av)&&aM (fun a b=>aT a.name b.name) t.rules)) by unfold bP;rw [hi,hm])
 have Cs:=gH (show ∀ w',ag w w'→Calls Tryz.prog 318 #[.agg #[.slice As o.aa.length ay,.slice At o.tables.length az],.string t.ac] w' fun e w''=>e=.returned (.int .i64 i)∧ag w' w'' from
  fun w' a=>(Le As ay o.aa _ t.ac w' (bI a en)).mono fun e w'' ⟨he,hw⟩=>⟨he.trans (by rw [← hi]),hw⟩)
 have Cm:=gH (show ∀ w',ag w w'→Calls Tryz.prog 319 #[.slice A t.av.length cap] w' fun e w''=>e=.returned (.bool m)∧ag w' w'' from
  fun w' a=>(GG A cap t.av w' (bW a h)).mono fun e w'' ⟨he,hw⟩=>⟨he.trans (by rw [← hm]),hw⟩)
 clear hi hm
 go_in
 go_wp2_with fail;refine (Cs.out _ (((ag.refl w).alloc _).alloc _)).mono ?_;rintro e w1 ⟨rfl,a1⟩;obtain ⟨Bf,Bh,hz,HA⟩:=fP a1;have gj:=gH a1;clear a1 Cs;by_cases kG:i < 0
 ·have HF:=gH (show bP o t=false by rw [fO.out,decide_eq_false (show ¬ 0≤i by omega),Bool.and_false];rfl)
  go_wp2;go_ret;exact ⟨by rw [HF.out];rfl,HA.out⟩
 have kj:0≤i:=by omega
 cases hN:bA t.name
 ·have HF:=gH (show bP o t=false by rw [fO.out,hN];rfl)
  go_wp2_with (go_at_call 316;refine (cY _ _ (by first | exact hn.max | exact ho.max)).mono ?_;rintro e w' ⟨rfl,rfl⟩)
  go_ret;exact ⟨by rw [HF.out];rfl,HA.out⟩
 cases hO:bA t.owner
 ·have HF:=gH (show bP o t=false by rw [fO.out,hN,hO];rfl)
  go_wp2_with (go_at_call 316;refine (cY _ _ (by first | exact hn.max | exact ho.max)).mono ?_;rintro e w' ⟨rfl,rfl⟩)
  go_ret;exact ⟨by rw [HF.out];rfl,HA.out⟩
 have uy:=gH (show bP o t=(m&&decide (t.rules.length≤8)&&(t.rules.all (ey o.tables t.av)&&aM (fun a b=>aT a.name b.name) t.rules)) by rw [fO.out,hN,hO,decide_eq_true kj];simp);clear fO
 go_wp2_with (go_at_call 316;refine (cY _ _ (by first | exact hn.max | exact ho.max)).mono ?_;rintro e w' ⟨rfl,rfl⟩)
 refine (Cm.out _ HA.out).mono ?_;rintro e w2 ⟨rfl,a2⟩;have rQ:=gH (gj.out.trans a2);clear a2 Cm HA gj Bf Bh hz;obtain ⟨Bf,Bh,hz,HA⟩:=fP rQ.out
 cases m
 ·have HF:=gH (show bP o t=false by rw [uy.out];rfl)
  go_wp2;go_ret;exact ⟨by rw [HF.out];rfl,HA.out⟩
 by_cases h8:8 < t.rules.length
 ·have HF:=gH (show bP o t=false by rw [uy.out,decide_eq_false (show ¬ t.rules.length≤8 by omega)];rfl)
  have E7:(8:Int) < (t.rules.length:Int):=by omega
  go_wp2;go_ret;exact ⟨by rw [HF.out];rfl,HA.out⟩
 have E7:(t.rules.length:Int)≤8:=by omega
 have d8:decide ((8:Int) < (t.rules.length:Int))=false:=decide_eq_false (by omega);have se:=gH (show bP o t=(t.rules.all (ey o.tables t.av)&&aM (fun a b=>aT a.name b.name) t.rules) by rw [uy.out,decide_eq_true (show t.rules.length≤8 by omega)];rfl);clear uy;go_wp2_with fail
 go_loopw [5] (fun i wr=>∃ k:Nat,k≤t.rules.length∧i=.int .i64 k∧ag ((w.alloc (.cells #[.slice As o.aa.length ay,.slice At o.tables.length az] 25)).alloc (.cells #[.string t.ac,.string t.name,.string t.owner,.slice A t.av.length cap,.slice A2 t.rules.length bJ] 80)) wr∧∀ j,j < k→∀ (hj:j < t.rules.length),ey o.tables t.av t.rules[j]=true∧(0 < j→nJ (t.rules[j - 1]'(by omega)).name t.rules[j].name=true)) (fun i _=>t.rules.length - (intOf i).toNat)
 case atStart=>exact ⟨0,Nat.zero_le _,rfl,rQ.out,fun j hj=>absurd hj (Nat.not_lt_zero j)⟩
 case round =>
  clear Bf Bh hz HA rQ;obtain ⟨k,hk,rfl,ha,hp⟩:=hrel;obtain ⟨Bf,Bh,hz,HA⟩:=fP ha;have gj:=gH ha;have HP:=gH hp;clear hp ha;by_cases hlt:k < t.rules.length
  ·have hr:=eQ HA.out h2
   obtain ⟨b,off,D2,jO,rfl,hb,c0,c1,c2,c3,c4,c5,c6,c7,hcs,s0,s1,s2,s3⟩:=jC hr hlt;obtain ⟨p,gf⟩:∃ p,t.rules[k]=p:=⟨_,rfl⟩;rw [gf] at c0 c1 c2 c3 c4 c5 c6 c7 hcs s0 s1 s2 s3;have sM:=gH gf;obtain ⟨f,hf⟩:∃ f,cK t.av p=f:=⟨_,rfl⟩;obtain ⟨z,hz'⟩:∃ z,lO o.tables t.av p=z:=⟨_,rfl⟩;have HO:=gH (show ey o.tables t.av t.rules[k]=(f&&!(p.kind==4&&z != 0)) by rw [gf];unfold ey;rw [hf,hz']);obtain ⟨w3,hw3⟩:∃ w3,w3=wr.alloc (.cells #[.string p.name,.int .i64 p.kind,.slice D2 p.av.length jO,.int .i64 p.low,.int .i64 p.high,.string p.ac,.string p.table,.string p.key] 42):=⟨_,rfl⟩
   have a3:ag wr w3:=by rw [hw3];exact (ag.refl wr).alloc _
   have hbr:∀ o',w3.cell? ⟨wr.heap.size,o',none⟩=(#[.string p.name,.int .i64 p.kind,.slice D2 p.av.length jO,.int .i64 p.low,.int .i64 p.high,.string p.ac,.string p.table,.string p.key]:Array Value)[o']? := by intro o';rw [hw3];simp
   have zQ:wr.heap.size < w3.heap.size:=by rw [hw3];simp
   have NS:∀ o',w3.cell? ⟨w.heap.size,o',none⟩=_:=fun o'=>(Below.cell a3 (p:=⟨w.heap.size,o',none⟩) hz.1).trans (Bf o')
   have NT:∀ o',w3.cell? ⟨w.heap.size+1,o',none⟩=_:=fun o'=>(Below.cell a3 (p:=⟨w.heap.size+1,o',none⟩) hz.2).trans (Bh o')
   have hz3:w.heap.size < w3.heap.size∧w.heap.size+1 < w3.heap.size:=⟨Nat.lt_of_lt_of_le hz.1 a3.size,Nat.lt_of_lt_of_le hz.2 a3.size⟩
   have Cf:=gH (show ∀ x:gX w3,Calls Tryz.prog 320 #[.slice A t.av.length cap,.agg #[.string p.name,.int .i64 p.kind,.slice D2 p.av.length jO,.int .i64 p.low,.int .i64 p.high,.string p.ac,.string p.table,.string p.key]] (bt w3 x) fun e w''=>e=.returned (.bool f)∧ag (bt w3 x) w'' from
    fun x=>(GH A cap t.av p D2 jO (bt w3 x) (bW ((HA.out.trans a3).bt x) h) (aO (a3.bt x) hcs) s0 s1 s2 s3).mono fun e w'' ⟨he,hw⟩=>⟨he.trans (by rw [← hf]),hw⟩)
   have Ck:=gH (show ∀ w',ag w3 w'→Calls Tryz.prog 321 #[.agg #[.slice As o.aa.length ay,.slice At o.tables.length az],.slice A t.av.length cap,.agg #[.string p.name,.int .i64 p.kind,.slice D2 p.av.length jO,.int .i64 p.low,.int .i64 p.high,.string p.ac,.string p.table,.string p.key]] w' fun e w''=>e=.returned (.int .i64 z)∧ag w' w'' from
    fun w' a=>(Lf _ At az o.tables A cap t.av p D2 jO w' (br (HA.out.trans (a3.trans a)) dw) (bW (HA.out.trans (a3.trans a)) h) (aO (a3.trans a) hcs)).mono fun e w'' ⟨he,hw⟩=>⟨he.trans (by rw [← hz']),hw⟩)
   have nU:=gH a3;clear hf hz' hcs;go_wp2_with fail;rw [← hw3];clear hw3 c0 c1 c2 c3 c4 c5 c6 c7;by_cases h0:0 < k
   ·have jd:k - 1 < t.rules.length:=by omega
    obtain ⟨b',off',D2',aaB,hA',hb',e0,_,_,_,_,_,_,_,_⟩:=jC (eQ a3 hr) jd;simp only [Option.some.injEq,Addr.mk.injEq,and_true] at hA';obtain ⟨rfl,rfl⟩:=hA';obtain ⟨p',js⟩:∃ p',(t.rules[k - 1]'(by omega))=p':=⟨_,rfl⟩;rw [js] at e0;have Lg:=gH js;have w1':IntKind.i64.wrap ((k:Int) - 1)=(k:Int) - 1:=IntWalk.i64_in _ (by omega)
    have w2':(0:Int)≤(k:Int) - 1:=by omega
    have w3':((k:Int) - 1).toNat=k - 1:=by omega
    have w4':(k:Int) - 1 < (t.rules.length:Int):=by omega
    have w5':decide ((0:Int) < (k:Int))=true:=decide_eq_true (by omega);clear gf js hr a3
    cases hL:nJ p'.name p.name
    ·have DJ:Op.bytesLess p'.name.toList p.name.toList=false:=hL
     have HF:=gH (AK o t k hlt h0 (by rw [sM.out,Lg.out];exact hL));clear hL;refine aj (by kernel_rfl) (by kernel_rfl) ?_
     repeat (go_big_quiet_step ((first | (go_at_call 320;exact Calls.aL (Cf.out _)))))
     refine wpQuiet_nil ?_;intro _ hw';obtain ⟨x,hw''⟩:=hw';subst hw'';go_wp2;go_ret;exact ⟨by rw [HF.out];rfl,(HA.out.trans nU.out).bt x⟩
    have DJ:Op.bytesLess p'.name.toList p.name.toList=true:=hL;have Ha:=gH (show 0 < k→nJ (t.rules[k - 1]'(by omega)).name t.rules[k].name=true by intro _;rw [sM.out,Lg.out];exact hL);clear hL
    cases f
    ·have HF:=gH (kx o t k hlt (by rw [HO.out];rfl))
     refine aj (by kernel_rfl) (by kernel_rfl) ?_
     repeat (go_big_quiet_step ((first | (go_at_call 320;exact Calls.aL (Cf.out _)))))
     refine wpQuiet_nil ?_;intro _ hw';obtain ⟨x,hw''⟩:=hw';subst hw'';go_wp2;go_ret;exact ⟨by rw [HF.out];rfl,(HA.out.trans nU.out).bt x⟩
    refine aj (by kernel_rfl) (by kernel_rfl) ?_
    repeat (go_big_quiet_step ((first | (go_at_call 320;exact Calls.aL (Cf.out _)))))
    refine wpQuiet_nil ?_;intro _ hw';obtain ⟨x,hw''⟩:=hw';subst hw''
    cases h4:(p.kind==4)
    ·have HN:=gH (bC (p:=fun j=>∀ (hj:j < t.rules.length),ey o.tables t.av t.rules[j]=true∧(0 < j→nJ (t.rules[j - 1]'(by omega)).name t.rules[j].name=true)) HP.out (fun _=>⟨by rw [HO.out,h4];rfl,Ha.out⟩))
     go_wp2
     go_roundw
     case rel=>exact ⟨k+1,by omega,by go_num,(gj.out.trans nU.out).bt x,HN.out⟩
     case measure=>simp [intOf];omega
    ·go_wp2_with fail
     refine (Ck.out _ ((ag.refl w3).bt x)).mono ?_;rintro e w4 ⟨rfl,a4⟩;have ul:=gH ((nU.out.bt x).trans a4);clear a4 Ck NS NT hbr
     cases z0:(z != 0)
     ·have HN:=gH (bC (p:=fun j=>∀ (hj:j < t.rules.length),ey o.tables t.av t.rules[j]=true∧(0 < j→nJ (t.rules[j - 1]'(by omega)).name t.rules[j].name=true)) HP.out (fun _=>⟨by rw [HO.out,h4,z0];rfl,Ha.out⟩))
      go_wp2
      go_roundw
      case rel=>exact ⟨k+1,by omega,by go_num,gj.out.trans ul.out,HN.out⟩
      case measure=>simp [intOf];omega
     ·have HF:=gH (kx o t k hlt (by rw [HO.out,h4,z0];rfl))
      go_wp2;go_ret;exact ⟨by rw [HF.out];rfl,HA.out.trans ul.out⟩
   ·have w5':decide ((0:Int) < (k:Int))=false:=decide_eq_false (by omega)
    have w6':(k:Int)≤0:=by omega
    have Ha:=gH (show 0 < k→nJ (t.rules[k - 1]'(by omega)).name t.rules[k].name=true from fun h=>absurd h h0);clear gf hr a3
    cases f
    ·have HF:=gH (kx o t k hlt (by rw [HO.out];rfl))
     refine aj (by kernel_rfl) (by kernel_rfl) ?_
     repeat (go_big_quiet_step ((first | (go_at_call 320;exact Calls.aL (Cf.out _)))))
     refine wpQuiet_nil ?_;intro _ hw';obtain ⟨x,hw''⟩:=hw';subst hw'';go_wp2;go_ret;exact ⟨by rw [HF.out];rfl,(HA.out.trans nU.out).bt x⟩
    refine aj (by kernel_rfl) (by kernel_rfl) ?_
    repeat (go_big_quiet_step ((first | (go_at_call 320;exact Calls.aL (Cf.out _)))))
    refine wpQuiet_nil ?_;intro _ hw';obtain ⟨x,hw''⟩:=hw';subst hw''
    cases h4:(p.kind==4)
    ·have HN:=gH (bC (p:=fun j=>∀ (hj:j < t.rules.length),ey o.tables t.av t.rules[j]=true∧(0 < j→nJ (t.rules[j - 1]'(by omega)).name t.rules[j].name=true)) HP.out (fun _=>⟨by rw [HO.out,h4];rfl,Ha.out⟩))
     go_wp2
     go_roundw
     case rel=>exact ⟨k+1,by omega,by go_num,(gj.out.trans nU.out).bt x,HN.out⟩
     case measure=>simp [intOf];omega
    ·go_wp2_with fail
     refine (Ck.out _ ((ag.refl w3).bt x)).mono ?_;rintro e w4 ⟨rfl,a4⟩;have ul:=gH ((nU.out.bt x).trans a4);clear a4 Ck NS NT hbr
     cases z0:(z != 0)
     ·have HN:=gH (bC (p:=fun j=>∀ (hj:j < t.rules.length),ey o.tables t.av t.rules[j]=true∧(0 < j→nJ (t.rules[j - 1]'(by omega)).name t.rules[j].name=true)) HP.out (fun _=>⟨by rw [HO.out,h4,z0];rfl,Ha.out⟩))
      go_wp2
      go_roundw
      case rel=>exact ⟨k+1,by omega,by go_num,gj.out.trans ul.out,HN.out⟩
      case measure=>simp [intOf];omega
     ·have HF:=gH (kx o t k hlt (by rw [HO.out,h4,z0];rfl))
      go_wp2;go_ret;exact ⟨by rw [HF.out];rfl,HA.out.trans ul.out⟩
  ·have HF:=gH (show bP o t=true by
    rw [se.out,all_true _ _ fun j hj=>(HP.out j (by omega) hj).1,jM (fun a b:fF=>aT a.name b.name) _ fun j TJ hj=>(nz _ _).2 ((HP.out j (by omega) hj).2 (by omega))];rfl)
   go_wp2;go_ret;exact ⟨by rw [HF.out];rfl,HA.out⟩
theorem AL (o:bF):bw o=(decide (o.aa.length≤8)&&decide (o.tables.length≤64)&&lw o&&o.tables.all (bP o)):=by
 unfold bw lL lw
 cases decide (o.aa.length≤8)<;>cases decide (o.tables.length≤64)<;>cases o.aa.all (iB o)<;>simp [Bool.and_comm]
theorem BL (o:bF) (As:Option Addr) (ay:Nat) (At:Option Addr) (az:Nat) (w:World) (en:aA w 2 eL As ay o.aa) (dw:aA w 5 dE At az o.tables) :
  Calls Tryz.prog 142 #[.agg #[.slice As o.aa.length ay,.slice At o.tables.length az]] w
   fun e w'=>e=.returned (.bool (bw o))∧ag w w':=by
 have hlen:=en.len;have fq:=dw.len;have fO:=gH (AL o);by_cases d1:8 < o.aa.length
 ·have HF:=gH (show bw o=false by rw [fO.out,decide_eq_false (show ¬ o.aa.length≤8 by omega)];rfl)
  have e1:(8:Int) < (o.aa.length:Int):=by omega
  go_in
  go_wp2;go_ret;exact ⟨by rw [HF.out];rfl,(ag.refl _).alloc _⟩
 have e1:(o.aa.length:Int)≤8:=by omega
 by_cases d2:64 < o.tables.length
 ·have HF:=gH (show bw o=false by rw [fO.out,decide_eq_false (show ¬ o.tables.length≤64 by omega),Bool.and_false];rfl)
  have e2:(64:Int) < (o.tables.length:Int):=by omega
  go_in
  go_wp2;go_ret;exact ⟨by rw [HF.out];rfl,(ag.refl _).alloc _⟩
 have e2:(o.tables.length:Int)≤64:=by omega
 obtain ⟨g,hg⟩:∃ g,lw o=g:=⟨_,rfl⟩;have HR:=gH (show bw o=(g&&o.tables.all (bP o)) by rw [fO.out,decide_eq_true (show o.aa.length≤8 by omega),decide_eq_true (show o.tables.length≤64 by omega),hg];rfl)
 have C1:=gH (show ∀ w',ag w w'→Calls Tryz.prog 224 #[.agg #[.slice As o.aa.length ay,.slice At o.tables.length az]] w' fun e w''=>e=.returned (.bool g)∧ag w' w'' from
  fun w' a=>(GR o As ay At az w' (bI a en) (br a dw)).mono fun e w'' ⟨he,hw⟩=>⟨he.trans (by rw [← hg]),hw⟩)
 clear hg fO
 go_in
 go_wp2_with fail;refine (C1.out _ ((ag.refl w).alloc _)).mono ?_;rintro e w1 ⟨rfl,a1⟩;obtain ⟨fH,ly,hz,mr,HA⟩:=cz a1;have gj:=gH a1;clear a1 C1
 cases g
 ·have HF:=gH (show bw o=false by rw [HR.out];rfl)
  go_wp2;go_ret;exact ⟨by rw [HF.out];rfl,HA.out⟩
 have se:=gH (show bw o=o.tables.all (bP o) by rw [HR.out];rfl);clear HR;go_wp2_with fail
 go_loopw [3] (fun i wr=>∃ k:Nat,k≤o.tables.length∧i=.int .i64 k∧ag (w.alloc (.cells #[.slice As o.aa.length ay,.slice At o.tables.length az] 25)) wr∧∀ j,j < k→∀ (hj:j < o.tables.length),bP o o.tables[j]=true) (fun i _=>o.tables.length - (intOf i).toNat)
 case atStart=>exact ⟨0,Nat.zero_le _,rfl,gj.out,fun j hj=>absurd hj (Nat.not_lt_zero j)⟩
 case round =>
  clear fH ly hz mr HA gj;obtain ⟨k2,hk2,rfl,ha,hp⟩:=hrel;obtain ⟨fH,ly,hz,mr,HA⟩:=cz ha;have gj:=gH ha;have HP:=gH hp;clear ha hp;by_cases fd:k2 < o.tables.length
  ·have E8:=br HA.out dw
   have lZ:=bI HA.out en;obtain ⟨b,off,B2,iV,B3,jm,rfl,hb,c0,c1,c2,c3,c4,dt,ew,s0,s1,s2⟩:=fh E8 fd;obtain ⟨p,gf⟩:∃ p,o.tables[k2]=p:=⟨_,rfl⟩;rw [gf] at c0 c1 c2 c3 c4 dt ew s0 s1 s2;obtain ⟨f,hf⟩:∃ f,bP o p=f:=⟨_,rfl⟩;have HO:=gH (show bP o o.tables[k2]=f by rw [gf];exact hf)
   have Cr:=gH (show ∀ x:gX wr,Calls Tryz.prog 225 #[.agg #[.slice As o.aa.length ay,.slice (some ⟨b,off,none⟩) o.tables.length az],.agg #[.string p.ac,.string p.name,.string p.owner,.slice B2 p.av.length iV,.slice B3 p.rules.length jm]] (bt wr x) fun e w'=>e=.returned (.bool f)∧ag (bt wr x) w' from
    fun x=>(DU o p As ay _ az B2 iV B3 jm (bt wr x) (bI ((ag.refl wr).bt x) lZ) (br ((ag.refl wr).bt x) E8) (bW ((ag.refl wr).bt x) dt) (eQ ((ag.refl wr).bt x) ew) s1 s2).mono fun e w'' ⟨he,hw⟩=>⟨he.trans (by rw [← hf]),hw⟩)
   clear hf gf E8 lZ dt ew;go_wp2_with fail;refine aj (by kernel_rfl) (by kernel_rfl) ?_
   repeat (go_big_quiet_step ((first | (go_at_call 225;exact Calls.aL (Cr.out _)))))
   refine wpQuiet_nil ?_;intro _ hw';obtain ⟨x,hw''⟩:=hw';subst hw''
   cases f
   ·have HF:=gH (show bw o=false by rw [se.out,all_false _ _ k2 fd HO.out])
    go_wp2;go_ret;exact ⟨by rw [HF.out];rfl,HA.out.bt x⟩
   ·have HN:=gH (bC (p:=fun j=>∀ (hj:j < o.tables.length),bP o o.tables[j]=true) HP.out (fun _=>HO.out))
    go_wp2
    go_roundw
    case rel=>exact ⟨k2+1,by omega,by go_num,gj.out.bt x,HN.out⟩
    case measure=>simp [intOf];omega
  ·have HF:=gH (show bw o=true by rw [se.out,all_true _ _ fun j hj=>HP.out j (by omega) hj])
   go_wp2;go_ret;exact ⟨by rw [HF.out];rfl,HA.out⟩
def pB:cp:=⟨⟨#[]⟩,⟨#[]⟩,⟨#[]⟩,[],[]⟩
def ru (o:bF) (s n:ByteArray):cp × Int :=
 if bw o then (match o.tables[(bp o.tables s n).toNat]? with | some t=>if bp o.tables s n < 0 then (pB,61) else (t,0) | none=>(pB,61)) else (pB,63)
theorem Lh {o:bF} {s n:ByteArray} (h:bw o=false):ru o s n=(pB,63):=by unfold ru;rw [h];rfl
theorem tO {o:bF} {s n:ByteArray} (h:bw o=true) (hi:bp o.tables s n < 0):ru o s n=(pB,61):=by
 unfold ru;rw [h,if_pos rfl];split
 ·rw [if_pos hi]
 ·rfl
theorem tP {o:bF} {s n:ByteArray} {q:Nat} (h:bw o=true) (hi:bp o.tables s n=q) (hq:q < o.tables.length):ru o s n=(o.tables[q],0):=by
 unfold ru;rw [h,if_pos rfl,hi];simp only [Int.toNat_natCast,List.getElem?_eq_getElem hq];rw [if_neg (by omega)]
def J1 (w:World) (r:cp × Int) (e:Ending) (w':World):Prop :=
 ∃ x:bK,x.t=r.1∧e=.returned (.tuple #[.agg #[.string r.1.ac,.string r.1.name,.string r.1.owner,.slice x.hc.a r.1.av.length x.hc.c,.slice x.hr.a r.1.rules.length x.hr.c],.int .i64 r.2])∧ag w w'∧eU w' w.heap.size x∧x.ig.Nodup
theorem uf {w w':World} {c:Int} (a:ag w w'):J1 w (pB,c) (.returned (.tuple #[.agg #[.string ⟨#[]⟩,.string ⟨#[]⟩,.string ⟨#[]⟩,.slice none 0 0,.slice none 0 0],.int .i64 c])) w' :=
 ⟨⟨⟨#[]⟩,⟨#[]⟩,⟨#[]⟩,[],[],⟨none,0,0⟩,⟨none,0,0⟩⟩,rfl,rfl,a,⟨cO _ _ _ _,cO _ _ _ _,fun x hx=>by simp at hx⟩,by simp [bK.ig,iQ]⟩
theorem jJ {w:World} {b:Nat} {xs:List Value} (h:au w b xs) (hl:xs.length=5) (v0 v1 v2 v3 v4:Value):au (((((w.setCell ⟨b,0,none⟩ v0).setCell ⟨b,1,none⟩ v1).setCell ⟨b,2,none⟩ v2).setCell ⟨b,3,none⟩ v3).setCell ⟨b,4,none⟩ v4) b [v0,v1,v2,v3,v4]:=by
 match xs,hl with
 | [a,b,c,d,e],_=>exact ((((h.set 0 _ (by simp)).set 1 _ (by simp)).set 2 _ (by simp)).set 3 _ (by simp)).set 4 _ (by simp)
theorem iM (w:World) (b:Nat) (v0 v1 v2 v3 v4:Value):Kb (fun g=>g=b) w (((((w.setCell ⟨b,0,none⟩ v0).setCell ⟨b,1,none⟩ v1).setCell ⟨b,2,none⟩ v2).setCell ⟨b,3,none⟩ v3).setCell ⟨b,4,none⟩ v4) :=
 ((((Kb.set _ _ _ _).trans (Kb.set _ _ _ _)).trans (Kb.set _ _ _ _)).trans (Kb.set _ _ _ _)).trans (Kb.set _ _ _ _)
theorem MZ (o:bF) (As:Option Addr) (ay:Nat) (At:Option Addr) (az:Nat) (s n:ByteArray) (w:World) (en:aA w 2 eL As ay o.aa) (dw:aA w 5 dE At az o.tables) :
  Calls Tryz.prog 72 #[.agg #[.slice As o.aa.length ay,.slice At o.tables.length az],.string s,.string n] w (J1 w (ru o s n)):=by
 have hlen:=en.len;have fq:=dw.len
 have l1:w.heap.size < w.heap.size+1:=by omega
 have l2:w.heap.size < w.heap.size+1+1:=by omega
 obtain ⟨W,hW⟩:∃ W,W=(w.alloc (.cells #[.slice As o.aa.length ay,.slice At o.tables.length az] 25)).alloc (.cells #[.string ⟨#[]⟩,.string ⟨#[]⟩,.string ⟨#[]⟩,.slice none 0 0,.slice none 0 0] 80):=⟨_,rfl⟩
 have aW:ag w W:=by rw [hW];exact ((ag.refl w).alloc _).alloc _
 have r1:au W w.heap.size [.slice As o.aa.length ay,.slice At o.tables.length az]:=by rw [hW];exact (aU (ag.refl _)).aH ((ag.refl _).alloc _)
 have r2:au W (w.heap.size+1) [.string ⟨#[]⟩,.string ⟨#[]⟩,.string ⟨#[]⟩,.slice none 0 0,.slice none 0 0]:=by
  rw [hW];have:=(aU (w:=w.alloc (.cells #[.slice As o.aa.length ay,.slice At o.tables.length az] 25)) (c:=[.string ⟨#[]⟩,.string ⟨#[]⟩,.string ⟨#[]⟩,.slice none 0 0,.slice none 0 0]) (t:=80) (ag.refl _))
  simpa using this
 have zW:W.heap.size=w.heap.size+2:=by rw [hW];simp
 obtain ⟨c,hc⟩:∃ c,bw o=c:=⟨_,rfl⟩;obtain ⟨i,hi⟩:∃ i,bp o.tables s n=i:=⟨_,rfl⟩
 have LY : -1≤i∧i < o.tables.length:=by rw [← hi];exact bk _ _
 have CK:=gH (show ∀ w',ag w w'→Calls Tryz.prog 111 #[.agg #[.slice As o.aa.length ay,.slice At o.tables.length az]] w' fun e w''=>e=.returned (.int .i64 (if c=true then 0 else 63))∧ag w' w'' from
  fun w' a=>(ql o As ay At az w' (bI a en) (br a dw)).mono fun e w'' ⟨he,hw⟩=>⟨he.trans (by unfold eX;rw [hc]),hw⟩)
 have CW:=gH (show ∀ w',ag w w'→Calls Tryz.prog 112 #[.agg #[.slice As o.aa.length ay,.slice At o.tables.length az],.string s,.string n] w' fun e w''=>e=.returned (.tuple #[.int .i64 i,.bool (decide (0≤i))])∧ag w' w'' from
  fun w' a=>(wD (.slice As o.aa.length ay) At az o.tables s n w' (br a dw)).mono fun e w'' ⟨he,hw⟩=>⟨he.trans (by rw [hi]),hw⟩)
 have HC:=gH hc;have HI:=gH hi;have HT:=gH dw;have bQ:=gH aW;have uy:=gH r1;have se:=gH r2;have HZ:=gH zW;clear hc hi en dw r1 r2 aW zW
 go_in
 go_wp2_with fail;rw [← hW];clear hW;refine (CK.out W bQ.out).mono ?_;rintro e w1 ⟨rfl,a1⟩;have b2:=se.out.aH a1;obtain ⟨d0,d1,d2,d3,d4⟩:=rI b2;obtain ⟨f0,f1,f2,f3,f4⟩:=Bj b2;have z2:=b2.1;have cT:=gH (bQ.out.trans a1);have TL:=gH b2;have b1:=uy.out.aH a1;have c0:=b1.cell (j:=0) rfl;have c1:=b1.cell (j:=1) rfl;have z1:=b1.1;have HB1:=gH b1;have ki:=gH (show w.heap.size+2≤w1.heap.size by have:=a1.size;have:=HZ.out;omega);clear a1 b2 b1
 cases c
 ·go_wp2
  refine bodyPost_ret (results_cell_tmp (v:=.agg #[.string ⟨#[]⟩,.string ⟨#[]⟩,.string ⟨#[]⟩,.slice none 0 0,.slice none 0 0]) rfl _ rfl ?hl) rfl ?_
  case hl=>exact jB (jJ TL.out rfl _ _ _ _ _)
  rw [Lh HC.out];exact uf ((iM _ _ _ _ _ _ _).aN cT.out (fun g hg e=>by omega))
 ·go_wp2_with fail
  refine (CW.out w1 cT.out).mono ?_;rintro e w2 ⟨rfl,a2⟩;have b2:=TL.out.aH a2;obtain ⟨d0,d1,d2,d3,d4⟩:=rI b2;obtain ⟨f0,f1,f2,f3,f4⟩:=Bj b2;have z2:=b2.1;have iy:=gH (cT.out.trans a2);have Xr:=gH b2;have b1:=HB1.out.aH a2;have c1:=b1.cell (j:=1) rfl;have z1:=b1.1;have kP:=gH (show w.heap.size+2≤w2.heap.size by have:=a2.size;have:=ki.out;omega);clear a2 b2 b1;by_cases h0:0≤i
  ·obtain ⟨q,rfl⟩:=Int.eq_ofNat_of_zero_le h0
   have hq:q < o.tables.length:=by omega
   obtain ⟨b,off,A2,bJ,A3,fN,rfl,hb,t0,t1,t2,t3,t4,dt,lY,lZ⟩:=fh (br iy.out HT.out) hq
   have hd:decide (0≤(q:Int))=true:=by simp
   have CP:=gH (wE o.tables[q] A2 bJ A3 fN w2 dt lY (by have:=(qx HC.out).2.2 o.tables[q] (List.getElem_mem hq);exact this));have HE:=gH (tP HC.out HI.out hq);obtain ⟨p,hp⟩:∃ p,o.tables[q]=p:=⟨_,rfl⟩;rw [hp] at t0 t1 t2 t3 t4 CP HE;clear hp dt lY lZ h0 LY;go_wp2_with fail;refine CP.out.mono ?_;rintro e w3 ⟨x,hx,rfl,a3,JX,MR⟩;have b2:=Xr.out.aH a3;obtain ⟨d0,d1,d2,d3,d4⟩:=rI b2;obtain ⟨f0,f1,f2,f3,f4⟩:=Bj b2;have z2:=b2.1;have nU:=gH (iy.out.trans a3);have Ls:=gH b2;have HTI:=gH JX;have HX:=gH hx;have HN:=gH MR;clear a3 b2 JX hx MR;go_wp2;refine bodyPost_ret (results_cell_tmp (v:=.agg #[.string p.ac,.string p.name,.string p.owner,.slice x.hc.a p.av.length x.hc.c,.slice x.hr.a p.rules.length x.hr.c]) rfl _ rfl ?hl) rfl ?_
   case hl=>exact jB (jJ Ls.out rfl _ _ _ _ _)
   rw [HE.out];refine ⟨x,HX.out,rfl,(iM _ _ _ _ _ _ _).aN nU.out (fun g hg e=>by omega),?_,HN.out⟩;have hz2:=kP.out;refine eU.down (HTI.out.kb (iM _ _ _ _ _ _ _) fun g hg e=>?_) (show w.heap.size≤w2.heap.size by omega);have:=(HTI.out.lt g hg).1;omega
  ·have hd:decide (0≤i)=false:=by simpa using h0
   go_wp2;refine bodyPost_ret (results_cell_tmp (v:=.agg #[.string ⟨#[]⟩,.string ⟨#[]⟩,.string ⟨#[]⟩,.slice none 0 0,.slice none 0 0]) rfl _ rfl ?XW) rfl ?_
   case XW=>exact jB (jJ Xr.out rfl _ _ _ _ _)
   rw [tO HC.out (by rw [HI.out];omega)];exact uf ((iM _ _ _ _ _ _ _).aN iy.out (fun g hg e=>by omega))
end Go.Proofs.YtakddkhipelmjaaGreat
