import Derived.RangeFuncNested
import Derived.RangeFuncBound
import Derived.RangeFuncCalls
import Derived.RangeFuncLeaves
import Derived.Shelf.Abstract
import Derived.Shelf.RegionOpen
import Derived.OwnWalkIn
import Derived.TacticsInMore
import Derived.LoopNIn
import Derived.LoopIn
import Derived.Test.YtmflccbnoeaafaaGreatPartC14
namespace Go.Proofs.YtmflccbnoeaafaaGreat
open Go.RowKit
set_option maxRecDepth 100000
set_option linter.unusedVariables false
set_option maxHeartbeats 64000000
def eR (u:Bool) (s:ByteArray):Bool:=if u then bP s else emp s
theorem EX (s:ByteArray) (h:emp s=true):bP s=false:=by
 unfold emp at h;rw [isEmpty_iff] at h;simp [bP];intro h0;simp at h;subst h;simp at h0
def yI (k:Int) (n:Nat) (bare:Bool) (right:Int) (opt:Bool):Bool :=
 if k==3 then bare&&right==0&&!opt
 else if k==5 then bare&&right==0&&!opt&&((n:Int)==1)
 else if k==7 then n==0&&right==0&&!opt
 else if k==14 || k==15 then (right==1 || right==2)&&bare&&n==0&&(k==14 || !opt)
 else bare&&n==0&&right==0&&!opt
def EY (k:Int) (aJ aa table name role:ByteArray) (n:Nat) (bare:Bool) (right:Int) (opt:Bool):Bool :=
 Hx k&&bP aJ&&eR (uS k) aa&&eR (uT k) table&&eR (uN k) name&&eR (uR k) role&&yI k n bare right opt
theorem kH (b:Bool) (s:ByteArray):(b=true∧s.toList.isEmpty=true∧s.toList=[]∧eR b s=false)∨(b=true∧s.toList.isEmpty=false∧(¬ s.toList=[])∧bP s=false∧eR b s=false) ∨
  (b=true∧s.toList.isEmpty=false∧(¬ s.toList=[])∧bP s=true∧eR b s=true)∨(b=false∧s.toList.isEmpty=true∧s.toList=[]∧eR b s=true)∨(b=false∧s.toList.isEmpty=false∧(¬ s.toList=[])∧eR b s=false):=by
 have hne:=EX s;unfold emp at hne
 cases b<;>cases he:s.toList.isEmpty<;>simp_all [eR,emp]
theorem Lg (k:Int) (aJ aa table name role:ByteArray) (A:Option Addr) (n c:Nat) (fg:ByteArray) (eM:Int) (A2:Option Addr) (n2 c2:Nat) (low high:Int) (rs rt rk:ByteArray) (right:Int) (opt:Bool) (w:World) (b0 b1 b2 b3 ok bb:Bool)
  (ha:aJ.size≤maxLen) (hs:aa.size≤maxLen) (ht:table.size≤maxLen) (hn:name.size≤maxLen) (hr:role.size≤maxLen)
  (vg:Hid (∀ w,Calls Tryz.prog 37 #[.agg #[.int .i64 k,.string aJ,.string aa,.string table,.string name,.string role,.slice A n c,.string fg,.int .i64 eM,.slice A2 n2 c2,.int .i64 low,.int .i64 high,.string rs,.string rt,.string rk,.int .i64 right,.bool opt]] w fun e w'=>e=.returned (.tuple #[.agg #[.string aa,.string table,.string name,.string role],.agg #[.bool b0,.bool b1,.bool b2,.bool b3],.bool ok])∧ag w w'))
  (DB:Hid (∀ w,Calls Tryz.prog 39 #[.agg #[.string fg,.int .i64 eM,.slice A2 n2 c2,.int .i64 low,.int .i64 high,.string rs,.string rt,.string rk]] w fun e w'=>e=.returned (.bool bb)∧ag w w')) (hK:ok=false) :
  Calls Tryz.prog 17 #[.agg #[.int .i64 k,.string aJ,.string aa,.string table,.string name,.string role,.slice A n c,.string fg,.int .i64 eM,.slice A2 n2 c2,.int .i64 low,.int .i64 high,.string rs,.string rt,.string rk,.int .i64 right,.bool opt]] w fun e w'=>e=.returned (.bool (false))∧ag w w':=by
 go_enter Tryz.func17,Tryz.ntmps17
 go_wp2_with (first | (go_at_call 37;refine (vg.out _).mono ?_;rintro e w1 ⟨rfl,mA⟩;obtain ⟨gv,_,hz,qu,HA⟩:=cJ mA;clear mA))
 go_ret;refine ⟨rfl,?_⟩
 repeat (first | exact HA.out | apply ag.alloc | apply ag.bH | apply ag.drew | apply ag.drewN)
theorem Lh (k:Int) (aJ aa table name role:ByteArray) (A:Option Addr) (n c:Nat) (fg:ByteArray) (eM:Int) (A2:Option Addr) (n2 c2:Nat) (low high:Int) (rs rt rk:ByteArray) (right:Int) (opt:Bool) (w:World) (b0 b1 b2 b3 ok bb:Bool)
  (ha:aJ.size≤maxLen) (hs:aa.size≤maxLen) (ht:table.size≤maxLen) (hn:name.size≤maxLen) (hr:role.size≤maxLen)
  (vg:Hid (∀ w,Calls Tryz.prog 37 #[.agg #[.int .i64 k,.string aJ,.string aa,.string table,.string name,.string role,.slice A n c,.string fg,.int .i64 eM,.slice A2 n2 c2,.int .i64 low,.int .i64 high,.string rs,.string rt,.string rk,.int .i64 right,.bool opt]] w fun e w'=>e=.returned (.tuple #[.agg #[.string aa,.string table,.string name,.string role],.agg #[.bool b0,.bool b1,.bool b2,.bool b3],.bool ok])∧ag w w'))
  (DB:Hid (∀ w,Calls Tryz.prog 39 #[.agg #[.string fg,.int .i64 eM,.slice A2 n2 c2,.int .i64 low,.int .i64 high,.string rs,.string rt,.string rk]] w fun e w'=>e=.returned (.bool bb)∧ag w w')) (hK:ok=true) (hA:bP aJ=false) :
  Calls Tryz.prog 17 #[.agg #[.int .i64 k,.string aJ,.string aa,.string table,.string name,.string role,.slice A n c,.string fg,.int .i64 eM,.slice A2 n2 c2,.int .i64 low,.int .i64 high,.string rs,.string rt,.string rk,.int .i64 right,.bool opt]] w fun e w'=>e=.returned (.bool (false))∧ag w w':=by
 go_enter Tryz.func17,Tryz.ntmps17
 go_wp2_with (first | (go_at_call 37;refine (vg.out _).mono ?_;rintro e w1 ⟨rfl,mA⟩;obtain ⟨gv,_,hz,qu,HA⟩:=cJ mA;clear mA) | (go_at_call 38;refine (cz _ _ (by assumption)).mono ?_;rintro e w' ⟨rfl,rfl⟩))
 go_ret;refine ⟨rfl,?_⟩
 repeat (first | exact HA.out | apply ag.alloc | apply ag.bH | apply ag.drew | apply ag.drewN)
theorem Li (k:Int) (aJ aa table name role:ByteArray) (A:Option Addr) (n c:Nat) (fg:ByteArray) (eM:Int) (A2:Option Addr) (n2 c2:Nat) (low high:Int) (rs rt rk:ByteArray) (right:Int) (opt:Bool) (w:World) (b0 b1 b2 b3 ok bb:Bool)
  (ha:aJ.size≤maxLen) (hs:aa.size≤maxLen) (ht:table.size≤maxLen) (hn:name.size≤maxLen) (hr:role.size≤maxLen)
  (vg:Hid (∀ w,Calls Tryz.prog 37 #[.agg #[.int .i64 k,.string aJ,.string aa,.string table,.string name,.string role,.slice A n c,.string fg,.int .i64 eM,.slice A2 n2 c2,.int .i64 low,.int .i64 high,.string rs,.string rt,.string rk,.int .i64 right,.bool opt]] w fun e w'=>e=.returned (.tuple #[.agg #[.string aa,.string table,.string name,.string role],.agg #[.bool b0,.bool b1,.bool b2,.bool b3],.bool ok])∧ag w w'))
  (DB:Hid (∀ w,Calls Tryz.prog 39 #[.agg #[.string fg,.int .i64 eM,.slice A2 n2 c2,.int .i64 low,.int .i64 high,.string rs,.string rt,.string rk]] w fun e w'=>e=.returned (.bool bb)∧ag w w')) (hK:ok=true) (hA:bP aJ=true) :
  Calls Tryz.prog 17 #[.agg #[.int .i64 k,.string aJ,.string aa,.string table,.string name,.string role,.slice A n c,.string fg,.int .i64 eM,.slice A2 n2 c2,.int .i64 low,.int .i64 high,.string rs,.string rt,.string rk,.int .i64 right,.bool opt]] w fun e w'=>e=.returned (.bool (eR b0 aa&&eR b1 table&&eR b2 name&&eR b3 role&&yI k n bb right opt))∧ag w w':=by
 have i0:∀ w,(Instr.index 78 (.agg #[.string aa,.string table,.string name,.string role]) (.int .i64 0)).run Tryz.prog w=.ok (.string aa) w:=fun _=>by kernel_rfl
 have i1:∀ w,(Instr.index 78 (.agg #[.string aa,.string table,.string name,.string role]) (.int .i64 1)).run Tryz.prog w=.ok (.string table) w:=fun _=>by kernel_rfl
 have i2:∀ w,(Instr.index 78 (.agg #[.string aa,.string table,.string name,.string role]) (.int .i64 2)).run Tryz.prog w=.ok (.string name) w:=fun _=>by kernel_rfl
 have i3:∀ w,(Instr.index 78 (.agg #[.string aa,.string table,.string name,.string role]) (.int .i64 3)).run Tryz.prog w=.ok (.string role) w:=fun _=>by kernel_rfl
 go_enter Tryz.func17,Tryz.ntmps17
 go_wp2_with (first | (go_at_call 37;refine (vg.out _).mono ?_;rintro e w1 ⟨rfl,mA⟩;obtain ⟨gv,mC,hz,qu,HA⟩:=cJ mA;have mg:=gH mA;clear mA) | (go_at_call 38;refine (cz _ _ (by assumption)).mono ?_;rintro e w' ⟨rfl,rfl⟩))
 go_loop [24] (fun i=>∃ j:Nat,j≤4∧i=.int .i64 j∧(1≤j→eR b0 aa=true)∧(2≤j→eR b1 table=true)∧(3≤j→eR b2 name=true)∧(4≤j→eR b3 role=true)) (fun i=>4 - (intOf i).toNat)
 case atStart=>exact ⟨0,by omega,rfl,by omega,by omega,by omega,by omega⟩
 case round =>
  obtain ⟨j,hj,rfl,hf⟩:=hrel;have HF:=gH hf;clear hf
  have qB:j=0∨j=1∨j=2∨j=3∨j=4:=by omega
  clear hj
  rcases qB with rfl | rfl | rfl | rfl | rfl
  ·rcases kH b0 aa with ⟨hb,e1,e2,hx⟩ | ⟨hb,e1,e2,hN,hx⟩ | ⟨hb,e1,e2,hN,hx⟩ | ⟨hb,e1,e2,hx⟩ | ⟨hb,e1,e2,hx⟩
   all_goals
    subst hb;have HX:=gH hx;clear hx
    go_wp2_with (first | (go_at_call 38;refine (cz _ _ (by assumption)).mono ?_;rintro e w' ⟨rfl,rfl⟩))
   ·go_ret
    exact ⟨by rw [HX.out];simp,by repeat (first | exact HA.out | apply ag.alloc)⟩
   ·go_ret
    exact ⟨by rw [HX.out];simp,by repeat (first | exact HA.out | apply ag.alloc)⟩
   ·go_round
    case rel=>exact ⟨1,by omega,rfl,fun _=>HX.out,fun h=>absurd h (by omega),fun h=>absurd h (by omega),fun h=>absurd h (by omega)⟩
    case measure=>simp [intOf]
   ·go_round
    case rel=>exact ⟨1,by omega,rfl,fun _=>HX.out,fun h=>absurd h (by omega),fun h=>absurd h (by omega),fun h=>absurd h (by omega)⟩
    case measure=>simp [intOf]
   ·go_ret
    exact ⟨by rw [HX.out];simp,by repeat (first | exact HA.out | apply ag.alloc)⟩
  ·rcases kH b1 table with ⟨hb,e1,e2,hx⟩ | ⟨hb,e1,e2,hN,hx⟩ | ⟨hb,e1,e2,hN,hx⟩ | ⟨hb,e1,e2,hx⟩ | ⟨hb,e1,e2,hx⟩
   all_goals
    subst hb;have HX:=gH hx;clear hx
    go_wp2_with (first | (go_at_call 38;refine (cz _ _ (by assumption)).mono ?_;rintro e w' ⟨rfl,rfl⟩))
   ·go_ret
    exact ⟨by rw [HX.out];simp,by repeat (first | exact HA.out | apply ag.alloc)⟩
   ·go_ret
    exact ⟨by rw [HX.out];simp,by repeat (first | exact HA.out | apply ag.alloc)⟩
   ·go_round
    case rel=>exact ⟨2,by omega,rfl,fun _=>HF.out.1 (by omega),fun _=>HX.out,fun h=>absurd h (by omega),fun h=>absurd h (by omega)⟩
    case measure=>simp [intOf]
   ·go_round
    case rel=>exact ⟨2,by omega,rfl,fun _=>HF.out.1 (by omega),fun _=>HX.out,fun h=>absurd h (by omega),fun h=>absurd h (by omega)⟩
    case measure=>simp [intOf]
   ·go_ret
    exact ⟨by rw [HX.out];simp,by repeat (first | exact HA.out | apply ag.alloc)⟩
  ·rcases kH b2 name with ⟨hb,e1,e2,hx⟩ | ⟨hb,e1,e2,hN,hx⟩ | ⟨hb,e1,e2,hN,hx⟩ | ⟨hb,e1,e2,hx⟩ | ⟨hb,e1,e2,hx⟩
   all_goals
    subst hb;have HX:=gH hx;clear hx
    go_wp2_with (first | (go_at_call 38;refine (cz _ _ (by assumption)).mono ?_;rintro e w' ⟨rfl,rfl⟩))
   ·go_ret
    exact ⟨by rw [HX.out];simp,by repeat (first | exact HA.out | apply ag.alloc)⟩
   ·go_ret
    exact ⟨by rw [HX.out];simp,by repeat (first | exact HA.out | apply ag.alloc)⟩
   ·go_round
    case rel=>exact ⟨3,by omega,rfl,fun _=>HF.out.1 (by omega),fun _=>HF.out.2.1 (by omega),fun _=>HX.out,fun h=>absurd h (by omega)⟩
    case measure=>simp [intOf]
   ·go_round
    case rel=>exact ⟨3,by omega,rfl,fun _=>HF.out.1 (by omega),fun _=>HF.out.2.1 (by omega),fun _=>HX.out,fun h=>absurd h (by omega)⟩
    case measure=>simp [intOf]
   ·go_ret
    exact ⟨by rw [HX.out];simp,by repeat (first | exact HA.out | apply ag.alloc)⟩
  ·rcases kH b3 role with ⟨hb,e1,e2,hx⟩ | ⟨hb,e1,e2,hN,hx⟩ | ⟨hb,e1,e2,hN,hx⟩ | ⟨hb,e1,e2,hx⟩ | ⟨hb,e1,e2,hx⟩
   all_goals
    subst hb;have HX:=gH hx;clear hx
    go_wp2_with (first | (go_at_call 38;refine (cz _ _ (by assumption)).mono ?_;rintro e w' ⟨rfl,rfl⟩))
   ·go_ret
    exact ⟨by rw [HX.out];simp,by repeat (first | exact HA.out | apply ag.alloc)⟩
   ·go_ret
    exact ⟨by rw [HX.out];simp,by repeat (first | exact HA.out | apply ag.alloc)⟩
   ·go_round
    case rel=>exact ⟨4,by omega,rfl,fun _=>HF.out.1 (by omega),fun _=>HF.out.2.1 (by omega),fun _=>HF.out.2.2.1 (by omega),fun _=>HX.out⟩
    case measure=>simp [intOf]
   ·go_round
    case rel=>exact ⟨4,by omega,rfl,fun _=>HF.out.1 (by omega),fun _=>HF.out.2.1 (by omega),fun _=>HF.out.2.2.1 (by omega),fun _=>HX.out⟩
    case measure=>simp [intOf]
   ·go_ret
    exact ⟨by rw [HX.out];simp,by repeat (first | exact HA.out | apply ag.alloc)⟩
  ·clear i0 i1 i2 i3
   go_wp2_with (first | (go_at_call 39;refine (DB.out _).mono ?_;rintro e w2 ⟨rfl,mA⟩;obtain ⟨SQ,WA,hz2,WB,fx⟩:=cJ (((mg.out.alloc _).alloc _).trans mA);clear mA gv mC hz qu))
   all_goals
    go_ret;refine ⟨Eq.trans (b:=.returned (.bool _)) rfl (eD (dF ?_)),?_⟩
    ·rw [HF.out.1 (by omega),HF.out.2.1 (by omega),HF.out.2.2.1 (by omega),HF.out.2.2.2 (by omega)]
     clear HF HA mg vg DB
     simp_all [yI]
    ·repeat (first | exact HA.out | exact fx.out | apply ag.alloc)
theorem nG (k:Int) (aJ aa table name role:ByteArray) (A:Option Addr) (n c:Nat) (fg:ByteArray) (eM:Int) (A2:Option Addr) (n2 c2:Nat) (low high:Int) (rs rt rk:ByteArray) (right:Int) (opt:Bool) (w:World)
  (ha:aJ.size≤maxLen) (hs:aa.size≤maxLen) (ht:table.size≤maxLen) (hn:name.size≤maxLen) (hr:role.size≤maxLen)
  (h1:fg.size≤140737488351232) (h2:rs.size≤140737488351232) (h3:rt.size≤140737488351232) (h4:rk.size≤140737488351232) :
  Calls Tryz.prog 17 #[.agg #[.int .i64 k,.string aJ,.string aa,.string table,.string name,.string role,.slice A n c,.string fg,.int .i64 eM,.slice A2 n2 c2,.int .i64 low,.int .i64 high,.string rs,.string rt,.string rk,.int .i64 right,.bool opt]] w
   fun e w'=>e=.returned (.bool (EY k aJ aa table name role n (DA fg eM n2 low high rs rt rk) right opt))∧ag w w':=by
 have hu:=gH (fun w=>Hy k aJ aa table name role (.slice A n c) (.string fg) (.int .i64 eM) (.slice A2 n2 c2) (.int .i64 low) (.int .i64 high) (.string rs) (.string rt) (.string rk) (.int .i64 right) (.bool opt) w);have hb:=gH (fun w=>Hw fg eM A2 n2 c2 low high rs rt rk w h1 h2 h3 h4)
 cases hK:Hx k
 ·refine (Lg k aJ aa table name role A n c fg eM A2 n2 c2 low high rs rt rk right opt w _ _ _ _ _ _ ha hs ht hn hr hu hb hK).mono ?_
  rintro e w' ⟨rfl,h⟩;exact ⟨by simp [EY,hK],h⟩
 ·cases hN:bP aJ
  ·refine (Lh k aJ aa table name role A n c fg eM A2 n2 c2 low high rs rt rk right opt w _ _ _ _ _ _ ha hs ht hn hr hu hb hK hN).mono ?_
   rintro e w' ⟨rfl,h⟩;exact ⟨by simp [EY,hN],h⟩
  ·refine (Li k aJ aa table name role A n c fg eM A2 n2 c2 low high rs rt rk right opt w _ _ _ _ _ _ ha hs ht hn hr hu hb hK hN).mono ?_
   rintro e w' ⟨rfl,h⟩;exact ⟨by simp [EY,hK,hN],h⟩
def vh (s:ByteArray) (u:Bool):Bool:=if u then bP s else emp s
theorem DC (k:Int) (aJ aa table name role:ByteArray) (n:Nat) (bb:Bool) (right:Int) (opt:Bool) :
  EY k aJ aa table name role n bb right opt=(Hx k&&bP aJ&&vh aa (uS k)&&vh table (uT k)&&vh name (uN k)&&vh role (uR k)&&yI k n bb right opt):=rfl
def pO (k eM:Int):Bool:=k==2 || k==4 || k==6 || k==9 || k==11 || k==13 || k==15 || (k==7&&eM != 1)
theorem tk (k:Int) (aJ aa table name role:ByteArray) (A:Option Addr) (n c:Nat) (fg:ByteArray) (eM:Int) (A2:Option Addr) (n2 c2:Nat) (low high:Int) (rs rt rk:ByteArray) (right:Int) (opt:Bool) (w:World) :
  Calls Tryz.prog 25 #[.agg #[.int .i64 k,.string aJ,.string aa,.string table,.string name,.string role,.slice A n c,.string fg,.int .i64 eM,.slice A2 n2 c2,.int .i64 low,.int .i64 high,.string rs,.string rt,.string rk,.int .i64 right,.bool opt]] w fun e w'=>e=.returned (.bool (pO k eM))∧ag w w':=by
 go_enter Tryz.func25,Tryz.ntmps25
 go_wp2_with fail
 all_goals
  go_ret;refine ⟨Eq.trans (b:=.returned (.bool _)) rfl (eD (dF ?_)),?_⟩
  ·simp_all [pO]
  ·repeat (first | exact ag.refl _ | apply ag.alloc)
theorem kI (k:Int) (aJ aa table name role:ByteArray) (A:Option Addr) (n c:Nat) (fg:ByteArray) (eM:Int) (A2:Option Addr) (n2 c2:Nat) (low high:Int) (rs rt rk:ByteArray) (right:Int) (opt:Bool) (w:World) (m:Bool) (WC:Hid (∀ w,Calls Tryz.prog 17 #[.agg #[.int .i64 k,.string aJ,.string aa,.string table,.string name,.string role,.slice A n c,.string fg,.int .i64 eM,.slice A2 n2 c2,.int .i64 low,.int .i64 high,.string rs,.string rt,.string rk,.int .i64 right,.bool opt]] w fun e w'=>e=.returned (.bool m)∧ag w w')) :
  Calls Tryz.prog 10 #[.agg #[.int .i64 k,.string aJ,.string aa,.string table,.string name,.string role,.slice A n c,.string fg,.int .i64 eM,.slice A2 n2 c2,.int .i64 low,.int .i64 high,.string rs,.string rt,.string rk,.int .i64 right,.bool opt]] w fun e w'=>e=.returned (.bool (m&&pO k eM))∧ag w w':=by
 have WD:=gH (fun w=>tk k aJ aa table name role A n c fg eM A2 n2 c2 low high rs rt rk right opt w)
 cases m
 all_goals
  go_enter Tryz.func10,Tryz.ntmps10
  go_wp2_with (first | (go_at_call 17;refine (WC.out _).mono ?_;rintro e w1 ⟨rfl,mA⟩;obtain ⟨gv,mC,hz,qu,HA⟩:=cJ mA;clear mA) | (go_at_call 25;refine (WD.out _).mono ?_;rintro e w2 ⟨rfl,Ns⟩;have fx:=gH (HA.out.trans Ns);clear Ns))
  go_ret;refine ⟨Eq.trans (b:=.returned (.bool _)) rfl (eD (dF ?_)),?_⟩
  ·simp
  ·repeat (first | exact fx.out | exact HA.out | apply ag.alloc)
section
variable {w : World} {B B' g n c i : Nat} {hs : Hd} {L : Lay}
end
end Go.Proofs.YtmflccbnoeaafaaGreat
namespace Go.Proofs.YtmflccbnoeaafaaGreat
open Go.RowKit Go.Deep
set_option maxRecDepth 100000
set_option linter.unusedVariables false
set_option maxHeartbeats 64000000
theorem gU {w:World} {b:Nat} {xs:List Value} (h:ap w b xs) (hl:xs.length=2) (v0 v1:Value):ap ((w.setCell ⟨b,0,none⟩ v0).setCell ⟨b,1,none⟩ v1) b [v0,v1]:=by
 match xs,hl with
 | [a,b],_=>exact (h.set 0 _ (by simp)).set 1 _ (by simp)
theorem lJ (w:World) (b:Nat) (v0 v1:Value):Kb (fun g=>g=b) w ((w.setCell ⟨b,0,none⟩ v0).setCell ⟨b,1,none⟩ v1):=(Kb.set _ _ _ _).trans (Kb.set _ _ _ _)
theorem gV {w W w1:World} {r:bE × Int} {b:Nat} {hs ht:Hd} {L:List ay} {v0 v1:Value} {e:Ending} (a:ag w w1) (hL:L.map ay.t=r.1.tables) (ob:bC w1 W.heap.size hs ht r.1.ae L) (hb:w.heap.size≤b) (Vl:b < W.heap.size)
  (he:e=.returned (.tuple #[.agg #[.slice hs.a r.1.ae.length hs.c,.slice ht.a r.1.tables.length ht.c],.int .i64 r.2])):ix w r e ((w1.setCell ⟨b,0,none⟩ v0).setCell ⟨b,1,none⟩ v1):=by
 refine ⟨hs,ht,L,hL,he,(lJ w1 b v0 v1).aZ a (fun g hg e=>by omega),?_⟩;refine bC.down (ob.kb (lJ w1 b v0 v1) fun g hg e=>?_) (by omega);have:=(ob.lt g hg).1;omega
theorem EZ {w w1:World} {c:Int} {b:Nat} {v0 v1:Value} (a:ag w w1) (hb:w.heap.size≤b):ix w (cx,c) (.returned (.tuple #[.agg #[.slice none 0 0,.slice none 0 0],.int .i64 c])) ((w1.setCell ⟨b,0,none⟩ v0).setCell ⟨b,1,none⟩ v1) :=
 qE ((lJ w1 b v0 v1).aZ a (fun g hg e=>by omega))
theorem dD:kA cx:=⟨⟨by simp [cx,Small],fun s hs=>by simp [cx] at hs⟩,by simp [cx,Small],fun t ht=>by simp [cx] at ht⟩
theorem Lj {o:bE} {q:Nat} {t:cu} (h:kA o) (ht:rI t):kA ⟨o.ae,o.tables.set q t⟩:=by
 refine ⟨h.1,by rw [List.length_set];exact h.2.1,fun x hx=>?_⟩;by_cases hq:q < o.tables.length
 ·rcases i7 hq hx with rfl | ⟨i,hi,_,rfl⟩
  ·exact ht
  ·exact h.2.2 _ (List.getElem_mem hi)
 ·have Nd:x∈o.tables.set q t:=hx
  rw [List.set_eq_of_length_le (by omega)] at Nd;exact h.2.2 x Nd
theorem lK {o:bE} {r:bE × Int} (h:kA r.1):kA (cR o r).1:=by
 unfold cR;split
 ·exact h
 ·exact dD
def Lk (v:ByteArray) (t:cu):cu × Int:=({ t with owner:=v },0)
def eE (o:bE) (s n v:ByteArray):bE × Int:=if bF o then (if bP v then cY o s n (Lk v) else (cx,1)) else (cx,63)
theorem yJ (o:bE) (As:Option Addr) (ar:Nat) (At:Option Addr) (ax:Nat) (s n v:ByteArray) (w:World) (bS:aL w 2 fk As ar o.ae) (bB:aL w 5 dA At ax o.tables) (hv:v.size≤maxLen) :
  Calls Tryz.prog 90 #[.agg #[.slice As o.ae.length ar,.slice At o.tables.length ax],.string s,.string n,.string v] w (ix w (eE o s n v)):=by
 have hlen:=bS.len;have fl:=bB.len;have bR:=enters (P:=Tryz.prog) Tryz.func134 (by kernel_rfl) rfl
 have l1:w.heap.size < w.heap.size+1:=by omega
 have l2:w.heap.size < w.heap.size+1+1:=by omega
 have l3:w.heap.size < w.heap.size+1+1+1:=by omega
 obtain ⟨W,hW⟩:∃ W,W=((w.alloc (.cells #[.slice As o.ae.length ar,.slice At o.tables.length ax] 25)).alloc (.cells #[.string v] 9)).alloc (.cells #[.slice none 0 0,.slice none 0 0] 25):=⟨_,rfl⟩
 have aW:ag w W:=by rw [hW];exact (((ag.refl w).alloc _).alloc _).alloc _
 have r1:ap W w.heap.size [.slice As o.ae.length ar,.slice At o.tables.length ax]:=by rw [hW];exact (aO (ag.refl _)).az (((ag.refl _).alloc _).alloc _)
 have c1:W.cell? ⟨w.heap.size+1,0,none⟩=some (.string v):=by
  rw [hW];(repeat (refine (World.cell?_alloc_past _ _ _ (by first | (simp;done) | (simp;omega))).trans ?_));exact World.cell?_alloc_at _ _ _ _ (by simp)
 have r2:ap W (w.heap.size+1+1) [.slice none 0 0,.slice none 0 0]:=by
  rw [hW];have:=(aO (w:=(w.alloc (.cells #[.slice As o.ae.length ar,.slice At o.tables.length ax] 25)).alloc (.cells #[.string v] 9)) (c:=[.slice none 0 0,.slice none 0 0]) (t:=25) (ag.refl _))
  simpa using this
 have zW:W.heap.size=w.heap.size+3:=by rw [hW];simp
 obtain ⟨c,hc⟩:∃ c,bF o=c:=⟨_,rfl⟩;obtain ⟨m,hm⟩:∃ m,bP v=m:=⟨_,rfl⟩
 have CK:=gH (show ∀ w',ag w w'→Calls Tryz.prog 42 #[.agg #[.slice As o.ae.length ar,.slice At o.tables.length ax]] w' fun e w''=>e=.returned (.int .i64 (if c=true then 0 else 63))∧ag w' w'' from
  fun w' a=>(lg o As ar At ax w' (bm a bS) (aQ a bB)).mono fun e w'' ⟨he,hw⟩=>⟨he.trans (by unfold eK;rw [hc]),hw⟩)
 have CN:=gH (show ∀ w',Calls Tryz.prog 38 #[.string v] w' fun e w''=>e=.returned (.bool m)∧w'=w'' from fun w'=>(cz v w' hv).mono fun e w'' ⟨he,hw⟩=>⟨he.trans (by rw [hm]),hw⟩)
 have CT:=gH (show ∀ w',ag W w'→_ from fun w' a=>pE o As ar At ax s n 134 #[.pointer (some ⟨w.heap.size+1,0,none⟩)] (Lk v) w' (bm (aW.trans a) bS) (aQ (aW.trans a) bB) bR
  (fun gA w'' hs ht L B n3 q gt hq a'' hB hn hL ob hne r3 gX Kd=>wu v o w'' hs ht L B n3 q gt (w.heap.size+1) hq hn hL ob hne r3 gX ((a.trans a'').cell_kept c1)))
 obtain ⟨rr,jz⟩:∃ rr,cR o (cY o s n (Lk v))=rr:=⟨_,rfl⟩;rw [jz] at CT
 have HE:=gH (show eE o s n v=if (c&&!m)=true then (cx,1) else rr by
  rw [← jz];unfold eE cR;rw [hc,hm]
  cases c<;>cases m<;>rfl)
 clear jz;have br:=gH aW;have qs:=gH r1;have mB:=gH r2;have yK:=gH c1;have HZ:=gH zW;clear hc hm bS bB r1 r2 aW zW c1 hv
 go_enter Tryz.func90,Tryz.ntmps90
 go_wp2_with fail;rw [← hW];clear hW;refine (CK.out W br.out).mono ?_;rintro e w1 ⟨rfl,a1⟩;have ui:=gH (qs.out.az a1);have n7:=gH (mB.out.az a1);have c0:=ui.out.cell (j:=0) rfl;have c1:=ui.out.cell (j:=1) rfl;have z1:=ui.out.1;have d0:=n7.out.cell (j:=0) rfl;have d1:=n7.out.cell (j:=1) rfl;have f0:=n7.out.2.2 0 (by simp);have f1:=n7.out.2.2 1 (by simp);have z2:=n7.out.1;have v0:=a1.cell_kept yK.out;have v1:w.heap.size+1 < w1.heap.size:=World.block_lt_of_cell? _ _ v0;have cG:=gH (br.out.trans a1);have WE:=gH a1;have nS:=gH (show w.heap.size+3≤w1.heap.size by have:=a1.size;have:=HZ.out;omega);clear a1
 cases c<;>cases m
 case true.false =>
  go_wp2_with (go_at_call 38;refine (CN.out _).mono ?_;rintro e w2 ⟨rfl,rfl⟩)
  refine bodyPost_ret (results_cell_tmp (v:=.agg #[.slice none 0 0,.slice none 0 0]) rfl _ rfl ?hl) rfl ?_
  case hl=>exact b9 (gU n7.out rfl _ _)
  rw [HE.out];exact EZ cG.out (by omega)
 all_goals
  go_wp2_with (go_at_call 38;refine (CN.out _).mono ?_;rintro e w2 ⟨rfl,rfl⟩)
  refine (CT.out w1 WE.out).mono ?_;rintro e w3 ⟨hs,ht,L,hL,rfl,a3,ob⟩;have b2:=n7.out.az a3;have d0:=b2.cell (j:=0) rfl;have d1:=b2.cell (j:=1) rfl;have f0:=b2.2.2 0 (by simp);have f1:=b2.2.2 1 (by simp);have z2:=b2.1;have mq:=gH b2;have iw:=gH (cG.out.trans a3);have HO:=gH ob;have HL:=gH hL;clear b2 a3 ob hL;go_wp2_with fail;refine bodyPost_ret (results_cell_tmp (v:=.agg #[.slice hs.a rr.1.ae.length hs.c,.slice ht.a rr.1.tables.length ht.c]) rfl _ rfl (b9 (gU mq.out rfl _ _))) rfl ?_;rw [HE.out];exact gV iw.out HL.out HO.out (by omega) (by have:=nS.out;omega) rfl
end Go.Proofs.YtmflccbnoeaafaaGreat
namespace Go.Proofs.YtmflccbnoeaafaaGreat
open Go.RowKit Go.Deep Go.Sort
set_option maxRecDepth 100000
set_option linter.unusedVariables false
set_option maxHeartbeats 64000000
theorem bC.Hz {P:Nat→Prop} {w w':World} {B:Nat} {hs ht h':Hd} {ss WF:List gj} {L:List ay} (ob:bC w B hs ht ss L) (k:Kb P w w') (hP:∀ g,g∈ht.blk++L.flatMap ay.bI→¬ P g) (ho:w'.ownsRow B 61 2 h'.v WF.length (WF.flatMap iJ)) (hb:∀ g∈h'.blk,g∈hs.blk∨w.heap.size≤g):bC w' B h' ht WF L:=by
 refine ⟨ho,aP ob.tab k fun g hg=>hP g (List.mem_append.2 (.inl (Hd.au.2 hg))),fun x hx=>(ob.each x hx).kb k fun g hg=>hP g (List.mem_append.2 (.inr (List.mem_flatMap.2 ⟨x,hx,hg⟩))),?_⟩;refine List.nodup_append.2 ⟨cX _,(List.nodup_append.1 ob.nd).2.1,fun a ha b hb2 e=>?_⟩;subst e
 rcases hb a ha with h1 | h1
 ·exact bp ob.nd h1 hb2
 ·have:=(ob.lt a (List.mem_append.2 (.inr hb2))).2
  omega
def dp (name owner:ByteArray) (o:bE):bE × Int :=
 if (!bP name || !bP owner) then (cx,1) else if 0≤cE o.ae name then (cx,60) else if 8≤o.ae.length then (cx,2) else (⟨bQ o.ae (cN jB o.ae ⟨name,owner⟩) ⟨name,owner⟩,o.tables⟩,0)
def cP (name:ByteArray) (o:bE):bE × Int :=
 if cE o.ae name < 0 then (cx,61) else if 0 < within o.tables name then (cx,62) else (⟨o.ae.eraseIdx (cE o.ae name).toNat,o.tables⟩,0)
theorem Ll (x y:gj) (W:World):Calls Tryz.prog 153 (#[.agg (iJ x).toArray,.agg (iJ y).toArray]++#[]) W fun e w'=>e=.returned (.int .i64 (jB x y))∧∃ q os',w'=grow (W.drewN q) os':=by
 show Calls Tryz.prog 153 #[.agg #[.string x.name,.string x.owner],.agg #[.string y.name,.string y.owner]] W _
 have hcon:=fun W'=>ik x.name y.name W'
 unfold jB;generalize bw x.name y.name=r at hcon ⊢
 have l1:W.heap.size < W.heap.size+1:=by omega
 have l2:W.heap.size < W.heap.size+1+1:=by omega
 go_enter Tryz.func153,Tryz.ntmps153
 go_wp2_with (go_at_call 83;refine (hcon _).mono ?_;rintro e w' ⟨rfl,rfl⟩)
 go_ret;exact ⟨rfl,0,_,by rw [alloc_eq_grow,alloc_eq_grow,grow_grow];rfl⟩
theorem E3 (x:gj):(iJ x).length=2:=rfl
theorem H6 (blk cap B:Nat) (l:List gj) (h0:0 < l.length) (hsz:l.length≤1000000) (w:World) (ho:w.ownsRow B 61 2 (.slice (some ⟨blk,0,none⟩) l.length cap) l.length (l.flatMap iJ)) :
  Calls Tryz.prog 152 #[.slice (some ⟨blk,0,none⟩) l.length cap,.func (.func 153) #[] #[]] w (gK 61 2 iJ jB w B blk cap l) :=
 pH wA 2 Tryz.isAgg61 Tryz.sizeOf61 iJ E3 yL jB sV.swo 153 #[] 61 B blk cap l h0 hsz w ho (enters (P:=Tryz.prog) Tryz.func153 (by kernel_rfl) rfl) (fun W x y=>Ll x y W)
theorem qJ {α:Type} (p:α→Bool) (l:List α):decide (0≤bK p l)=l.any p:=by
 induction l with
 | nil=>rfl
 | cons x l ih =>
  rw [List.any_cons,← ih]
  show decide (0≤(if p x then (0:Int) else if bK p l < 0 then -1 else bK p l+1))=_
  cases h:p x
  ·simp only [Bool.false_eq_true,if_false,Bool.false_or]
   by_cases h1:bK p l < 0
   ·rw [if_pos h1,decide_eq_false (by omega),decide_eq_false (by omega)]
   ·rw [if_neg h1,decide_eq_true (by omega),decide_eq_true (by omega)]
  ·simp
theorem H7 {o:bE} {name:ByteArray} (h:cE o.ae name < 0):∀ y∈o.ae,bw y.name name≠0:=fun y hy e=>by
 obtain ⟨k,hk,rfl⟩:=List.getElem_of_mem hy;have h1:=bg (fun c:gj=>bk c.name name) o.ae
 have h2:cE o.ae name = -1:=by unfold cE at *;omega
 have h3:o.ae.any (fun c=>bk c.name name)=true:=List.any_eq_true.2 ⟨_,hy,(gu _ _).1 e⟩;rw [← qJ] at h3;have:=of_decide_eq_true h3;unfold cE at h2;omega
theorem jI {o:bE} (h:bF o=true):aN eG o.tables=true∧aN jB o.ae=true∧o.ae.length≤8∧o.tables.length≤64:=by
 unfold bF oG at h;simp only [Bool.and_eq_true,decide_eq_true_eq] at h;exact ⟨h.1.1.2,h.1.2,h.1.1.1.1,h.1.1.1.2⟩
theorem Bl (name owner:ByteArray) (o:bE) (w:World) (hs ht:Hd) (L:List ay) (B n3 bn bo:Nat) (gA:bF o=true) (uV:B≤n3) (hL:L.map ay.t=o.tables) (ob:bC w B hs ht o.ae L) (hne:∀ g∈hs.blk++(ht.blk++L.flatMap ay.bI),g≠n3)
  (r3:ap w n3 [.slice hs.a o.ae.length hs.c,.slice ht.a o.tables.length ht.c]) (hc1:w.cell? ⟨bn,0,none⟩=some (.string name)) (hc2:w.cell? ⟨bo,0,none⟩=some (.string owner)) (hb1:bn < B) (hb2:bo < B) (sm:kA o) (hs1:Small name.size) (hs2:Small owner.size) :
  Calls Tryz.prog 151 (#[.pointer (some ⟨n3,0,none⟩)]++#[.pointer (some ⟨bn,0,none⟩),.pointer (some ⟨bo,0,none⟩)]) w (xI w B n3 (dp name owner o)):=by
 show Calls Tryz.prog 151 #[.pointer (some ⟨n3,0,none⟩),.pointer (some ⟨bn,0,none⟩),.pointer (some ⟨bo,0,none⟩)] w (xI w B n3 (dp name owner o))
 have pD:fL o.ae L=o:=by unfold fL;rw [hL]
 have bS:aL w 2 fk hs.a hs.c o.ae:=ob.Ld (by rw [pD];exact sm);have hlen:=bS.len;have z1:bn < w.heap.size:=World.block_lt_of_cell? _ _ hc1;have z2:bo < w.heap.size:=World.block_lt_of_cell? _ _ hc2;have x0:=r3.cell (j:=0) rfl;have x1:=r3.cell (j:=1) rfl;have xz:=r3.1;have xf:=r3.2.2 0 (by simp);have lp:=jI gA;obtain ⟨u1,Ia⟩:∃ u,bP name=u:=⟨_,rfl⟩;obtain ⟨u2,wG⟩:∃ u,bP owner=u:=⟨_,rfl⟩;obtain ⟨i,hi⟩:∃ i,cE o.ae name=i:=⟨_,rfl⟩
 have ye : -1≤i∧i < o.ae.length:=by rw [← hi];exact bg _ _
 have C1:=gH (show ∀ w',Calls Tryz.prog 38 #[.string name] w' fun e w''=>e=.returned (.bool u1)∧w'=w'' from fun w'=>Ia▸cz name w' hs1.max);have C2:=gH (show ∀ w',Calls Tryz.prog 38 #[.string owner] w' fun e w''=>e=.returned (.bool u2)∧w'=w'' from fun w'=>wG▸cz owner w' hs2.max)
 have CB:=gH (show ∀ x:ii w,Calls Tryz.prog 123 #[.slice hs.a o.ae.length hs.c,.string name,.func (.func 124) #[] #[]] (bH w x) fun e w''=>e=.returned (.int .i64 i)∧ag (bH w x) w'' from
  fun x=>(Dp hs.a hs.c o.ae name _ (bm ((ag.refl w).bH x) bS)).mono fun e w'' ⟨he,hw⟩=>⟨he.trans (by rw [← hi];rfl),hw⟩)
 have HE:=gH (show dp name owner o=if (!u1 || !u2) then (cx,1) else if 0≤i then (cx,60) else if 8≤o.ae.length then (cx,2) else (⟨bQ o.ae (cN jB o.ae ⟨name,owner⟩) ⟨name,owner⟩,o.tables⟩,0) by unfold dp;rw [Ia,wG,hi]);have HI:=gH (show i < 0→∀ y∈o.ae,jB y ⟨name,owner⟩≠0 from fun h=>H7 (hi▸h));have lB:=gH ob;have ny:=gH r3;have Gu:=gH hne;have HL:=gH hL;have Oz:=gH (show hs.v=.slice hs.a o.ae.length hs.c from bL ob.gQ);have Ib:=gH lp;have vk:=gH (show ∀ w',ag w w'→∀ c:Int,c≠0→xI w B n3 (cx,c) (.returned (.int .i64 c)) w' from fun w' a c hc=>⟨rfl,Kb.aH a,fun h=>absurd h hc⟩);clear ob r3 hne hL pD gA Ia wG hi bS lp sm
 go_enter Tryz.func151,Tryz.ntmps151
 go_wp2_with fail;refine (C1.out _).mono ?_;rintro e w1 ⟨rfl,rfl⟩
 cases u1
 ·go_wp2_with fail
  go_ret;rw [HE.out];exact vk.out _ (ag.refl _) 1 (by decide)
 go_wp2_with fail;refine (C2.out _).mono ?_;rintro e w1 ⟨rfl,rfl⟩
 cases u2
 ·go_wp2_with fail
  go_ret;rw [HE.out];exact vk.out _ (ag.refl _) 1 (by decide)
 by_cases h0:0≤i
 ·have hd:decide (0≤i)=true:=by simpa using h0
  go_wp2_with fail;refine av (by kernel_rfl) (by kernel_rfl) ?_
  repeat (go_big_quiet_step ((go_at_call 123;exact Calls.bD (CB.out _))))
  refine wpQuiet_nil ?_;intro _ hw';obtain ⟨x,hw''⟩:=hw';subst hw'';go_wp2_with fail;go_ret;rw [HE.out];simp only [Bool.not_true,Bool.or_self,Bool.false_eq_true,if_false,if_pos h0];exact vk.out _ ((ag.refl _).bH x) 60 (by decide)
 have hd:decide (0≤i)=false:=by simpa using h0
 have E4:=gH h0;clear h0;go_wp2_with fail;refine av (by kernel_rfl) (by kernel_rfl) ?_
 repeat (go_big_quiet_step ((go_at_call 123;exact Calls.bD (CB.out _))))
 refine wpQuiet_nil ?_;intro _ hw';obtain ⟨x,hw''⟩:=hw';subst hw'';obtain ⟨W,hW⟩:∃ W,W=bH w x:=⟨_,rfl⟩
 have aW:ag w W:=by rw [hW];exact (ag.refl w).bH x
 rw [← hW];have x0:=aW.cell_kept x0;have hc1:=aW.cell_kept hc1;have hc2:=aW.cell_kept hc2;have xz:=Nat.lt_of_lt_of_le xz aW.size;have z1:=Nat.lt_of_lt_of_le z1 aW.size;have z2:=Nat.lt_of_lt_of_le z2 aW.size;have br:=gH aW;clear hW aW CB C1 C2;by_cases h8:8≤o.ae.length
 ·have OA:(8:Int)≤(o.ae.length:Int):=by omega
  have OB:=gH h8;clear h8;go_wp2_with fail;go_ret;rw [HE.out];simp only [Bool.not_true,Bool.or_self,Bool.false_eq_true,if_false,if_neg (show ¬ 0≤i by have:=E4.out;omega),if_pos OB.out];exact vk.out _ br.out 2 (by decide)
 have OA:¬ (8:Int)≤(o.ae.length:Int):=by omega
 have OB:=gH h8;have Lm:=lB.out.az br.out;have HOW:=gH (show W.ownsRow B 61 2 (.slice hs.a o.ae.length hs.c) o.ae.length (o.ae.flatMap iJ) by rw [← Oz.out];exact Lm.gQ)
 have n1:¬ fN (.slice hs.a o.ae.length hs.c) n3:=fun h=>Gu.out n3 (List.mem_append.2 (.inl (Hd.au.2 (by rw [Oz.out];exact h)))) rfl
 have n2:¬ fN (.slice hs.a o.ae.length hs.c) bn:=fun h=>by have:=(HOW.out.lt bn h).1;omega
 have n4:¬ fN (.slice hs.a o.ae.length hs.c) bo:=fun h=>by have:=(HOW.out.lt bo h).1;omega
 have xf:W.frozen? ⟨n3,0,none⟩=false:=(ny.out.az br.out).2.2 0 (by simp);obtain ⟨i0,eU,hz0,hz1,hz2⟩:=info_parts E5;have OC:=gH eU;have qw:=gH hz0;have nS:=gH hz1;have mG:=gH hz2;have E7:=gH Lm;clear eU hz0 hz1 hz2 Lm h8;go_wp2_with fail;refine dx 7 10 (fun w'=>∃ x:kQ (.slice hs.a o.ae.length hs.c) W,w'=kw (.slice hs.a o.ae.length hs.c) W x) (by kernel_rfl) (by kernel_rfl) (KL.az (ag.refl W).drew) ?_;simp only [List.take_succ_cons,List.take_zero,List.drop_succ_cons,List.drop_zero]
 repeat (go_big_quiet_step (fail))
 refine wpQuiet_nil ?_;refine bX (fun K hK=>?_);go_simp;refine hK _ _ (fun _=>KL.az ((ag.refl W).drew)) ?_;clear hK K;refine bX (fun K hK=>?_);go_simp;refine hK _ _ (fun _=>KL.az (((ag.refl W).alloc _).drew)) ?_;clear hK K;refine bX (fun K hK=>?_);refine wp_append_lies _ (.tmp 33) (.tmp 37) 22 rfl B 61 i0 _ 2 32 Tryz.underlying22 OC.out qw.out nS.out mG.out rfl (by decide) (.slice hs.a o.ae.length hs.c) o.ae.length (o.ae.flatMap iJ) (by rfl) ((HOW.out.alloc _).drew) ⟨W.heap.size,0,none⟩ 1 1 [.string name,.string owner] (by rfl) rfl (World.news_of_block (cs:=#[.string name,.string owner]) (t:=61) (fr:=(0,0)) (heap_alloc_new W _)) (by simp [Value.oneCell']) (by omega) (by unfold maxLen;omega) (by omega) (by simp;omega) (W.heap.size+1) (by simp) ?_;intro gg cap' w5 eX hgrow hat nR;refine hK _ _ (fun _=>KL.of ((Kb.aH (((ag.refl W).alloc _).drew)).trans (jD hgrow))) ?_;clear hK K;refine d9 _ (by simp) (by decide) ?_;have mj:Kb (fN (.slice hs.a o.ae.length hs.c)) W w5:=(Kb.aH (((ag.refl W).alloc _).drew)).trans (jD hgrow);have d5:=mj.cell x0 n1;have lL:=mj.row (ny.out.az br.out) n1;have f5:w5.frozen? ⟨n3,0,none⟩=false:=lL.2.2 0 (by simp);have z5:=lL.1
 have Az:gg≠n3:=fun e=>by
  rcases hat with h1 | h1
  ·exact n1 (by rw [← e];exact h1)
  ·omega
 have jk:(w5.setCell ⟨n3,0,none⟩ (.slice (some ⟨gg,0,none⟩) (o.ae.length+1) cap')).ownsRow B 61 2 (.slice (some ⟨gg,0,none⟩) (o.ae++[(⟨name,owner⟩:gj)]).length cap') (o.ae++[(⟨name,owner⟩:gj)]).length ((o.ae++[(⟨name,owner⟩:gj)]).flatMap iJ):=by
  rw [List.length_append,List.flatMap_append]
  exact aP eX (Kb.set w5 n3 0 _) (fun g hg e=>by
   have e:g=n3:=e
   have:g=gg:=by simpa [Value.ownBlock,eq_comm] using hg
   exact Az (by rw [← this];exact e))
 have CS:=gH (H6 gg cap' B (o.ae++[(⟨name,owner⟩:gj)]) (by simp) (by simp;omega) _ jk);have uw:=lL.set 0 (.slice (some ⟨gg,0,none⟩) (o.ae.length+1) cap') (by simp)
 have HP:=gH (show ∀ w7 e,gK 61 2 iJ jB (w5.setCell ⟨n3,0,none⟩ (.slice (some ⟨gg,0,none⟩) (o.ae.length+1) cap')) B gg cap' (o.ae++[(⟨name,owner⟩:gj)]) e w7→e=.returned (.tuple #[])∧xI w B n3 (dp name owner o) (.returned (.int .i64 0)) w7 from fun w7 e wL=>by
  obtain ⟨he,l',hp,Bo,OD,k7⟩:=wL
  have hlt:i < 0:=by have:=E4.out;omega
  have hl':l'=bQ o.ae (cN jB o.ae ⟨name,owner⟩) ⟨name,owner⟩:=pI sV.tr sV.dU Ib.out.2.1 (HI.out hlt) hp Bo
  have rQ:l'.length=o.ae.length+1:=by rw [hl',eI _ _ _ (fD _ _ _)]
  refine ⟨he,?_⟩;rw [HE.out];simp only [Bool.not_true,Bool.or_self,Bool.false_eq_true,if_false,if_neg (show ¬ 0≤i by omega),if_neg OB.out];rw [← hl'];have wM:Kb (fun g=>fN (.slice hs.a o.ae.length hs.c) g∨g=n3∨g=gg) W w7:=((mj.mono fun g _ h=>.inl h).trans ((Kb.set w5 n3 0 _).mono fun g _ e=>.inr (.inl e))).trans (k7.mono fun g _ e=>.inr (.inr e))
  have Nt:∀ g,fN (.slice hs.a o.ae.length hs.c) g→B≤g:=fun g hg=>(HOW.out.lt g hg).1
  have Ln:B≤W.heap.size:=by omega
  refine ⟨rfl,(Kb.aH br.out).trans (wM.mono fun g _ h=>?_),fun _=>⟨⟨some ⟨gg,0,none⟩,o.ae.length+1,cap'⟩,ht,L,HL.out,?_,?_⟩⟩
  ·rcases h with h | h | h
   ·exact Nt g h
   ·omega
   ·rcases hat with h1 | h1
    ·exact Nt g (by rw [h];exact h1)
    ·omega
  ·refine E7.out.Hz wM (fun g hg h=>?_) ?_ (fun g hg=>?_)
   ·have hlt:=E7.out.lt g (List.mem_append.2 (.inr hg))
    rcases h with h | h | h
    ·exact bp E7.out.nd (Hd.au.2 (by rw [Oz.out];exact h)) hg
    ·exact Gu.out g (List.mem_append.2 (.inr hg)) h
    ·rcases hat with h1 | h1
     ·exact bp E7.out.nd (Hd.au.2 (by rw [Oz.out,h];exact h1)) hg
     ·omega
   ·have:=OD
    rw [List.length_append] at this;rw [rQ];exact this
   ·rw [cM,List.mem_singleton] at hg
    have hg:g=gg:=hg;rw [hg]
    rcases hat with h1 | h1
    ·exact .inl (Hd.au.2 (by rw [Oz.out];exact h1))
    ·exact .inr (by omega)
  ·rw [rQ]
   exact k7.row uw (fun e=>Az e.symm))
 have YQ:=gH uw;have c6:=uw.cell (j:=0) rfl;have z6:=uw.1
 have Ic:=gH (show Calls Tryz.prog 152 #[.slice (some ⟨gg,0,none⟩) (o.ae.length+1) cap',.func (.func 153) #[] #[]] (w5.setCell ⟨n3,0,none⟩ (.slice (some ⟨gg,0,none⟩) (o.ae.length+1) cap')) (gK 61 2 iJ jB (w5.setCell ⟨n3,0,none⟩ (.slice (some ⟨gg,0,none⟩) (o.ae.length+1) cap')) B gg cap' (o.ae++[(⟨name,owner⟩:gj)])) from by
  have h:=CS.out;rw [List.length_append,List.length_singleton] at h
  exact h)
 clear eX hgrow hat nR mj lL jk uw CS;go_wp2_with fail;refine NoPanic.normal ?_;go_wp2_with fail;refine Ic.out.mono ?_;intro e w7 wL;obtain ⟨rfl,Ie⟩:=HP.out w7 e wL;have OE:=gH Ie;clear wL Ie Ic HP;go_wp2_with fail;go_ret;exact OE.out
theorem bC.Bp {Y:Nat→Prop} {w w5 w7:World} {B gt q gg:Nat} {hs ht Bq:Hd} {ss:List gj} {L:List ay} {l':List b7} (ob:bC w B hs ht ss L) (hq:q < L.length) (gX:ht.a=some ⟨gt,0,none⟩)
  (hY:∀ g,Y g→g < B) (k5:Kb (fun g=>L[q].hr.v.ownBlock=some g∨Y g) w w5) (k7:Kb (fun g=>g=gg) (w5.setCell ⟨gt,q*5+4,none⟩ Bq.v) w7) (nv:L[q].hr.v.ownBlock=some gg∨w.heap.size≤gg)
  (ho:w7.ownsRow B 37 8 Bq.v l'.length (l'.flatMap b7.cells)) (hb:∀ g∈Bq.blk,g=gg)
  (hall:∀ r∈l',r∈L[q].rules∨(kJ w7 B r∧∀ g∈r.h.blk,w.heap.size≤g∧g≠gg)) (xJ:(l'.flatMap (·.h.blk)).Nodup) :
  bC w7 B hs ht ss (L.set q { L[q] with rules:=l',hr:=Bq }):=by
 have nd:=ob.nd;have OG:=jf.1 nd;have tq:=ob.nth hq;have Ig:(L[q].hc.blk++(L[q].hr.blk++L[q].rules.flatMap (·.h.blk))).Nodup:=jO OG hq;have hlt:=ob.lt
 have mb:∀ g,g∈L[q].bI→g∈L.flatMap ay.bI:=fun g h=>List.mem_flatMap.2 ⟨L[q],List.getElem_mem hq,h⟩
 have OH:∀ g,L[q].hr.v.ownBlock=some g→g∈L[q].bI:=fun g h=>by unfold ay.bI;simp [Hd.au.2 h]
 have OI:gt∈ht.blk:=by rw [Hd.au];unfold Hd.v;rw [gX];rfl
 have kb:Kb (fun g=>(L[q].hr.v.ownBlock=some g∨Y g)∨g=gt∨g=gg) w w7:=((k5.mono fun g _ h=>.inl h).trans ((Kb.set w5 gt (q*5+4) Bq.v).mono fun g _ e=>.inr (.inl e))).trans (k7.mono fun g _ e=>.inr (.inr e))
 -- what stands elsewhere is not Vm
 have hno:∀ g,g∈hs.blk++(ht.blk++L.flatMap ay.bI)→g∉L[q].hr.blk→g≠gt→¬ ((L[q].hr.v.ownBlock=some g∨Y g)∨g=gt∨g=gg):=fun g hg h1 h2 h=>by
  rcases h with (h | h) | h | h
  ·exact h1 (Hd.au.2 h)
  ·have:=(hlt g hg).1;have:=hY g h;omega
  ·exact h2 h
  ·rcases nv with h3 | h3
   ·exact h1 (Hd.au.2 (by rw [h];exact h3))
   ·have:=(hlt g hg).2;omega
 have fq:∀ g,g∈L.flatMap ay.bI→g≠gt:=fun g hg e=>bp (List.nodup_append.1 nd).2.1 OI (by rw [← e];exact hg)
 have Q9:∀ g,g∈L[q].hc.blk→g∉L[q].hr.blk:=fun g h1 h2=>bp Ig h1 (List.mem_append.2 (.inl h2))
 have Av:∀ g,g∈L[q].rules.flatMap (·.h.blk)→g∉L[q].hr.blk:=fun g h1 h2=>bp (List.nodup_append.1 Ig).2.1 h2 h1
 have OJ:∀ r∈l',∀ g∈r.h.blk,(g∈L[q].rules.flatMap (·.h.blk))∨(w.heap.size≤g∧g≠gg):=fun r hr g hg=>by
  rcases hall r hr with h | h
  ·exact .inl (List.mem_flatMap.2 ⟨r,h,hg⟩)
  ·exact .inr (h.2 g hg)
 refine ⟨?_,?_,fun x hx=>?_,?_⟩
 ·refine aP ob.gQ kb fun g hg=>hno g (List.mem_append.2 (.inl (Hd.au.2 hg))) (fun h=>?_) (fun e=>?_)
  ·exact bp nd (Hd.au.2 hg) (List.mem_append.2 (.inr (mb g (by unfold ay.bI;simp [h]))))
  ·exact bp nd (Hd.au.2 hg) (List.mem_append.2 (.inl (by rw [e];exact OI)))
 ·have h5:w5.ownsRow B 53 5 ht.v L.length (L.flatMap ay.cells):=aP ob.tab k5 fun g h1 h2=>by
   rcases h2 with h2 | h2
   ·exact bp (List.nodup_append.1 nd).2.1 (Hd.au.2 h1) (mb g (OH g h2))
   ·have:=(hlt g (List.mem_append.2 (.inr (List.mem_append.2 (.inl (Hd.au.2 h1)))))).1;have:=hY g h2;omega
  have h6:=fB h5 (Hd.au.1 OI) (q*5+4) Bq.v;rw [dm (size:=5) (fun _=>rfl) L q 4 hq (by decide) Bq.v { L[q] with rules:=l',hr:=Bq } rfl] at h6;rw [List.length_set]
  refine aP h6 k7 fun g h1 e=>?_
  have hg:=Hd.au.2 h1
  rcases nv with h3 | h3
  ·exact bp (List.nodup_append.1 nd).2.1 hg (mb g (OH g (by rw [e];exact h3)))
  ·have:=(hlt g (List.mem_append.2 (.inr (List.mem_append.2 (.inl hg))))).2
   have e:g=gg:=e;omega
 ·rcases i7 hq hx with rfl | ⟨i,hi,hne,rfl⟩
  ·refine ⟨aP tq.qp kb fun g hg=>?_,ho,fun r hr=>?_⟩
   ·have hm:g∈L[q].bI:=by unfold ay.bI;simp [Hd.au.2 hg]
    exact hno g (List.mem_append.2 (.inr (List.mem_append.2 (.inr (mb g hm))))) (Q9 g (Hd.au.2 hg)) (fq g (mb g hm))
   ·rcases hall r hr with h | h
    ·refine (tq.each r h).kb kb fun g hg=>?_
     have ux:g∈L[q].rules.flatMap (·.h.blk):=List.mem_flatMap.2 ⟨r,h,hg⟩
     have hm:g∈L[q].bI:=by unfold ay.bI;exact List.mem_append.2 (.inr (List.mem_append.2 (.inr ux)))
     exact hno g (List.mem_append.2 (.inr (List.mem_append.2 (.inr (mb g hm))))) (Av g ux) (fq g (mb g hm))
    ·exact h.1
  ·refine (ob.nth hi).kb kb fun g hg=>?_
   have hm:g∈L.flatMap ay.bI:=List.mem_flatMap.2 ⟨L[i],List.getElem_mem hi,hg⟩;exact hno g (List.mem_append.2 (.inr (List.mem_append.2 (.inr hm)))) (fun h=>yg OG hq hi hne (by unfold ay.bI;simp [h]) hg) (fq g hm)
 ·rw [jf]
  refine qF (N:=w.heap.size) OG hq ?_ ?_ (fun g hg=>(ob.lt g (by rw [List.append_assoc] at hg;exact hg)).2)
  ·show (L[q].hc.blk++(Bq.blk++l'.flatMap (·.h.blk))).Nodup
   refine List.nodup_append.2 ⟨cX _,List.nodup_append.2 ⟨cX _,xJ,fun a ha b hb2 e=>?_⟩,fun a ha b hb2 e=>?_⟩
   ·subst e
    obtain ⟨r,hr,hg⟩:=List.mem_flatMap.1 hb2;have ea:=hb a ha
    rcases OJ r hr a hg with h | h
    ·rcases nv with h3 | h3
     ·exact Av a h (Hd.au.2 (by rw [ea];exact h3))
     ·have:=(hlt a (List.mem_append.2 (.inr (List.mem_append.2 (.inr (mb a (by unfold ay.bI;exact List.mem_append.2 (.inr (List.mem_append.2 (.inr h)))))))))).2
      omega
    ·exact h.2 ea
   ·subst e
    have Ih:=(tq.lt a (by unfold ay.bI;exact List.mem_append.2 (.inl ha))).2
    rcases List.mem_append.1 hb2 with h1 | h1
    ·have ea:=hb a h1
     rcases nv with h3 | h3
     ·exact Q9 a ha (Hd.au.2 (by rw [ea];exact h3))
     ·omega
    ·obtain ⟨r,hr,hg⟩:=List.mem_flatMap.1 h1
     rcases OJ r hr a hg with h | h
     ·exact bp Ig ha (List.mem_append.2 (.inr h))
     ·omega
  ·intro g hg
   have gl:g∈L[q].hc.blk++(Bq.blk++l'.flatMap (·.h.blk)):=hg
   rcases List.mem_append.1 gl with h1 | h1
   ·exact .inl (by unfold ay.bI;exact List.mem_append.2 (.inl h1))
   ·rcases List.mem_append.1 h1 with h1 | h1
    ·have ea:=hb g h1
     rcases nv with h3 | h3
     ·exact .inl (OH g (by rw [ea];exact h3))
     ·exact .inr (by omega)
    ·obtain ⟨r,hr,hgr⟩:=List.mem_flatMap.1 h1
     rcases OJ r hr g hgr with h | h
     ·exact .inl (by unfold ay.bI;exact List.mem_append.2 (.inr (List.mem_append.2 (.inr h))))
     ·exact .inr h.1
theorem b7.qK (x:b7):x.cells.length=8:=rfl
theorem Lp (x y:b7) (W:World):Calls Tryz.prog 170 (#[.agg x.cells.toArray,.agg y.cells.toArray]++#[]) W fun e w'=>e=.returned (.int .i64 (gS x.r y.r))∧∃ q os',w'=grow (W.drewN q) os':=by
 show Calls Tryz.prog 170 #[.agg #[.string x.r.name,.int .i64 x.r.kind,x.h.v,.int .i64 x.r.low,.int .i64 x.r.high,.string x.r.aa,.string x.r.table,.string x.r.key],.agg #[.string y.r.name,.int .i64 y.r.kind,y.h.v,.int .i64 y.r.low,.int .i64 y.r.high,.string y.r.aa,.string y.r.table,.string y.r.key]] W _
 have hcon:=fun W'=>ik x.r.name y.r.name W'
 unfold gS;generalize bw x.r.name y.r.name=r at hcon ⊢;generalize x.h.v=v1;generalize y.h.v=v2
 have l1:W.heap.size < W.heap.size+1:=by omega
 have l2:W.heap.size < W.heap.size+1+1:=by omega
 go_enter Tryz.func170,Tryz.ntmps170
 go_wp2_with (go_at_call 83;refine (hcon _).mono ?_;rintro e w' ⟨rfl,rfl⟩)
 go_ret;exact ⟨rfl,0,_,by rw [alloc_eq_grow,alloc_eq_grow,grow_grow];rfl⟩
theorem yM (blk cap B:Nat) (l:List b7) (h0:0 < l.length) (hsz:l.length≤1000000) (w:World) (ho:w.ownsRow B 37 8 (.slice (some ⟨blk,0,none⟩) l.length cap) l.length (l.flatMap b7.cells)) :
  Calls Tryz.prog 169 #[.slice (some ⟨blk,0,none⟩) l.length cap,.func (.func 170) #[] #[]] w (gK 37 8 b7.cells (fun x y=>gS x.r y.r) w B blk cap l) :=
 pH wC 8 Tryz.isAgg37 Tryz.sizeOf37 b7.cells b7.qK tu (fun x y=>gS x.r y.r) (pL.on b7.r).swo 170 #[] 37 B blk cap l h0 hsz w ho (enters (P:=Tryz.prog) Tryz.func170 (by kernel_rfl) rfl) (fun W x y=>Lp x y W)
def eo (ts:List cu) (r:gi) (t:cu):cu × Int :=
 if !dS t.ak r then (t,63) else if 0≤gp t.rules r.name then (t,60) else if 8≤t.rules.length then (t,2) else if (r.kind==4&&mH ts t.ak r != 0) then (t,mH ts t.ak r)
 else ({ t with rules:=bQ t.rules (cN gS t.rules r) r },0)
theorem yN {l:List gi} {s:ByteArray} (h:gp l s < 0):∀ y∈l,bw y.name s≠0:=fun y hy e=>by
 have h1:=bg (fun c:gi=>bk c.name s) l
 have h2:gp l s = -1:=by unfold gp at *;omega
 have h3:l.any (fun c=>bk c.name s)=true:=List.any_eq_true.2 ⟨y,hy,(gu _ _).1 e⟩;rw [← qJ] at h3;have:=of_decide_eq_true h3;unfold gp at h2;omega
def pP (t:cu) (name:ByteArray):Int:=match t.rules[(gp t.rules name).toNat]? with | some q=>q.kind | none=>0
def nV (kd:Int) (name:ByteArray) (r:gi):Bool:=bk r.key name&&kd==2
end Go.Proofs.YtmflccbnoeaafaaGreat
namespace Go.Proofs.YtmflccbnoeaafaaGreat
open Go.RowKit Go.Deep Go.Shelf
set_option maxRecDepth 100000
set_option linter.unusedVariables false
set_option maxHeartbeats 64000000
@[go_sem] theorem Nu (l:Nat) (ρ:Operand→Value) (o:Oper) (h:∀ c,o.op≠.defer c):Oper.semAt (some l) ρ o=execOp ρ o:=Oper.semAt_some l ρ o h
theorem pQ {P:Program} {id:Nat} {Q:Exit→Act→World→Prop} {a:Act} {w:World} {l:List Oper} (n:Nat) (hm:P.follows .mixedOrders=true) (hB:Region.lexTailB .any l.toArray n=true)
  (h:∀ w1,w1=w.drew→wpStill P l.toArray w1 (fun a'=>wpList P l.toArray Q (l.drop n) a' w1) (l.take n) a):(Code.region id l.toArray true).wp P Q a w :=
 wp_region_still_tail n hm hB (h _ rfl)
structure Kc (W W':World):Prop where
 size:W.heap.size≤W'.heap.size
 cells:∀ (k:Nat) (o:Obj),W.heap[k]? = some o→o.isCells=true→W'.heap[k]? = some o
theorem Kc.refl (W:World):Kc W W:=⟨Nat.le_refl _,fun _ _ h _=>h⟩
theorem Kc.trans {A B C:World} (h:Kc A B) (k:Kc B C):Kc A C:=⟨Nat.le_trans h.size k.size,fun j o hj ho=>k.cells j o (h.cells j o hj ho) ho⟩
theorem Kc.aH {W W':World} (a:ag W W'):Kc W W':=⟨a.size,fun k o hk _=>(a.block k (Array.getElem?_eq_some_iff.1 hk).1).trans hk⟩
theorem Kc.put {W:World} {l:Nat} {o o':Obj} (hl:W.heap[l]? = some o) (ho:o.isCells=false):Kc W (W.putObj l o'):=by
 refine ⟨by simp [World.putObj],fun k o2 hk hc=>?_⟩
 have hne:k≠l:=fun e=>by
  subst e;rw [hl] at hk
  cases hk
  rw [ho] at hc;cases hc
 exact (World.putObj_heap_other hne).trans hk
theorem Kc.block {W W':World} (h:Kc W W') {p:Addr} {v:Value} (hc:W.cell? p=some v):W'.heap[p.block]? = W.heap[p.block]? := by
 unfold World.cell? at hc
 cases hh:W.heap[p.block]? with
 | none=>rw [hh] at hc;cases hc
 | some o =>
  rw [h.cells _ o hh ?_];rw [hh] at hc
  cases o<;>first | rfl | cases hc
theorem Kc.row {W W':World} (h:Kc W W') {g:Nat} {xs:List Value} (hr:ap W g xs) (h0:0 < xs.length):ap W' g xs:=by
 have hb:W'.heap[g]? = W.heap[g]? := h.block (p:=⟨g,0,none⟩) (v:=xs[0]) (by rw [hr.2.1 0 h0,List.getElem?_eq_getElem h0]);refine ⟨Nat.lt_of_lt_of_le hr.1 h.size,fun j hj=>?_,fun j hj=>?_⟩
 ·rw [← hr.2.1 j hj];simp [World.cell?,hb]
 ·rw [← hr.2.2 j hj];simp [World.frozen?,hb]
structure FP where
 t:cu
 r:gi
 a1:Option Addr
 c1:Nat
 a2:Option Addr
 c2:Nat
 a3:Option Addr
 c3:Nat
def FP.enc (x:FP):Array Value:=#[.agg #[.string x.t.aa,.string x.t.name,.string x.t.owner,.slice x.a1 x.t.ak.length x.c1,.slice x.a2 x.t.rules.length x.c2],
 .agg #[.string x.r.name,.int .i64 x.r.kind,.slice x.a3 x.r.ak.length x.c3,.int .i64 x.r.low,.int .i64 x.r.high,.string x.r.aa,.string x.r.table,.string x.r.key]]
def eN (s n:ByteArray) (r:gi):Bool:=r.kind==4&&(bk r.aa s&&bk r.table n)
def Ii (s n:ByteArray) (t:cu):List (cu × gi):=(t.rules.filter (eN s n)).map fun r=>(t,r)
def gW (s n:ByteArray) (ts:List cu):List (cu × gi):=ts.flatMap (Ii s n)
def FP.key (x:FP):cu × gi:=(x.t,x.r)
theorem vo (s n:ByteArray) (ts:List cu) (k:Nat) (hk:k < ts.length):gW s n (ts.take (k+1))=gW s n (ts.take k)++Ii s n ts[k]:=by
 unfold gW;rw [List.take_succ_eq_append_getElem hk,List.flatMap_append];simp
theorem E8 (s n:ByteArray) (t:cu) (k:Nat) (hk:k < t.rules.length):((t.rules.take (k+1)).filter (eN s n)).map (fun r=>(t,r))=((t.rules.take k).filter (eN s n)).map (fun r=>(t,r))++(if eN s n t.rules[k] then [(t,t.rules[k])] else []):=by
 rw [List.take_succ_eq_append_getElem hk,List.filter_append,List.map_append]
 congr 1
 cases h:eN s n t.rules[k]<;>simp [h]
theorem Ij (s n:ByteArray) (ts:List cu) (k:Nat) (hk:k < ts.length) (m:Nat):(gW s n (ts.take k)++((ts[k].rules.take m).filter (eN s n)).map (fun r=>(ts[k],r))) <+: gW s n ts:=by
 have h1:gW s n ts=gW s n (ts.take (k+1))++gW s n (ts.drop (k+1)):=by
  unfold gW;rw [← List.flatMap_append,List.take_append_drop]
 have h2:Ii s n ts[k]=((ts[k].rules.take m).filter (eN s n)).map (fun r=>(ts[k],r))++((ts[k].rules.drop m).filter (eN s n)).map (fun r=>(ts[k],r)):=by
  unfold Ii;rw [← List.map_append,← List.filter_append,List.take_append_drop]
 rw [h1,vo _ _ _ _ hk,h2];exact ⟨((ts[k].rules.drop m).filter (eN s n)).map (fun r=>(ts[k],r))++gW s n (ts.drop (k+1)),by simp⟩
theorem yO (m:Nat) (hm:1≤m) (ts:List cu) (vs:Value) (At:Option Addr) (ct:Nat) (s n:ByteArray) (bo bs bt l:Nat) (X W:World) (aW:ag X W) (bB:aL X 5 dA At ct ts) (J9:bo < X.heap.size) (Sw:bs < X.heap.size) (Gm:bt < X.heap.size)
  (c0:X.cell? ⟨bo,1,none⟩=some (.slice At ts.length ct)) (c1:X.cell? ⟨bs,0,none⟩=some (.string s)) (c2:X.cell? ⟨bt,0,none⟩=some (.string n)) (J Jx:List FP→World→Prop) (hJ:AbidesFrom W.heap.size J)
  (hY:∀ pre x W1,J pre W1→pre.length < (gW s n ts).length→YieldAt Fence.wide (m - 1) Tryz.prog l (FP.enc x) W1 fun e W'=>(e=.returned (.bool true)∧J (pre++[x]) W'∧(Kc W1 W'∧Below X.heap.size W1 W'))∨(e=.returned (.bool false)∧Jx (pre++[x]) W'))
  (h0:J [] W) :
  CallsIn Fence.wide m Tryz.prog 197 #[.func (.yield l) #[] #[],.pointer (some ⟨bo,0,none⟩),.pointer (some ⟨bs,0,none⟩),.pointer (some ⟨bt,0,none⟩)] W fun e W'=>(∃ v,e=.returned v)∧((∃ xs,xs.map FP.key=gW s n ts∧J xs W')∨(∃ pre,(pre.map FP.key <+: gW s n ts)∧Jx pre W')):=by
 have hlen:=bB.len;have HT:=gH bB;have HA:=gH aW;have HJ:=gH hJ;have HC:=gH (show ∀ w',ag X w'→(w'.cell? ⟨bo,1,none⟩=some (.slice At ts.length ct)∧w'.cell? ⟨bs,0,none⟩=some (.string s)∧w'.cell? ⟨bt,0,none⟩=some (.string n)∧bo < w'.heap.size∧bs < w'.heap.size∧bt < w'.heap.size) from fun w' a=>⟨a.cell_kept c0,a.cell_kept c1,a.cell_kept c2,Nat.lt_of_lt_of_le J9 a.size,Nat.lt_of_lt_of_le Sw a.size,Nat.lt_of_lt_of_le Gm a.size⟩);have HYY:=gH hY;have H0:=gH h0;obtain ⟨x0,x1,x2,x3,x4,x5⟩:=HC.out W aW;clear bB aW hJ hY h0 c0 c1 c2;refine callsIn_of_wp Tryz.func197 rfl trivial ?_ rfl;simp only [Tryz.ntmps197,List.size_toArray,List.length_cons,List.length_nil,Nat.reduceAdd,Nat.reduceSub,Array.replicate_succ,Array.replicate_zero,List.push_toArray,List.append_toArray,List.nil_append,List.cons_append]
 gi_wp2
 gi_loopw [12] (fun i wr=>∃ (k:Nat) (pre:List FP),k≤ts.length∧i=.int .i64 k∧ag X wr∧W.heap.size≤wr.heap.size∧J pre wr∧pre.map FP.key=gW s n (ts.take k)) (fun i _=>ts.length - (intOf i).toNat)
 case atStart=>exact ⟨0,[],Nat.zero_le _,rfl,HA.out,Nat.le_refl _,H0.out,rfl⟩
 case round =>
  obtain ⟨k,pre,hk,rfl,ha,hz,hj,YR⟩:=hrel;have Hp:=gH ha;have Vh:=gH hz;have YS:=gH hj;have YT:=gH YR;clear ha hj YR;by_cases hlt:k < ts.length
  ·obtain ⟨R,rfl⟩:∃ R,R=wr:=⟨_,rfl⟩
   obtain ⟨b,off,A2,bT,A3,fA,rfl,hb,t0,t1,t2,t3,t4,eA,fW,_⟩:=jt HT.out hlt;have t0:=Hp.out.cell_kept t0;have t1:=Hp.out.cell_kept t1;have t2:=Hp.out.cell_kept t2;have t3:=Hp.out.cell_kept t3;have t4:=Hp.out.cell_kept t4;have hb:=Nat.lt_of_lt_of_le hb Hp.out.size;obtain ⟨t,ht⟩:∃ t,ts[k]=t:=⟨_,rfl⟩;rw [ht] at t0 t1 t2 t3 t4 fW;have YU:=gH ht;have HRU:=gH fW;have hlr:=fW.len;have lw:=Nat.lt_succ_self R.heap.size;obtain ⟨Y,SS⟩:∃ Y,Y=R.alloc (.cells #[.string t.aa,.string t.name,.string t.owner,.slice A2 t.ak.length bT,.slice A3 t.rules.length fA] 53):=⟨_,rfl⟩
   have aY:ag R Y:=by rw [SS];exact (ag.refl _).alloc _
   have jG:=gH aY;have HBY:=gH (show ap Y R.heap.size [.string t.aa,.string t.name,.string t.owner,.slice A2 t.ak.length bT,.slice A3 t.rules.length fA] by rw [SS];exact aO (ag.refl _));have HJY:=gH (show J pre Y by rw [SS];exact HJ.out pre R _ none YS.out (World.grownBy_alloc R _ none) (fun r e=>by cases e));clear ht eA fW aY
   gi_wp2
   rw [← SS];clear SS
   gi_loopw [19] (fun i2 wr=>∃ (k2:Nat) (r8:List FP),k2≤t.rules.length∧i2=.int .i64 k2∧ag X wr∧Kc Y wr∧J r8 wr∧r8.map FP.key=gW s n (ts.take k)++((t.rules.take k2).filter (eN s n)).map (fun r=>(t,r))) (fun i2 _=>t.rules.length - (intOf i2).toNat)
   case atStart=>exact ⟨0,pre,Nat.zero_le _,rfl,Hp.out.trans jG.out,Kc.refl _,HJY.out,by rw [YT.out];simp⟩
   case round =>
    obtain ⟨k2,r8,hk2,rfl,ha2,hc2,qB,SU⟩:=hrel;have fx:=gH ha2;have xL:=gH hc2;have Ra:=gH qB;have SV:=gH SU;have tv:=hc2.row HBY.out (by simp);have q0:=tv.cell (j:=0) rfl;have q1:=tv.cell (j:=1) rfl;have q2:=tv.cell (j:=2) rfl;have q3:=tv.cell (j:=3) rfl;have q4:=tv.cell (j:=4) rfl;have qz:=tv.1;clear ha2 hc2 qB SU tv;by_cases jF:k2 < t.rules.length
    ·obtain ⟨b3,Kw,A4,wq,rfl,hb3,r0,r1,r2,r3,r4,r5,r6,r7,_⟩:=oD (ee fx.out HRU.out) jF
     have hf:=E8 s n t k2 jF;obtain ⟨r,hr⟩:∃ r,t.rules[k2]=r:=⟨_,rfl⟩;rw [hr] at r0 r1 r2 r3 r4 r5 r6 r7 hf;obtain ⟨y1,y2,y3,y4,y5,y6⟩:=HC.out wr fx.out;have HF:=gH hf;have lw2:=Nat.lt_succ_self wr.heap.size
     have m1:b3 < wr.heap.size+1:=by omega
     have m2:R.heap.size < wr.heap.size+1:=by omega
     have m3:bs < wr.heap.size+1:=by omega
     have m4:bt < wr.heap.size+1:=by omega
     have iw:=gH (fx.out.alloc (.cells #[.string r.name,.int .i64 r.kind,.slice A4 r.ak.length wq,.int .i64 r.low,.int .i64 r.high,.string r.aa,.string r.table,.string r.key] 37));have Kf:=gH (xL.out.trans (Kc.aH ((ag.refl wr).alloc (.cells #[.string r.name,.int .i64 r.kind,.slice A4 r.ak.length wq,.int .i64 r.low,.int .i64 r.high,.string r.aa,.string r.table,.string r.key] 37))));have SY:=gH (HJ.out r8 wr _ none Ra.out (World.grownBy_alloc wr (.cells #[.string r.name,.int .i64 r.kind,.slice A4 r.ak.length wq,.int .i64 r.low,.int .i64 r.high,.string r.aa,.string r.table,.string r.key] 37) none) (fun r e=>by cases e));have YV:=gH (show ∀ mm,(gW s n (ts.take k)++((t.rules.take mm).filter (eN s n)).map (fun r=>(t,r))) <+: gW s n ts from fun mm=>by have:=Ij s n ts k hlt mm;rw [YU.out] at this;exact this);clear hr hf;by_cases g1:r.kind=4
     ·rw [g1] at r1 iw Kf SY
      cases g2:bk r.aa s
      ·have HN:=gH (show eN s n r=false by unfold eN;rw [g2];simp)
       have e2:(r.aa.toList==s.toList)=false:=g2;clear g1 g2
       gi_wp2
       refine ⟨fun _ h=>(by cases h),?_⟩
       gi_wp2
       go_roundw
       case rel=>exact ⟨k2+1,r8,by omega,by go_num,iw.out,Kf.out,SY.out,by rw [HF.out,HN.out,SV.out];simp⟩
       case measure=>simp [intOf];omega
      ·cases g3:bk r.table n
       ·have HN:=gH (show eN s n r=false by unfold eN;rw [g2,g3];simp)
        have e2:(r.aa.toList==s.toList)=true:=g2;have e3:(r.table.toList==n.toList)=false:=g3;clear g1 g2 g3
        gi_wp2
        refine ⟨fun _ h=>(by cases h),?_⟩
        gi_wp2
        go_roundw
        case rel=>exact ⟨k2+1,r8,by omega,by go_num,iw.out,Kf.out,SY.out,by rw [HF.out,HN.out,SV.out];simp⟩
        case measure=>simp [intOf];omega
       ·have HN:=gH (show eN s n r=true by unfold eN;rw [g2,g3,g1];rfl)
        have hx1:(r8++[(⟨t,r,A2,bT,some ⟨b3,Kw,none⟩,fA,A4,wq⟩:FP)]).map FP.key=gW s n (ts.take k)++((t.rules.take (k2+1)).filter (eN s n)).map (fun r=>(t,r)):=by
         rw [List.map_append,SV.out,HF.out,HN.out];simp [FP.key]
        have YW:=gH hx1
        have Nv:r8.length < (gW s n ts).length:=by
         have h1:=(YV.out (k2+1)).length_le;rw [← hx1,List.length_map,List.length_append] at h1;simp at h1;omega
        obtain ⟨fn,tmps,assign,body,hy,hR⟩:=HYY.out r8 ⟨t,r,A2,bT,some ⟨b3,Kw,none⟩,fA,A4,wq⟩ _ SY.out Nv;dsimp only [FP.enc] at hy;rw [g1] at hy;have e2:(r.aa.toList==s.toList)=true:=g2;have e3:(r.table.toList==n.toList)=true:=g3;have HR:=gH hR;clear g1 g2 g3 hx1 hR Nv
        gi_wp2
        refine HR.out.mono ?_;rintro e W3 (⟨rfl,YX,WG⟩ | ⟨rfl,S3⟩)
        ·have qD:=gH (show ag X W3 from Below.trans iw.out WG.2)
         have WH:=gH (Kf.out.trans WG.1);have WI:=gH YX;clear YX WG
         gi_wp2
         go_roundw
         case rel=>exact ⟨k2+1,_,by omega,by go_num,qD.out,WH.out,WI.out,YW.out⟩
         case measure=>simp [intOf];omega
        ·have WI:=gH S3
         clear S3
         gi_wp2
         refine bodyPost_ret (results_none rfl _ _ _) rfl ?_;exact ⟨⟨_,rfl⟩,.inr ⟨_,by rw [YW.out];exact YV.out (k2+1),WI.out⟩⟩
     ·have HN:=gH (show eN s n r=false from by
       have:(r.kind==4)=false:=by simpa using g1
       unfold eN
       rw [this];rfl)
      have e1:(r.kind==4)=false:=by simpa using g1
      gi_wp2
      refine ⟨fun _ h=>(by cases h),?_⟩
      gi_wp2
      go_roundw
      case rel=>exact ⟨k2+1,r8,by omega,by go_num,iw.out,Kf.out,SY.out,by rw [HF.out,HN.out,SV.out];simp⟩
      case measure=>simp [intOf];omega
    ·have rJ:k2=t.rules.length:=by omega
     have HP3:=gH (show r8.map FP.key=gW s n (ts.take (k+1)) by rw [SV.out,rJ,List.take_length,vo s n ts k hlt,YU.out];rfl);have HZ3:=gH (show W.heap.size≤wr.heap.size from Nat.le_trans Vh.out (Nat.le_trans jG.out.size xL.out.size))
     gi_wp2
     go_roundw
     case rel=>exact ⟨k+1,r8,by omega,by go_num,fx.out,HZ3.out,Ra.out,HP3.out⟩
     case measure=>simp [intOf];omega
  ·have rJ:k=ts.length:=by omega
   have HP:=gH (show pre.map FP.key=gW s n ts by rw [YT.out,rJ,List.take_length])
   gi_wp2
   go_end0
   exact ⟨⟨_,rfl⟩,.inl ⟨pre,HP.out,YS.out⟩⟩
end Go.Proofs.YtmflccbnoeaafaaGreat
