import Derived.Laws.StructEq
import Derived.Test.YtmflccbnoeaafaaGreatPartC11
namespace Go.Proofs.YtmflccbnoeaafaaGreat
open Go.Shelf Go.Proofs
set_option maxRecDepth 100000
set_option linter.unusedVariables false
set_option maxHeartbeats 64000000
def yi:Go.Shelf.Ren:=⟨fun | 6=>152 | 15=>111 | 14=>209 | 28=>182 | 29=>183 | 20=>225 | 21=>226 | 22=>227 | 23=>228 | 24=>229 | 25=>230 | 26=>231 | 27=>232 | 46=>253 | 47=>217 | 48=>218 | 49=>254 | 50=>255 | 57=>262 | n=>n,fun | 22=>22 | 24=>61 | 25=>132 | 3=>3 | 39=>149 | 0=>0 | 53=>208 | 55=>210 | 4=>4 | 46=>202 | 45=>201 | 50=>87 | 5=>5 | 9=>9 | 66=>234 | 70=>238 | 76=>255 | 77=>256 | n=>n,fun | n=>n⟩
theorem wA:Go.Proofs.SlLaysF0.n6 Tryz.prog yi:={
 mixed:=by kernel_rfl
 f6:=⟨Tryz.f152.name,by decide,Tryz.func152.trans (congrArg some (by kernel_rfl))⟩
 f14:=⟨Tryz.f209.name,by decide,Tryz.func209.trans (congrArg some (by kernel_rfl))⟩
 f15:=Tryz.func111.trans (congrArg some (by kernel_rfl))
 f20:=⟨Tryz.f225.name,by decide,Tryz.func225.trans (congrArg some (by kernel_rfl))⟩
 f21:=⟨Tryz.f226.name,by decide,Tryz.func226.trans (congrArg some (by kernel_rfl))⟩
 f22:=⟨Tryz.f227.name,by decide,Tryz.func227.trans (congrArg some (by kernel_rfl))⟩
 f23:=⟨Tryz.f228.name,by decide,Tryz.func228.trans (congrArg some (by kernel_rfl))⟩
 f24:=⟨Tryz.f229.name,by decide,Tryz.func229.trans (congrArg some (by kernel_rfl))⟩
 f25:=⟨Tryz.f230.name,by decide,Tryz.func230.trans (congrArg some (by kernel_rfl))⟩
 f26:=⟨Tryz.f231.name,by decide,Tryz.func231.trans (congrArg some (by kernel_rfl))⟩
 f27:=⟨Tryz.f232.name,by decide,Tryz.func232.trans (congrArg some (by kernel_rfl))⟩
 f28:=Tryz.func182.trans (congrArg some (by kernel_rfl))
 f29:=Tryz.func183.trans (congrArg some (by kernel_rfl))
 f46:=⟨Tryz.f253.name,by decide,Tryz.func253.trans (congrArg some (by kernel_rfl))⟩
 f47:=Tryz.func217.trans (congrArg some (by kernel_rfl))
 f48:=Tryz.func218.trans (congrArg some (by kernel_rfl))
 f49:=⟨Tryz.f254.name,by decide,Tryz.func254.trans (congrArg some (by kernel_rfl))⟩
 f50:=⟨Tryz.f255.name,by decide,Tryz.func255.trans (congrArg some (by kernel_rfl))⟩
 f57:=⟨Tryz.f262.name,by decide,Tryz.func262.trans (congrArg some (by kernel_rfl))⟩
 t0:=Tryz.underlying0
 a0:=Tryz.isAgg0
 z0:=Tryz.sizeOf0
 v0:=Tryz.zeroValue0
 t3:=Tryz.underlying3
 a3:=Tryz.isAgg3
 z3:=Tryz.sizeOf3
 v3:=Tryz.zeroValue3
 t4:=Tryz.underlying4
 a4:=Tryz.isAgg4
 z4:=Tryz.sizeOf4
 v4:=Tryz.zeroValue4
 t5:=Tryz.underlying5
 a5:=Tryz.isAgg5
 z5:=Tryz.sizeOf5
 v5:=Tryz.zeroValue5
 t9:=Tryz.underlying9
 a9:=Tryz.isAgg9
 z9:=Tryz.sizeOf9
 v9:=Tryz.zeroValue9
 t22:=Tryz.underlying22
 a22:=Tryz.isAgg22
 z22:=Tryz.sizeOf22
 v22:=Tryz.zeroValue22
 t25:=Tryz.underlying132
 a25:=Tryz.isAgg132
 z25:=Tryz.sizeOf132
 v25:=Tryz.zeroValue132
 t39:=Tryz.underlying149
 a39:=Tryz.isAgg149
 z39:=Tryz.sizeOf149
 v39:=Tryz.zeroValue149
 t45:=Tryz.underlying201
 a45:=Tryz.isAgg201
 z45:=Tryz.sizeOf201
 v45:=Tryz.zeroValue201
 t46:=Tryz.underlying202
 a46:=Tryz.isAgg202
 z46:=Tryz.sizeOf202
 v46:=Tryz.zeroValue202
 t50:=Tryz.underlying87
 a50:=Tryz.isAgg87
 z50:=Tryz.sizeOf87
 v50:=Tryz.zeroValue87
 t53:=Tryz.underlying208
 a53:=Tryz.isAgg208
 z53:=Tryz.sizeOf208
 v53:=Tryz.zeroValue208
 t55:=Tryz.underlying210
 a55:=Tryz.isAgg210
 z55:=Tryz.sizeOf210
 v55:=Tryz.zeroValue210
 t66:=Tryz.underlying234
 a66:=Tryz.isAgg234
 z66:=Tryz.sizeOf234
 v66:=Tryz.zeroValue234
 t70:=Tryz.underlying238
 a70:=Tryz.isAgg238
 z70:=Tryz.sizeOf238
 v70:=Tryz.zeroValue238
 t76:=Tryz.underlying255
 a76:=Tryz.isAgg255
 z76:=Tryz.sizeOf255
 v76:=Tryz.zeroValue255
 t77:=Tryz.underlying256
 a77:=Tryz.isAgg256
 z77:=Tryz.sizeOf256
 v77:=Tryz.zeroValue256 }
def yj:Go.Shelf.Ren:=⟨fun | 6=>157 | 15=>111 | 14=>210 | 28=>182 | 29=>183 | 20=>233 | 21=>234 | 22=>235 | 23=>236 | 24=>237 | 25=>238 | 26=>239 | 27=>240 | 46=>256 | 47=>217 | 48=>218 | 49=>257 | 50=>258 | 57=>263 | n=>n,fun | 22=>23 | 24=>53 | 25=>129 | 3=>3 | 39=>149 | 0=>0 | 53=>208 | 55=>210 | 4=>4 | 46=>202 | 45=>201 | 50=>87 | 5=>5 | 9=>9 | 66=>234 | 70=>238 | 76=>255 | 77=>256 | n=>n,fun | n=>n⟩
theorem wB:Go.Proofs.SlLaysF0.n6 Tryz.prog yj:={
 mixed:=by kernel_rfl
 f6:=⟨Tryz.f157.name,by decide,Tryz.func157.trans (congrArg some (by kernel_rfl))⟩
 f14:=⟨Tryz.f210.name,by decide,Tryz.func210.trans (congrArg some (by kernel_rfl))⟩
 f15:=Tryz.func111.trans (congrArg some (by kernel_rfl))
 f20:=⟨Tryz.f233.name,by decide,Tryz.func233.trans (congrArg some (by kernel_rfl))⟩
 f21:=⟨Tryz.f234.name,by decide,Tryz.func234.trans (congrArg some (by kernel_rfl))⟩
 f22:=⟨Tryz.f235.name,by decide,Tryz.func235.trans (congrArg some (by kernel_rfl))⟩
 f23:=⟨Tryz.f236.name,by decide,Tryz.func236.trans (congrArg some (by kernel_rfl))⟩
 f24:=⟨Tryz.f237.name,by decide,Tryz.func237.trans (congrArg some (by kernel_rfl))⟩
 f25:=⟨Tryz.f238.name,by decide,Tryz.func238.trans (congrArg some (by kernel_rfl))⟩
 f26:=⟨Tryz.f239.name,by decide,Tryz.func239.trans (congrArg some (by kernel_rfl))⟩
 f27:=⟨Tryz.f240.name,by decide,Tryz.func240.trans (congrArg some (by kernel_rfl))⟩
 f28:=Tryz.func182.trans (congrArg some (by kernel_rfl))
 f29:=Tryz.func183.trans (congrArg some (by kernel_rfl))
 f46:=⟨Tryz.f256.name,by decide,Tryz.func256.trans (congrArg some (by kernel_rfl))⟩
 f47:=Tryz.func217.trans (congrArg some (by kernel_rfl))
 f48:=Tryz.func218.trans (congrArg some (by kernel_rfl))
 f49:=⟨Tryz.f257.name,by decide,Tryz.func257.trans (congrArg some (by kernel_rfl))⟩
 f50:=⟨Tryz.f258.name,by decide,Tryz.func258.trans (congrArg some (by kernel_rfl))⟩
 f57:=⟨Tryz.f263.name,by decide,Tryz.func263.trans (congrArg some (by kernel_rfl))⟩
 t0:=Tryz.underlying0
 a0:=Tryz.isAgg0
 z0:=Tryz.sizeOf0
 v0:=Tryz.zeroValue0
 t3:=Tryz.underlying3
 a3:=Tryz.isAgg3
 z3:=Tryz.sizeOf3
 v3:=Tryz.zeroValue3
 t4:=Tryz.underlying4
 a4:=Tryz.isAgg4
 z4:=Tryz.sizeOf4
 v4:=Tryz.zeroValue4
 t5:=Tryz.underlying5
 a5:=Tryz.isAgg5
 z5:=Tryz.sizeOf5
 v5:=Tryz.zeroValue5
 t9:=Tryz.underlying9
 a9:=Tryz.isAgg9
 z9:=Tryz.sizeOf9
 v9:=Tryz.zeroValue9
 t22:=Tryz.underlying23
 a22:=Tryz.isAgg23
 z22:=Tryz.sizeOf23
 v22:=Tryz.zeroValue23
 t25:=Tryz.underlying129
 a25:=Tryz.isAgg129
 z25:=Tryz.sizeOf129
 v25:=Tryz.zeroValue129
 t39:=Tryz.underlying149
 a39:=Tryz.isAgg149
 z39:=Tryz.sizeOf149
 v39:=Tryz.zeroValue149
 t45:=Tryz.underlying201
 a45:=Tryz.isAgg201
 z45:=Tryz.sizeOf201
 v45:=Tryz.zeroValue201
 t46:=Tryz.underlying202
 a46:=Tryz.isAgg202
 z46:=Tryz.sizeOf202
 v46:=Tryz.zeroValue202
 t50:=Tryz.underlying87
 a50:=Tryz.isAgg87
 z50:=Tryz.sizeOf87
 v50:=Tryz.zeroValue87
 t53:=Tryz.underlying208
 a53:=Tryz.isAgg208
 z53:=Tryz.sizeOf208
 v53:=Tryz.zeroValue208
 t55:=Tryz.underlying210
 a55:=Tryz.isAgg210
 z55:=Tryz.sizeOf210
 v55:=Tryz.zeroValue210
 t66:=Tryz.underlying234
 a66:=Tryz.isAgg234
 z66:=Tryz.sizeOf234
 v66:=Tryz.zeroValue234
 t70:=Tryz.underlying238
 a70:=Tryz.isAgg238
 z70:=Tryz.sizeOf238
 v70:=Tryz.zeroValue238
 t76:=Tryz.underlying255
 a76:=Tryz.isAgg255
 z76:=Tryz.sizeOf255
 v76:=Tryz.zeroValue255
 t77:=Tryz.underlying256
 a77:=Tryz.isAgg256
 z77:=Tryz.sizeOf256
 v77:=Tryz.zeroValue256 }
def yl:Go.Shelf.Ren:=⟨fun | 6=>169 | 15=>111 | 14=>215 | 28=>182 | 29=>183 | 20=>241 | 21=>242 | 22=>243 | 23=>244 | 24=>245 | 25=>246 | 26=>247 | 27=>248 | 46=>259 | 47=>217 | 48=>218 | 49=>260 | 50=>261 | 57=>264 | n=>n,fun | 22=>51 | 24=>37 | 25=>164 | 3=>3 | 39=>149 | 0=>0 | 53=>208 | 55=>210 | 4=>4 | 46=>202 | 45=>201 | 50=>87 | 5=>5 | 9=>9 | 66=>234 | 70=>238 | 76=>255 | 77=>256 | n=>n,fun | n=>n⟩
theorem wC:Go.Proofs.SlLaysF0.n6 Tryz.prog yl:={
 mixed:=by kernel_rfl
 f6:=⟨Tryz.f169.name,by decide,Tryz.func169.trans (congrArg some (by kernel_rfl))⟩
 f14:=⟨Tryz.f215.name,by decide,Tryz.func215.trans (congrArg some (by kernel_rfl))⟩
 f15:=Tryz.func111.trans (congrArg some (by kernel_rfl))
 f20:=⟨Tryz.f241.name,by decide,Tryz.func241.trans (congrArg some (by kernel_rfl))⟩
 f21:=⟨Tryz.f242.name,by decide,Tryz.func242.trans (congrArg some (by kernel_rfl))⟩
 f22:=⟨Tryz.f243.name,by decide,Tryz.func243.trans (congrArg some (by kernel_rfl))⟩
 f23:=⟨Tryz.f244.name,by decide,Tryz.func244.trans (congrArg some (by kernel_rfl))⟩
 f24:=⟨Tryz.f245.name,by decide,Tryz.func245.trans (congrArg some (by kernel_rfl))⟩
 f25:=⟨Tryz.f246.name,by decide,Tryz.func246.trans (congrArg some (by kernel_rfl))⟩
 f26:=⟨Tryz.f247.name,by decide,Tryz.func247.trans (congrArg some (by kernel_rfl))⟩
 f27:=⟨Tryz.f248.name,by decide,Tryz.func248.trans (congrArg some (by kernel_rfl))⟩
 f28:=Tryz.func182.trans (congrArg some (by kernel_rfl))
 f29:=Tryz.func183.trans (congrArg some (by kernel_rfl))
 f46:=⟨Tryz.f259.name,by decide,Tryz.func259.trans (congrArg some (by kernel_rfl))⟩
 f47:=Tryz.func217.trans (congrArg some (by kernel_rfl))
 f48:=Tryz.func218.trans (congrArg some (by kernel_rfl))
 f49:=⟨Tryz.f260.name,by decide,Tryz.func260.trans (congrArg some (by kernel_rfl))⟩
 f50:=⟨Tryz.f261.name,by decide,Tryz.func261.trans (congrArg some (by kernel_rfl))⟩
 f57:=⟨Tryz.f264.name,by decide,Tryz.func264.trans (congrArg some (by kernel_rfl))⟩
 t0:=Tryz.underlying0
 a0:=Tryz.isAgg0
 z0:=Tryz.sizeOf0
 v0:=Tryz.zeroValue0
 t3:=Tryz.underlying3
 a3:=Tryz.isAgg3
 z3:=Tryz.sizeOf3
 v3:=Tryz.zeroValue3
 t4:=Tryz.underlying4
 a4:=Tryz.isAgg4
 z4:=Tryz.sizeOf4
 v4:=Tryz.zeroValue4
 t5:=Tryz.underlying5
 a5:=Tryz.isAgg5
 z5:=Tryz.sizeOf5
 v5:=Tryz.zeroValue5
 t9:=Tryz.underlying9
 a9:=Tryz.isAgg9
 z9:=Tryz.sizeOf9
 v9:=Tryz.zeroValue9
 t22:=Tryz.underlying51
 a22:=Tryz.isAgg51
 z22:=Tryz.sizeOf51
 v22:=Tryz.zeroValue51
 t25:=Tryz.underlying164
 a25:=Tryz.isAgg164
 z25:=Tryz.sizeOf164
 v25:=Tryz.zeroValue164
 t39:=Tryz.underlying149
 a39:=Tryz.isAgg149
 z39:=Tryz.sizeOf149
 v39:=Tryz.zeroValue149
 t45:=Tryz.underlying201
 a45:=Tryz.isAgg201
 z45:=Tryz.sizeOf201
 v45:=Tryz.zeroValue201
 t46:=Tryz.underlying202
 a46:=Tryz.isAgg202
 z46:=Tryz.sizeOf202
 v46:=Tryz.zeroValue202
 t50:=Tryz.underlying87
 a50:=Tryz.isAgg87
 z50:=Tryz.sizeOf87
 v50:=Tryz.zeroValue87
 t53:=Tryz.underlying208
 a53:=Tryz.isAgg208
 z53:=Tryz.sizeOf208
 v53:=Tryz.zeroValue208
 t55:=Tryz.underlying210
 a55:=Tryz.isAgg210
 z55:=Tryz.sizeOf210
 v55:=Tryz.zeroValue210
 t66:=Tryz.underlying234
 a66:=Tryz.isAgg234
 z66:=Tryz.sizeOf234
 v66:=Tryz.zeroValue234
 t70:=Tryz.underlying238
 a70:=Tryz.isAgg238
 z70:=Tryz.sizeOf238
 v70:=Tryz.zeroValue238
 t76:=Tryz.underlying255
 a76:=Tryz.isAgg255
 z76:=Tryz.sizeOf255
 v76:=Tryz.zeroValue255
 t77:=Tryz.underlying256
 a77:=Tryz.isAgg256
 z77:=Tryz.sizeOf256
 v77:=Tryz.zeroValue256 }
end Go.Proofs.YtmflccbnoeaafaaGreat
namespace Go.Proofs.YtmflccbnoeaafaaGreat
open Go.RowKit Go.Sort Go.Shelf
set_option maxRecDepth 100000
set_option linter.unusedVariables false
set_option maxHeartbeats 64000000
def Dt (w w':World):Prop:=∃ q os',w'=grow (w.drewN q) os'
theorem Dt.refl (w:World):Dt w w:=⟨0,#[],by rw [grow_empty];rfl⟩
theorem Dt.alloc {w w':World} (h:Dt w w') (o:Obj):Dt w (w'.alloc o):=by
 obtain ⟨q,os,rfl⟩:=h;exact ⟨q,os++#[o],by rw [alloc_eq_grow,grow_grow]⟩
theorem Dt.drew {w w':World} (h:Dt w w'):Dt w w'.drew:=by
 obtain ⟨q,os,rfl⟩:=h;exact ⟨q+1,os,rfl⟩
theorem G8 (a b:Int) (g:Nat) (w:World) (hg:g < w.heap.size) (h0:w.cell? ⟨g,0,none⟩=some (.int .i64 a)) (h1:w.cell? ⟨g,1,none⟩=some (.int .i64 b)) :
  Calls Tryz.prog 112 #[.slice (some ⟨g,0,none⟩) 2 2] w fun e w'=>e=.returned (.int .i64 (iQ a b))∧w'=w:=by
 cases ha:(a != 0)
 ·have ha0:a=0:=by simpa using ha
  subst ha0;have HO:=gH (show iQ 0 b=b by simp [iQ]);clear ha
  cases hb:(b != 0)
  ·have hb0:b=0:=by simpa using hb
   subst hb0;clear hb
   go_enter Tryz.func112,Tryz.ntmps112
   go_wp2_with fail
   go_loop [8] (fun i=>∃ k:Nat,k≤2∧i=.int .i64 k) (fun i=>2 - (intOf i).toNat)
   case atStart=>exact ⟨0,by omega,rfl⟩
   case round =>
    obtain ⟨k,hk,rfl⟩:=hrel
    have hk2:k=0∨k=1∨k=2:=by omega
    clear hk
    rcases hk2 with rfl | rfl | rfl
    ·go_wp2_with fail
     go_round
     case rel=>exact ⟨1,by omega,rfl⟩
     case measure=>simp [intOf]
    ·go_wp2_with fail
     go_round
     case rel=>exact ⟨2,by omega,rfl⟩
     case measure=>simp [intOf]
    ·go_wp2_with fail
     go_ret;exact ⟨by rw [HO.out];rfl,rfl⟩
  ·go_enter Tryz.func112,Tryz.ntmps112
   go_wp2_with fail
   go_loop [8] (fun i=>∃ k:Nat,k≤1∧i=.int .i64 k) (fun i=>2 - (intOf i).toNat)
   case atStart=>exact ⟨0,by omega,rfl⟩
   case round =>
    obtain ⟨k,hk,rfl⟩:=hrel
    have hk2:k=0∨k=1:=by omega
    clear hk
    rcases hk2 with rfl | rfl
    ·go_wp2_with fail
     go_round
     case rel=>exact ⟨1,by omega,rfl⟩
     case measure=>simp [intOf]
    ·go_wp2_with fail
     go_ret;exact ⟨by rw [HO.out];rfl,rfl⟩
 ·have HO:=gH (show iQ a b=a by have:¬ a=0:=(by simpa using ha);simp [iQ,this])
  go_enter Tryz.func112,Tryz.ntmps112
  go_wp2_with fail
  go_loop [8] (fun i=>i=.int .i64 0) (fun i=>2 - (intOf i).toNat)
  case atStart=>rfl
  case round =>
   subst hrel;go_wp2_with fail;go_ret;exact ⟨by rw [HO.out];rfl,rfl⟩
theorem kE {P:Program} {id:Nat} {Q:Exit→Act→World→Prop} {a:Act} {w:World} {l:List Oper} (n:Nat) (hm:P.follows .mixedOrders=true) (hB:Region.lexTailB .any l.toArray n=true)
  (h:∀ w1,w1=w.drew→wpStill P l.toArray w1 (fun a'=>wpList P l.toArray Q (l.drop n) a' w1) (l.take n) a):(Code.region id l.toArray true).wp P Q a w :=
 wp_region_still_tail n hm hB (h _ rfl)
theorem EJ (s1 n1 o1:ByteArray) (v1 v2:Value) (s2 n2 o2:ByteArray) (v3 v4:Value) (w:World) :
  Calls Tryz.prog 80 #[.agg #[.string s1,.string n1,.string o1,v1,v2],.agg #[.string s2,.string n2,.string o2,v3,v4]] w fun e w'=>e=.returned (.int .i64 (iQ (bw s1 s2) (bw n1 n2)))∧Dt w w':=by
 go_enter Tryz.func80,Tryz.ntmps80
 go_wp2_with fail;have HG:=gH (((Dt.refl w).alloc (.cells #[.string s1,.string n1,.string o1,v1,v2] 53)).alloc (.cells #[.string s2,.string n2,.string o2,v3,v4] 53)).drew;refine kE 10 (by kernel_rfl) (by kernel_rfl) ?_;intro w1 G9
 have a1:ag ((w.alloc (.cells #[.string s1,.string n1,.string o1,v1,v2] 53)).alloc (.cells #[.string s2,.string n2,.string o2,v3,v4] 53)) w1:=by rw [G9];exact (ag.refl _).drew
 rw [← G9] at HG;clear G9;obtain ⟨hb1,hb2,hz,HA⟩:=jc a1;clear a1 HA;simp only [List.take_succ_cons,List.take_zero,List.drop_succ_cons,List.drop_zero]
 repeat still_step
 still_call (dJ _ _ _)
 repeat still_step
 still_call (dJ _ _ _)
 refine wpStill_nil ?_;go_wp2_with fail;refine (G8 (bw s1 s2) (bw n1 n2) w1.heap.size _ (by simp) (by simp) (by simp)).mono ?_;rintro e w2 ⟨rfl,rfl⟩;have Wc:=gH (HG.out.alloc (.cells #[.int .i64 (bw s1 s2),.int .i64 (bw n1 n2)] 3));go_wp2_with fail;go_ret;exact ⟨rfl,Wc.out⟩
theorem KJ (x y:ay) (W:World):Calls Tryz.prog 80 (#[.agg x.cells.toArray,.agg y.cells.toArray]++#[]) W fun e w'=>e=.returned (.int .i64 (eG x.t y.t))∧∃ q os',w'=grow (W.drewN q) os' :=
 EJ x.aa x.name x.owner x.hc.v x.hr.v y.aa y.name y.owner y.hc.v y.hr.v W
theorem Ha (blk cap B:Nat) (l:List ay) (h0:0 < l.length) (hsz:l.length≤1000000) (w:World) (ho:w.ownsRow B 53 5 (.slice (some ⟨blk,0,none⟩) l.length cap) l.length (l.flatMap ay.cells)) :
  Calls Tryz.prog 157 #[.slice (some ⟨blk,0,none⟩) l.length cap,.func (.func 80) #[] #[]] w (gK 53 5 ay.cells (fun x y=>eG x.t y.t) w B blk cap l) :=
 pH wB 5 Tryz.isAgg53 Tryz.sizeOf53 ay.cells (fun _=>rfl) ym (fun x y=>eG x.t y.t) (mM.on ay.t).swo 80 #[] 53 B blk cap l h0 hsz w ho (enters (P:=Tryz.prog) Tryz.func80 (by kernel_rfl) rfl) (fun W x y=>KJ x y W)
end Go.Proofs.YtmflccbnoeaafaaGreat
namespace Go.Proofs.YtmflccbnoeaafaaGreat
open Go.RowKit
set_option maxRecDepth 100000
set_option linter.unusedVariables false
set_option maxHeartbeats 64000000
def Nf (a:Addr):Sem Value:=loadVar 114 a
@[go_sem ↓] theorem Sr (a:Addr):loadVar 114 a=Nf a:=rfl
@[go_sem] theorem EK (w:World) (b o:Nat) (h0:(w.cell? ⟨b,o,none⟩).isSome=true) (h1:(w.cell? ⟨b,o+1,none⟩).isSome=true) (h2:(w.cell? ⟨b,o+2,none⟩).isSome=true) (h3:(w.cell? ⟨b,o+3,none⟩).isSome=true) (h4:(w.cell? ⟨b,o+4,none⟩).isSome=true):(Nf ⟨b,o,none⟩).run Tryz.prog w=.ok (.agg #[(w.cell? ⟨b,o,none⟩).getD undef,(w.cell? ⟨b,o+1,none⟩).getD undef,(w.cell? ⟨b,o+2,none⟩).getD undef,(w.cell? ⟨b,o+3,none⟩).getD undef,(w.cell? ⟨b,o+4,none⟩).getD undef]) w:=iO (P:=Tryz.prog) w 114 _ 5 b o Tryz.underlying114 rfl (by kernel_rfl) (ah _ _ (ah _ _ (ah _ _ (ah _ _ (ah _ _ (fun j hj=>absurd hj (Nat.not_lt_zero j)) h0) h1) h2) h3) h4)
def Ng (a:Addr) (v:Value):Sem Unit:=storeVar 114 a v
@[go_sem ↓] theorem Ss (a:Addr) (v:Value):storeVar 114 a v=Ng a v:=rfl
@[go_sem] theorem Q1 (w:World) (b o:Nat) (v0 v1 v2 v3 v4:Value) (h0:(w.cell? ⟨b,o,none⟩).isSome=true) (h1:(w.cell? ⟨b,o+1,none⟩).isSome=true) (h2:(w.cell? ⟨b,o+2,none⟩).isSome=true) (h3:(w.cell? ⟨b,o+3,none⟩).isSome=true) (h4:(w.cell? ⟨b,o+4,none⟩).isSome=true) (f0:w.frozen? ⟨b,o,none⟩=false) (f1:w.frozen? ⟨b,o+1,none⟩=false) (f2:w.frozen? ⟨b,o+2,none⟩=false) (f3:w.frozen? ⟨b,o+3,none⟩=false) (f4:w.frozen? ⟨b,o+4,none⟩=false) (o0:v0.oneCell'=true) (o1:v1.oneCell'=true) (o2:v2.oneCell'=true) (o3:v3.oneCell'=true) (o4:v4.oneCell'=true):(Ng ⟨b,o,none⟩ (.agg #[v0,v1,v2,v3,v4])).run Tryz.prog w=.ok () (((((w.setCell ⟨b,o,none⟩ v0).setCell ⟨b,o+1,none⟩ v1).setCell ⟨b,o+2,none⟩ v2).setCell ⟨b,o+3,none⟩ v3).setCell ⟨b,o+4,none⟩ v4):=iP (P:=Tryz.prog) w 114 b o [v0,v1,v2,v3,v4] (by kernel_rfl) (ah _ _ (ah _ _ (ah _ _ (ah _ _ (ah _ _ (fun j hj=>absurd hj (Nat.not_lt_zero j)) ⟨h0,f0,o0⟩) ⟨h1,f1,o1⟩) ⟨h2,f2,o2⟩) ⟨h3,f3,o3⟩) ⟨h4,f4,o4⟩)
def od (s t:ByteArray) (r:Int) (g o:ByteArray) (s2 t2:ByteArray) (r2:Int) (g2 o2:ByteArray):Bool:=bk s s2&&(bk t t2&&((r==r2)&&(bk g g2&&bk o o2)))
theorem EL (w:World) (s t:ByteArray) (r:Int) (g o:ByteArray) (s2 t2:ByteArray) (r2:Int) (g2 o2:ByteArray) :
  (Op.equalIn 10000 114 (.agg #[.string s,.string t,.int .i64 r,.string g,.string o]) (.agg #[.string s2,.string t2,.int .i64 r2,.string g2,.string o2])).run Tryz.prog w=.ok (od s t r g o s2 t2 r2 g2 o2) w:=by
 cases h0:bk s s2
 ·(have Nh:=h0;unfold bk at Nh;go_simp;simp_all [od])
 have Nh:=h0;unfold bk at Nh
 cases h1:bk t t2
 ·(have AZ:=h1;unfold bk at AZ;go_simp;simp_all [od])
 have AZ:=h1;unfold bk at AZ
 cases h2:(r==r2)
 ·(go_simp;simp_all [od])
 cases h3:bk g g2
 ·(have KM:=h3;unfold bk at KM;go_simp;simp_all [od])
 have KM:=h3;unfold bk at KM
 cases h4:bk o o2
 ·(have Oi:=h4;unfold bk at Oi;go_simp;simp_all [od])
 ·(have Oi:=h4;unfold bk at Oi;go_simp;simp_all [od])
@[go_sem ↓] theorem Oj (w:World) (s t:ByteArray) (r:Int) (g o:ByteArray) (s2 t2:ByteArray) (r2:Int) (g2 o2:ByteArray) :
  (binOp .eql 114 (.agg #[.string s,.string t,.int .i64 r,.string g,.string o]) (.agg #[.string s2,.string t2,.int .i64 r2,.string g2,.string o2])).run Tryz.prog w=.ok (.bool (od s t r g o s2 t2 r2 g2 o2)) w:=by
 rw [run_eql_struct,EL];rfl
theorem Hb (a b:cB):od a.aa a.table a.right a.aC a.to b.aa b.table b.right b.aC b.to=jZ a b:=rfl
def wD (s t:ByteArray) (r:Int) (g o:ByteArray) (p:Bool) (s2 t2:ByteArray) (r2:Int) (g2 o2:ByteArray) (p2:Bool):Bool:=bk s s2&&(bk t t2&&((r==r2)&&(bk g g2&&(bk o o2&&(p==p2)))))
theorem EM (w:World) (s t:ByteArray) (r:Int) (g o:ByteArray) (p:Bool) (s2 t2:ByteArray) (r2:Int) (g2 o2:ByteArray) (p2:Bool) :
  (Op.equalIn 10000 106 (.agg #[.string s,.string t,.int .i64 r,.string g,.string o,.bool p]) (.agg #[.string s2,.string t2,.int .i64 r2,.string g2,.string o2,.bool p2])).run Tryz.prog w=.ok (wD s t r g o p s2 t2 r2 g2 o2 p2) w:=by
 cases h0:bk s s2
 ·(have Nh:=h0;unfold bk at Nh;go_simp;simp_all [wD])
 have Nh:=h0;unfold bk at Nh
 cases h1:bk t t2
 ·(have AZ:=h1;unfold bk at AZ;go_simp;simp_all [wD])
 have AZ:=h1;unfold bk at AZ
 cases h2:(r==r2)
 ·(go_simp;simp_all [wD])
 cases h3:bk g g2
 ·(have KM:=h3;unfold bk at KM;go_simp;simp_all [wD])
 have KM:=h3;unfold bk at KM
 cases h4:bk o o2
 ·(have Oi:=h4;unfold bk at Oi;go_simp;simp_all [wD])
 have Oi:=h4;unfold bk at Oi
 cases h5:(p==p2)
 ·(go_simp;simp_all [wD])
 ·(go_simp;simp_all [wD])
@[go_sem ↓] theorem Ok (w:World) (s t:ByteArray) (r:Int) (g o:ByteArray) (p:Bool) (s2 t2:ByteArray) (r2:Int) (g2 o2:ByteArray) (p2:Bool) :
  (binOp .neq 106 (.agg #[.string s,.string t,.int .i64 r,.string g,.string o,.bool p]) (.agg #[.string s2,.string t2,.int .i64 r2,.string g2,.string o2,.bool p2])).run Tryz.prog w=.ok (.bool (!wD s t r g o p s2 t2 r2 g2 o2 p2)) w:=by
 rw [run_neq_struct,EM];rfl
end Go.Proofs.YtmflccbnoeaafaaGreat
namespace Go.Proofs.YtmflccbnoeaafaaGreat
open Go.RowKit Go.Sort Go.Shelf
set_option maxRecDepth 100000
set_option linter.unusedVariables false
set_option maxHeartbeats 64000000
def Ba:List Int→Int
 | []=>0
 | x::l=>if x==0 then Ba l else x
theorem yn:∀ (l:List Int) (k:Nat) (hk:k < l.length),(∀ j (hj:j < k),(l[j]'(by omega))=0)→l[k]≠0→Ba l=l[k]
 | x::l,0,_,_,h=>by
  have h:x≠0:=h;unfold Ba;rw [if_neg (by simpa using h)];rfl
 | x::l,k+1,hk,h0,h=>by
  have e:x=0:=h0 0 (by omega);subst e;unfold Ba;rw [if_pos (by rfl)];exact yn l k (by simpa using hk) (fun j hj=>h0 (j+1) (by omega)) h
theorem yo:∀ (l:List Int),(∀ j (hj:j < l.length),l[j]=0)→Ba l=0
 | [],_=>rfl
 | x::l,h=>by
  have e:x=0:=h 0 (by simp);subst e;unfold Ba;rw [if_pos (by rfl)]
  exact yo l fun j hj=>h (j+1) (by simpa using hj)
theorem EN (l:List Int) (hl:l.length≤1000) (g:Nat) (w:World) (hg:g < w.heap.size) (hc:∀ k (hk:k < l.length),w.cell? ⟨g,k,none⟩=some (.int .i64 l[k])) :
  Calls Tryz.prog 112 #[.slice (some ⟨g,0,none⟩) l.length l.length] w fun e w'=>e=.returned (.int .i64 (Ba l))∧w'=w:=by
 have HC:=gH hc;clear hc
 go_enter Tryz.func112,Tryz.ntmps112
 go_wp2_with fail
 go_loop [5,8] (fun v i=>∃ k:Nat,k≤l.length∧i=.int .i64 k∧∀ j (hj:j < k) (qB:j < l.length),l[j]=0) (fun v i=>l.length - (intOf i).toNat)
 case atStart=>exact ⟨0,by omega,rfl,fun j hj=>absurd hj (Nat.not_lt_zero j)⟩
 case round =>
  obtain ⟨k,hk,rfl,hz⟩:=hrel;have HZ:=gH hz;clear hz;by_cases hlt:k < l.length
  ·have c0:=HC.out k hlt
   obtain ⟨x,hx⟩:∃ x,l[k]=x:=⟨_,rfl⟩;rw [hx] at c0;have HX:=gH hx;clear hx;by_cases h0:x=0
   ·subst h0
    go_wp2_with fail
    go_round
    case rel=>exact ⟨k+1,by omega,by go_num,fun j hj qB=>by
     rcases Nat.lt_or_ge j k with h1 | h1
     ·exact HZ.out j h1 qB
     ·have:j=k:=by omega
      subst this
      exact HX.out⟩
    case measure=>simp [intOf];omega
   ·have hb:(x != 0)=true:=by simpa using h0
    have HN:=gH h0;clear h0;go_wp2_with fail;go_ret;exact ⟨by rw [yn l k hlt (fun j hj=>HZ.out j hj (by omega)) (by rw [HX.out];exact HN.out),HX.out];rfl,rfl⟩
  ·go_wp2_with fail
   go_ret;exact ⟨by rw [yo l fun j hj=>HZ.out j (by omega) hj];rfl,rfl⟩
theorem qG (x:Int) (w:World):Calls Tryz.prog 184 #[.int .i64 x] w fun e w'=>e=.returned (.bool false)∧w'=w:=by
 go_enter Tryz.func184,Tryz.ntmps184
 go_wp2_with fail;go_ret;exact ⟨by simp,rfl⟩
theorem EO (x y:Int) (w:World):Calls Tryz.prog 113 #[.int .i64 x,.int .i64 y] w fun e w'=>e=.returned (.int .i64 (sR x y))∧w'=w:=by
 have HE:=gH (show sR x y=if x < y then -1 else if y < x then 1 else 0 from rfl);obtain ⟨r,hr⟩:∃ r,sR x y=r:=⟨_,rfl⟩;rw [hr] at HE ⊢;clear hr
 go_enter Tryz.func113,Tryz.ntmps113
 by_cases h1:x < y
 ·have Ni:=gH (show r = -1 by rw [HE.out,if_pos h1])
  go_wp2_with (go_at_call 184;refine (qG _ _).mono ?_;rintro e w' ⟨rfl,rfl⟩)
  go_ret;exact ⟨by rw [Ni.out];rfl,rfl⟩
 ·by_cases h2:y < x
  ·have Ni:=gH (show r=1 by rw [HE.out,if_neg h1,if_pos h2])
   go_wp2_with (go_at_call 184;refine (qG _ _).mono ?_;rintro e w' ⟨rfl,rfl⟩)
   go_ret;exact ⟨by rw [Ni.out];rfl,rfl⟩
  ·have Ni:=gH (show r=0 by rw [HE.out,if_neg h1,if_neg h2])
   go_wp2_with (go_at_call 184;refine (qG _ _).mono ?_;rintro e w' ⟨rfl,rfl⟩)
   go_ret;exact ⟨by rw [Ni.out];rfl,rfl⟩
theorem Hc (a b c d e:Int):Ba [a,b,c,d,e]=iQ a (iQ b (iQ c (iQ d e))):=by
 unfold Ba Ba Ba Ba Ba Ba iQ;by_cases h:e=0
 ·subst h;simp
 ·have:(e==0)=false:=by simpa using h
  simp [this]
theorem sW (a b:cB) (w:World) :
  Calls Tryz.prog 65 #[.agg #[.string a.aa,.string a.table,.int .i64 a.right,.string a.aC,.string a.to,.bool a.opt],.agg #[.string b.aa,.string b.table,.int .i64 b.right,.string b.aC,.string b.to,.bool b.opt]] w fun e w'=>e=.returned (.int .i64 (cS a b))∧Dt w w':=by
 have HE:=gH (show Ba [bw a.aa b.aa,bw a.table b.table,sR a.right b.right,bw a.aC b.aC,bw a.to b.to]=cS a b from Hc _ _ _ _ _);have CC:=gH (EO a.right b.right);obtain ⟨r,hr⟩:∃ r,sR a.right b.right=r:=⟨_,rfl⟩;rw [hr] at HE CC;clear hr
 go_enter Tryz.func65,Tryz.ntmps65
 go_wp2_with fail;have HG:=gH (((Dt.refl w).alloc (.cells #[.string a.aa,.string a.table,.int .i64 a.right,.string a.aC,.string a.to,.bool a.opt] 106)).alloc (.cells #[.string b.aa,.string b.table,.int .i64 b.right,.string b.aC,.string b.to,.bool b.opt] 106)).drew;refine kE 25 (by kernel_rfl) (by kernel_rfl) ?_;intro w1 G9
 have a1:ag ((w.alloc (.cells #[.string a.aa,.string a.table,.int .i64 a.right,.string a.aC,.string a.to,.bool a.opt] 106)).alloc (.cells #[.string b.aa,.string b.table,.int .i64 b.right,.string b.aC,.string b.to,.bool b.opt] 106)) w1:=by rw [G9];exact (ag.refl _).drew
 rw [← G9] at HG;clear G9;obtain ⟨hb1,hb2,hz,HA⟩:=jc a1;clear a1 HA;simp only [List.take_succ_cons,List.take_zero,List.drop_succ_cons,List.drop_zero]
 repeat still_step
 still_call (dJ _ _ _)
 repeat still_step
 still_call (dJ _ _ _)
 repeat still_step
 still_call (CC.out _)
 repeat still_step
 still_call (dJ _ _ _)
 repeat still_step
 still_call (dJ _ _ _)
 refine wpStill_nil ?_;go_wp2_with fail;refine (EN [bw a.aa b.aa,bw a.table b.table,r,bw a.aC b.aC,bw a.to b.to] (by simp) w1.heap.size _ (by simp) (fun k hk=>?_)).mono ?_
 ·match k,hk with
  | 0,_=>simp
  | 1,_=>simp
  | 2,_=>simp
  | 3,_=>simp
  | 4,_=>simp
 rintro e w2 ⟨rfl,rfl⟩;have Wc:=gH (HG.out.alloc (.cells #[.int .i64 (bw a.aa b.aa),.int .i64 (bw a.table b.table),.int .i64 r,.int .i64 (bw a.aC b.aC),.int .i64 (bw a.to b.to)] 3));go_wp2_with fail;go_ret;exact ⟨by rw [HE.out];rfl,Wc.out⟩
theorem Dt.az {w w':World} (h:Dt w w'):ag w w':=by
 obtain ⟨q,os,rfl⟩:=h;exact ((ag.refl w).drewN q).trans (sP _ os)
theorem Bb (a b:cB) (w:World) :
  Calls Tryz.prog 65 #[.agg #[.string a.aa,.string a.table,.int .i64 a.right,.string a.aC,.string a.to,.bool a.opt],.agg #[.string b.aa,.string b.table,.int .i64 b.right,.string b.aC,.string b.to,.bool b.opt]] w fun e w'=>e=.returned (.int .i64 (cS a b))∧ag w w':=(sW a b w).mono fun e w' ⟨h,g⟩=>⟨h,g.az⟩
theorem He (x:Int) (w:World):Calls Tryz.prog 33 #[.int .i64 x] w fun e w'=>e=.returned (.bool (lh x))∧w=w':=by
 have HK:=gH (show lh x=(x==1 || x==2) from rfl)
 go_enter Tryz.func33,Tryz.ntmps33
 cases h1:(x==1)<;>cases h2:(x==2)
 all_goals
  rw [h1,h2] at HK;go_wp2_with fail;go_ret;exact ⟨by rw [HK.out];rfl,rfl⟩
theorem EP {W:World} {b:Nat} {a c d e f:Value} (h:ap W b [a,c,d,e,f]):(loadVar 114 ⟨b,0,none⟩).run Tryz.prog W=.ok (.agg #[a,c,d,e,f]) W:=by
 have e0:=h.cell (j:=0) rfl;have e1:=h.cell (j:=1) rfl;have e2:=h.cell (j:=2) rfl;have e3:=h.cell (j:=3) rfl;have e4:=h.cell (j:=4) rfl;have h1:=EK W b 0 (by rw [e0];rfl) (by rw [e1];rfl) (by rw [e2];rfl) (by rw [e3];rfl) (by rw [e4];rfl);rw [e0,e1,e2,e3,e4] at h1;exact h1
theorem Q2 (g:cB) (w:World):Calls Tryz.prog 63 #[.agg #[.string g.aa,.string g.table,.int .i64 g.right,.string g.aC,.string g.to,.bool g.opt]] w fun e w'=>e=.returned (.agg #[.string g.aa,.string g.table,.int .i64 g.right,.string g.aC,.string g.to])∧ag w w':=by
 go_enter Tryz.func63,Tryz.ntmps63
 go_wp2_with fail;refine bodyPost_ret (dv (v:=.agg #[.string g.aa,.string g.table,.int .i64 g.right,.string g.aC,.string g.to]) rfl _ rfl ?hl) rfl ?_
 case hl =>
  have:=EP (aO (w:=w.alloc (.cells #[.string g.aa,.string g.table,.int .i64 g.right,.string g.aC,.string g.to,.bool g.opt] 106)) (c:=[.string g.aa,.string g.table,.int .i64 g.right,.string g.aC,.string g.to]) (t:=114) (ag.refl _))
  simpa using this
 exact ⟨rfl,((ag.refl _).alloc _).alloc _⟩
end Go.Proofs.YtmflccbnoeaafaaGreat
namespace Go.Proofs.YtmflccbnoeaafaaGreat
open Go.RowKit Go.Deep
set_option maxRecDepth 100000
set_option linter.unusedVariables false
set_option maxHeartbeats 64000000
theorem ap.up {w:World} {b:Nat} {xs:List Value} {o:Obj} (h:ap w b xs):ap (w.alloc o) b xs:=h.az ((ag.refl _).alloc o)
theorem bv {w W:World} {c:List Value} {t:TypeId} {b:Nat} (h:ag (w.alloc (.cells c.toArray t)) W) (hb:b=w.heap.size):ap W b c:=hb▸aO h
theorem rv {w:World} {p:Nat} {a b c d e:Value} (h:ap w p [a,b,c,d,e]):w.cell? ⟨p,0,none⟩=some a∧w.cell? ⟨p,1,none⟩=some b∧w.cell? ⟨p,2,none⟩=some c∧w.cell? ⟨p,3,none⟩=some d∧w.cell? ⟨p,4,none⟩=some e∧p < w.heap.size:=⟨h.cell (j:=0) rfl,h.cell (j:=1) rfl,h.cell (j:=2) rfl,h.cell (j:=3) rfl,h.cell (j:=4) rfl,h.1⟩
theorem j0 {w:World} {p:Nat} {a b c d e f:Value} (h:ap w p [a,b,c,d,e,f]):w.cell? ⟨p,0,none⟩=some a∧w.cell? ⟨p,1,none⟩=some b∧w.cell? ⟨p,2,none⟩=some c∧w.cell? ⟨p,3,none⟩=some d∧w.cell? ⟨p,4,none⟩=some e∧w.cell? ⟨p,5,none⟩=some f∧p < w.heap.size:=⟨h.cell (j:=0) rfl,h.cell (j:=1) rfl,h.cell (j:=2) rfl,h.cell (j:=3) rfl,h.cell (j:=4) rfl,h.cell (j:=5) rfl,h.1⟩
theorem dM {w:World} {p:Nat} {a b c d e f g:Value} (h:ap w p [a,b,c,d,e,f,g]):w.cell? ⟨p,0,none⟩=some a∧w.cell? ⟨p,1,none⟩=some b∧w.cell? ⟨p,2,none⟩=some c∧w.cell? ⟨p,3,none⟩=some d∧w.cell? ⟨p,4,none⟩=some e∧w.cell? ⟨p,5,none⟩=some f∧w.cell? ⟨p,6,none⟩=some g∧p < w.heap.size:=⟨h.cell (j:=0) rfl,h.cell (j:=1) rfl,h.cell (j:=2) rfl,h.cell (j:=3) rfl,h.cell (j:=4) rfl,h.cell (j:=5) rfl,h.cell (j:=6) rfl,h.1⟩
structure eH (w:World) (c:bW) (As:Option Addr) (ar:Nat) (At:Option Addr) (ax:Nat) (An:Option Addr) (aI:Nat) (Am:Option Addr) (aK:Nat) (Ag:Option Addr) (aS:Nat):Prop where
 gQ:aL w 2 fk As ar c.ai.ae
 tab:aL w 5 dA At ax c.ai.tables
 fK:aL w 1 dK An aI c.aj.names
 mem:aL w 2 ia Am aK c.aj.members
 kv:aL w 6 mr Ag aS c.af
theorem eH.az {w w':World} {c:bW} {As:Option Addr} {ar:Nat} {At:Option Addr} {ax:Nat} {An:Option Addr} {aI:Nat} {Am:Option Addr} {aK:Nat} {Ag:Option Addr} {aS:Nat} (h:eH w c As ar At ax An aI Am aK Ag aS) (a:ag w w'):eH w' c As ar At ax An aI Am aK Ag aS :=
 ⟨bm a h.gQ,aQ a h.tab,aM a h.fK,bJ a h.mem,eZ a h.kv⟩
theorem EQ {o:bE} {s n:ByteArray} (h:bj o.tables s n < 0):iK o s n=pF:=by unfold iK;rw [if_pos h]
theorem nB {o:bE} {s n:ByteArray} {q:Nat} (hi:bj o.tables s n=q) (hq:q < o.tables.length):iK o s n=o.tables[q]:=by
 unfold iK;rw [if_neg (by omega),hi];simp [List.getElem?_eq_getElem hq]
def Hf (w:World) (o:bE) (s n:ByteArray) (e:Ending) (w':World):Prop :=
 ∃ (A2:Option Addr) (c2:Nat) (A3:Option Addr) (c3:Nat),e=.returned (.tuple #[.agg #[.string (iK o s n).aa,.string (iK o s n).name,.string (iK o s n).owner,.slice A2 (iK o s n).ak.length c2,.slice A3 (iK o s n).rules.length c3],.bool (decide (0≤bj o.tables s n))])∧ag w w'
theorem Ol (aa name owner:ByteArray) (A0:Option Addr) (n0 c0:Nat) (A1:Option Addr) (n1 c1:Nat) (s n:ByteArray) (b1 b2:Nat) (w:World) (hb1:b1 < w.heap.size) (hb2:b2 < w.heap.size) (hc1:w.cell? ⟨b1,0,none⟩=some (.string s)) (hc2:w.cell? ⟨b2,0,none⟩=some (.string n)) :
  Calls Tryz.prog 67 #[.agg #[.string aa,.string name,.string owner,.slice A0 n0 c0,.slice A1 n1 c1],.pointer (some ⟨b1,0,none⟩),.pointer (some ⟨b2,0,none⟩)] w fun e w'=>e=.returned (.bool (bk aa s&&bk name n))∧ag w w':=by
 cases h1:bk aa s
 ·have AZ:(aa.toList==s.toList)=false:=h1
  clear h1
  go_enter Tryz.func67,Tryz.ntmps67
  go_wp2_with fail;go_ret;exact ⟨rfl,(ag.refl _).alloc _⟩
 ·have AZ:(aa.toList==s.toList)=true:=h1
  clear h1
  go_enter Tryz.func67,Tryz.ntmps67
  go_wp2_with fail;go_ret;exact ⟨rfl,(ag.refl _).alloc _⟩
theorem sX (c:bW) (As:Option Addr) (ar:Nat) (At:Option Addr) (ax:Nat) (An:Option Addr) (aI:Nat) (Am:Option Addr) (aK:Nat) (Ag:Option Addr) (aS:Nat) (s n:ByteArray) (w:World) (bB:aL w 5 dA At ax c.ai.tables) :
  Calls Tryz.prog 31 #[.agg #[.int .i64 c.aA,.int .i64 c.version,.slice As c.ai.ae.length ar,.slice At c.ai.tables.length ax,.slice An c.aj.names.length aI,.slice Am c.aj.members.length aK,.slice Ag c.af.length aS],.string s,.string n] w (Hf w c.ai s n):=by
 have fl:=bB.len;have bR:=enters (P:=Tryz.prog) Tryz.func67 (by kernel_rfl) rfl;obtain ⟨W,hW⟩:∃ W,W=(((w.alloc (.cells #[.int .i64 c.aA,.int .i64 c.version,.slice As c.ai.ae.length ar,.slice At c.ai.tables.length ax,.slice An c.aj.names.length aI,.slice Am c.aj.members.length aK,.slice Ag c.af.length aS] 32)).alloc (.cells #[.string s] 9)).alloc (.cells #[.string n] 9)).alloc (.cells #[.string ⟨#[]⟩,.string ⟨#[]⟩,.string ⟨#[]⟩,.slice none 0 0,.slice none 0 0] 53):=⟨_,rfl⟩
 have aW:ag w W:=by rw [hW];exact ((((ag.refl w).alloc _).alloc _).alloc _).alloc _
 have r0:ap W (w.heap.size) [.int .i64 c.aA,.int .i64 c.version,.slice As c.ai.ae.length ar,.slice At c.ai.tables.length ax,.slice An c.aj.names.length aI,.slice Am c.aj.members.length aK,.slice Ag c.af.length aS]:=by rw [hW];exact ap.up (ap.up (ap.up (bv (ag.refl _) (by simp))))
 have r1:ap W (w.heap.size+1) [.string s]:=by rw [hW];exact ap.up (ap.up (bv (ag.refl _) (by simp)))
 have r2:ap W (w.heap.size+1+1) [.string n]:=by rw [hW];exact ap.up (bv (ag.refl _) (by simp))
 have r3:ap W (w.heap.size+1+1+1) [.string ⟨#[]⟩,.string ⟨#[]⟩,.string ⟨#[]⟩,.slice none 0 0,.slice none 0 0]:=by rw [hW];exact bv (ag.refl _) (by simp)
 obtain ⟨i,hi⟩:∃ i,bj c.ai.tables s n=i:=⟨_,rfl⟩
 have ye : -1≤i∧i < c.ai.tables.length:=by rw [← hi];exact bg _ _
 have CI:=gH (show ∀ w',ag W w'→Calls Tryz.prog 66 #[.slice At c.ai.tables.length ax,.func (.func 67) #[] #[.pointer (some ⟨w.heap.size+1,0,none⟩),.pointer (some ⟨w.heap.size+1+1,0,none⟩)]] w' fun e w''=>e=.returned (.int .i64 i)∧ag w' w'' from
  fun w' a=>(AW At ax c.ai.tables 67 #[.pointer (some ⟨w.heap.size+1,0,none⟩),.pointer (some ⟨w.heap.size+1+1,0,none⟩)] (fun t=>bk t.aa s&&bk t.name n) w' (aQ (aW.trans a) bB) bR (fun w'' b j hj e1 he=>by
   obtain ⟨A2,bT,A3,fA,rfl,_⟩:=he;have p1:=r1.az (a.trans b);have p2:=r2.az (a.trans b)
   exact Ol _ _ _ A2 _ bT A3 _ fA s n _ _ w'' p1.1 p2.1 (p1.cell (j:=0) rfl) (p2.cell (j:=0) rfl))).mono fun e w'' ⟨he,hw⟩=>⟨he.trans (by rw [← hi];rfl),hw⟩)
 have HI:=gH hi;have HT:=gH bB;have br:=gH aW;have je:=gH r0;have ny:=gH r3;clear hi bB r0 r1 r2 r3 aW
 go_enter Tryz.func31,Tryz.ntmps31
 go_wp2_with fail;rw [← hW];clear hW;refine (CI.out W (ag.refl W)).mono ?_;rintro e w1 ⟨rfl,a1⟩;have b3:=ny.out.az a1;have d0:=b3.cell (j:=0) rfl;have d1:=b3.cell (j:=1) rfl;have d2:=b3.cell (j:=2) rfl;have d3:=b3.cell (j:=3) rfl;have d4:=b3.cell (j:=4) rfl;have f0:=b3.2.2 0 (by simp);have f1:=b3.2.2 1 (by simp);have f2:=b3.2.2 2 (by simp);have f3:=b3.2.2 3 (by simp);have f4:=b3.2.2 4 (by simp);have z3:=b3.1;have b0:=je.out.az a1;have c3:=b0.cell (j:=3) rfl;have z0:=b0.1;have cG:=gH (br.out.trans a1);have mq:=gH b3;clear a1 b3 b0 CI;by_cases h0:0≤i
 ·obtain ⟨q,rfl⟩:=Int.eq_ofNat_of_zero_le h0
  have hq:q < c.ai.tables.length:=by omega
  obtain ⟨b,off,A2,bT,A3,fA,rfl,hb,t0,t1,t2,t3,t4,eA,mf,ur⟩:=jt (aQ cG.out HT.out) hq;have HE:=gH (nB HI.out hq);obtain ⟨p,hp⟩:∃ p,c.ai.tables[q]=p:=⟨_,rfl⟩;rw [hp] at t0 t1 t2 t3 t4 HE;clear hp eA mf ur h0 ye;go_wp2_with fail;refine bodyPost_ret (results_cell_tmp (v:=.agg #[.string p.aa,.string p.name,.string p.owner,.slice A2 p.ak.length bT,.slice A3 p.rules.length fA]) rfl _ rfl ?hl) rfl ?_
  case hl=>exact jP (jg mq.out rfl _ _ _ _ _)
  exact ⟨A2,bT,A3,fA,by rw [HE.out,HI.out];simp,(i9 _ _ _ _ _ _ _).aZ cG.out (fun g hg e=>by omega)⟩
 ·have HE:=gH (EQ (o:=c.ai) (s:=s) (n:=n) (by rw [HI.out];omega))
  have HD:=gH (show decide (0≤i)=false from decide_eq_false h0)
  have Nh:i < 0:=by omega
  clear h0 ye;go_wp2_with fail;refine bodyPost_ret (results_cell_tmp (v:=.agg #[.string ⟨#[]⟩,.string ⟨#[]⟩,.string ⟨#[]⟩,.slice none 0 0,.slice none 0 0]) rfl _ rfl ?hl) rfl ?_
  case hl=>exact jP (jg mq.out rfl _ _ _ _ _)
  exact ⟨none,0,none,0,by rw [HE.out,HI.out,HD.out];rfl,(i9 _ _ _ _ _ _ _).aZ cG.out (fun g hg e=>by omega)⟩
theorem KN (An:Option Addr) (aI:Nat) (names:List ByteArray) (v0 v1:Value) (owner:ByteArray) (v3 v4:Value) (b0:Nat) (w:World) (hb0:b0 < w.heap.size) (hc0:w.cell? ⟨b0,4,none⟩=some (.slice An names.length aI)) (hn:aL w 1 dK An aI names) (s0 s1:ByteArray) (A2:Option Addr) (n2 c2:Nat) (A3:Option Addr) (n3 c3:Nat) (e0:v0=.string s0) (e1:v1=.string s1) (e3:v3=.slice A2 n2 c2) (e4:v4=.slice A3 n3 c3) :
  Calls Tryz.prog 173 #[.agg #[v0,v1,.string owner,v3,v4],.pointer (some ⟨b0,0,none⟩)] w fun e w'=>e=.returned (.bool (!dQ names owner))∧ag w w':=by
 subst e0 e1 e3 e4;obtain ⟨i,hi⟩:∃ i,dQ names owner=i:=⟨_,rfl⟩;have C:=gH (show ∀ w',ag w w'→Calls Tryz.prog 18 #[.slice An names.length aI,.string owner] w' fun e w''=>e=.returned (.bool i)∧w'=w'' from fun w' a=>hi▸fY An aI names owner w' (aM a hn));rw [hi];clear hi hn
 go_enter Tryz.func173,Tryz.ntmps173
 go_wp2_with fail;refine (C.out _ ((ag.refl w).alloc _)).mono ?_;rintro e w1 ⟨rfl,rfl⟩;go_wp2_with fail;go_ret;exact ⟨rfl,(ag.refl _).alloc _⟩
theorem KP (c:bW) (As:Option Addr) (ar:Nat) (At:Option Addr) (ax:Nat) (An:Option Addr) (aI:Nat) (Am:Option Addr) (aK:Nat) (Ag:Option Addr) (aS:Nat) (w:World) (H:eH w c As ar At ax An aI Am aK Ag aS) :
  Calls Tryz.prog 109 #[.agg #[.int .i64 c.aA,.int .i64 c.version,.slice As c.ai.ae.length ar,.slice At c.ai.tables.length ax,.slice An c.aj.names.length aI,.slice Am c.aj.members.length aK,.slice Ag c.af.length aS]] w fun e w'=>e=.returned (.bool (iA c))∧ag w w':=by
 have hlen:=H.gQ.len;have bR:=enters (P:=Tryz.prog) Tryz.func173 (by kernel_rfl) rfl;obtain ⟨W,hW⟩:∃ W,W=w.alloc (.cells #[.int .i64 c.aA,.int .i64 c.version,.slice As c.ai.ae.length ar,.slice At c.ai.tables.length ax,.slice An c.aj.names.length aI,.slice Am c.aj.members.length aK,.slice Ag c.af.length aS] 32):=⟨_,rfl⟩
 have aW:ag w W:=by rw [hW];exact (ag.refl w).alloc _
 have r0:ap W (w.heap.size) [.int .i64 c.aA,.int .i64 c.version,.slice As c.ai.ae.length ar,.slice At c.ai.tables.length ax,.slice An c.aj.names.length aI,.slice Am c.aj.members.length aK,.slice Ag c.af.length aS]:=by rw [hW];exact bv (ag.refl _) (by simp)
 have HN:=gH (show ∀ w',ag W w'→∀ s,Calls Tryz.prog 18 #[.slice An c.aj.names.length aI,.string s] w' fun e w''=>e=.returned (.bool (dQ c.aj.names s))∧w'=w'' from fun w' a s=>fY An aI c.aj.names s w' (aM (aW.trans a) H.fK));obtain ⟨q,hq⟩:∃ q,c.ai.tables.any (fun t=>!dQ c.aj.names t.owner)=q:=⟨_,rfl⟩
 have CT:=gH (show ∀ w',ag W w'→Calls Tryz.prog 92 #[.slice At c.ai.tables.length ax,.func (.func 173) #[] #[.pointer (some ⟨w.heap.size,0,none⟩)]] w' fun e w''=>e=.returned (.bool q)∧ag w' w'' from
  fun w' a=>(Ds At ax c.ai.tables 173 #[.pointer (some ⟨w.heap.size,0,none⟩)] (fun t=>!dQ c.aj.names t.owner) w' (aQ (aW.trans a) H.tab) bR (fun w'' b j hj e1 he=>by
   obtain ⟨A2,bT,A3,fA,rfl,_⟩:=he;have p0:=r0.az (a.trans b)
   exact KN An aI c.aj.names _ _ _ _ _ _ w'' p0.1 (p0.cell (j:=4) rfl) (aM ((aW.trans a).trans b) H.fK) _ _ _ _ _ _ _ _ rfl rfl rfl rfl)).mono fun e w'' ⟨he,hw⟩=>⟨he.trans (by rw [hq]),hw⟩)
 have HO:=gH (show iA c=(c.ai.ae.all (fun s=>dQ c.aj.names s.owner)&&!q) from by
  unfold iA
  rw [← hq,List.all_eq_not_any_not (l:=c.ai.tables)])
 have HS:=gH H.gQ;have br:=gH aW;have je:=gH r0;clear H hq r0 aW
 go_enter Tryz.func109,Tryz.ntmps109
 go_wp2_with fail;rw [← hW]
 go_loopw [9] (fun i wr=>∃ k:Nat,k≤c.ai.ae.length∧i=.int .i64 k∧ag W wr∧∀ j,j < k→∀ (hj:j < c.ai.ae.length),dQ c.aj.names c.ai.ae[j].owner=true) (fun i _=>c.ai.ae.length - (intOf i).toNat)
 case atStart=>exact ⟨0,Nat.zero_le _,rfl,ag.refl _,fun j hj=>absurd hj (Nat.not_lt_zero j)⟩
 case round =>
  clear hW;obtain ⟨k,hk,rfl,ha,hp⟩:=hrel;have HA:=gH ha;have HP:=gH hp;have p0:=je.out.az ha;have c3:=p0.cell (j:=3) rfl;have c4:=p0.cell (j:=4) rfl;have z0:=p0.1;clear ha hp p0;by_cases hlt:k < c.ai.ae.length
  ·obtain ⟨b,off,rfl,hb,t0,t1,s0,s1⟩:=oC (bm (br.out.trans HA.out) HS.out) hlt
   obtain ⟨p,nZ⟩:∃ p,c.ai.ae[k]=p:=⟨_,rfl⟩;rw [nZ] at t0 t1 s0 s1;have aX:ag wr (wr.alloc (.cells #[.string p.name,.string p.owner] 61)):=(ag.refl _).alloc _;have C:=gH (HN.out _ (HA.out.trans aX) p.owner);have gN:=gH (HA.out.trans aX);obtain ⟨i,hi⟩:∃ i,dQ c.aj.names p.owner=i:=⟨_,rfl⟩;rw [hi] at C;have HI:=gH (show dQ c.aj.names c.ai.ae[k].owner=i by rw [nZ];exact hi);clear hi nZ aX
   cases i
   ·have HF:=gH (show iA c=false by rw [HO.out,all_false _ _ k hlt HI.out];rfl)
    go_wp2_with fail;refine C.out.mono ?_;rintro e w1 ⟨rfl,rfl⟩;go_wp2_with fail;go_ret;exact ⟨by rw [HF.out];rfl,br.out.trans gN.out⟩
   ·go_wp2_with fail
    refine C.out.mono ?_;rintro e w1 ⟨rfl,rfl⟩;go_wp2_with fail
    go_roundw
    case rel=>exact ⟨k+1,by omega,by go_num,gN.out,er (p:=fun j=>∀ (hj:j < c.ai.ae.length),dQ c.aj.names c.ai.ae[j].owner=true) HP.out (fun _=>HI.out)⟩
    case measure=>simp [intOf];omega
  ·have HF:=gH (show iA c=!q by rw [HO.out,all_true _ _ fun j hj=>HP.out j (by omega) hj];rfl)
   have C:=gH (CT.out wr HA.out);go_wp2_with fail;refine C.out.mono ?_;rintro e w1 ⟨rfl,a1⟩;have cG:=gH (br.out.trans (HA.out.trans a1));clear a1;go_wp2_with fail;go_ret;exact ⟨by rw [HF.out];rfl,cG.out⟩
end Go.Proofs.YtmflccbnoeaafaaGreat
