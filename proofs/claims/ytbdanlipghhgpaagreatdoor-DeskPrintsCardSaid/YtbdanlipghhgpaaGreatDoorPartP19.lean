import Derived.Test.YtbdanlipghhgpaaGreatDoorPartP17
import Derived.Test.YtbdanlipghhgpaaGreatDoorPartP18
namespace Go.Proofs.YtbdanlipghhgpaaGreatDoor
open Go.RowKit Go.Deep
set_option maxRecDepth 100000
set_option linter.unusedVariables false
set_option maxHeartbeats 64000000
theorem nmZ_small {s:ByteArray} (h:NmZ s):Small s.size:=by
 rcases h with rfl | h
 ·exact small_z
 ·simp only [nameB,Bool.and_eq_true,decide_eq_true_eq] at h
  have:=h.1.1.2
  unfold Small;omega
def codeO (o:Option Dact):Int:=match o with
 | some _=>0
 | none=>230
def actO (o:Option Dact):Dact:=match o with
 | some a=>a
 | none=>zAct
def PActQ (w:World) (o:Option Dact) (e:Ending) (w':World):Prop :=
 Aft w w'∧∃ A k A2 k2 A3 k3,e=.returned (.tuple #[.agg (actV (actO o) A k A2 k2 A3 k3).toArray,.int .i64 (codeO o)])∧ActX w' (actO o) A k A2 k2 A3 k3
theorem actX_z (w:World):ActX w zAct none 0 none 0 none 0:=⟨slAt_nil,slAt_nil,slAt_nil,small_z,small_z,small_z,small_z⟩
theorem sl_ownr {α:Type} {ty:TypeId} {size:Nat} {cells:α→List Value} {b B:Nat} {w:World} {A:Option Addr} {c:Nat} {l:List α} {R:World→List Value→α→Prop} (h:OwnR ty size cells b B w (.slice A l.length c) l) (hl:l.length≤4098) (hf:∀ x∈l,(cells x).length=size∧R w (cells x) x):SlAt w size R A c l:=by
 obtain ⟨hd,e,h2,_⟩:=h
 injection e with e1 _ e3
 subst e1;subst e3
 exact own_slf (h:=⟨hd.a,l.length,hd.c⟩) cells h2 hf (by unfold Small;omega)
theorem parse_act (s:ByteArray) (w:World) (hs:Small s.size) (hl:LibV w):Calls Tryz.prog 6 #[.string s] w (PActQ w (parseB s)):=by
 obtain ⟨m,hm⟩:=hl
 refine (parse_in s w hs ⟨m,hm⟩ (World.block_lt_of_cell? _ _ hm)).mono ?_
 rintro e w' ⟨a,h⟩
 refine ⟨a,?_⟩
 cases hp:parseB s with
 | none =>
  rw [hp] at h
  exact ⟨none,0,none,0,none,0,h,actX_z w'⟩
 | some y =>
  rw [hp] at h
  obtain ⟨b,B,v,_,⟨A,k,A2,k2,A3,k3,rfl,⟨c1,c2,c3⟩,⟨n1,n2,n3⟩,⟨v1,v2,v3⟩,ok,_⟩,rfl⟩:=h
  refine ⟨A,k,A2,k2,A3,k3,rfl,sl_ownr c1 (Nat.le_trans c2 (by omega)) fun x hx=>⟨rfl,rfl,c3 x hx⟩,sl_ownr n1 (Nat.le_trans n2 (by omega)) fun x hx=>⟨rfl,rfl,?_⟩,sl_ownr v1 (Nat.le_trans v2 (by omega)) fun x hx=>⟨rfl,rfl,v3 x hx⟩,nmZ_small ok.rname,nmZ_small ok.rs,nmZ_small ok.rt,nmZ_small ok.rk⟩
  exact nmZ_small (.inr (n3 x hx))
structure ActG (w:World) (a:Dact) (A:Option Addr) (k:Nat) (A2:Option Addr) (k2:Nat) (A3:Option Addr) (k3:Nat):Prop where
 x:ActX w a A k A2 k2 A3 k3
 sm:SmC a.cmd
 so:SmO a.row
 r1 : -9223372036854775808≤a.ck
 r2:a.ck≤9223372036854775807
theorem ActG.aft {w w':World} {a:Dact} {A:Option Addr} {k:Nat} {A2:Option Addr} {k2:Nat} {A3:Option Addr} {k3:Nat} (h:ActG w a A k A2 k2 A3 k3) (hw:Aft w w'):ActG w' a A k A2 k2 A3 k3:=⟨h.x.aft hw,h.sm,h.so,h.r1,h.r2⟩
structure Few (a:Dact):Prop where
 c:a.cmd.cols.length≤4100
 n:a.cmd.rule.cols.length≤4100
 v:a.row.row.length≤4100
theorem results_tc {fn:Func} {a u:Tmp} {t:TypeId} (h:fn.results=#[.tmp u,.cell a t]) (tmps:Array Value) {P:Program} {w:World} {p:Addr} {v x:Value} (ha:tmps.getD a undef=.pointer (some p)) (hl:(loadVar t p).run P w=.ok v w) (hu:tmps.getD u undef=x) :
  (results fn tmps).run P w=.ok (.tuple #[x,v]) w:=by
 rw [Array.getD_eq_getD_getElem?] at ha hu
 simp [results,h,ha,hu,asAddr,hl]
def laidDs (q:Nat):List Deferred:=[{ target:=Target.fn (Fn.func 15) #[],args:=#[.pointer (some ⟨q,0,none⟩)] }]
theorem laid_dies {tmps:Array Value} {R:Ending→World→Prop} {q:Nat} {x u:Value} {V:World} (h2:tmps.getD 2 undef=u) (h3:tmps.getD 3 undef=.pointer (some ⟨q,0,none⟩)) (rq:RowAt V q [x])
  (hR:∀ w',Kb (fun g=>g=q) V w'→R (.returned (.tuple #[u,.int .i64 230])) w') :
  Leaves Tryz.prog Tryz.f23 tmps R (laidDs q) (.panicking [{ v:=.iface 74 (.agg #[]),recovered:=false }]) V:=by
 refine leaves_cons (f:=15) (args:=#[.pointer (some ⟨q,0,none⟩)]) (by simp) (by simp [go_sem]) ?_
 refine (caught_panic q x V rq).mono ?_
 rintro e u' w1 ⟨rfl,rfl,kb,r1⟩
 exact ⟨_,results_tc rfl tmps h3 (lvErrD_row r1) h2,hR _ kb⟩
theorem laid_goes {tmps:Array Value} {R:Ending→World→Prop} {q:Nat} {u:Value} {V:World} (h2:tmps.getD 2 undef=u) (h3:tmps.getD 3 undef=.pointer (some ⟨q,0,none⟩)) (rq:RowAt V q [.int .i64 0])
  (hR:R (.returned (.tuple #[u,.int .i64 0])) V) :
  Leaves Tryz.prog Tryz.f23 tmps R (laidDs q) .returning V:=by
 refine leaves_cons (f:=15) (args:=#[.pointer (some ⟨q,0,none⟩)]) (by simp) (by simp [go_sem]) ?_
 refine (caught_idle ⟨q,0,none⟩ V).mono ?_
 rintro e u' w1 ⟨rfl,rfl,rfl⟩
 exact ⟨_,results_tc rfl tmps h3 (lvErrD_row rq) h2,hR⟩
def LaidQ (w:World) (o:Option Ws) (e:Ending) (w':World):Prop:=Aft w w'∧match o with
 | some W=>e=.returned (.tuple #[.string (lineB W),.int .i64 0])
 | none=>e=.returned (.tuple #[.string ⟨#[]⟩,.int .i64 230])
theorem lys_new (w:World):LyS w [] w.heap.size [] (w.alloc (.cells #[.slice none 0 0] 82)) :=
 ⟨⟨none,0,rowAt_newD w [.slice none 0 0] _,⟨by simp,.inl ⟨rfl,rfl⟩⟩,by simp [Value.ownBlock],fun x hx=>(by cases hx)⟩,(Aft.refl w).alloc _,Nat.le_refl _,fun x hx=>(by cases hx)⟩
theorem join_in (w0:World) (Q:List (Nat × Obj)) (b:Nat) (W:Ws) (w:World) (h:LyS w0 Q b W w) (hne:W≠[]) (hs:ShortW 9000 W):∃ g c,w.cell? ⟨b,0,none⟩=some (.slice (some ⟨g,0,none⟩) W.length c)∧b < w.heap.size ∧
  Calls Tryz.prog 37 #[.slice (some ⟨g,0,none⟩) W.length c,.string ⟨#[32]⟩] w fun e w'=>e=.returned (.string (lineB W))∧Aft w w':=by
 obtain ⟨⟨A,c,r,o,_⟩,_,_,_⟩:=h
 have o':=o
 obtain ⟨_,h | ⟨g,cap,cur,hv,hB,hg,hc,_⟩⟩:=o
 ·exact absurd (List.eq_nil_of_length_eq_zero h.2) hne
 ·injection hv with e1 e2 e3
  subst e1
  subst e3
  refine ⟨g,c,r.cell (j:=0) rfl,r.1,?_⟩
  have hlt:=(o'.lt g rfl).2
  refine (Tryz.strings_Join g 0 c W ⟨#[32]⟩ w (fun i x hx=>?_) hlt (by have:=hs.1;omega) hc ?_).mono ?_
  ·have hi:i < W.length:=(List.getElem?_eq_some_iff.1 hx).1
   rw [Nat.zero_add,o'.cellAt i (by simpa using hi),List.getElem?_map,hx];rfl
  ·have:=line_small hs
   rw [← join_eq] at this
   have e:(⟨#[32]⟩:ByteArray).data.toList=[32]:=rfl
   rw [e];omega
  ·rintro e w' ⟨rfl,a⟩
   refine ⟨?_,a⟩
   unfold lineB wd
   rw [← join_eq]
theorem laid_in (a:Dact) (A:Option Addr) (k:Nat) (A2:Option Addr) (k2:Nat) (A3:Option Addr) (k3:Nat) (w:World) (hx:ActG w a A k A2 k2 A3 k3) (hf:Few a) (ht:TabW w) :
  Calls Tryz.prog 23 #[.agg #[.int .i64 a.kind,.int .i64 a.node,.int .i64 a.n,.int .i64 a.client,.int .i64 a.number,.int .i64 a.cmd.kind,.string a.cmd.actor,.string a.cmd.schema,.string a.cmd.table,.string a.cmd.name,.string a.cmd.role,.slice A a.cmd.cols.length k,.string a.cmd.rule.name,.int .i64 a.cmd.rule.kind,.slice A2 a.cmd.rule.cols.length k2,.int .i64 a.cmd.rule.low,.int .i64 a.cmd.rule.high,.string a.cmd.rule.schema,.string a.cmd.rule.table,.string a.cmd.rule.key,.int .i64 a.cmd.right,.bool a.cmd.opt,.int .i64 a.ck,.int .i64 a.cn,.int .i64 a.row.kind,.string a.row.role,.string a.row.schema,.string a.row.table,.slice A3 a.row.row.length k3,.string a.row.col,.int .i64 a.row.v.kind,.int .i64 a.row.v.int,.string a.row.v.text]] w (LaidQ w (actM a)):=by
 obtain ⟨W,hW⟩:∃ W,W=(w.alloc (.cells #[.int .i64 a.kind,.int .i64 a.node,.int .i64 a.n,.int .i64 a.client,.int .i64 a.number,.int .i64 a.cmd.kind,.string a.cmd.actor,.string a.cmd.schema,.string a.cmd.table,.string a.cmd.name,.string a.cmd.role,.slice A a.cmd.cols.length k,.string a.cmd.rule.name,.int .i64 a.cmd.rule.kind,.slice A2 a.cmd.rule.cols.length k2,.int .i64 a.cmd.rule.low,.int .i64 a.cmd.rule.high,.string a.cmd.rule.schema,.string a.cmd.rule.table,.string a.cmd.rule.key,.int .i64 a.cmd.right,.bool a.cmd.opt,.int .i64 a.ck,.int .i64 a.cn,.int .i64 a.row.kind,.string a.row.role,.string a.row.schema,.string a.row.table,.slice A3 a.row.row.length k3,.string a.row.col,.int .i64 a.row.v.kind,.int .i64 a.row.v.int,.string a.row.v.text] 43)).alloc (.cells #[.int .i64 0] 44):=⟨_,rfl⟩
 have aW:Aft w W:=by rw [hW];exact ((Aft.refl w).alloc _).alloc _
 obtain ⟨ra,rq⟩:=box2_rowsD (w:=w) (W:=W) (by rw [← hW];exact Aft.refl W)
 have zW:W.heap.size=w.heap.size+2:=by rw [hW];simp
 have HX:=gH (hx.aft aW)
 have e1:(lvAct ⟨w.heap.size,0,none⟩).run Tryz.prog (W.alloc (.cells #[.slice none 0 0] 82))=.ok (.agg #[.int .i64 a.kind,.int .i64 a.node,.int .i64 a.n,.int .i64 a.client,.int .i64 a.number,.int .i64 a.cmd.kind,.string a.cmd.actor,.string a.cmd.schema,.string a.cmd.table,.string a.cmd.name,.string a.cmd.role,.slice A a.cmd.cols.length k,.string a.cmd.rule.name,.int .i64 a.cmd.rule.kind,.slice A2 a.cmd.rule.cols.length k2,.int .i64 a.cmd.rule.low,.int .i64 a.cmd.rule.high,.string a.cmd.rule.schema,.string a.cmd.rule.table,.string a.cmd.rule.key,.int .i64 a.cmd.right,.bool a.cmd.opt,.int .i64 a.ck,.int .i64 a.cn,.int .i64 a.row.kind,.string a.row.role,.string a.row.schema,.string a.row.table,.slice A3 a.row.row.length k3,.string a.row.col,.int .i64 a.row.v.kind,.int .i64 a.row.v.int,.string a.row.v.text]) (W.alloc (.cells #[.slice none 0 0] 82)):=lvAct_row (ra.aft ((Aft.refl W).alloc _)) rfl
 have HA:=gH (act_in W [] W.heap.size [] a A k A2 k2 A3 k3 (W.alloc (.cells #[.slice none 0 0] 82)) (lys_new W) (ht.aft aW) HX.out.sm HX.out.so (by simp) HX.out.x.cols HX.out.x.nms HX.out.x.vals hf.c hf.n hf.v HX.out.r1 HX.out.r2)
 have HRQ:=gH rq
 have HAW:=gH aW
 have HZW:=gH zW
 cases hact:actM a with
 | none =>
  have HA':=gH (HA.out.mono fun e w1 (h:LyQ _ _ _ _ _ _ _)=>(show e=.panicked [{ v:=.iface 74 (.agg #[]),recovered:=false }]∧Aft W w1 from by rw [hact] at h;exact h))
  clear hx hf ht ra rq aW zW HA hact
  go_enter_defers Tryz.func23,Tryz.ntmps23
  go_upto_region 1 with fail
  rw [← hW]
  clear hW
  go_wp2_with (first
   | (go_at_call 36;(with_reducible refine HA'.out.mono ?_);rintro e w1 ⟨rfl,a1⟩;have H1:=gH a1;clear a1))
  refine laid_dies (q:=w.heap.size+1) rfl rfl (HRQ.out.aft H1.out) fun w' kb=>?_
  exact ⟨kb.to_aft (HAW.out.trans H1.out) (fun g hg e=>by have:g=w.heap.size+1:=e;omega),rfl⟩
 | some X =>
  have HA':=gH (HA.out.mono fun e w1 (h:LyQ _ _ _ _ _ _ _)=>(show e=.returned (.tuple #[])∧LyS W [] W.heap.size X w1 from by rw [hact] at h;exact h))
  have HS:=gH (act_short hact hf.c hf.n hf.v)
  have HNE:=gH (act_words hact)
  clear hx hf ht ra rq aW zW HA hact
  go_enter_defers Tryz.func23,Tryz.ntmps23
  go_upto_region 1 with fail
  rw [← hW]
  clear hW
  go_wp2_with (first
   | (go_at_call 36;(with_reducible refine HA'.out.mono ?_);rintro e w1 ⟨rfl,h1⟩;obtain ⟨g,c,y0,yb,hj⟩:=join_in _ _ _ _ _ h1 HNE.out HS.out;have HJ:=gH hj;have H1:=gH h1.aft;clear h1 hj)
   | (go_at_call 37;(with_reducible refine HJ.out.mono ?_);rintro e w2 ⟨rfl,a2⟩;have H2:=gH a2;have r2:=HRQ.out.aft (H1.out.trans a2);have z0:=r2.cell (j:=0) rfl;have z1:=r2.2.2 0 (by simp);have R2:=gH r2;clear a2 r2))
  refine laid_goes (q:=w.heap.size+1) rfl rfl (R2.out.set 0 _ (by simp)) ?_
  exact ⟨(Kb.set w2 (w.heap.size+1) 0 _).to_aft ((HAW.out.trans H1.out).trans H2.out) (fun g hg e=>by have:g=w.heap.size+1:=e;omega),rfl⟩
def PrQ (w:World) (a:Dact) (e:Ending) (w':World):Prop :=
 Aft w w'∧((∃ X,actM a=some X∧parseB (lineB X)=some a∧e=.returned (.tuple #[.string (lineB X),.int .i64 0]))∨((∀ X,actM a=some X→parseB (lineB X)≠some a)∧e=.returned (.tuple #[.string ⟨#[]⟩,.int .i64 230])))
theorem print_in (a:Dact) (A:Option Addr) (k:Nat) (A2:Option Addr) (k2:Nat) (A3:Option Addr) (k3:Nat) (w:World) (hx:ActG w a A k A2 k2 A3 k3) (hf:Few a) (ht:TabW w) (hl:LibV w) :
  Calls Tryz.prog 11 #[.agg #[.int .i64 a.kind,.int .i64 a.node,.int .i64 a.n,.int .i64 a.client,.int .i64 a.number,.int .i64 a.cmd.kind,.string a.cmd.actor,.string a.cmd.schema,.string a.cmd.table,.string a.cmd.name,.string a.cmd.role,.slice A a.cmd.cols.length k,.string a.cmd.rule.name,.int .i64 a.cmd.rule.kind,.slice A2 a.cmd.rule.cols.length k2,.int .i64 a.cmd.rule.low,.int .i64 a.cmd.rule.high,.string a.cmd.rule.schema,.string a.cmd.rule.table,.string a.cmd.rule.key,.int .i64 a.cmd.right,.bool a.cmd.opt,.int .i64 a.ck,.int .i64 a.cn,.int .i64 a.row.kind,.string a.row.role,.string a.row.schema,.string a.row.table,.slice A3 a.row.row.length k3,.string a.row.col,.int .i64 a.row.v.kind,.int .i64 a.row.v.int,.string a.row.v.text]] w (PrQ w a):=by
 obtain ⟨W,hW⟩:∃ W,W=w.alloc (.cells #[.int .i64 a.kind,.int .i64 a.node,.int .i64 a.n,.int .i64 a.client,.int .i64 a.number,.int .i64 a.cmd.kind,.string a.cmd.actor,.string a.cmd.schema,.string a.cmd.table,.string a.cmd.name,.string a.cmd.role,.slice A a.cmd.cols.length k,.string a.cmd.rule.name,.int .i64 a.cmd.rule.kind,.slice A2 a.cmd.rule.cols.length k2,.int .i64 a.cmd.rule.low,.int .i64 a.cmd.rule.high,.string a.cmd.rule.schema,.string a.cmd.rule.table,.string a.cmd.rule.key,.int .i64 a.cmd.right,.bool a.cmd.opt,.int .i64 a.ck,.int .i64 a.cn,.int .i64 a.row.kind,.string a.row.role,.string a.row.schema,.string a.row.table,.slice A3 a.row.row.length k3,.string a.row.col,.int .i64 a.row.v.kind,.int .i64 a.row.v.int,.string a.row.v.text] 43):=⟨_,rfl⟩
 have aW:Aft w W:=by rw [hW];exact (Aft.refl w).alloc _
 have ra:RowAt W w.heap.size [.int .i64 a.kind,.int .i64 a.node,.int .i64 a.n,.int .i64 a.client,.int .i64 a.number,.int .i64 a.cmd.kind,.string a.cmd.actor,.string a.cmd.schema,.string a.cmd.table,.string a.cmd.name,.string a.cmd.role,.slice A a.cmd.cols.length k,.string a.cmd.rule.name,.int .i64 a.cmd.rule.kind,.slice A2 a.cmd.rule.cols.length k2,.int .i64 a.cmd.rule.low,.int .i64 a.cmd.rule.high,.string a.cmd.rule.schema,.string a.cmd.rule.table,.string a.cmd.rule.key,.int .i64 a.cmd.right,.bool a.cmd.opt,.int .i64 a.ck,.int .i64 a.cn,.int .i64 a.row.kind,.string a.row.role,.string a.row.schema,.string a.row.table,.slice A3 a.row.row.length k3,.string a.row.col,.int .i64 a.row.v.kind,.int .i64 a.row.v.int,.string a.row.v.text]:=by rw [hW];exact rowAt_newD w _ _
 have HX:=gH (hx.aft aW)
 have HLI:=gH (laid_in a A k A2 k2 A3 k3 W (hx.aft aW) hf (ht.aft aW))
 have e1:(lvAct ⟨w.heap.size,0,none⟩).run Tryz.prog W=.ok (.agg #[.int .i64 a.kind,.int .i64 a.node,.int .i64 a.n,.int .i64 a.client,.int .i64 a.number,.int .i64 a.cmd.kind,.string a.cmd.actor,.string a.cmd.schema,.string a.cmd.table,.string a.cmd.name,.string a.cmd.role,.slice A a.cmd.cols.length k,.string a.cmd.rule.name,.int .i64 a.cmd.rule.kind,.slice A2 a.cmd.rule.cols.length k2,.int .i64 a.cmd.rule.low,.int .i64 a.cmd.rule.high,.string a.cmd.rule.schema,.string a.cmd.rule.table,.string a.cmd.rule.key,.int .i64 a.cmd.right,.bool a.cmd.opt,.int .i64 a.ck,.int .i64 a.cn,.int .i64 a.row.kind,.string a.row.role,.string a.row.schema,.string a.row.table,.slice A3 a.row.row.length k3,.string a.row.col,.int .i64 a.row.v.kind,.int .i64 a.row.v.int,.string a.row.v.text]) W:=lvAct_row ra rfl
 have HRA:=gH ra
 have HAW:=gH aW
 have HLV:=gH (show ∀ V,Aft W V→LibV V from fun V a=>hl.kb (P:=fun _=>False) (Kb.of_aft (aW.trans a)) id)
 cases hact:actM a with
 | none =>
  have HP:=gH (HLI.out.mono fun e w1 (h:LaidQ _ _ _ _)=>(show e=.returned (.tuple #[.string ⟨#[]⟩,.int .i64 230])∧Aft W w1 from by rw [hact] at h;exact ⟨h.2,h.1⟩))
  have HN:=gH (show ∀ X,actM a=some X→parseB (lineB X)≠some a from fun X h=>by rw [hact] at h;cases h)
  clear hx hf ht hl ra aW HLI hact
  go_enter Tryz.func11,Tryz.ntmps11
  go_upto_region 1 with fail
  rw [← hW]
  clear hW
  go_wp2_with (first
   | (go_at_call 23;(with_reducible refine HP.out.mono ?_);rintro e w1 ⟨rfl,a1⟩;have H1:=gH a1;clear a1))
  go_ret2
  exact ⟨HAW.out.trans H1.out,.inr ⟨HN.out,rfl⟩⟩
 | some X =>
  obtain ⟨s,hs⟩:∃ s,s=lineB X:=⟨_,rfl⟩
  have HP:=gH (HLI.out.mono fun e w1 (h:LaidQ _ _ _ _)=>(show e=.returned (.tuple #[.string s,.int .i64 0])∧Aft W w1 from by rw [hact] at h;rw [hs];exact ⟨h.2,h.1⟩))
  have HZ:=gH (show Small s.size from by rw [hs];exact line_le hact hf.c hf.n hf.v)
  have HS:=gH hs
  have HAC:=gH hact
  clear hact
  cases hp:parseB s with
  | none =>
   have HQ:=gH (show ∀ V,Aft W V→Calls Tryz.prog 6 #[.string s] V fun e w'=>∃ B m B2 m2 B3 m3,e=.returned (.tuple #[.agg #[.int .i64 zAct.kind,.int .i64 zAct.node,.int .i64 zAct.n,.int .i64 zAct.client,.int .i64 zAct.number,.int .i64 zAct.cmd.kind,.string zAct.cmd.actor,.string zAct.cmd.schema,.string zAct.cmd.table,.string zAct.cmd.name,.string zAct.cmd.role,.slice B zAct.cmd.cols.length m,.string zAct.cmd.rule.name,.int .i64 zAct.cmd.rule.kind,.slice B2 zAct.cmd.rule.cols.length m2,.int .i64 zAct.cmd.rule.low,.int .i64 zAct.cmd.rule.high,.string zAct.cmd.rule.schema,.string zAct.cmd.rule.table,.string zAct.cmd.rule.key,.int .i64 zAct.cmd.right,.bool zAct.cmd.opt,.int .i64 zAct.ck,.int .i64 zAct.cn,.int .i64 zAct.row.kind,.string zAct.row.role,.string zAct.row.schema,.string zAct.row.table,.slice B3 zAct.row.row.length m3,.string zAct.row.col,.int .i64 zAct.row.v.kind,.int .i64 zAct.row.v.int,.string zAct.row.v.text],.int .i64 230])∧Aft V w' from fun V aV=>(parse_act s V HZ.out (HLV.out V aV)).mono fun e w' ⟨a2,B,m,B2,m2,B3,m3,he,hy⟩=>by
    rw [hp] at he
    exact ⟨B,m,B2,m2,B3,m3,he,a2⟩)
   have HN:=gH (show ∀ X,actM a=some X→parseB (lineB X)≠some a from fun Y h=>by
    rw [HAC.out] at h
    cases h
    rw [← HS.out,hp];simp)
   clear hx hf ht hl ra aW HLI hs hp
   go_enter Tryz.func11,Tryz.ntmps11
   go_upto_region 1 with fail
   rw [← hW]
   clear hW
   go_wp2_with (first
    | (go_at_call 23;(with_reducible refine HP.out.mono ?_);rintro e w1 ⟨rfl,a1⟩;have H1:=gH a1;clear a1)
    | (go_at_call 6;(with_reducible refine (HQ.out _ H1.out).mono ?_);rintro e w2 ⟨B,m,B2,m2,B3,m3,rfl,a2⟩;have H2:=gH a2;clear a2))
   go_ret2
   exact ⟨((HAW.out.trans H1.out).trans H2.out).alloc _,.inr ⟨HN.out,rfl⟩⟩
  | some y =>
   have HQ:=gH (show ∀ V,Aft W V→Calls Tryz.prog 6 #[.string s] V fun e w'=>∃ B m B2 m2 B3 m3,e=.returned (.tuple #[.agg #[.int .i64 y.kind,.int .i64 y.node,.int .i64 y.n,.int .i64 y.client,.int .i64 y.number,.int .i64 y.cmd.kind,.string y.cmd.actor,.string y.cmd.schema,.string y.cmd.table,.string y.cmd.name,.string y.cmd.role,.slice B y.cmd.cols.length m,.string y.cmd.rule.name,.int .i64 y.cmd.rule.kind,.slice B2 y.cmd.rule.cols.length m2,.int .i64 y.cmd.rule.low,.int .i64 y.cmd.rule.high,.string y.cmd.rule.schema,.string y.cmd.rule.table,.string y.cmd.rule.key,.int .i64 y.cmd.right,.bool y.cmd.opt,.int .i64 y.ck,.int .i64 y.cn,.int .i64 y.row.kind,.string y.row.role,.string y.row.schema,.string y.row.table,.slice B3 y.row.row.length m3,.string y.row.col,.int .i64 y.row.v.kind,.int .i64 y.row.v.int,.string y.row.v.text],.int .i64 0])∧Aft V w'∧ActX w' y B m B2 m2 B3 m3 from fun V aV=>(parse_act s V HZ.out (HLV.out V aV)).mono fun e w' ⟨a2,B,m,B2,m2,B3,m3,he,hy⟩=>by
    rw [hp] at he hy
    exact ⟨B,m,B2,m2,B3,m3,he,a2,hy⟩)
   have HSM:=gH (show ∀ (V:World) (B:Option Addr) (m:Nat) (B2:Option Addr) (m2:Nat) (B3:Option Addr) (m3:Nat),Aft W V→ActX V y B m B2 m2 B3 m3→Calls Tryz.prog 24 #[.agg #[.int .i64 a.kind,.int .i64 a.node,.int .i64 a.n,.int .i64 a.client,.int .i64 a.number,.int .i64 a.cmd.kind,.string a.cmd.actor,.string a.cmd.schema,.string a.cmd.table,.string a.cmd.name,.string a.cmd.role,.slice A a.cmd.cols.length k,.string a.cmd.rule.name,.int .i64 a.cmd.rule.kind,.slice A2 a.cmd.rule.cols.length k2,.int .i64 a.cmd.rule.low,.int .i64 a.cmd.rule.high,.string a.cmd.rule.schema,.string a.cmd.rule.table,.string a.cmd.rule.key,.int .i64 a.cmd.right,.bool a.cmd.opt,.int .i64 a.ck,.int .i64 a.cn,.int .i64 a.row.kind,.string a.row.role,.string a.row.schema,.string a.row.table,.slice A3 a.row.row.length k3,.string a.row.col,.int .i64 a.row.v.kind,.int .i64 a.row.v.int,.string a.row.v.text],.agg #[.int .i64 y.kind,.int .i64 y.node,.int .i64 y.n,.int .i64 y.client,.int .i64 y.number,.int .i64 y.cmd.kind,.string y.cmd.actor,.string y.cmd.schema,.string y.cmd.table,.string y.cmd.name,.string y.cmd.role,.slice B y.cmd.cols.length m,.string y.cmd.rule.name,.int .i64 y.cmd.rule.kind,.slice B2 y.cmd.rule.cols.length m2,.int .i64 y.cmd.rule.low,.int .i64 y.cmd.rule.high,.string y.cmd.rule.schema,.string y.cmd.rule.table,.string y.cmd.rule.key,.int .i64 y.cmd.right,.bool y.cmd.opt,.int .i64 y.ck,.int .i64 y.cn,.int .i64 y.row.kind,.string y.row.role,.string y.row.schema,.string y.row.table,.slice B3 y.row.row.length m3,.string y.row.col,.int .i64 y.row.v.kind,.int .i64 y.row.v.int,.string y.row.v.text]] V (SameQ V (a=y)) from fun V B m B2 m2 B3 m3 aV h=>dsame_in a y A k A2 k2 A3 k3 B m B2 m2 B3 m3 V (HX.out.x.aft aV) h)
   have HB:=gH (show ∀ (w1 w2:World) (B:Option Addr) (m:Nat) (B2:Option Addr) (m2:Nat) (B3:Option Addr) (m3:Nat),Aft W w1→Aft w1 w2→ActX w2 y B m B2 m2 B3 m3→(lvAct ⟨w.heap.size,0,none⟩).run Tryz.prog (w2.alloc (.cells #[.int .i64 y.kind,.int .i64 y.node,.int .i64 y.n,.int .i64 y.client,.int .i64 y.number,.int .i64 y.cmd.kind,.string y.cmd.actor,.string y.cmd.schema,.string y.cmd.table,.string y.cmd.name,.string y.cmd.role,.slice B y.cmd.cols.length m,.string y.cmd.rule.name,.int .i64 y.cmd.rule.kind,.slice B2 y.cmd.rule.cols.length m2,.int .i64 y.cmd.rule.low,.int .i64 y.cmd.rule.high,.string y.cmd.rule.schema,.string y.cmd.rule.table,.string y.cmd.rule.key,.int .i64 y.cmd.right,.bool y.cmd.opt,.int .i64 y.ck,.int .i64 y.cn,.int .i64 y.row.kind,.string y.row.role,.string y.row.schema,.string y.row.table,.slice B3 y.row.row.length m3,.string y.row.col,.int .i64 y.row.v.kind,.int .i64 y.row.v.int,.string y.row.v.text] 43))=.ok (.agg #[.int .i64 a.kind,.int .i64 a.node,.int .i64 a.n,.int .i64 a.client,.int .i64 a.number,.int .i64 a.cmd.kind,.string a.cmd.actor,.string a.cmd.schema,.string a.cmd.table,.string a.cmd.name,.string a.cmd.role,.slice A a.cmd.cols.length k,.string a.cmd.rule.name,.int .i64 a.cmd.rule.kind,.slice A2 a.cmd.rule.cols.length k2,.int .i64 a.cmd.rule.low,.int .i64 a.cmd.rule.high,.string a.cmd.rule.schema,.string a.cmd.rule.table,.string a.cmd.rule.key,.int .i64 a.cmd.right,.bool a.cmd.opt,.int .i64 a.ck,.int .i64 a.cn,.int .i64 a.row.kind,.string a.row.role,.string a.row.schema,.string a.row.table,.slice A3 a.row.row.length k3,.string a.row.col,.int .i64 a.row.v.kind,.int .i64 a.row.v.int,.string a.row.v.text]) (w2.alloc (.cells #[.int .i64 y.kind,.int .i64 y.node,.int .i64 y.n,.int .i64 y.client,.int .i64 y.number,.int .i64 y.cmd.kind,.string y.cmd.actor,.string y.cmd.schema,.string y.cmd.table,.string y.cmd.name,.string y.cmd.role,.slice B y.cmd.cols.length m,.string y.cmd.rule.name,.int .i64 y.cmd.rule.kind,.slice B2 y.cmd.rule.cols.length m2,.int .i64 y.cmd.rule.low,.int .i64 y.cmd.rule.high,.string y.cmd.rule.schema,.string y.cmd.rule.table,.string y.cmd.rule.key,.int .i64 y.cmd.right,.bool y.cmd.opt,.int .i64 y.ck,.int .i64 y.cn,.int .i64 y.row.kind,.string y.row.role,.string y.row.schema,.string y.row.table,.slice B3 y.row.row.length m3,.string y.row.col,.int .i64 y.row.v.kind,.int .i64 y.row.v.int,.string y.row.v.text] 43))∧(lvAct ⟨w2.heap.size,0,none⟩).run Tryz.prog (w2.alloc (.cells #[.int .i64 y.kind,.int .i64 y.node,.int .i64 y.n,.int .i64 y.client,.int .i64 y.number,.int .i64 y.cmd.kind,.string y.cmd.actor,.string y.cmd.schema,.string y.cmd.table,.string y.cmd.name,.string y.cmd.role,.slice B y.cmd.cols.length m,.string y.cmd.rule.name,.int .i64 y.cmd.rule.kind,.slice B2 y.cmd.rule.cols.length m2,.int .i64 y.cmd.rule.low,.int .i64 y.cmd.rule.high,.string y.cmd.rule.schema,.string y.cmd.rule.table,.string y.cmd.rule.key,.int .i64 y.cmd.right,.bool y.cmd.opt,.int .i64 y.ck,.int .i64 y.cn,.int .i64 y.row.kind,.string y.row.role,.string y.row.schema,.string y.row.table,.slice B3 y.row.row.length m3,.string y.row.col,.int .i64 y.row.v.kind,.int .i64 y.row.v.int,.string y.row.v.text] 43))=.ok (.agg #[.int .i64 y.kind,.int .i64 y.node,.int .i64 y.n,.int .i64 y.client,.int .i64 y.number,.int .i64 y.cmd.kind,.string y.cmd.actor,.string y.cmd.schema,.string y.cmd.table,.string y.cmd.name,.string y.cmd.role,.slice B y.cmd.cols.length m,.string y.cmd.rule.name,.int .i64 y.cmd.rule.kind,.slice B2 y.cmd.rule.cols.length m2,.int .i64 y.cmd.rule.low,.int .i64 y.cmd.rule.high,.string y.cmd.rule.schema,.string y.cmd.rule.table,.string y.cmd.rule.key,.int .i64 y.cmd.right,.bool y.cmd.opt,.int .i64 y.ck,.int .i64 y.cn,.int .i64 y.row.kind,.string y.row.role,.string y.row.schema,.string y.row.table,.slice B3 y.row.row.length m3,.string y.row.col,.int .i64 y.row.v.kind,.int .i64 y.row.v.int,.string y.row.v.text]) (w2.alloc (.cells #[.int .i64 y.kind,.int .i64 y.node,.int .i64 y.n,.int .i64 y.client,.int .i64 y.number,.int .i64 y.cmd.kind,.string y.cmd.actor,.string y.cmd.schema,.string y.cmd.table,.string y.cmd.name,.string y.cmd.role,.slice B y.cmd.cols.length m,.string y.cmd.rule.name,.int .i64 y.cmd.rule.kind,.slice B2 y.cmd.rule.cols.length m2,.int .i64 y.cmd.rule.low,.int .i64 y.cmd.rule.high,.string y.cmd.rule.schema,.string y.cmd.rule.table,.string y.cmd.rule.key,.int .i64 y.cmd.right,.bool y.cmd.opt,.int .i64 y.ck,.int .i64 y.cn,.int .i64 y.row.kind,.string y.row.role,.string y.row.schema,.string y.row.table,.slice B3 y.row.row.length m3,.string y.row.col,.int .i64 y.row.v.kind,.int .i64 y.row.v.int,.string y.row.v.text] 43))∧ActX (w2.alloc (.cells #[.int .i64 y.kind,.int .i64 y.node,.int .i64 y.n,.int .i64 y.client,.int .i64 y.number,.int .i64 y.cmd.kind,.string y.cmd.actor,.string y.cmd.schema,.string y.cmd.table,.string y.cmd.name,.string y.cmd.role,.slice B y.cmd.cols.length m,.string y.cmd.rule.name,.int .i64 y.cmd.rule.kind,.slice B2 y.cmd.rule.cols.length m2,.int .i64 y.cmd.rule.low,.int .i64 y.cmd.rule.high,.string y.cmd.rule.schema,.string y.cmd.rule.table,.string y.cmd.rule.key,.int .i64 y.cmd.right,.bool y.cmd.opt,.int .i64 y.ck,.int .i64 y.cn,.int .i64 y.row.kind,.string y.row.role,.string y.row.schema,.string y.row.table,.slice B3 y.row.row.length m3,.string y.row.col,.int .i64 y.row.v.kind,.int .i64 y.row.v.int,.string y.row.v.text] 43)) y B m B2 m2 B3 m3∧Aft W (w2.alloc (.cells #[.int .i64 y.kind,.int .i64 y.node,.int .i64 y.n,.int .i64 y.client,.int .i64 y.number,.int .i64 y.cmd.kind,.string y.cmd.actor,.string y.cmd.schema,.string y.cmd.table,.string y.cmd.name,.string y.cmd.role,.slice B y.cmd.cols.length m,.string y.cmd.rule.name,.int .i64 y.cmd.rule.kind,.slice B2 y.cmd.rule.cols.length m2,.int .i64 y.cmd.rule.low,.int .i64 y.cmd.rule.high,.string y.cmd.rule.schema,.string y.cmd.rule.table,.string y.cmd.rule.key,.int .i64 y.cmd.right,.bool y.cmd.opt,.int .i64 y.ck,.int .i64 y.cn,.int .i64 y.row.kind,.string y.row.role,.string y.row.schema,.string y.row.table,.slice B3 y.row.row.length m3,.string y.row.col,.int .i64 y.row.v.kind,.int .i64 y.row.v.int,.string y.row.v.text] 43)) from fun w1 w2 B m B2 m2 B3 m3 a1 a2 hy=>⟨lvAct_row (HRA.out.aft ((a1.trans a2).alloc _)) rfl,lvAct_row (rowAt_newD w2 [.int .i64 y.kind,.int .i64 y.node,.int .i64 y.n,.int .i64 y.client,.int .i64 y.number,.int .i64 y.cmd.kind,.string y.cmd.actor,.string y.cmd.schema,.string y.cmd.table,.string y.cmd.name,.string y.cmd.role,.slice B y.cmd.cols.length m,.string y.cmd.rule.name,.int .i64 y.cmd.rule.kind,.slice B2 y.cmd.rule.cols.length m2,.int .i64 y.cmd.rule.low,.int .i64 y.cmd.rule.high,.string y.cmd.rule.schema,.string y.cmd.rule.table,.string y.cmd.rule.key,.int .i64 y.cmd.right,.bool y.cmd.opt,.int .i64 y.ck,.int .i64 y.cn,.int .i64 y.row.kind,.string y.row.role,.string y.row.schema,.string y.row.table,.slice B3 y.row.row.length m3,.string y.row.col,.int .i64 y.row.v.kind,.int .i64 y.row.v.int,.string y.row.v.text] _) rfl,hy.aft ((Aft.refl w2).alloc _),(a1.trans a2).alloc _⟩)
   by_cases hab:a=y
   ·have HSM':=gH (show ∀ (V:World) (B:Option Addr) (m:Nat) (B2:Option Addr) (m2:Nat) (B3:Option Addr) (m3:Nat),Aft W V→ActX V y B m B2 m2 B3 m3→Calls Tryz.prog 24 #[.agg #[.int .i64 a.kind,.int .i64 a.node,.int .i64 a.n,.int .i64 a.client,.int .i64 a.number,.int .i64 a.cmd.kind,.string a.cmd.actor,.string a.cmd.schema,.string a.cmd.table,.string a.cmd.name,.string a.cmd.role,.slice A a.cmd.cols.length k,.string a.cmd.rule.name,.int .i64 a.cmd.rule.kind,.slice A2 a.cmd.rule.cols.length k2,.int .i64 a.cmd.rule.low,.int .i64 a.cmd.rule.high,.string a.cmd.rule.schema,.string a.cmd.rule.table,.string a.cmd.rule.key,.int .i64 a.cmd.right,.bool a.cmd.opt,.int .i64 a.ck,.int .i64 a.cn,.int .i64 a.row.kind,.string a.row.role,.string a.row.schema,.string a.row.table,.slice A3 a.row.row.length k3,.string a.row.col,.int .i64 a.row.v.kind,.int .i64 a.row.v.int,.string a.row.v.text],.agg #[.int .i64 y.kind,.int .i64 y.node,.int .i64 y.n,.int .i64 y.client,.int .i64 y.number,.int .i64 y.cmd.kind,.string y.cmd.actor,.string y.cmd.schema,.string y.cmd.table,.string y.cmd.name,.string y.cmd.role,.slice B y.cmd.cols.length m,.string y.cmd.rule.name,.int .i64 y.cmd.rule.kind,.slice B2 y.cmd.rule.cols.length m2,.int .i64 y.cmd.rule.low,.int .i64 y.cmd.rule.high,.string y.cmd.rule.schema,.string y.cmd.rule.table,.string y.cmd.rule.key,.int .i64 y.cmd.right,.bool y.cmd.opt,.int .i64 y.ck,.int .i64 y.cn,.int .i64 y.row.kind,.string y.row.role,.string y.row.schema,.string y.row.table,.slice B3 y.row.row.length m3,.string y.row.col,.int .i64 y.row.v.kind,.int .i64 y.row.v.int,.string y.row.v.text]] V fun e w'=>e=.returned (.bool true)∧Aft V w' from fun V B m B2 m2 B3 m3 aV h=>(HSM.out V B m B2 m2 B3 m3 aV h).mono fun e w' ⟨a1,r,he,hr⟩=>⟨by rw [he,hr.2 hab],a1⟩)
    have HN:=gH (show parseB (lineB X)=some a from by rw [← HS.out,hp,hab])
    clear hx hf ht hl ra aW HLI hs hp hab HSM
    go_enter Tryz.func11,Tryz.ntmps11
    go_upto_region 1 with fail
    rw [← hW]
    clear hW
    go_wp2_with (first
     | (go_at_call 23;(with_reducible refine HP.out.mono ?_);rintro e w1 ⟨rfl,a1⟩;have H1:=gH a1;clear a1)
     | (go_at_call 6;(with_reducible refine (HQ.out _ H1.out).mono ?_);rintro e w2 ⟨B,m,B2,m2,B3,m3,rfl,a2,y2⟩;obtain ⟨g1,g2,g3,g4⟩:=HB.out _ _ _ _ _ _ _ _ H1.out a2 y2;have H2:=gH (And.intro g3 g4);clear a2 y2 g3 g4)
     | (go_at_call 24;(with_reducible refine (HSM'.out _ _ _ _ _ _ _ H2.out.2 H2.out.1).mono ?_);rintro e w3 ⟨rfl,a3⟩;have H3:=gH a3;clear a3))
    go_ret2
    exact ⟨(HAW.out.trans H2.out.2).trans H3.out,.inl ⟨X,HAC.out,HN.out,by rw [← HS.out];rfl⟩⟩
   ·have HSM':=gH (show ∀ (V:World) (B:Option Addr) (m:Nat) (B2:Option Addr) (m2:Nat) (B3:Option Addr) (m3:Nat),Aft W V→ActX V y B m B2 m2 B3 m3→Calls Tryz.prog 24 #[.agg #[.int .i64 a.kind,.int .i64 a.node,.int .i64 a.n,.int .i64 a.client,.int .i64 a.number,.int .i64 a.cmd.kind,.string a.cmd.actor,.string a.cmd.schema,.string a.cmd.table,.string a.cmd.name,.string a.cmd.role,.slice A a.cmd.cols.length k,.string a.cmd.rule.name,.int .i64 a.cmd.rule.kind,.slice A2 a.cmd.rule.cols.length k2,.int .i64 a.cmd.rule.low,.int .i64 a.cmd.rule.high,.string a.cmd.rule.schema,.string a.cmd.rule.table,.string a.cmd.rule.key,.int .i64 a.cmd.right,.bool a.cmd.opt,.int .i64 a.ck,.int .i64 a.cn,.int .i64 a.row.kind,.string a.row.role,.string a.row.schema,.string a.row.table,.slice A3 a.row.row.length k3,.string a.row.col,.int .i64 a.row.v.kind,.int .i64 a.row.v.int,.string a.row.v.text],.agg #[.int .i64 y.kind,.int .i64 y.node,.int .i64 y.n,.int .i64 y.client,.int .i64 y.number,.int .i64 y.cmd.kind,.string y.cmd.actor,.string y.cmd.schema,.string y.cmd.table,.string y.cmd.name,.string y.cmd.role,.slice B y.cmd.cols.length m,.string y.cmd.rule.name,.int .i64 y.cmd.rule.kind,.slice B2 y.cmd.rule.cols.length m2,.int .i64 y.cmd.rule.low,.int .i64 y.cmd.rule.high,.string y.cmd.rule.schema,.string y.cmd.rule.table,.string y.cmd.rule.key,.int .i64 y.cmd.right,.bool y.cmd.opt,.int .i64 y.ck,.int .i64 y.cn,.int .i64 y.row.kind,.string y.row.role,.string y.row.schema,.string y.row.table,.slice B3 y.row.row.length m3,.string y.row.col,.int .i64 y.row.v.kind,.int .i64 y.row.v.int,.string y.row.v.text]] V fun e w'=>e=.returned (.bool false)∧Aft V w' from fun V B m B2 m2 B3 m3 aV h=>(HSM.out V B m B2 m2 B3 m3 aV h).mono fun e w' ⟨a1,r,he,hr⟩=>⟨by
     rw [he]
     cases r
     ·rfl
     ·exact absurd (hr.1 rfl) hab,a1⟩)
    have HN:=gH (show ∀ X,actM a=some X→parseB (lineB X)≠some a from fun Y h=>by
     rw [HAC.out] at h
     cases h
     rw [← HS.out,hp]
     intro e
     injection e with e
     exact hab e.symm)
    clear hx hf ht hl ra aW HLI hs hp hab HSM
    go_enter Tryz.func11,Tryz.ntmps11
    go_upto_region 1 with fail
    rw [← hW]
    clear hW
    go_wp2_with (first
     | (go_at_call 23;(with_reducible refine HP.out.mono ?_);rintro e w1 ⟨rfl,a1⟩;have H1:=gH a1;clear a1)
     | (go_at_call 6;(with_reducible refine (HQ.out _ H1.out).mono ?_);rintro e w2 ⟨B,m,B2,m2,B3,m3,rfl,a2,y2⟩;obtain ⟨g1,g2,g3,g4⟩:=HB.out _ _ _ _ _ _ _ _ H1.out a2 y2;have H2:=gH (And.intro g3 g4);clear a2 y2 g3 g4)
     | (go_at_call 24;(with_reducible refine (HSM'.out _ _ _ _ _ _ _ H2.out.2 H2.out.1).mono ?_);rintro e w3 ⟨rfl,a3⟩;have H3:=gH a3;clear a3))
    go_ret2
    exact ⟨(HAW.out.trans H2.out.2).trans H3.out,.inr ⟨HN.out,rfl⟩⟩
structure Few3 (a:Dact):Prop where
 c:a.cmd.cols.length≤1000
 n:a.cmd.rule.cols.length≤1000
 v:a.row.row.length≤1000
def LgQ (w:World) (a:Dact) (e:Ending) (w':World):Prop:=Aft w w'∧∃ r,e=.returned (.bool r)∧(r=false→Few a∧Few3 a)
theorem large_in (a:Dact) (A:Option Addr) (k:Nat) (A2:Option Addr) (k2:Nat) (A3:Option Addr) (k3:Nat) (w:World) (hx:ActX w a A k A2 k2 A3 k3) :
  Calls Tryz.prog 10 #[.agg #[.int .i64 a.kind,.int .i64 a.node,.int .i64 a.n,.int .i64 a.client,.int .i64 a.number,.int .i64 a.cmd.kind,.string a.cmd.actor,.string a.cmd.schema,.string a.cmd.table,.string a.cmd.name,.string a.cmd.role,.slice A a.cmd.cols.length k,.string a.cmd.rule.name,.int .i64 a.cmd.rule.kind,.slice A2 a.cmd.rule.cols.length k2,.int .i64 a.cmd.rule.low,.int .i64 a.cmd.rule.high,.string a.cmd.rule.schema,.string a.cmd.rule.table,.string a.cmd.rule.key,.int .i64 a.cmd.right,.bool a.cmd.opt,.int .i64 a.ck,.int .i64 a.cn,.int .i64 a.row.kind,.string a.row.role,.string a.row.schema,.string a.row.table,.slice A3 a.row.row.length k3,.string a.row.col,.int .i64 a.row.v.kind,.int .i64 a.row.v.int,.string a.row.v.text]] w (LgQ w a):=by
 have l1:=hx.cols.len
 have l2:=hx.nms.len
 have l3:=hx.vals.len
 have HX:=gH hx
 clear hx
 obtain ⟨W,hW⟩:∃ W,W=(w.alloc (.cells #[.int .i64 a.kind,.int .i64 a.node,.int .i64 a.n,.int .i64 a.client,.int .i64 a.number,.int .i64 a.cmd.kind,.string a.cmd.actor,.string a.cmd.schema,.string a.cmd.table,.string a.cmd.name,.string a.cmd.role,.slice A a.cmd.cols.length k,.string a.cmd.rule.name,.int .i64 a.cmd.rule.kind,.slice A2 a.cmd.rule.cols.length k2,.int .i64 a.cmd.rule.low,.int .i64 a.cmd.rule.high,.string a.cmd.rule.schema,.string a.cmd.rule.table,.string a.cmd.rule.key,.int .i64 a.cmd.right,.bool a.cmd.opt,.int .i64 a.ck,.int .i64 a.cn,.int .i64 a.row.kind,.string a.row.role,.string a.row.schema,.string a.row.table,.slice A3 a.row.row.length k3,.string a.row.col,.int .i64 a.row.v.kind,.int .i64 a.row.v.int,.string a.row.v.text] 43)).alloc (.cells #[.int .i64 a.cmd.kind,.string a.cmd.actor,.string a.cmd.schema,.string a.cmd.table,.string a.cmd.name,.string a.cmd.role,.slice A a.cmd.cols.length k,.string a.cmd.rule.name,.int .i64 a.cmd.rule.kind,.slice A2 a.cmd.rule.cols.length k2,.int .i64 a.cmd.rule.low,.int .i64 a.cmd.rule.high,.string a.cmd.rule.schema,.string a.cmd.rule.table,.string a.cmd.rule.key,.int .i64 a.cmd.right,.bool a.cmd.opt] 31):=⟨_,rfl⟩
 have aW:Aft w W:=by rw [hW];exact ((Aft.refl w).alloc _).alloc _
 obtain ⟨ra,rb⟩:=box2_rowsD (w:=w) (W:=W) (by rw [← hW];exact Aft.refl W)
 have HAW:=gH aW
 have p28:=ra.cell (j:=28) rfl
 have q6:=rb.cell (j:=6) rfl
 have q9:=rb.cell (j:=9) rfl
 have lw:=rb.1
 have hz:w.heap.size < w.heap.size+1:=by omega
 clear aW ra rb
 by_cases f1:1000 < a.cmd.cols.length
 ·have g1:(1000:Int) < (a.cmd.cols.length:Int):=by omega
  clear f1
  go_enter Tryz.func10,Tryz.ntmps10
  go_upto_region 2 with fail
  rw [← hW]
  clear hW
  go_wp2_with fail
  go_ret
  exact ⟨HAW.out,true,rfl,fun e=>(by cases e)⟩
 have g1:¬ (1000:Int) < (a.cmd.cols.length:Int):=by omega
 by_cases f2:1000 < a.cmd.rule.cols.length
 ·have g2:(1000:Int) < (a.cmd.rule.cols.length:Int):=by omega
  clear f1 f2
  go_enter Tryz.func10,Tryz.ntmps10
  go_upto_region 2 with fail
  rw [← hW]
  clear hW
  go_wp2_with fail
  go_ret
  exact ⟨HAW.out,true,rfl,fun e=>(by cases e)⟩
 have g2:¬ (1000:Int) < (a.cmd.rule.cols.length:Int):=by omega
 by_cases f3:1000 < a.row.row.length
 ·have g3:(1000:Int) < (a.row.row.length:Int):=by omega
  clear f1 f2 f3
  go_enter Tryz.func10,Tryz.ntmps10
  go_upto_region 2 with fail
  rw [← hW]
  clear hW
  go_wp2_with fail
  go_ret
  exact ⟨HAW.out,true,rfl,fun e=>(by cases e)⟩
 have g3:¬ (1000:Int) < (a.row.row.length:Int):=by omega
 have HF:=gH (show Few a∧Few3 a from ⟨⟨by omega,by omega,by omega⟩,⟨by omega,by omega,by omega⟩⟩)
 clear f1 f2 f3
 go_enter Tryz.func10,Tryz.ntmps10
 go_upto_region 2 with fail
 rw [← hW]
 clear hW
 go_wp2_with fail
 go_loopw [4,5] (fun n i wr=>∃ (z:Int) (k:Nat),n=.int .i64 z∧i=.int .i64 k∧0≤z∧z≤300000∧k≤a.cmd.cols.length∧W=wr) (fun _ i _=>a.cmd.cols.length - (intOf i).toNat)
 case atStart=>exact ⟨0,0,rfl,rfl,by omega,by omega,Nat.zero_le _,rfl⟩
 case round =>
  obtain ⟨z,k5,rfl,rfl,z0,z1,hk,rfl⟩:=hrel
  by_cases hlt:k5 < a.cmd.cols.length
  ·by_cases hz5:z≤100000
   ·obtain ⟨g,off,hA,hb,c0,_,_,hsm⟩:=col_at (HX.out.aft HAW.out).cols hlt
    subst hA
    have m0:0≤min ((a.cmd.cols[k5].name.size:Nat):Int) 100001:=by omega
    have m1:min ((a.cmd.cols[k5].name.size:Nat):Int) 100001≤100001:=by omega
    go_wp2_with fail
    go_roundw
    case rel=>exact ⟨_,k5+1,rfl,by go_num,by omega,by omega,by omega,trivial⟩
    case measure=>simp [intOf];omega
   ·go_wp2_with fail
    go_loopw [4,6] (fun n i wr=>∃ (z:Int) (k:Nat),n=.int .i64 z∧i=.int .i64 k∧0≤z∧z≤300000∧k≤a.cmd.rule.cols.length∧W=wr) (fun _ i _=>a.cmd.rule.cols.length - (intOf i).toNat)
    case atStart=>exact ⟨z,0,rfl,rfl,by omega,by omega,Nat.zero_le _,rfl⟩
    case round =>
     obtain ⟨y,k6,rfl,rfl,y0,y1,hk6,rfl⟩:=hrel
     by_cases hlt6:k6 < a.cmd.rule.cols.length
     ·by_cases hz6:y≤100000
      ·obtain ⟨g,off,hA,hb,c0,hsm⟩:=str_at (HX.out.aft HAW.out).nms hlt6
       subst hA
       have m0:0≤min ((a.cmd.rule.cols[k6].size:Nat):Int) 100001:=by omega
       have m1:min ((a.cmd.rule.cols[k6].size:Nat):Int) 100001≤100001:=by omega
       go_wp2_with fail
       go_roundw
       case rel=>exact ⟨_,k6+1,rfl,by go_num,by omega,by omega,by omega,trivial⟩
       case measure=>simp [intOf];omega
      ·go_wp2_with fail
       go_ret
       exact ⟨HAW.out,_,rfl,fun _=>HF.out⟩
     ·go_wp2_with fail
      go_ret
      exact ⟨HAW.out,_,rfl,fun _=>HF.out⟩
  ·go_wp2_with fail
   go_loopw [4,6] (fun n i wr=>∃ (z:Int) (k:Nat),n=.int .i64 z∧i=.int .i64 k∧0≤z∧z≤300000∧k≤a.cmd.rule.cols.length∧W=wr) (fun _ i _=>a.cmd.rule.cols.length - (intOf i).toNat)
   case atStart=>exact ⟨z,0,rfl,rfl,by omega,by omega,Nat.zero_le _,rfl⟩
   case round =>
    obtain ⟨y,k6,rfl,rfl,y0,y1,hk6,rfl⟩:=hrel
    by_cases hlt6:k6 < a.cmd.rule.cols.length
    ·by_cases hz6:y≤100000
     ·obtain ⟨g,off,hA,hb,c0,hsm⟩:=str_at (HX.out.aft HAW.out).nms hlt6
      subst hA
      have m0:0≤min ((a.cmd.rule.cols[k6].size:Nat):Int) 100001:=by omega
      have m1:min ((a.cmd.rule.cols[k6].size:Nat):Int) 100001≤100001:=by omega
      go_wp2_with fail
      go_roundw
      case rel=>exact ⟨_,k6+1,rfl,by go_num,by omega,by omega,by omega,trivial⟩
      case measure=>simp [intOf];omega
     ·go_wp2_with fail
      go_ret
      exact ⟨HAW.out,_,rfl,fun _=>HF.out⟩
    ·go_wp2_with fail
     go_ret
     exact ⟨HAW.out,_,rfl,fun _=>HF.out⟩
def exA5:Dact:={ zAct with kind:=11,node:=1,n := -1 }
def exA6:Dact:={ zAct with kind:=11,node:=1,client:=1 }
def exA7:Dact:={ zAct with kind:=11,node:=1 }
theorem exP5:parseB ⟨#[99,114,97,115,104,32,49,32,45,49]⟩=some exA5:=by kernel_rfl
theorem exP7:parseB ⟨#[99,114,97,115,104,32,49,32,48]⟩=some exA7:=by kernel_rfl
theorem laid_X {a:Dact} {s:ByteArray} (h:parseB s=some a) (ha:actM a=actL a):∃ X,actM a=some X∧lineB X=s:=by
 have h1:=laid_of_parse h
 unfold laidB at h1
 cases hx:actL a with
 | none=>rw [hx] at h1;cases h1
 | some X =>
  rw [hx] at h1
  exact ⟨X,ha.trans hx,by simpa using h1⟩
theorem actG_z (w:World) (k n m c q:Int):ActG w { zAct with kind:=k,node:=n,n:=m,client:=c,number:=q } none 0 none 0 none 0 :=
 ⟨⟨slAt_nil,slAt_nil,slAt_nil,small_z,small_z,small_z,small_z⟩,⟨small_z,small_z,small_z,small_z,small_z,small_z,small_z,small_z,small_z⟩,⟨small_z,small_z,small_z,small_z,small_z⟩,by show -9223372036854775808≤(0:Int);decide,by show (0:Int)≤9223372036854775807;decide⟩
theorem few_z (k n m c q:Int):Few { zAct with kind:=k,node:=n,n:=m,client:=c,number:=q }:=⟨Nat.zero_le _,Nat.zero_le _,Nat.zero_le _⟩
theorem print5 (w:World) (ht:TabW w) (hl:LibV w):Calls Tryz.prog 11 #[.agg #[.int .i64 11,.int .i64 1,.int .i64 (-1),.int .i64 0,.int .i64 0,.int .i64 0,.string ⟨#[]⟩,.string ⟨#[]⟩,.string ⟨#[]⟩,.string ⟨#[]⟩,.string ⟨#[]⟩,.slice none 0 0,.string ⟨#[]⟩,.int .i64 0,.slice none 0 0,.int .i64 0,.int .i64 0,.string ⟨#[]⟩,.string ⟨#[]⟩,.string ⟨#[]⟩,.int .i64 0,.bool false,.int .i64 0,.int .i64 0,.int .i64 0,.string ⟨#[]⟩,.string ⟨#[]⟩,.string ⟨#[]⟩,.slice none 0 0,.string ⟨#[]⟩,.int .i64 0,.int .i64 0,.string ⟨#[]⟩]] w fun e w'=>e=.returned (.tuple #[.string ⟨#[99,114,97,115,104,32,49,32,45,49]⟩,.int .i64 0])∧Aft w w':=by
 refine (print_in exA5 none 0 none 0 none 0 w (actG_z w 11 1 (-1) 0 0) (few_z 11 1 (-1) 0 0) ht hl).mono ?_
 rintro e w' ⟨a,h⟩
 obtain ⟨Y,hY,hYl⟩:=laid_X exP5 rfl
 rcases h with ⟨X,h1,_,h3⟩ | ⟨h1,_⟩
 ·have:X=Y:=Option.some.inj (h1.symm.trans hY)
  subst this
  exact ⟨by rw [h3,hYl],a⟩
 ·exact absurd (by rw [hYl];exact exP5) (h1 Y hY)
theorem print6 (w:World) (ht:TabW w) (hl:LibV w):Calls Tryz.prog 11 #[.agg #[.int .i64 11,.int .i64 1,.int .i64 0,.int .i64 1,.int .i64 0,.int .i64 0,.string ⟨#[]⟩,.string ⟨#[]⟩,.string ⟨#[]⟩,.string ⟨#[]⟩,.string ⟨#[]⟩,.slice none 0 0,.string ⟨#[]⟩,.int .i64 0,.slice none 0 0,.int .i64 0,.int .i64 0,.string ⟨#[]⟩,.string ⟨#[]⟩,.string ⟨#[]⟩,.int .i64 0,.bool false,.int .i64 0,.int .i64 0,.int .i64 0,.string ⟨#[]⟩,.string ⟨#[]⟩,.string ⟨#[]⟩,.slice none 0 0,.string ⟨#[]⟩,.int .i64 0,.int .i64 0,.string ⟨#[]⟩]] w fun e w'=>e=.returned (.tuple #[.string ⟨#[]⟩,.int .i64 230])∧Aft w w':=by
 refine (print_in exA6 none 0 none 0 none 0 w (actG_z w 11 1 0 1 0) (few_z 11 1 0 1 0) ht hl).mono ?_
 rintro e w' ⟨a,h⟩
 obtain ⟨Y,hY,hYl⟩:=laid_X exP7 rfl
 have e67:actM exA6=actM exA7:=rfl
 rcases h with ⟨X,h1,h2,_⟩ | ⟨_,h3⟩
 ·have:X=Y:=Option.some.inj (h1.symm.trans (e67.trans hY))
  subst this
  rw [hYl,exP7] at h2
  injection h2 with h2
  have:=congrArg Dact.client h2
  simp [exA6,exA7,zAct] at this
 ·exact ⟨h3,a⟩
theorem prints24 (w:World) (ht:TabW w) (hl:LibV w):Calls Tryz.prog 13 #[] w fun e w'=>e=.returned (.bool true)∧Aft w w':=by
 have H5:=gH (print5 w ht hl)
 have H6:=gH (show ∀ V,Aft w V→_ from fun V a=>print6 V (ht.aft a) (hl.kb (P:=fun _=>False) (Kb.of_aft a) id))
 clear ht hl
 go_enter Tryz.func13,Tryz.ntmps13
 go_wp2_with (first
  | (go_at_call 11;(with_reducible refine H5.out.mono ?_);rintro e w1 ⟨rfl,a1⟩;have G1:=gH a1;clear a1)
  | (go_at_call 11;(with_reducible refine (H6.out _ G1.out).mono ?_);rintro e w2 ⟨rfl,a2⟩;have G2:=gH a2;clear a2))
 go_ret
 exact ⟨rfl,G1.out.trans G2.out⟩
end Go.Proofs.YtbdanlipghhgpaaGreatDoor
namespace Go.Proofs.YtbdanlipghhgpaaGreatDoor
set_option maxRecDepth 100000
set_option linter.unusedVariables false
set_option maxHeartbeats 64000000
def spc (W:Ws):ByteArray:=wd (W.flatMap fun w=>32::w.data.toList)
theorem spc_app (a b:Ws):spc (a++b)=spc a++spc b:=ba_ext (by simp [spc,wd_data])
theorem spc_one (x:ByteArray):spc [x]=⟨#[32]⟩++x:=ba_ext (by simp [spc,wd_data])
theorem spc_cons (x:ByteArray) (W:Ws):spc (x::W)=⟨#[32]⟩++x++spc W:=by
 rw [show x::W=[x]++W from rfl,spc_app,spc_one]
theorem spc_size:∀ (W:Ws),(∀ x∈W,x.size≤64)→(spc W).size≤65*W.length
 | [],_=>Nat.le_refl _
 | x::W,h=>by
  have h1:=h x (List.mem_cons_self ..)
  have h2:=spc_size W fun y hy=>h y (List.mem_cons_of_mem _ hy)
  rw [spc_cons,ByteArray.size_append,ByteArray.size_append,List.length_cons]
  have:(⟨#[32]⟩:ByteArray).size=1:=rfl
  omega
theorem line_spc (w:ByteArray) (W:Ws):lineB (w::W)=w++spc W:=by
 refine ba_ext ?_
 unfold lineB
 rw [wd_data]
 induction W generalizing w with
 | nil=>simp [joinL,spc,wd_data]
 | cons x W ih =>
  have:=ih x
  simp only [List.map_cons] at this ⊢
  rw [joinL,this,spc_cons]
  simp
def colX (c:Col):ByteArray:=wordT c.name++⟨#[58]⟩++(if c.kind=2 then b_int else if c.kind=3 then b_text else b_bang)++(if c.null then b_nul else ⟨#[]⟩)
def okX (v:Val):Bool:=decide (v.kind=1) || (decide (v.kind=2) || txtB v.text)
def valX (v:Val):ByteArray:=if v.kind=1 then b_null else if v.kind=2 then numX v.int else b_quo++v.text
def valsX (l:List Val):Ws:=if l.all okX then l.map valX else [b_bang]
def firstX (x:Cmd):ByteArray :=
 if x.kind=1 then b_schema else if x.kind=2 then b_dropschema else if x.kind=3 then b_table else if x.kind=4 then b_droptable else if x.kind=5 then b_column else if x.kind=6 then b_dropcolumn
 else if x.kind=8 then b_droprule else if x.kind=9 then b_owner else if x.kind=10 then b_role else if x.kind=11 then b_droprole else if x.kind=12 then b_member else if x.kind=13 then b_unmember else if x.kind=14 then b_grant else if x.kind=15 then b_revoke
 else if x.rule.kind=1 then b_index else if x.rule.kind=2 then b_key else if x.rule.kind=3 then b_check else if x.rule.kind=4 then b_foreign else b_bang
def rulX (r:Rul):Ws:=wordT r.name::((if r.kind=4 then [wordT r.schema,wordT r.table,wordT r.key] else [])++((r.cols.take 3000).map wordT++if r.kind=3 then [numX r.low,numX r.high] else []))
def cmdX (x:Cmd):Ws:=firstX x::wordT x.actor ::
 (if x.kind=1∨x.kind=2 then [wordT x.schema] else if x.kind=10∨x.kind=11 then [wordT x.role] else if x.kind=12∨x.kind=13 then [wordT x.role,wordT x.name]
 else wordT x.schema::wordT x.table::(if x.kind=3∨x.kind=5 then (x.cols.take 3000).map colX else if x.kind=6∨x.kind=8 then [wordT x.name] else if x.kind=9 then [wordT x.role]
  else if x.kind=7 then rulX x.rule else if x.kind=14∨x.kind=15 then (if x.right=1 then b_read else b_write)::wordT x.role::(if x.opt then [b_option] else []) else []))
def rowX (r:ROp):Ws :=
 if r.kind=1 then b_insert::wordT r.role::wordT r.schema::wordT r.table::valsX (r.row.take 3000)
 else if r.kind=2 then b_remove::wordT r.role::wordT r.schema::wordT r.table::wordT r.col::valsX [r.v]
 else b_select::wordT r.role::wordT r.schema::wordT r.table::(if eqS r.col zBy then [] else wordT r.col::valsX [r.v])
def actX (a:Dact):Ws :=
 if a.kind=1 then [b_tick,numX a.node] else if a.kind=2 then [b_world] else if a.kind=12 then [b_start,numX a.node]
 else if a.kind=3 then [b_deliver,numX a.n] else if a.kind=4 then [b_drop,numX a.n] else if a.kind=5 then [b_double,numX a.n]
 else if a.kind=6 then b_ask::numX a.node::numX a.client::numX a.number::cmdX a.cmd
 else if a.kind=7 then [b_read,numX a.node,numX a.client,numX a.number] else if a.kind=9 then [b_lease,numX a.n,numX a.node]
 else if a.kind=10 then b_row::numX a.n::rowX a.row else if a.kind=11 then [b_crash,numX a.node,numX a.n]
 else [if a.ck=1 then b_learner else if a.ck=2 then b_voter else b_remove,numX a.node,numX a.cn]
theorem nms_word {l W:Ws} (h:nmsL l=some W):l.map wordT=W:=by
 unfold nmsL at h
 split at h
 ·rename_i ha
  cases h
  conv=>rhs;rw [← List.map_id l]
  exact List.map_congr_left fun x hx=>by unfold wordT;rw [if_pos (List.all_eq_true.1 ha x hx)];rfl
 ·cases h
theorem nus_num {l:List Int} {W:Ws} (h:nusL l=some W):l.map numX=W:=by
 unfold nusL at h
 split at h
 ·rename_i ha
  cases h
  exact List.map_congr_left fun x hx=>by unfold numX;rw [if_pos (List.all_eq_true.1 ha x hx)]
 ·cases h
theorem cols_col {l:List Col} {W:Ws} (h:colsL l=some W) (hk:∀ c∈l,c.kind=2∨c.kind=3):l.map colX=W:=by
 unfold colsL at h
 split at h
 ·rename_i ha
  cases h
  refine List.map_congr_left fun x hx=>?_
  have hn:nameB x.name=true:=List.all_eq_true.1 ha x hx
  unfold colX wordT colT
  rw [if_pos hn]
  simp only [cat_eq]
  rcases hk x hx with e | e<;>rw [e]<;>cases x.null<;>refine ba_ext ?_<;>simp [b_int,b_text,b_cint,b_ctext,b_nul]
 ·cases h
theorem vals_val {l:List Val} {W:Ws} (h:valsL l=some W):valsX l=W:=by
 unfold valsL at h
 split at h
 ·rename_i ha
  cases h
  have hx:∀ v∈l,okX v=true∧valX v=valT v:=fun v hv=>by
   have ho:okV v=true:=List.all_eq_true.1 ha v hv
   unfold okV at ho
   unfold okX valX valT
   by_cases h1:v.kind=1
   ·simp [h1]
   ·by_cases h2:v.kind=2
    ·rw [if_pos h2] at ho
     simp [h2,numX,ho]
    ·rw [if_neg h2] at ho
     simp [h1,h2,ho,cat_eq]
  unfold valsX
  rw [if_pos (List.all_eq_true.2 fun v hv=>(hx v hv).1)]
  exact List.map_congr_left fun v hv=>(hx v hv).2
 ·cases h
theorem andL_eq {a b:Option Ws} {W:Ws} (h:andL a b=some W):∃ A B,a=some A∧b=some B∧A++B=W:=by
 cases a with
 | none=>cases h
 | some A =>
  cases b with
  | none=>cases h
  | some B=>cases h;exact ⟨A,B,rfl,rfl,rfl⟩
theorem tab_word {w:ByteArray} {x:Cmd} {W:Ws} (h:onTabL w x=some W):W=[w,wordT x.actor,wordT x.schema,wordT x.table]:=by
 obtain ⟨A,B,h1,h2,rfl⟩:=andL_eq h
 cases h1
 rw [← nms_word h2];rfl
theorem right_word {x:Cmd} {W:Ws} (h:rightL x=some W):W=(if x.right=1 then b_read else b_write)::wordT x.role::(if x.opt then [b_option] else []):=by
 obtain ⟨A,B,h1,h2,rfl⟩:=andL_eq h
 obtain ⟨C,D,h3,h4,rfl⟩:=andL_eq h2
 cases h1;cases h4
 rw [← nms_word h3];rfl
theorem rule_word {x:Cmd} {W:Ws} (h:ruleL x=some W) (hl:x.rule.cols.length≤3000) (hk:x.kind=7):cmdX x=W:=by
 obtain ⟨A,B,h1,h2,rfl⟩:=andL_eq h
 obtain ⟨C,D,h3,h4,rfl⟩:=andL_eq h2
 obtain ⟨E,F,h5,h6,rfl⟩:=andL_eq h4
 obtain ⟨G,H,h7,h8,rfl⟩:=andL_eq h6
 rw [← nms_word h3,← nms_word h7]
 have e1:A=[firstX x]:=by
  unfold firstX
  simp only [hk]
  simp only [Int.reduceEq,if_false,if_true] at h1 ⊢
  split at h1
  ·rename_i e;cases h1;simp [e]
  ·split at h1
   ·rename_i e;cases h1;simp [e]
   ·split at h1
    ·rename_i e;cases h1;simp [e]
    ·split at h1
     ·rename_i e;cases h1;simp [e]
     ·cases h1
 have e2:E=if x.rule.kind=4 then [wordT x.rule.schema,wordT x.rule.table,wordT x.rule.key] else []:=by
  split at h5
  ·rename_i e;rw [if_pos e,← nms_word h5];rfl
  ·rename_i e;rw [if_neg e];cases h5;rfl
 have e3:H=if x.rule.kind=3 then [numX x.rule.low,numX x.rule.high] else []:=by
  split at h8
  ·rename_i e;rw [if_pos e,← nus_num h8];rfl
  ·rename_i e;rw [if_neg e];cases h8;rfl
 rw [e1,e2,e3]
 unfold cmdX rulX
 rw [List.take_of_length_le hl]
 simp [hk]
theorem cmd_word {x:Cmd} {W:Ws} (h:cmdL x=some W) (hc:regC x) (hl:x.cols.length≤3000) (hl2:x.rule.cols.length≤3000):cmdX x=W:=by
 unfold cmdL at h
 have two:∀ {w a b:ByteArray},andL (some [w]) (nmsL [a,b])=some W→W=[w,wordT a,wordT b]:=fun h=>by
  obtain ⟨A,B,h1,h2,rfl⟩:=andL_eq h
  cases h1
  rw [← nms_word h2];rfl
 have three:∀ {w a b c:ByteArray},andL (some [w]) (nmsL [a,b,c])=some W→W=[w,wordT a,wordT b,wordT c]:=fun h=>by
  obtain ⟨A,B,h1,h2,rfl⟩:=andL_eq h
  cases h1
  rw [← nms_word h2];rfl
 have one:∀ {w a:ByteArray},andL (onTabL w x) (nmsL [a])=some W→W=[w,wordT x.actor,wordT x.schema,wordT x.table,wordT a]:=fun h=>by
  obtain ⟨A,B,h1,h2,rfl⟩:=andL_eq h
  rw [tab_word h1,← nms_word h2];rfl
 have cols:∀ {w:ByteArray},andL (onTabL w x) (colsL x.cols)=some W→W=[w,wordT x.actor,wordT x.schema,wordT x.table]++(x.cols.take 3000).map colX:=fun h=>by
  obtain ⟨A,B,h1,h2,rfl⟩:=andL_eq h
  rw [tab_word h1,List.take_of_length_le hl,cols_col h2 hc]
 have rght:∀ {w:ByteArray},andL (onTabL w x) (rightL x)=some W→W=[w,wordT x.actor,wordT x.schema,wordT x.table]++((if x.right=1 then b_read else b_write)::wordT x.role::(if x.opt then [b_option] else [])):=fun h=>by
  obtain ⟨A,B,h1,h2,rfl⟩:=andL_eq h
  rw [tab_word h1,← right_word h2]
 rcases ite_or h with ⟨e,h⟩ | ⟨-,h⟩
 ·rw [two h];simp [cmdX,firstX,e]
 rcases ite_or h with ⟨e,h⟩ | ⟨-,h⟩
 ·rw [two h];simp [cmdX,firstX,e]
 rcases ite_or h with ⟨e,h⟩ | ⟨-,h⟩
 ·rw [cols h];simp [cmdX,firstX,e]
 rcases ite_or h with ⟨e,h⟩ | ⟨-,h⟩
 ·rw [tab_word h];simp [cmdX,firstX,e]
 rcases ite_or h with ⟨e,h⟩ | ⟨-,h⟩
 ·rw [cols h];simp [cmdX,firstX,e]
 rcases ite_or h with ⟨e,h⟩ | ⟨-,h⟩
 ·rw [one h];simp [cmdX,firstX,e]
 rcases ite_or h with ⟨e,h⟩ | ⟨-,h⟩
 ·exact rule_word h hl2 e
 rcases ite_or h with ⟨e,h⟩ | ⟨-,h⟩
 ·rw [one h];simp [cmdX,firstX,e]
 rcases ite_or h with ⟨e,h⟩ | ⟨-,h⟩
 ·rw [one h];simp [cmdX,firstX,e]
 rcases ite_or h with ⟨e,h⟩ | ⟨-,h⟩
 ·rw [two h];simp [cmdX,firstX,e]
 rcases ite_or h with ⟨e,h⟩ | ⟨-,h⟩
 ·rw [two h];simp [cmdX,firstX,e]
 rcases ite_or h with ⟨e,h⟩ | ⟨-,h⟩
 ·rw [three h];simp [cmdX,firstX,e]
 rcases ite_or h with ⟨e,h⟩ | ⟨-,h⟩
 ·rw [three h];simp [cmdX,firstX,e]
 rcases ite_or h with ⟨e,h⟩ | ⟨-,h⟩
 ·rw [rght h];simp [cmdX,firstX,e]
 rcases ite_or h with ⟨e,h⟩ | ⟨-,h⟩
 ·rw [rght h];simp [cmdX,firstX,e]
 cases h
theorem row_word {r:ROp} {W:Ws} (h:rowL r=some W) (hr:regR r) (hl:r.row.length≤3000):rowX r=W:=by
 obtain ⟨A,B,h1,h2,rfl⟩:=andL_eq h
 obtain ⟨C,D,h3,h4,rfl⟩:=andL_eq h2
 obtain ⟨E,F,h5,h6,rfl⟩:=andL_eq h4
 cases h1
 rw [← nms_word h3]
 have h7:=vals_val h6
 unfold rowX
 by_cases k1:r.kind=1
 ·rw [if_pos k1,if_pos k1,List.take_of_length_le hl,h7]
  rw [if_neg (fun e=>e.1 k1)] at h5
  cases h5;rfl
 ·rw [if_neg k1,if_neg k1]
  have h8:=hr.2 k1
  rw [h8] at h7
  obtain rfl:F=[]:=h7.symm.trans rfl
  have wh:eqS r.col zBy=false→E=wordT r.col::valsX [r.v]:=fun e=>by
   rw [if_pos ⟨k1,e⟩] at h5
   obtain ⟨X,Y,g1,g2,rfl⟩:=andL_eq h5
   rw [← nms_word g1,vals_val g2];rfl
  by_cases k2:r.kind=2
  ·rw [if_pos k2,if_pos k2,wh (hr.1 k2)];simp
  ·rw [if_neg k2,if_neg k2]
   cases hc:eqS r.col zBy
   ·rw [wh hc];simp
   ·rw [if_neg (fun e=>by rw [hc] at e;exact absurd e.2 (by decide))] at h5
    cases h5;simp
theorem act_word {a:Dact} {W:Ws} (h:actL a=some W) (hr:regA a) (hl:a.cmd.cols.length≤3000) (hl2:a.cmd.rule.cols.length≤3000) (hl3:a.row.row.length≤3000):actX a=W:=by
 unfold actL at h
 have nn:∀ {w:ByteArray} {l:List Int},andL (some [w]) (nusL l)=some W→W=w::l.map numX:=fun h=>by
  obtain ⟨A,B,h1,h2,rfl⟩:=andL_eq h
  cases h1
  rw [← nus_num h2];rfl
 rcases ite_or h with ⟨e,h⟩ | ⟨-,h⟩
 ·rw [nn h];simp [actX,e]
 rcases ite_or h with ⟨e,h⟩ | ⟨-,h⟩
 ·cases h;simp [actX,e]
 rcases ite_or h with ⟨e,h⟩ | ⟨-,h⟩
 ·rw [nn h];simp [actX,e]
 rcases ite_or h with ⟨e,h⟩ | ⟨-,h⟩
 ·rw [nn h];simp [actX,e]
 rcases ite_or h with ⟨e,h⟩ | ⟨-,h⟩
 ·rw [nn h];simp [actX,e]
 rcases ite_or h with ⟨e,h⟩ | ⟨-,h⟩
 ·rw [nn h];simp [actX,e]
 rcases ite_or h with ⟨e,h⟩ | ⟨-,h⟩
 ·skip
  obtain ⟨A,B,h1,h2,rfl⟩:=andL_eq h
  obtain ⟨C,D,h3,h4,rfl⟩:=andL_eq h2
  cases h1
  rw [← nus_num h3,← cmd_word h4 hr.1 hl hl2];simp [actX,e]
 rcases ite_or h with ⟨e,h⟩ | ⟨-,h⟩
 ·rw [nn h];simp [actX,e]
 rcases ite_or h with ⟨e,h⟩ | ⟨-,h⟩
 ·skip
  have:=hr.2.2 e
  rw [nn h]
  have e2:chgW a.ck=if a.ck=1 then b_learner else if a.ck=2 then b_voter else b_remove:=by
   unfold chgW
   by_cases c1:a.ck=1
   ·simp [c1]
   ·rw [if_neg (show ¬ a.ck≤1 by omega),if_neg c1]
  rw [e2];simp [actX,e]
 rcases ite_or h with ⟨e,h⟩ | ⟨-,h⟩
 ·rw [nn h];simp [actX,e]
 rcases ite_or h with ⟨e,h⟩ | ⟨-,h⟩
 ·skip
  obtain ⟨A,B,h1,h2,rfl⟩:=andL_eq h
  obtain ⟨C,D,h3,h4,rfl⟩:=andL_eq h2
  cases h1
  rw [← nus_num h3,← row_word h4 hr.2.1 hl3];simp [actX,e]
 rcases ite_or h with ⟨e,h⟩ | ⟨-,h⟩
 ·rw [nn h];simp [actX,e]
 cases h
def docT (a:Dact):ByteArray:=lineB (actX a)
theorem doc_line {s:ByteArray} {a:Dact} (h:parseB s=some a) (hf:Few3 a):docT a=s:=by
 have h0:=h
 unfold parseB at h
 split at h
 ·obtain ⟨h1,h2⟩:=parseW_some h
  unfold docT
  rw [act_word h1 h2 (Nat.le_trans hf.c (by decide)) (Nat.le_trans hf.n (by decide)) (Nat.le_trans hf.v (by decide)),words_line]
 ·cases h
theorem doc_laid {a:Dact} (h:parseB (docT a)=some a):∃ X,actM a=some X∧lineB X=docT a:=by
 have h1:=laid_of_parse h
 unfold laidB at h1
 rw [Option.map_eq_some_iff] at h1
 obtain ⟨X,h2,h3⟩:=h1
 refine ⟨X,?_,h3⟩
 rw [actM_of,h2]
 unfold parseB at h
 split at h
 ·exact (parseW_some h).2.2.2
 ·cases h
end Go.Proofs.YtbdanlipghhgpaaGreatDoor
namespace Go.Proofs.YtbdanlipghhgpaaGreatDoor
open Go.RowKit Go.Deep
set_option maxRecDepth 100000
set_option linter.unusedVariables false
set_option maxHeartbeats 64000000
theorem numX_le (n:Int):(numX n).size≤64:=by
 unfold numX;split
 ·rename_i h;exact itoaB_le h
 ·decide
theorem wordT_le (s:ByteArray):(wordT s).size≤16:=by
 unfold wordT;split
 ·rename_i h;exact nameB_le h
 ·decide
theorem z_int:b_int.size=3:=rfl
theorem z_text:b_text.size=4:=rfl
theorem z_bang:b_bang.size=1:=rfl
theorem z_nul:b_nul.size=1:=rfl
theorem z_one (c:UInt8):(⟨#[c]⟩:ByteArray).size=1:=rfl
theorem z_nil:(⟨#[]⟩:ByteArray).size=0:=rfl
theorem colX_le (c:Col):(colX c).size≤64:=by
 have:=wordT_le c.name
 unfold colX
 simp only [ByteArray.size_append,z_one]
 split
 ·split<;>simp only [z_int,z_nul,z_nil]<;>omega
 ·split
  ·split<;>simp only [z_text,z_nul,z_nil]<;>omega
  ·split<;>simp only [z_bang,z_nul,z_nil]<;>omega
theorem valX_le {v:Val} (h:okX v=true):(valX v).size≤64:=by
 unfold valX
 split
 ·decide
 ·rename_i h1
  split
  ·exact numX_le _
  ·rename_i h2
   simp only [okX,h1,h2,decide_false,Bool.false_or,txtB,Bool.and_eq_true,decide_eq_true_eq] at h
   have z:b_quo.size=1:=rfl
   rw [ByteArray.size_append];omega
theorem spc_take {α:Type} {l:List α} {k:Nat} (hk:k < l.length) (f:α→ByteArray):spc ((l.take (k+1)).map f)=spc ((l.take k).map f)++⟨#[32]⟩++f l[k]:=by
 rw [List.take_succ_eq_append_getElem hk,List.map_append,spc_app]
 show _++spc [f l[k]]=_
 rw [spc_one,← ByteArray.append_assoc]
theorem spc_le {α:Type} (l:List α) (f:α→ByteArray) (k:Nat) (hk:k≤3000) (hf:∀ x∈l.take k,(f x).size≤64):(spc ((l.take k).map f)).size≤200000:=by
 have h1:=spc_size ((l.take k).map f) fun x hx=>by
  obtain ⟨y,hy,rfl⟩:=List.mem_map.1 hx
  exact hf y hy
 rw [List.length_map,List.length_take] at h1
 omega
def joinT (l:List ByteArray):ByteArray:=spc ((l.take 3000).map wordT)
def colsT (l:List Col):ByteArray:=spc ((l.take 3000).map colX)
def valsT (l:List Val):ByteArray:=spc (valsX (l.take 3000))
theorem mem_take3 {α:Type} {l:List α} {k:Nat} (hk:k < l.length) (h3:k < 3000):l[k]∈l.take 3000:=by
 rw [List.mem_take_iff_getElem]
 exact ⟨k,by omega,rfl⟩
theorem take_end {α:Type} {l:List α} {k:Nat} (hk:k≤l.length) (h3:k≤3000) (h:¬ (k < l.length∧k < 3000)):l.take 3000=l.take k:=by
 by_cases e:k=3000
 ·rw [e]
 ·rw [List.take_of_length_le (show l.length≤3000 by omega),List.take_of_length_le (show l.length≤k by omega)]
theorem joined_dx (l:List ByteArray) (A:Option Addr) (cap:Nat) (w:World) (hx:SlAt w 1 StrR A cap l) :
  Calls Tryz.prog 72 #[.slice A l.length cap] w fun e w'=>e=.returned (.string (joinT l))∧w=w':=by
 have hlen:=hx.len
 have HX:=gH hx
 clear hx
 go_enter Tryz.func72,Tryz.ntmps72
 go_wp2_with fail
 go_loopw [3,4] (fun s i wr=>∃ (k:Nat) (t:ByteArray),k≤l.length∧k≤3000∧i=.int .i64 k∧s=.string t∧Hid (t=spc ((l.take k).map wordT))∧w=wr) (fun _ i _=>l.length - (intOf i).toNat)
 case atStart=>exact ⟨0,_,Nat.zero_le _,by decide,rfl,rfl,gH rfl,rfl⟩
 case round =>
  obtain ⟨k,s,hk,hk3,rfl,rfl,HS,rfl⟩:=hrel
  have z0:s.size≤200000:=by rw [HS.out];exact spc_le l wordT k hk3 (fun x _=>Nat.le_trans (wordT_le x) (by decide))
  by_cases hgo:k < l.length∧k < 3000
  ·obtain ⟨hlt,h3⟩:=hgo
   have hlt':(k:Int) < (l.length:Int):=by omega
   have h3':(k:Int) < 3000:=by omega
   obtain ⟨b,off,rfl,hb,c0,hz⟩:=str_at HX.out hlt
   have HN:=gH (show spc ((l.take (k+1)).map wordT)=s++⟨#[32]⟩++wordT l[k] from by rw [HS.out];exact spc_take hlt wordT)
   generalize l[k]=x at c0 hz HN
   have HW:=gH (show ∀ V,Calls Tryz.prog 70 #[.string x] V fun e w'=>e=.returned (.string (wordT x))∧V=w' from fun V=>word_dx x V hz)
   have zw:=wordT_le x
   clear hz
   go_wp2_with (first | (go_at_call 70;with_reducible refine (HW.out _).mono ?_;rintro e w1 ⟨rfl,rfl⟩))
   go_roundw
   case rel=>exact ⟨k+1,_,by omega,by omega,by go_num,rfl,gH (by first | (rw [HN.out];done) | (rw [HN.out];rfl)),trivial⟩
   case measure=>simp [intOf];omega
  ·have HE:=gH (show joinT l=s from by unfold joinT;rw [take_end hk hk3 hgo,← HS.out])
   by_cases hlt:k < l.length
   ·have h3:¬ (k:Int) < 3000:=by omega
    clear hgo
    go_wp2_with fail
    go_ret
    exact ⟨by rw [HE.out];rfl,rfl⟩
   ·clear hgo
    go_wp2_with fail
    go_ret
    exact ⟨by rw [HE.out];rfl,rfl⟩
theorem columns_dx (l:List Col) (A:Option Addr) (cap:Nat) (w:World) (hx:SlAt w 3 ColR A cap l) :
  Calls Tryz.prog 71 #[.slice A l.length cap] w fun e w'=>e=.returned (.string (colsT l))∧w=w':=by
 have hlen:=hx.len
 have HX:=gH hx
 clear hx
 go_enter Tryz.func71,Tryz.ntmps71
 go_wp2_with fail
 go_loopw [3,4] (fun s i wr=>∃ (k:Nat) (t:ByteArray),k≤l.length∧k≤3000∧i=.int .i64 k∧s=.string t∧Hid (t=spc ((l.take k).map colX))∧w=wr) (fun _ i _=>l.length - (intOf i).toNat)
 case atStart=>exact ⟨0,_,Nat.zero_le _,by decide,rfl,rfl,gH rfl,rfl⟩
 case round =>
  obtain ⟨k,s,hk,hk3,rfl,rfl,HS,rfl⟩:=hrel
  have z0:s.size≤200000:=by rw [HS.out];exact spc_le l colX k hk3 (fun x _=>colX_le x)
  by_cases hgo:k < l.length∧k < 3000
  ·obtain ⟨hlt,h3⟩:=hgo
   have hlt':(k:Int) < (l.length:Int):=by omega
   have h3':(k:Int) < 3000:=by omega
   obtain ⟨b,off,rfl,hb,c0,c1,c2,hz⟩:=col_at HX.out hlt
   have HN0:spc ((l.take (k+1)).map colX)=s++⟨#[32]⟩++colX l[k]:=by rw [HS.out];exact spc_take hlt colX
   generalize l[k]=x at c0 c1 c2 hz HN0
   obtain ⟨xn,xk,xu⟩:=x
   dsimp only at c0 c1 c2 hz
   have HW:=gH (show ∀ V,Calls Tryz.prog 70 #[.string xn] V fun e w'=>e=.returned (.string (wordT xn))∧V=w' from fun V=>word_dx xn V hz)
   have zw:=wordT_le xn
   clear hz
   by_cases k2:xk=2
   ·subst k2
    cases xu
    all_goals
     have HN:=gH (HN0.trans (show _=s++⟨#[32]⟩++wordT xn++⟨#[58]⟩++b_int++_ from by rw [colX];simp only [if_true,if_false,ByteArray.append_assoc];rfl))
     clear HN0
     go_wp2_with (first | (go_at_call 70;with_reducible refine (HW.out _).mono ?_;rintro e w1 ⟨rfl,rfl⟩))
     go_roundw
     case rel=>exact ⟨k+1,_,by omega,by omega,by go_num,rfl,gH (by rw [HN.out];refine ba_ext ?_;simp [b_int,b_text,b_bang,b_nul]),trivial⟩
     case measure=>simp [intOf];omega
   ·by_cases k3:xk=3
    ·subst k3
     cases xu
     all_goals
      have HN:=gH (HN0.trans (show _=s++⟨#[32]⟩++wordT xn++⟨#[58]⟩++b_text++_ from by rw [colX];simp only [if_true,if_false,Int.reduceEq,ByteArray.append_assoc];rfl))
      clear HN0
      go_wp2_with (first | (go_at_call 70;with_reducible refine (HW.out _).mono ?_;rintro e w1 ⟨rfl,rfl⟩))
      go_roundw
      case rel=>exact ⟨k+1,_,by omega,by omega,by go_num,rfl,gH (by rw [HN.out];refine ba_ext ?_;simp [b_int,b_text,b_bang,b_nul]),trivial⟩
      case measure=>simp [intOf];omega
    ·cases xu
     all_goals
      have HN:=gH (HN0.trans (show _=s++⟨#[32]⟩++wordT xn++⟨#[58]⟩++b_bang++_ from by rw [colX];simp only [if_neg k2,if_neg k3,ByteArray.append_assoc];rfl))
      clear HN0
      go_wp2_with (first | (go_at_call 70;with_reducible refine (HW.out _).mono ?_;rintro e w1 ⟨rfl,rfl⟩))
      go_roundw
      case rel=>exact ⟨k+1,_,by omega,by omega,by go_num,rfl,gH (by rw [HN.out];refine ba_ext ?_;simp [b_int,b_text,b_bang,b_nul]),trivial⟩
      case measure=>simp [intOf];omega
  ·have HE:=gH (show colsT l=s from by unfold colsT;rw [take_end hk hk3 hgo,← HS.out])
   by_cases hlt:k < l.length
   ·have h3:¬ (k:Int) < 3000:=by omega
    clear hgo
    go_wp2_with fail
    go_ret
    exact ⟨by rw [HE.out];rfl,rfl⟩
   ·clear hgo
    go_wp2_with fail
    go_ret
    exact ⟨by rw [HE.out];rfl,rfl⟩
theorem values_dx (l:List Val) (A:Option Addr) (cap:Nat) (w:World) (hx:SlAt w 3 ValR A cap l) :
  Calls Tryz.prog 73 #[.slice A l.length cap] w fun e w'=>e=.returned (.string (valsT l))∧w=w':=by
 have hlen:=hx.len
 have HX:=gH hx
 clear hx
 go_enter Tryz.func73,Tryz.ntmps73
 go_wp2_with fail
 go_loopw [3,4] (fun s i wr=>∃ (k:Nat) (t:ByteArray),k≤l.length∧k≤3000∧i=.int .i64 k∧s=.string t∧Hid (t=spc ((l.take k).map valX)∧∀ x∈l.take k,okX x=true)∧w=wr) (fun _ i _=>l.length - (intOf i).toNat)
 case atStart=>exact ⟨0,_,Nat.zero_le _,by decide,rfl,rfl,gH ⟨rfl,by simp⟩,rfl⟩
 case round =>
  obtain ⟨k,s,hk,hk3,rfl,rfl,HS,rfl⟩:=hrel
  have z0:s.size≤200000:=by rw [HS.out.1];exact spc_le l valX k hk3 (fun x hx=>valX_le (HS.out.2 x hx))
  by_cases hgo:k < l.length∧k < 3000
  ·obtain ⟨hlt,h3⟩:=hgo
   have hlt':(k:Int) < (l.length:Int):=by omega
   have h3':(k:Int) < 3000:=by omega
   obtain ⟨b,off,rfl,hb,c0,c1,c2,hz⟩:=val_at HX.out hlt
   have HN0:spc ((l.take (k+1)).map valX)=s++⟨#[32]⟩++valX l[k]:=by rw [HS.out.1];exact spc_take hlt valX
   have HO0:∀ {x:Val},l[k]=x→okX x=true→∀ y∈l.take (k+1),okX y=true:=fun hx ho=>by
    rw [List.take_succ_eq_append_getElem hlt,hx]
    intro y hy
    rcases List.mem_append.1 hy with h | h
    ·exact HS.out.2 y h
    ·rw [List.mem_singleton.1 h];exact ho
   have HO1:∀ {x:Val},l[k]=x→okX x=false→valsX (l.take 3000)=[b_bang]:=fun {x} hx ho=>by
    unfold valsX
    rw [if_neg]
    intro h
    have:=List.all_eq_true.1 h x (hx▸mem_take3 hlt h3)
    rw [ho] at this;cases this
   obtain ⟨x,hxk⟩:∃ x,l[k]=x:=⟨_,rfl⟩
   have HO2:=fun h=>HO0 hxk h
   have HO3:=fun h=>HO1 hxk h
   rw [hxk] at c0 c1 c2 hz HN0
   obtain ⟨xk,xi,xt⟩:=x
   dsimp only at c0 c1 c2 hz
   clear HO0 HO1 hxk
   by_cases k1:xk=1
   ·subst k1
    have HN:=gH (HN0.trans (show _=s++⟨#[32,110,117,108,108]⟩ from by rw [valX,if_pos rfl,ByteArray.append_assoc];rfl))
    have HQ:=gH (HO2 (by simp [okX]))
    clear HN0 HO2 HO3 hz
    go_wp2_with fail
    go_roundw
    case rel=>exact ⟨k+1,_,by omega,by omega,by go_num,rfl,gH ⟨by first | (rw [HN.out];done) | (rw [HN.out];rfl),HQ.out⟩,trivial⟩
    case measure=>simp [intOf];omega
   ·by_cases k2:xk=2
    ·subst k2
     have HN:=gH (HN0.trans (show _=s++⟨#[32]⟩++numX xi from by rw [valX,if_neg k1,if_pos rfl]))
     have HQ:=gH (HO2 (by simp [okX]))
     have HW:=gH (show ∀ V,Calls Tryz.prog 41 #[.int .i64 xi] V fun e w'=>e=.returned (.string (numX xi))∧V=w' from fun V=>num_dx xi V)
     have zw:=numX_le xi
     clear HN0 HO2 HO3 hz
     go_wp2_with (first | (go_at_call 41;with_reducible refine (HW.out _).mono ?_;rintro e w1 ⟨rfl,rfl⟩))
     go_roundw
     case rel=>exact ⟨k+1,_,by omega,by omega,by go_num,rfl,gH ⟨by first | (rw [HN.out];done) | (rw [HN.out];rfl),HQ.out⟩,trivial⟩
     case measure=>simp [intOf];omega
    ·have e0:okX ⟨xk,xi,xt⟩=txtB xt:=by simp [okX,k1,k2]
     have HW0:=fun V:World=>plain_dn xt V hz
     cases ht:txtB xt
     ·have HW:=gH (show ∀ V,Calls Tryz.prog 89 #[.string xt] V fun e w'=>e=.returned (.bool false)∧V=w' from fun V=>ht▸HW0 V)
      have HF:=gH (show valsT l=spc [b_bang] from by unfold valsT;rw [HO3 (e0.trans ht)])
      clear HN0 HO2 HO3 HW0 e0 ht hz
      go_wp2_with (first | (go_at_call 89;with_reducible refine (HW.out _).mono ?_;rintro e w1 ⟨rfl,rfl⟩))
      go_ret
      exact ⟨by rw [HF.out];rfl,rfl⟩
     ·have HW:=gH (show ∀ V,Calls Tryz.prog 89 #[.string xt] V fun e w'=>e=.returned (.bool true)∧V=w' from fun V=>ht▸HW0 V)
      have zt:xt.size≤32:=by simp only [txtB,Bool.and_eq_true,decide_eq_true_eq] at ht;exact ht.2
      have HN:=gH (HN0.trans (show _=s++⟨#[32,39]⟩++xt from by rw [valX,if_neg k1,if_neg k2];refine ba_ext ?_;simp [b_quo]))
      have HQ:=gH (HO2 (e0.trans ht))
      clear HN0 HO2 HO3 HW0 e0 ht hz
      go_wp2_with (first | (go_at_call 89;with_reducible refine (HW.out _).mono ?_;rintro e w1 ⟨rfl,rfl⟩))
      go_roundw
      case rel=>exact ⟨k+1,_,by omega,by omega,by go_num,rfl,gH ⟨by first | (rw [HN.out];done) | (rw [HN.out];rfl),HQ.out⟩,trivial⟩
      case measure=>simp [intOf];omega
  ·have HE:=gH (show valsT l=s from by unfold valsT;rw [take_end hk hk3 hgo,HS.out.1];unfold valsX;rw [if_pos (List.all_eq_true.2 HS.out.2)])
   by_cases hlt:k < l.length
   ·have h3:¬ (k:Int) < 3000:=by omega
    clear hgo
    go_wp2_with fail
    go_ret
    exact ⟨by rw [HE.out];rfl,rfl⟩
   ·clear hgo
    go_wp2_with fail
    go_ret
    exact ⟨by rw [HE.out];rfl,rfl⟩
theorem first_dx (x:Cmd) (A:Option Addr) (k:Nat) (A2:Option Addr) (k2:Nat) (w:World) :
  Calls Tryz.prog 69 #[.agg #[.int .i64 x.kind,.string x.actor,.string x.schema,.string x.table,.string x.name,.string x.role,.slice A x.cols.length k,.string x.rule.name,.int .i64 x.rule.kind,.slice A2 x.rule.cols.length k2,.int .i64 x.rule.low,.int .i64 x.rule.high,.string x.rule.schema,.string x.rule.table,.string x.rule.key,.int .i64 x.right,.bool x.opt]] w fun e w'=>e=.returned (.string (firstX x))∧Aft w w':=by
 obtain ⟨W,hW⟩:∃ W,W=w.alloc (.cells #[.int .i64 x.kind,.string x.actor,.string x.schema,.string x.table,.string x.name,.string x.role,.slice A x.cols.length k,.string x.rule.name,.int .i64 x.rule.kind,.slice A2 x.rule.cols.length k2,.int .i64 x.rule.low,.int .i64 x.rule.high,.string x.rule.schema,.string x.rule.table,.string x.rule.key,.int .i64 x.right,.bool x.opt] 31):=⟨_,rfl⟩
 have aW:Aft w W:=by rw [hW];exact (Aft.refl w).alloc _
 have ra:RowAt W w.heap.size [.int .i64 x.kind,.string x.actor,.string x.schema,.string x.table,.string x.name,.string x.role,.slice A x.cols.length k,.string x.rule.name,.int .i64 x.rule.kind,.slice A2 x.rule.cols.length k2,.int .i64 x.rule.low,.int .i64 x.rule.high,.string x.rule.schema,.string x.rule.table,.string x.rule.key,.int .i64 x.right,.bool x.opt]:=by rw [hW];exact rowAt_newD w _ _
 have y0:=ra.cell (j:=0) rfl
 have y8:=ra.cell (j:=8) rfl
 have yb:=ra.1
 have HAW:=gH aW
 clear aW ra
 go_enter Tryz.func69,Tryz.ntmps69
 go_upto_region 1 with fail
 rw [← hW]
 clear hW
 go_wp2_with fail
 all_goals
  go_ret
  refine ⟨congrArg (fun s=>Ending.returned (.string s)) ?_,HAW.out⟩
  unfold firstX
  first | (simp only [beq_iff_eq,beq_eq_false_iff_ne,ne_eq] at *;simp [*,b_schema,b_dropschema,b_table,b_droptable,b_column,b_dropcolumn,b_droprule,b_owner,b_role,b_droprole,b_member,b_unmember,b_grant,b_revoke,b_index,b_key,b_check,b_foreign,b_bang];done) | (exfalso;simp_all;done)
theorem ite_le {c:Prop} [Decidable c] {a b:ByteArray} {n:Nat} (ha:a.size≤n) (hb:b.size≤n):(if c then a else b).size≤n:=by split<;>assumption
theorem firstX_le (x:Cmd):(firstX x).size≤10:=by
 unfold firstX
 repeat refine ite_le (by decide) ?_
 decide
theorem command_dx (x:Cmd) (A:Option Addr) (k:Nat) (A2:Option Addr) (k2:Nat) (w:World) (sm:SmC x) (hcc:SlAt w 3 ColR A k x.cols) (hc:SlAt w 1 StrR A2 k2 x.rule.cols) :
  Calls Tryz.prog 42 #[.agg #[.int .i64 x.kind,.string x.actor,.string x.schema,.string x.table,.string x.name,.string x.role,.slice A x.cols.length k,.string x.rule.name,.int .i64 x.rule.kind,.slice A2 x.rule.cols.length k2,.int .i64 x.rule.low,.int .i64 x.rule.high,.string x.rule.schema,.string x.rule.table,.string x.rule.key,.int .i64 x.right,.bool x.opt]] w fun e w'=>e=.returned (.string (spc (cmdX x)))∧Aft w w':=by
 obtain ⟨W,hW⟩:∃ W,W=w.alloc (.cells #[.int .i64 x.kind,.string x.actor,.string x.schema,.string x.table,.string x.name,.string x.role,.slice A x.cols.length k,.string x.rule.name,.int .i64 x.rule.kind,.slice A2 x.rule.cols.length k2,.int .i64 x.rule.low,.int .i64 x.rule.high,.string x.rule.schema,.string x.rule.table,.string x.rule.key,.int .i64 x.right,.bool x.opt] 31):=⟨_,rfl⟩
 have aW:Aft w W:=by rw [hW];exact (Aft.refl w).alloc _
 have ra:RowAt W w.heap.size [.int .i64 x.kind,.string x.actor,.string x.schema,.string x.table,.string x.name,.string x.role,.slice A x.cols.length k,.string x.rule.name,.int .i64 x.rule.kind,.slice A2 x.rule.cols.length k2,.int .i64 x.rule.low,.int .i64 x.rule.high,.string x.rule.schema,.string x.rule.table,.string x.rule.key,.int .i64 x.right,.bool x.opt]:=by rw [hW];exact rowAt_newD w _ _
 have y0:=ra.cell (j:=0) rfl
 have y1:=ra.cell (j:=1) rfl
 have y2:=ra.cell (j:=2) rfl
 have y3:=ra.cell (j:=3) rfl
 have y4:=ra.cell (j:=4) rfl
 have y5:=ra.cell (j:=5) rfl
 have y6:=ra.cell (j:=6) rfl
 have y7:=ra.cell (j:=7) rfl
 have y8:=ra.cell (j:=8) rfl
 have y9:=ra.cell (j:=9) rfl
 have y10:=ra.cell (j:=10) rfl
 have y11:=ra.cell (j:=11) rfl
 have y12:=ra.cell (j:=12) rfl
 have y13:=ra.cell (j:=13) rfl
 have y14:=ra.cell (j:=14) rfl
 have y15:=ra.cell (j:=15) rfl
 have y16:=ra.cell (j:=16) rfl
 have yb:=ra.1
 have HW:=gH (show ∀ s,(s=x.actor∨s=x.schema∨s=x.table∨s=x.name∨s=x.role∨s=x.rule.name∨s=x.rule.schema∨s=x.rule.table∨s=x.rule.key)→∀ V,Calls Tryz.prog 70 #[.string s] V fun e w'=>e=.returned (.string (wordT s))∧V=w' from fun s hs V=>by
  rcases hs with rfl | rfl | rfl | rfl | rfl | rfl | rfl | rfl | rfl
  ·exact word_dx _ V sm.actor
  ·exact word_dx _ V sm.schema
  ·exact word_dx _ V sm.table
  ·exact word_dx _ V sm.name
  ·exact word_dx _ V sm.role
  ·exact word_dx _ V sm.rname
  ·exact word_dx _ V sm.rs
  ·exact word_dx _ V sm.rt
  ·exact word_dx _ V sm.rk)
 have HF:=gH (show ∀ V,Calls Tryz.prog 69 #[.agg #[.int .i64 x.kind,.string x.actor,.string x.schema,.string x.table,.string x.name,.string x.role,.slice A x.cols.length k,.string x.rule.name,.int .i64 x.rule.kind,.slice A2 x.rule.cols.length k2,.int .i64 x.rule.low,.int .i64 x.rule.high,.string x.rule.schema,.string x.rule.table,.string x.rule.key,.int .i64 x.right,.bool x.opt]] V fun e w'=>e=.returned (.string (firstX x))∧Aft V w' from fun V=>first_dx x A k A2 k2 V)
 have zf:=firstX_le x
 have z0:=wordT_le x.actor
 have z1:=wordT_le x.schema
 have z2:=wordT_le x.table
 have z3:=wordT_le x.name
 have z4:=wordT_le x.role
 have z5:=wordT_le x.rule.name
 have z6:=wordT_le x.rule.schema
 have z7:=wordT_le x.rule.table
 have z8:=wordT_le x.rule.key
 have zl:=numX_le x.rule.low
 have zh:=numX_le x.rule.high
 have HJ:=gH (show ∀ V,Aft w V→Calls Tryz.prog 72 #[.slice A2 x.rule.cols.length k2] V fun e w'=>e=.returned (.string (joinT x.rule.cols))∧V=w' from fun V a=>joined_dx x.rule.cols A2 k2 V (strs_aft a hc))
 have HCO:=gH (show ∀ V,Aft w V→Calls Tryz.prog 71 #[.slice A x.cols.length k] V fun e w'=>e=.returned (.string (colsT x.cols))∧V=w' from fun V a=>columns_dx x.cols A k V (cols_aft a hcc))
 have zj:(joinT x.rule.cols).size≤200000:=spc_le x.rule.cols wordT 3000 (Nat.le_refl _) fun y _=>Nat.le_trans (wordT_le y) (by decide)
 have zc:(colsT x.cols).size≤200000:=spc_le x.cols colX 3000 (Nat.le_refl _) fun y _=>colX_le y
 have e1:(lvCmd ⟨w.heap.size,0,none⟩).run Tryz.prog W=.ok (.agg #[.int .i64 x.kind,.string x.actor,.string x.schema,.string x.table,.string x.name,.string x.role,.slice A x.cols.length k,.string x.rule.name,.int .i64 x.rule.kind,.slice A2 x.rule.cols.length k2,.int .i64 x.rule.low,.int .i64 x.rule.high,.string x.rule.schema,.string x.rule.table,.string x.rule.key,.int .i64 x.right,.bool x.opt]) W:=lvCmd_row ra rfl
 have HV:=gH aW
 clear aW ra sm hcc hc
 go_enter Tryz.func42,Tryz.ntmps42
 go_upto_region 1 with fail
 rw [← hW]
 clear hW
 (
  refine wp_region_lat (by kernel_rfl) (by kernel_rfl) ?_
  repeat (go_big_quiet_step ((first | (go_at_call 70;exact Calls.lat_same (HW.out _ (by simp) _)) | (go_at_call 41;exact Calls.lat_same (num_dx _ _)) | (go_at_call 69;exact Calls.lat_of (HF.out _)))))
  refine wpQuiet_nil ?_
  intro _ hw'
  obtain ⟨x9,hw''⟩:=hw'
  subst hw''
  have yl:=lt_lat _ x9 w.heap.size (by assumption))
 go_wp2_with (first | (go_at_call 70;(with_reducible refine (HW.out _ (by simp) _).mono ?_);rintro e w1 ⟨rfl,rfl⟩) | (go_at_call 71;(with_reducible refine (HCO.out _ (by first | exact HV.out | exact HV.out.lat _ | exact (HV.out.lat _).lat _ | exact ((HV.out.lat _).lat _).lat _)).mono ?_);rintro e w1 ⟨rfl,rfl⟩) | (go_at_call 72;(with_reducible refine (HJ.out _ (by first | exact HV.out | exact HV.out.lat _ | exact (HV.out.lat _).lat _ | exact ((HV.out.lat _).lat _).lat _)).mono ?_);rintro e w1 ⟨rfl,rfl⟩))
 iterate 4
  all_goals first
   | (
     go_ret
     refine ⟨congrArg (fun s=>Ending.returned (.string s)) (ba_ext ?_),by first | exact HV.out | exact HV.out.lat _ | exact (HV.out.lat _).lat _ | exact ((HV.out.lat _).lat _).lat _⟩
     first | (simp only [beq_iff_eq,beq_eq_false_iff_ne,ne_eq] at *;simp [cmdX,rulX,joinT,colsT,spc,wd_data,b_read,b_write,b_option, *];done) | (exfalso;simp_all;done))
   | (
    (
     refine wp_region_lat (by kernel_rfl) (by kernel_rfl) ?_
     repeat (go_big_quiet_step ((first | (go_at_call 70;exact Calls.lat_same (HW.out _ (by simp) _)) | (go_at_call 41;exact Calls.lat_same (num_dx _ _)))))
     refine wpQuiet_nil ?_
     intro _ hw'
     obtain ⟨x9,hw''⟩:=hw'
     subst hw''
     have yl:=lt_lat _ x9 w.heap.size (by assumption))
    go_wp2_with (first | (go_at_call 70;(with_reducible refine (HW.out _ (by simp) _).mono ?_);rintro e w1 ⟨rfl,rfl⟩) | (go_at_call 71;(with_reducible refine (HCO.out _ (by first | exact HV.out | exact HV.out.lat _ | exact (HV.out.lat _).lat _ | exact ((HV.out.lat _).lat _).lat _)).mono ?_);rintro e w1 ⟨rfl,rfl⟩) | (go_at_call 72;(with_reducible refine (HJ.out _ (by first | exact HV.out | exact HV.out.lat _ | exact (HV.out.lat _).lat _ | exact ((HV.out.lat _).lat _).lat _)).mono ?_);rintro e w1 ⟨rfl,rfl⟩)))
   | skip
theorem valsX_short (l:List Val):(∀ x∈valsX (l.take 3000),x.size≤64)∧(valsX (l.take 3000)).length≤3000:=by
 unfold valsX
 split
 ·rename_i h
  refine ⟨fun x hx=>?_,by rw [List.length_map,List.length_take];omega⟩
  obtain ⟨v,hv,rfl⟩:=List.mem_map.1 hx
  exact valX_le (List.all_eq_true.1 h v hv)
 ·exact ⟨fun x hx=>by rw [List.mem_singleton.1 hx];decide,by decide⟩
theorem valsT_le (l:List Val):(valsT l).size≤200000:=by
 have h1:=spc_size _ (valsX_short l).1
 have h2:=(valsX_short l).2
 unfold valsT
 omega
theorem wordT_le64 (s:ByteArray):(wordT s).size≤64:=Nat.le_trans (wordT_le s) (by decide)
theorem short_app {a b:Ws} {n m:Nat} (ha:ShortW n a) (hb:ShortW m b):ShortW (n+m) (a++b) :=
 ⟨by rw [List.length_append];exact Nat.add_le_add ha.1 hb.1,fun x hx=>(List.mem_append.1 hx).elim (ha.2 x) (hb.2 x)⟩
theorem short_cons {x:ByteArray} {b:Ws} {m:Nat} (hx:x.size≤64) (hb:ShortW m b):ShortW (m+1) (x::b) :=
 ⟨by rw [List.length_cons];exact Nat.succ_le_succ hb.1,fun y hy=>(List.mem_cons.1 hy).elim (fun e=>e▸hx) (hb.2 y)⟩
theorem short_nil:ShortW 0 []:=⟨Nat.le_refl _,fun x hx=>by cases hx⟩
theorem short_map {α:Type} (l:List α) (f:α→ByteArray) (hf:∀ x,(f x).size≤64):ShortW 3000 ((l.take 3000).map f) :=
 ⟨by rw [List.length_map,List.length_take];omega,fun x hx=>by obtain ⟨y,_,rfl⟩:=List.mem_map.1 hx;exact hf y⟩
theorem short_one {x:ByteArray} (hx:x.size≤64):ShortW 1 [x]:=short_cons hx short_nil
theorem short_ite {c:Prop} [Decidable c] {a b:Ws} {n:Nat} (ha:ShortW n a) (hb:ShortW n b):ShortW n (if c then a else b):=by split<;>assumption
theorem cmdX_shortW (x:Cmd):ShortW 3010 (cmdX x):=by
  unfold cmdX
  have W:=wordT_le64
  refine ShortW.le (short_cons (m:=3009) (Nat.le_trans (firstX_le x) (by decide)) (ShortW.le (short_cons (m:=3008) (W _) ?_) (by decide))) (by decide)
  refine short_ite ((short_one (W _)).le (by decide)) (short_ite ((short_one (W _)).le (by decide)) (short_ite ((short_cons (W _) (short_one (W _))).le (by decide)) ?_))
  refine ShortW.le (short_cons (m:=3007) (W _) (ShortW.le (short_cons (m:=3006) (W _) ?_) (by decide))) (by decide)
  refine short_ite ((short_map _ _ colX_le).le (by decide)) (short_ite ((short_one (W _)).le (by decide)) (short_ite ((short_one (W _)).le (by decide)) (short_ite ?_ (short_ite ?_ (short_nil.le (by decide))))))
  ·unfold rulX
   refine ShortW.le (short_cons (m:=3005) (W _) (ShortW.le (short_app (n:=3) (m:=3002) (short_ite ((short_cons (W _) (short_cons (W _) (short_one (W _))))) (short_nil.le (by decide))) (short_app (n:=3000) (m:=2) (short_map _ _ W) (short_ite (short_cons (numX_le _) (short_one (numX_le _))) (short_nil.le (by decide))))) (by decide))) (by decide)
  ·refine ShortW.le (short_cons (m:=3) (by split<;>decide) (ShortW.le (short_cons (m:=2) (W _) (short_ite ((short_one (by decide)).le (by decide)) (short_nil.le (by decide)))) (by decide))) (by decide)
theorem cmdX_size (x:Cmd):(spc (cmdX x)).size≤300000:=by
 have h:=cmdX_shortW x
 have:=spc_size (cmdX x) h.2
 have:=h.1
 omega
theorem rowX_shortW (r:ROp):ShortW 3010 (rowX r):=by
  have W:=wordT_le64
  have V:=valsX_short r.row
  have V1:ShortW 3000 (valsX [r.v]):=⟨(valsX_short [r.v]).2,(valsX_short [r.v]).1⟩
  have three:∀ {f:ByteArray} {m:Nat} {Y:Ws},f.size≤64→ShortW m Y→ShortW (m+4) (f::wordT r.role::wordT r.schema::wordT r.table::Y):=fun hf hY=>short_cons hf (short_cons (W _) (short_cons (W _) (short_cons (W _) hY)))
  unfold rowX
  exact short_ite ((three (by decide) ⟨V.2,V.1⟩).le (by decide)) (short_ite ((three (by decide) (short_cons (W _) V1)).le (by decide)) ((three (by decide) (short_ite (short_nil.le (by decide)) (short_cons (W _) V1))).le (by decide)))
theorem rowX_size (r:ROp):(spc (rowX r)).size≤300000:=by
 have h:=rowX_shortW r
 have:=spc_size (rowX r) h.2
 have:=h.1
 omega
theorem docT_small (a:Dact):Small (docT a).size:=by
 have h:ShortW 9000 (actX a):=by
  have W:=wordT_le64
  have N:=numX_le
  have C:=cmdX_shortW a.cmd
  have R:=rowX_shortW a.row
  unfold actX
  have n1:∀ {f:ByteArray} {n:Int},f.size≤64→ShortW 9000 [f,numX n]:=fun hf=>(short_cons hf (short_one (N _))).le (by decide)
  have n2:∀ {f:ByteArray} {n m:Int},f.size≤64→ShortW 9000 [f,numX n,numX m]:=fun hf=>(short_cons hf (short_cons (N _) (short_one (N _)))).le (by decide)
  have n3:∀ {f:ByteArray} {n m o:Int},f.size≤64→ShortW 9000 [f,numX n,numX m,numX o]:=fun hf=>(short_cons hf (short_cons (N _) (short_cons (N _) (short_one (N _))))).le (by decide)
  refine short_ite (n1 (by decide)) (short_ite ((short_one (by decide)).le (by decide)) (short_ite (n1 (by decide)) (short_ite (n1 (by decide)) (short_ite (n1 (by decide)) (short_ite (n1 (by decide)) (short_ite ?_ (short_ite (n3 (by decide)) (short_ite (n2 (by decide)) (short_ite ?_ (short_ite (n2 (by decide)) (n2 (ite_le (by decide) (ite_le (by decide) (by decide))))))))))))))
  ·exact (short_cons (m:=3013) (by decide) (short_cons (m:=3012) (N _) (short_cons (m:=3011) (N _) (short_cons (m:=3010) (N _) C)))).le (by decide)
  ·exact (short_cons (m:=3011) (by decide) (short_cons (m:=3010) (N _) R)).le (by decide)
 have:=line_small h
 unfold docT lineB Small
 rw [wd_size];omega
theorem row_dx (r:ROp) (A3:Option Addr) (k3:Nat) (w:World) (sm:SmO r) (hv:SlAt w 3 ValR A3 k3 r.row) :
  Calls Tryz.prog 43 #[.agg #[.int .i64 r.kind,.string r.role,.string r.schema,.string r.table,.slice A3 r.row.length k3,.string r.col,.int .i64 r.v.kind,.int .i64 r.v.int,.string r.v.text]] w fun e w'=>e=.returned (.string (spc (rowX r)))∧Aft w w':=by
 obtain ⟨W,hW⟩:∃ W,W=w.alloc (.cells #[.int .i64 r.kind,.string r.role,.string r.schema,.string r.table,.slice A3 r.row.length k3,.string r.col,.int .i64 r.v.kind,.int .i64 r.v.int,.string r.v.text] 41):=⟨_,rfl⟩
 have aW:Aft w W:=by rw [hW];exact (Aft.refl w).alloc _
 have ra:RowAt W w.heap.size [.int .i64 r.kind,.string r.role,.string r.schema,.string r.table,.slice A3 r.row.length k3,.string r.col,.int .i64 r.v.kind,.int .i64 r.v.int,.string r.v.text]:=by rw [hW];exact rowAt_newD w _ _
 have y0:=ra.cell (j:=0) rfl
 have y1:=ra.cell (j:=1) rfl
 have y2:=ra.cell (j:=2) rfl
 have y3:=ra.cell (j:=3) rfl
 have y4:=ra.cell (j:=4) rfl
 have y5:=ra.cell (j:=5) rfl
 have y6:=ra.cell (j:=6) rfl
 have y7:=ra.cell (j:=7) rfl
 have y8:=ra.cell (j:=8) rfl
 have yb:=ra.1
 have HW:=gH (show ∀ s,(s=r.role∨s=r.schema∨s=r.table∨s=r.col)→∀ V,Calls Tryz.prog 70 #[.string s] V fun e w'=>e=.returned (.string (wordT s))∧V=w' from fun s hs V=>by
  rcases hs with rfl | rfl | rfl | rfl
  ·exact word_dx _ V sm.role
  ·exact word_dx _ V sm.schema
  ·exact word_dx _ V sm.table
  ·exact word_dx _ V sm.col)
 have z0:=wordT_le r.role
 have z1:=wordT_le r.schema
 have z2:=wordT_le r.table
 have z3:=wordT_le r.col
 have hst:=sm.text
 have HVA:=gH (show ∀ V,Aft w V→Calls Tryz.prog 73 #[.slice A3 r.row.length k3] V fun e w'=>e=.returned (.string (valsT r.row))∧V=w' from fun V a=>values_dx r.row A3 k3 V (hv.aft a fun _ _ h=>h))
 have HV1:=gH (show ∀ (V:World) (b:Nat),b < V.heap.size→(∀ o,V.cell? ⟨b,o,none⟩=#[Value.int .i64 r.v.kind,.int .i64 r.v.int,.string r.v.text][o]?)→Calls Tryz.prog 73 #[.slice (some ⟨b,0,none⟩) 1 1] V fun e w'=>e=.returned (.string (valsT [r.v]))∧V=w' from fun V b hb hc=>values_dx [r.v] _ 1 V (slAt_one _ _ _ hb hc rfl rfl ⟨rfl,hst⟩ (by omega)))
 have zv:=valsT_le r.row
 have zw:=valsT_le [r.v]
 have HV:=gH aW
 clear aW ra sm hv
 have KX:=gH (show ∀ V,Aft W V→(V.cell? ⟨w.heap.size,5,none⟩=some (.string r.col)∧V.cell? ⟨w.heap.size,6,none⟩=some (.int .i64 r.v.kind)∧V.cell? ⟨w.heap.size,7,none⟩=some (.int .i64 r.v.int)∧V.cell? ⟨w.heap.size,8,none⟩=some (.string r.v.text)) from fun V a=>⟨a.cell_kept y5,a.cell_kept y6,a.cell_kept y7,a.cell_kept y8⟩)
 go_enter Tryz.func43,Tryz.ntmps43
 go_upto_region 1 with fail
 rw [← hW]
 clear hW
 (
  refine wp_region_lat (by kernel_rfl) (by kernel_rfl) ?_
  repeat (go_big_quiet_step ((first | (go_at_call 70;exact Calls.lat_same (HW.out _ (by simp) _)) | (go_at_call 41;exact Calls.lat_same (num_dx _ _)))))
  refine wpQuiet_nil ?_
  intro _ hw'
  obtain ⟨x9,hw''⟩:=hw'
  subst hw''
  have yl:=lt_lat _ x9 w.heap.size (by assumption))
 obtain ⟨V,hV⟩:∃ V,V=lat W x9:=⟨_,rfl⟩
 have aV:Aft W V:=by rw [hV];exact (Aft.refl W).lat x9
 rw [← hV]
 clear hV
 have y0:=aV.cell_kept y0
 have y4:=aV.cell_kept y4
 have y5:=aV.cell_kept y5
 have y6:=aV.cell_kept y6
 have y7:=aV.cell_kept y7
 have y8:=aV.cell_kept y8
 have yb:=Nat.lt_of_lt_of_le yb aV.size
 have KV:=gH (show ∀ U,Aft V U→_ from fun U a=>KX.out U (aV.trans a))
 have HV:=gH (HV.out.trans aV)
 clear KX aV
 have g1:¬ 9223372036854775807 < 1+(wordT r.col).size:=by omega
 have g2:¬ 9223372036854775807 < 1+(wordT r.col).size+(valsT [r.v]).size:=by omega
 go_wp2_with fail
 go_region_held3 (fun V=>V.cell? ⟨w.heap.size,5,none⟩=some (.string r.col)∧V.cell? ⟨w.heap.size,6,none⟩=some (.int .i64 r.v.kind)∧V.cell? ⟨w.heap.size,7,none⟩=some (.int .i64 r.v.int)∧V.cell? ⟨w.heap.size,8,none⟩=some (.string r.v.text))
  (
  (
   refine KV.out _ ?_;first
   | with_reducible exact (Aft.refl _).drew
   | with_reducible exact ((Aft.refl _).alloc _).drew
   | with_reducible exact ((Aft.refl _).drew).alloc _
   | fail))
  (
  (
   first
   | (go_at_call 70;(with_reducible refine (HW.out _ (by simp) _).mono ?_);rintro e w1 ⟨rfl,rfl⟩)
   | (go_at_call 73;refine (HV1.out _ _ (by simp) (fun o=>by simp)).mono ?_;rintro e w1 ⟨rfl,rfl⟩)))
 all_goals
  go_wp2_with (go_at_call 73;(with_reducible refine (HVA.out _ (by first | with_reducible exact HV.out.trans ((Aft.refl _).alloc _).drew | with_reducible exact HV.out.trans ((Aft.refl _).drew.alloc _))).mono ?_);rintro e w1 ⟨rfl,rfl⟩)
  all_goals
   go_ret
   refine ⟨congrArg (fun s=>Ending.returned (.string s)) (ba_ext ?_),by first | with_reducible exact HV.out.trans ((Aft.refl _).alloc _).drew | with_reducible exact HV.out.trans ((Aft.refl _).drew.alloc _)⟩
   simp only [beq_iff_eq,beq_eq_false_iff_ne,ne_eq] at *
   first | (simp [rowX,valsT,spc,wd_data,b_insert,b_remove,b_select,← isEmp_eqS, *];done) | (exfalso;simp_all;done)
theorem act_dx (a:Dact) (A:Option Addr) (k:Nat) (A2:Option Addr) (k2:Nat) (A3:Option Addr) (k3:Nat) (w:World) (hx:ActG w a A k A2 k2 A3 k3) :
  Calls Tryz.prog 25 #[.agg #[.int .i64 a.kind,.int .i64 a.node,.int .i64 a.n,.int .i64 a.client,.int .i64 a.number,.int .i64 a.cmd.kind,.string a.cmd.actor,.string a.cmd.schema,.string a.cmd.table,.string a.cmd.name,.string a.cmd.role,.slice A a.cmd.cols.length k,.string a.cmd.rule.name,.int .i64 a.cmd.rule.kind,.slice A2 a.cmd.rule.cols.length k2,.int .i64 a.cmd.rule.low,.int .i64 a.cmd.rule.high,.string a.cmd.rule.schema,.string a.cmd.rule.table,.string a.cmd.rule.key,.int .i64 a.cmd.right,.bool a.cmd.opt,.int .i64 a.ck,.int .i64 a.cn,.int .i64 a.row.kind,.string a.row.role,.string a.row.schema,.string a.row.table,.slice A3 a.row.row.length k3,.string a.row.col,.int .i64 a.row.v.kind,.int .i64 a.row.v.int,.string a.row.v.text]] w fun e w'=>e=.returned (.string (docT a))∧Aft w w':=by
 obtain ⟨W,hW⟩:∃ W,W=w.alloc (.cells #[.int .i64 a.kind,.int .i64 a.node,.int .i64 a.n,.int .i64 a.client,.int .i64 a.number,.int .i64 a.cmd.kind,.string a.cmd.actor,.string a.cmd.schema,.string a.cmd.table,.string a.cmd.name,.string a.cmd.role,.slice A a.cmd.cols.length k,.string a.cmd.rule.name,.int .i64 a.cmd.rule.kind,.slice A2 a.cmd.rule.cols.length k2,.int .i64 a.cmd.rule.low,.int .i64 a.cmd.rule.high,.string a.cmd.rule.schema,.string a.cmd.rule.table,.string a.cmd.rule.key,.int .i64 a.cmd.right,.bool a.cmd.opt,.int .i64 a.ck,.int .i64 a.cn,.int .i64 a.row.kind,.string a.row.role,.string a.row.schema,.string a.row.table,.slice A3 a.row.row.length k3,.string a.row.col,.int .i64 a.row.v.kind,.int .i64 a.row.v.int,.string a.row.v.text] 43):=⟨_,rfl⟩
 have aW:Aft w W:=by rw [hW];exact (Aft.refl w).alloc _
 have ra:RowAt W w.heap.size [.int .i64 a.kind,.int .i64 a.node,.int .i64 a.n,.int .i64 a.client,.int .i64 a.number,.int .i64 a.cmd.kind,.string a.cmd.actor,.string a.cmd.schema,.string a.cmd.table,.string a.cmd.name,.string a.cmd.role,.slice A a.cmd.cols.length k,.string a.cmd.rule.name,.int .i64 a.cmd.rule.kind,.slice A2 a.cmd.rule.cols.length k2,.int .i64 a.cmd.rule.low,.int .i64 a.cmd.rule.high,.string a.cmd.rule.schema,.string a.cmd.rule.table,.string a.cmd.rule.key,.int .i64 a.cmd.right,.bool a.cmd.opt,.int .i64 a.ck,.int .i64 a.cn,.int .i64 a.row.kind,.string a.row.role,.string a.row.schema,.string a.row.table,.slice A3 a.row.row.length k3,.string a.row.col,.int .i64 a.row.v.kind,.int .i64 a.row.v.int,.string a.row.v.text]:=by rw [hW];exact rowAt_newD w _ _
 have y0:=ra.cell (j:=0) rfl
 have y1:=ra.cell (j:=1) rfl
 have y2:=ra.cell (j:=2) rfl
 have y3:=ra.cell (j:=3) rfl
 have y4:=ra.cell (j:=4) rfl
 have y5:=ra.cell (j:=5) rfl
 have y6:=ra.cell (j:=6) rfl
 have y7:=ra.cell (j:=7) rfl
 have y8:=ra.cell (j:=8) rfl
 have y9:=ra.cell (j:=9) rfl
 have y10:=ra.cell (j:=10) rfl
 have y11:=ra.cell (j:=11) rfl
 have y12:=ra.cell (j:=12) rfl
 have y13:=ra.cell (j:=13) rfl
 have y14:=ra.cell (j:=14) rfl
 have y15:=ra.cell (j:=15) rfl
 have y16:=ra.cell (j:=16) rfl
 have y17:=ra.cell (j:=17) rfl
 have y18:=ra.cell (j:=18) rfl
 have y19:=ra.cell (j:=19) rfl
 have y20:=ra.cell (j:=20) rfl
 have y21:=ra.cell (j:=21) rfl
 have y22:=ra.cell (j:=22) rfl
 have y23:=ra.cell (j:=23) rfl
 have y24:=ra.cell (j:=24) rfl
 have y25:=ra.cell (j:=25) rfl
 have y26:=ra.cell (j:=26) rfl
 have y27:=ra.cell (j:=27) rfl
 have y28:=ra.cell (j:=28) rfl
 have y29:=ra.cell (j:=29) rfl
 have y30:=ra.cell (j:=30) rfl
 have y31:=ra.cell (j:=31) rfl
 have y32:=ra.cell (j:=32) rfl
 have yb:=ra.1
 have hxW:=hx.aft aW
 have HV:=gH aW
 have z0:=numX_le a.node
 have z1:=numX_le a.n
 have z2:=numX_le a.client
 have z3:=numX_le a.number
 have z4:=numX_le a.cn
 have zc:=cmdX_size a.cmd
 have zr:=rowX_size a.row
 clear aW ra
 go_enter Tryz.func25,Tryz.ntmps25
 go_upto_region 1 with fail
 rw [← hW]
 clear hW
 go_wp2_with (first | (go_at_call 41;(with_reducible refine (num_dx _ _).mono ?_);rintro e w1 ⟨rfl,rfl⟩) | (go_at_call 42;(with_reducible refine HC.out.mono ?_);rintro e w1 ⟨rfl,a1⟩;have HC1:=gH a1;clear a1) | (go_at_call 43;(with_reducible refine HR.out.mono ?_);rintro e w1 ⟨rfl,a1⟩;have HC1:=gH a1;clear a1))
 (
  refine wp_region_lat (by kernel_rfl) (by kernel_rfl) ?_
  repeat (go_big_quiet_step ((first | (go_at_call 70;exact Calls.lat_same (HW0.out _)) | (go_at_call 41;exact Calls.lat_same (num_dx _ _)))))
  refine wpQuiet_nil ?_
  intro _ hw'
  obtain ⟨x9,hw''⟩:=hw'
  subst hw''
  have yl:=lt_lat _ x9 w.heap.size (by assumption))
 have HC:=gH (show Calls Tryz.prog 42 #[.agg #[.int .i64 a.cmd.kind,.string a.cmd.actor,.string a.cmd.schema,.string a.cmd.table,.string a.cmd.name,.string a.cmd.role,.slice A a.cmd.cols.length k,.string a.cmd.rule.name,.int .i64 a.cmd.rule.kind,.slice A2 a.cmd.rule.cols.length k2,.int .i64 a.cmd.rule.low,.int .i64 a.cmd.rule.high,.string a.cmd.rule.schema,.string a.cmd.rule.table,.string a.cmd.rule.key,.int .i64 a.cmd.right,.bool a.cmd.opt]] (lat W x9) fun e w'=>e=.returned (.string (spc (cmdX a.cmd)))∧Aft (lat W x9) w' from command_dx a.cmd A k A2 k2 _ hxW.sm (hxW.x.cols.aft ((Aft.refl W).lat x9) fun _ _ h=>h) (hxW.x.nms.aft ((Aft.refl W).lat x9) fun _ _ h=>h))
 have HR:=gH (show Calls Tryz.prog 43 #[.agg #[.int .i64 a.row.kind,.string a.row.role,.string a.row.schema,.string a.row.table,.slice A3 a.row.row.length k3,.string a.row.col,.int .i64 a.row.v.kind,.int .i64 a.row.v.int,.string a.row.v.text]] (lat W x9) fun e w'=>e=.returned (.string (spc (rowX a.row)))∧Aft (lat W x9) w' from row_dx a.row A3 k3 _ hxW.so (hxW.x.vals.aft ((Aft.refl W).lat x9) fun _ _ h=>h))
 clear hxW hx
 go_wp2_with (first | (go_at_call 41;(with_reducible refine (num_dx _ _).mono ?_);rintro e w1 ⟨rfl,rfl⟩) | (go_at_call 42;(with_reducible refine HC.out.mono ?_);rintro e w1 ⟨rfl,a1⟩;have HC1:=gH a1;clear a1) | (go_at_call 43;(with_reducible refine HR.out.mono ?_);rintro e w1 ⟨rfl,a1⟩;have HC1:=gH a1;clear a1))
 all_goals (
   go_ret
   refine ⟨congrArg (fun s=>Ending.returned (.string s)) (ba_ext ?_),by first | with_reducible exact HV.out.lat _ | with_reducible exact (HV.out.lat _).trans HC1.out⟩
   first | (simp only [beq_iff_eq,beq_eq_false_iff_ne,ne_eq] at *;simp [docT,actX,line_spc,spc,wd_data,b_tick,b_world,b_start,b_deliver,b_drop,b_double,b_ask,b_read,b_lease,b_row,b_crash,b_learner,b_voter,b_remove, *];done) | (exfalso;simp_all;done))
end Go.Proofs.YtbdanlipghhgpaaGreatDoor
