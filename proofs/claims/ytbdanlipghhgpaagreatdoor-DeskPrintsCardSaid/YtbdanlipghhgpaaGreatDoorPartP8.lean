import Derived.Recover
import Derived.Defers
import Derived.Deep.Cut
import Derived.Lib.CountLaws
import Derived.Test.YtbdanlipghhgpaaGreatDoorPartP7
namespace Go.Proofs.YtbdanlipghhgpaaGreatDoor
open Go.RowKit Go.Deep
set_option maxRecDepth 100000
set_option linter.unusedVariables false
set_option maxHeartbeats 64000000
def actV (a:Dact) (A:Option Addr) (k:Nat) (A2:Option Addr) (k2:Nat) (A3:Option Addr) (k3:Nat):List Value :=
 [.int .i64 a.kind,.int .i64 a.node,.int .i64 a.n,.int .i64 a.client,.int .i64 a.number]++(cmdV a.cmd A k A2 k2++([.int .i64 a.ck,.int .i64 a.cn]++ropV a.row A3 k3))
structure RopOk (x:ROp):Prop where
 role:NmZ x.role
 schema:NmZ x.schema
 table:NmZ x.table
 col:NmZ x.col
 text:Small x.v.text.size
def ActV (b B:Nat) (w':World) (v:Value) (a:Dact):Prop :=
 ∃ A k A2 k2 A3 k3,v=.agg (actV a A k A2 k2 A3 k3).toArray∧ColsV b B w' (.slice A a.cmd.cols.length k) a.cmd.cols∧NamesV b B w' (.slice A2 a.cmd.rule.cols.length k2) a.cmd.rule.cols∧ValsV b B w' (.slice A3 a.row.row.length k3) a.row.row∧CmdOk a.cmd∧RopOk a.row
theorem cmdOk_z:CmdOk zCmd:=⟨.inl rfl,.inl rfl,.inl rfl,.inl rfl,.inl rfl,.inl rfl,.inl rfl,.inl rfl,.inl rfl⟩
theorem ropOk_z:RopOk zROp:=⟨.inl rfl,.inl rfl,.inl rfl,.inl rfl,small_z⟩
theorem actV_plain {b B:Nat} {w:World} {v:Value} {a:Dact} (hb:b < B) (hv:v=.agg (actV a none 0 none 0 none 0).toArray) (hc:a.cmd=zCmd) (hr:a.row=zROp):ActV b B w v a :=
 ⟨none,0,none,0,none,0,hv,by rw [hc];exact cols_nil b B w hb,by rw [hc];exact names_nil b B w hb,by rw [hr];exact vals_nil b B w hb,by rw [hc];exact cmdOk_z,by rw [hr];exact ropOk_z⟩
theorem act_cases {b p B:Nat} {W:Ws} {w:World} {o:Option (Dact × Ws)} {e:Ending} {w':World} (h:RdQ b p w (ActV b B) o e w') :
  (o=none∧e=.panicked [{ v:=.iface 74 (.agg #[]),recovered:=false }]∧Kw b w w')∨∃ a A k A2 k2 A3 k3 W',o=some (a,W')∧e=.returned (.agg (actV a A k A2 k2 A3 k3).toArray) ∧
   (ColsV b B w' (.slice A a.cmd.cols.length k) a.cmd.cols∧NamesV b B w' (.slice A2 a.cmd.rule.cols.length k2) a.cmd.rule.cols∧ValsV b B w' (.slice A3 a.row.row.length k3) a.row.row∧CmdOk a.cmd∧RopOk a.row)∧WdS w' b p W'∧Kw b w w':=by
 obtain ⟨k,h2⟩:=h
 cases o with
 | none=>exact .inl ⟨rfl,h2,k⟩
 | some y =>
  obtain ⟨a,W'⟩:=y
  obtain ⟨v,rfl,⟨A,q,A2,q2,A3,q3,rfl,h3⟩,h4⟩:=h2
  exact .inr ⟨a,A,q,A2,q2,A3,q3,W',rfl,rfl,h3,h4,k⟩
structure Br (b p r:Nat) (w V:World) (W:Ws) (zs:List Value):Prop where
 ds:WdS V b p W
 res:RowAt V r zs
 kw:Kw b w V
 fb:b < w.heap.size
 fp:p < w.heap.size
 fl:0 < b
 fr:w.heap.size≤r
theorem Br.call {b p r:Nat} {w V V1:World} {W W1:Ws} {zs:List Value} (X:Br b p r w V W zs) (k:Kw b V V1) (d:WdS V1 b p W1):Br b p r w V1 W1 zs :=
 ⟨d,X.res.kw k (by have:=X.fb;have:=X.fr;omega),X.kw.trans k,X.fb,X.fp,X.fl,X.fr⟩
theorem Br.start {b p:Nat} {w w1:World} {W:Ws} {zs:List Value} {t:TypeId} (hb:b < w.heap.size) (hp:p < w.heap.size) (hl:0 < b) (k:Kw b (w.alloc (.cells zs.toArray t)) w1) (d:WdS w1 b p W):Br b p w.heap.size w w1 W zs :=
 ⟨d,(rowAt_newD w zs t).kw k (by omega),((Kw.refl b w).alloc _).trans k,hb,hp,hl,Nat.le_refl _⟩
theorem Br.fin {b p r:Nat} {w V:World} {W:Ws} {zs cs:List Value} (X:Br b p r w V W zs) (hz:zs.length=cs.length) :
  RowAt (V.setCells r 0 cs) r cs∧Kw b w (V.setCells r 0 cs)∧WdS (V.setCells r 0 cs) b p W∧Kb (fun k=>k=r) V (V.setCells r 0 cs):=by
 have kb:=kb_setCellsD r cs V 0
 refine ⟨by simpa using row_setCells cs V [] zs X.res hz,?_,X.ds.kb kb (by have:=X.fb;have:=X.fr;omega) (by have:=X.fp;have:=X.fr;omega) (by have:=X.fb;have:=X.fl;have:=X.fr;omega),kb⟩
 exact ⟨kb.os.trans X.kw.os,kb.tape.trans X.kw.tape,kb.output.trans X.kw.output,Nat.le_trans X.kw.size kb.size,fun j hj hne=>(kb.block j (Nat.lt_of_lt_of_le hj X.kw.size) (by have:=X.fr;omega)).trans (X.kw.block j hj hne)⟩
theorem row_setMid {x:Nat}:∀ (vs mid post:List Value) (V:World) (pre:List Value),RowAt V x (pre++(mid++post))→mid.length=vs.length→RowAt (V.setCells x pre.length vs) x (pre++(vs++post))
 | [],mid,post,V,pre,h,hl=>by
  have:mid=[]:=List.eq_nil_of_length_eq_zero hl
  subst this;exact h
 | v::vs,[],post,V,pre,h,hl=>by simp at hl
 | v::vs,c::mid,post,V,pre,h,hl=>by
  have h1:=h.set pre.length v (by simp)
  have e:(pre++(c::mid++post)).set pre.length v=(pre++[v])++(mid++post):=by simp
  rw [e] at h1
  have h2:=row_setMid vs mid post _ (pre++[v]) h1 (by simpa using hl)
  rw [show (pre++[v]).length=pre.length+1 by simp,List.append_assoc] at h2
  exact h2
theorem Bx.sets {b p r x:Nat} {w V:World} {W:Ws} {zs:List Value} {pre mid post vs:List Value} (X:Bx b p r x w V W zs (pre++(mid++post))) (S:Bs b p r x w) (hm:mid.length=vs.length):Bx b p r x w (V.setCells x pre.length vs) W zs (pre++(vs++post)):=by
 have kb:=kb_setCellsD x vs V pre.length
 refine ⟨X.ds.kb kb (by have:=S.fb;have:=S.fx;omega) (by have:=S.fp;have:=S.fx;omega) (by have:=S.fb;have:=S.fl;have:=S.fx;omega),?_,Kb.row kb X.res S.fn,?_⟩
 ·exact row_setMid vs mid post V pre X.row hm
 ·exact ⟨kb.os.trans X.kw.os,kb.tape.trans X.kw.tape,kb.output.trans X.kw.output,Nat.le_trans X.kw.size kb.size,fun j hj hne=>(kb.block j (Nat.lt_of_lt_of_le hj X.kw.size) (by have:=S.fx;omega)).trans (X.kw.block j hj hne)⟩
def actT (f:ByteArray) (W:Ws):Option (Dact × Ws) :=
 if eqS f b_tick then (numP W).bind fun (n,W)=>some ({ zAct with kind:=1,node:=n },W)
 else if eqS f b_world then some ({ zAct with kind:=2 },W)
 else if eqS f b_start then (numP W).bind fun (n,W)=>some ({ zAct with kind:=12,node:=n },W)
 else if eqS f b_deliver then (numP W).bind fun (n,W)=>some ({ zAct with kind:=3,n:=n },W)
 else if eqS f b_drop then (numP W).bind fun (n,W)=>some ({ zAct with kind:=4,n:=n },W)
 else if eqS f b_double then (numP W).bind fun (n,W)=>some ({ zAct with kind:=5,n:=n },W)
 else if eqS f b_ask then (threeP 6 W).bind fun (a,W)=>(cmdP W).bind fun (x,W)=>some ({ a with cmd:=x },W)
 else if eqS f b_read then threeP 7 W
 else if eqS f b_learner then chgP 1 W
 else if eqS f b_voter then chgP 2 W
 else if eqS f b_remove then chgP 3 W
 else if eqS f b_lease then (numP W).bind fun (n,W)=>(numP W).bind fun (m,W)=>some ({ zAct with kind:=9,n:=n,node:=m },W)
 else if eqS f b_row then (numP W).bind fun (n,W)=>(rowP W).bind fun (x,W)=>some ({ zAct with kind:=10,n:=n,row:=x },W)
 else if eqS f b_crash then (numP W).bind fun (n,W)=>(numP W).bind fun (m,W)=>some ({ zAct with kind:=11,node:=n,n:=m },W)
 else none
theorem actP_cons (f:ByteArray) (W:Ws):actP (f::W)=actT f W:=rfl
theorem act_tick (W:Ws):actP (b_tick::W)=((numP W).bind fun (n,W)=>some ({ zAct with kind:=1,node:=n },W)):=by
 rw [actP_cons];unfold actT
 rw [if_pos (eqS_yes _)]
theorem act_world (W:Ws):actP (b_world::W)=(some ({ zAct with kind:=2 },W)):=by
 rw [actP_cons];unfold actT
 rw [if_neg (neB (by decide)),if_pos (eqS_yes _)]
theorem act_start (W:Ws):actP (b_start::W)=((numP W).bind fun (n,W)=>some ({ zAct with kind:=12,node:=n },W)):=by
 rw [actP_cons];unfold actT
 rw [if_neg (neB (by decide)),if_neg (neB (by decide)),if_pos (eqS_yes _)]
theorem act_deliver (W:Ws):actP (b_deliver::W)=((numP W).bind fun (n,W)=>some ({ zAct with kind:=3,n:=n },W)):=by
 rw [actP_cons];unfold actT
 rw [if_neg (neB (by decide)),if_neg (neB (by decide)),if_neg (neB (by decide)),if_pos (eqS_yes _)]
theorem act_drop (W:Ws):actP (b_drop::W)=((numP W).bind fun (n,W)=>some ({ zAct with kind:=4,n:=n },W)):=by
 rw [actP_cons];unfold actT
 rw [if_neg (neB (by decide)),if_neg (neB (by decide)),if_neg (neB (by decide)),if_neg (neB (by decide)),if_pos (eqS_yes _)]
theorem act_double (W:Ws):actP (b_double::W)=((numP W).bind fun (n,W)=>some ({ zAct with kind:=5,n:=n },W)):=by
 rw [actP_cons];unfold actT
 rw [if_neg (neB (by decide)),if_neg (neB (by decide)),if_neg (neB (by decide)),if_neg (neB (by decide)),if_neg (neB (by decide)),if_pos (eqS_yes _)]
theorem act_ask (W:Ws):actP (b_ask::W)=((threeP 6 W).bind fun (a,W)=>(cmdP W).bind fun (x,W)=>some ({ a with cmd:=x },W)):=by
 rw [actP_cons];unfold actT
 rw [if_neg (neB (by decide)),if_neg (neB (by decide)),if_neg (neB (by decide)),if_neg (neB (by decide)),if_neg (neB (by decide)),if_neg (neB (by decide)),if_pos (eqS_yes _)]
theorem act_read (W:Ws):actP (b_read::W)=(threeP 7 W):=by
 rw [actP_cons];unfold actT
 rw [if_neg (neB (by decide)),if_neg (neB (by decide)),if_neg (neB (by decide)),if_neg (neB (by decide)),if_neg (neB (by decide)),if_neg (neB (by decide)),if_neg (neB (by decide)),if_pos (eqS_yes _)]
theorem act_learner (W:Ws):actP (b_learner::W)=(chgP 1 W):=by
 rw [actP_cons];unfold actT
 rw [if_neg (neB (by decide)),if_neg (neB (by decide)),if_neg (neB (by decide)),if_neg (neB (by decide)),if_neg (neB (by decide)),if_neg (neB (by decide)),if_neg (neB (by decide)),if_neg (neB (by decide)),if_pos (eqS_yes _)]
theorem act_voter (W:Ws):actP (b_voter::W)=(chgP 2 W):=by
 rw [actP_cons];unfold actT
 rw [if_neg (neB (by decide)),if_neg (neB (by decide)),if_neg (neB (by decide)),if_neg (neB (by decide)),if_neg (neB (by decide)),if_neg (neB (by decide)),if_neg (neB (by decide)),if_neg (neB (by decide)),if_neg (neB (by decide)),if_pos (eqS_yes _)]
theorem act_remove (W:Ws):actP (b_remove::W)=(chgP 3 W):=by
 rw [actP_cons];unfold actT
 rw [if_neg (neB (by decide)),if_neg (neB (by decide)),if_neg (neB (by decide)),if_neg (neB (by decide)),if_neg (neB (by decide)),if_neg (neB (by decide)),if_neg (neB (by decide)),if_neg (neB (by decide)),if_neg (neB (by decide)),if_neg (neB (by decide)),if_pos (eqS_yes _)]
theorem act_lease (W:Ws):actP (b_lease::W)=((numP W).bind fun (n,W)=>(numP W).bind fun (m,W)=>some ({ zAct with kind:=9,n:=n,node:=m },W)):=by
 rw [actP_cons];unfold actT
 rw [if_neg (neB (by decide)),if_neg (neB (by decide)),if_neg (neB (by decide)),if_neg (neB (by decide)),if_neg (neB (by decide)),if_neg (neB (by decide)),if_neg (neB (by decide)),if_neg (neB (by decide)),if_neg (neB (by decide)),if_neg (neB (by decide)),if_neg (neB (by decide)),if_pos (eqS_yes _)]
theorem act_row (W:Ws):actP (b_row::W)=((numP W).bind fun (n,W)=>(rowP W).bind fun (x,W)=>some ({ zAct with kind:=10,n:=n,row:=x },W)):=by
 rw [actP_cons];unfold actT
 rw [if_neg (neB (by decide)),if_neg (neB (by decide)),if_neg (neB (by decide)),if_neg (neB (by decide)),if_neg (neB (by decide)),if_neg (neB (by decide)),if_neg (neB (by decide)),if_neg (neB (by decide)),if_neg (neB (by decide)),if_neg (neB (by decide)),if_neg (neB (by decide)),if_neg (neB (by decide)),if_pos (eqS_yes _)]
theorem act_crash (W:Ws):actP (b_crash::W)=((numP W).bind fun (n,W)=>(numP W).bind fun (m,W)=>some ({ zAct with kind:=11,node:=n,n:=m },W)):=by
 rw [actP_cons];unfold actT
 rw [if_neg (neB (by decide)),if_neg (neB (by decide)),if_neg (neB (by decide)),if_neg (neB (by decide)),if_neg (neB (by decide)),if_neg (neB (by decide)),if_neg (neB (by decide)),if_neg (neB (by decide)),if_neg (neB (by decide)),if_neg (neB (by decide)),if_neg (neB (by decide)),if_neg (neB (by decide)),if_neg (neB (by decide)),if_pos (eqS_yes _)]
theorem change_rd (k:Int) (b p:Nat) (W:Ws) (w:World) (h:WdS w b p W):Calls Tryz.prog 30 #[.pointer (some ⟨b,0,none⟩),.int .i64 k] w (RdQ b p w (ActV b w.heap.size) (chgP k W)):=by
 have HI:=gH (fun w1 W (h:WdS w1 b p W)=>number_rd b p W w1 h)
 have HH:=gH (h.aft ((Aft.refl w).alloc (.cells z33.toArray 43)))
 have hb:=h.lt
 have HPL:=gH h.plt
 have HLO:=gH h.low
 clear h
 go_enter Tryz.func30,Tryz.ntmps30
 go_wp2_with (first
  | (go_at_call 28;with_reducible refine (HI.out _ _ HH.out).mono ?_;rintro e w1 q;rcases number_cases q with ⟨n,rfl,k1⟩ | ⟨s1,W1,n,rfl,d,k1⟩;all_goals (have N1:=gH n;have K1:=gH (((Kw.refl b w).alloc _).trans k1);clear n q;try (have X1:=gH (Br.start (zs:=z33) hb HPL.out HLO.out k1 d);clear d k1)))
  | (go_at_call 28;with_reducible refine (HI.out _ _ X1.out.ds).mono ?_;rintro e w2 q;rcases number_cases q with ⟨n,rfl,k1⟩ | ⟨s2,W2,n,rfl,d,k1⟩;all_goals (have N2:=gH n;have K2:=gH (X1.out.kw.trans k1);clear n q;try (have X2:=gH (X1.out.call k1 d);have e2:=svAct_row (vs:=[.int .i64 8,.int .i64 s1,.int .i64 0,.int .i64 0,.int .i64 0,.int .i64 0,.string ⟨#[]⟩,.string ⟨#[]⟩,.string ⟨#[]⟩,.string ⟨#[]⟩,.string ⟨#[]⟩,.slice none 0 0,.string ⟨#[]⟩,.int .i64 0,.slice none 0 0,.int .i64 0,.int .i64 0,.string ⟨#[]⟩,.string ⟨#[]⟩,.string ⟨#[]⟩,.int .i64 0,.bool false,.int .i64 k,.int .i64 s2,.int .i64 0,.string ⟨#[]⟩,.string ⟨#[]⟩,.string ⟨#[]⟩,.slice none 0 0,.string ⟨#[]⟩,.int .i64 0,.int .i64 0,.string ⟨#[]⟩]) X2.out.res rfl rfl (by simp [Value.oneCell']);clear d k1))))
 ·exact ⟨rfl,K1.out,by rw [show chgP k W=none by simp only [chgP,N1.out,Option.bind_none]];rfl⟩
 ·exact ⟨rfl,K2.out,by rw [show chgP k W=none by simp only [chgP,N1.out,N2.out,Option.bind_some,Option.bind_none]];rfl⟩
 ·obtain ⟨rf,kwf,wdf,kbf⟩:=X2.out.fin (cs:=[.int .i64 8,.int .i64 s1,.int .i64 0,.int .i64 0,.int .i64 0,.int .i64 0,.string ⟨#[]⟩,.string ⟨#[]⟩,.string ⟨#[]⟩,.string ⟨#[]⟩,.string ⟨#[]⟩,.slice none 0 0,.string ⟨#[]⟩,.int .i64 0,.slice none 0 0,.int .i64 0,.int .i64 0,.string ⟨#[]⟩,.string ⟨#[]⟩,.string ⟨#[]⟩,.int .i64 0,.bool false,.int .i64 k,.int .i64 s2,.int .i64 0,.string ⟨#[]⟩,.string ⟨#[]⟩,.string ⟨#[]⟩,.slice none 0 0,.string ⟨#[]⟩,.int .i64 0,.int .i64 0,.string ⟨#[]⟩]) rfl
  refine bodyPost_ret (results_cell rfl _ rfl (lv_row (T:=43) Tryz.underlying43 (by kernel_rfl) rf rfl)) rfl ?_
  refine ⟨kwf,?_⟩
  rw [show chgP k W=some ({ zAct with kind:=8,node:=s1,ck:=k,cn:=s2 },W2) by simp only [chgP,N1.out,N2.out,Option.bind_some]]
  exact ⟨_,rfl,actV_plain hb rfl rfl rfl,wdf⟩
theorem rdact_tick (b p:Nat) (WW:Ws) (w:World) (h:WdS w b p (b_tick::WW)):Calls Tryz.prog 17 #[.pointer (some ⟨b,0,none⟩)] w (RdQ b p w (ActV b w.heap.size) (actP (b_tick::WW))):=by
 have HI:=gH (fun w1 W (h:WdS w1 b p W)=>number_rd b p W w1 h)
 have HW0:=gH (show Calls Tryz.prog 27 #[.pointer (some ⟨b,0,none⟩)] (w.alloc (.cells z33.toArray 43)) fun e w'=>e=.returned (.string ⟨#[116,105,99,107]⟩)∧WdS w' b p WW∧Kw b (w.alloc (.cells z33.toArray 43)) w' from word_yes b p b_tick WW _ (h.aft ((Aft.refl w).alloc _)))
 have hb:=h.lt
 have HPL:=gH h.plt
 have HLO:=gH h.low
 clear h
 go_enter Tryz.func17,Tryz.ntmps17
 go_wp2_with (first
  | (go_at_call 27;with_reducible refine HW0.out.mono ?_;rintro e w1 ⟨rfl,d,k1⟩;have X1:=gH (Br.start (zs:=z33) hb HPL.out HLO.out k1 d);clear d k1)
  | (go_at_call 28;with_reducible refine (HI.out _ _ X1.out.ds).mono ?_;rintro e w2 q;rcases number_cases q with ⟨n,rfl,k1⟩ | ⟨s2,W2,n,rfl,d,k1⟩;all_goals (have N2:=gH n;have K2:=gH (X1.out.kw.trans k1);clear n q;try (have X2:=gH (X1.out.call k1 d);have e2:=svAct_row (vs:=[.int .i64 1,.int .i64 s2,.int .i64 0,.int .i64 0,.int .i64 0,.int .i64 0,.string ⟨#[]⟩,.string ⟨#[]⟩,.string ⟨#[]⟩,.string ⟨#[]⟩,.string ⟨#[]⟩,.slice none 0 0,.string ⟨#[]⟩,.int .i64 0,.slice none 0 0,.int .i64 0,.int .i64 0,.string ⟨#[]⟩,.string ⟨#[]⟩,.string ⟨#[]⟩,.int .i64 0,.bool false,.int .i64 0,.int .i64 0,.int .i64 0,.string ⟨#[]⟩,.string ⟨#[]⟩,.string ⟨#[]⟩,.slice none 0 0,.string ⟨#[]⟩,.int .i64 0,.int .i64 0,.string ⟨#[]⟩]) X2.out.res rfl rfl (by simp [Value.oneCell']);clear d k1))))
 ·exact ⟨rfl,K2.out,by rw [show actP (b_tick::WW)=none by simp only [act_tick,N2.out,Option.bind_some,Option.bind_none]];rfl⟩
 ·obtain ⟨rf,kwf,wdf,kbf⟩:=X2.out.fin (cs:=[.int .i64 1,.int .i64 s2,.int .i64 0,.int .i64 0,.int .i64 0,.int .i64 0,.string ⟨#[]⟩,.string ⟨#[]⟩,.string ⟨#[]⟩,.string ⟨#[]⟩,.string ⟨#[]⟩,.slice none 0 0,.string ⟨#[]⟩,.int .i64 0,.slice none 0 0,.int .i64 0,.int .i64 0,.string ⟨#[]⟩,.string ⟨#[]⟩,.string ⟨#[]⟩,.int .i64 0,.bool false,.int .i64 0,.int .i64 0,.int .i64 0,.string ⟨#[]⟩,.string ⟨#[]⟩,.string ⟨#[]⟩,.slice none 0 0,.string ⟨#[]⟩,.int .i64 0,.int .i64 0,.string ⟨#[]⟩]) rfl
  refine bodyPost_ret (results_cell rfl _ rfl (lv_row (T:=43) Tryz.underlying43 (by kernel_rfl) rf rfl)) rfl ?_
  refine ⟨kwf,?_⟩
  rw [show actP (b_tick::WW)=some ({ zAct with kind:=1,node:=s2 },W2) by simp only [act_tick,N2.out,Option.bind_some]]
  exact ⟨_,rfl,actV_plain hb rfl rfl rfl,wdf⟩
theorem rdact_start (b p:Nat) (WW:Ws) (w:World) (h:WdS w b p (b_start::WW)):Calls Tryz.prog 17 #[.pointer (some ⟨b,0,none⟩)] w (RdQ b p w (ActV b w.heap.size) (actP (b_start::WW))):=by
 have HI:=gH (fun w1 W (h:WdS w1 b p W)=>number_rd b p W w1 h)
 have HW0:=gH (show Calls Tryz.prog 27 #[.pointer (some ⟨b,0,none⟩)] (w.alloc (.cells z33.toArray 43)) fun e w'=>e=.returned (.string ⟨#[115,116,97,114,116]⟩)∧WdS w' b p WW∧Kw b (w.alloc (.cells z33.toArray 43)) w' from word_yes b p b_start WW _ (h.aft ((Aft.refl w).alloc _)))
 have hb:=h.lt
 have HPL:=gH h.plt
 have HLO:=gH h.low
 clear h
 go_enter Tryz.func17,Tryz.ntmps17
 go_wp2_with (first
  | (go_at_call 27;with_reducible refine HW0.out.mono ?_;rintro e w1 ⟨rfl,d,k1⟩;have X1:=gH (Br.start (zs:=z33) hb HPL.out HLO.out k1 d);clear d k1)
  | (go_at_call 28;with_reducible refine (HI.out _ _ X1.out.ds).mono ?_;rintro e w2 q;rcases number_cases q with ⟨n,rfl,k1⟩ | ⟨s2,W2,n,rfl,d,k1⟩;all_goals (have N2:=gH n;have K2:=gH (X1.out.kw.trans k1);clear n q;try (have X2:=gH (X1.out.call k1 d);have e2:=svAct_row (vs:=[.int .i64 12,.int .i64 s2,.int .i64 0,.int .i64 0,.int .i64 0,.int .i64 0,.string ⟨#[]⟩,.string ⟨#[]⟩,.string ⟨#[]⟩,.string ⟨#[]⟩,.string ⟨#[]⟩,.slice none 0 0,.string ⟨#[]⟩,.int .i64 0,.slice none 0 0,.int .i64 0,.int .i64 0,.string ⟨#[]⟩,.string ⟨#[]⟩,.string ⟨#[]⟩,.int .i64 0,.bool false,.int .i64 0,.int .i64 0,.int .i64 0,.string ⟨#[]⟩,.string ⟨#[]⟩,.string ⟨#[]⟩,.slice none 0 0,.string ⟨#[]⟩,.int .i64 0,.int .i64 0,.string ⟨#[]⟩]) X2.out.res rfl rfl (by simp [Value.oneCell']);clear d k1))))
 ·exact ⟨rfl,K2.out,by rw [show actP (b_start::WW)=none by simp only [act_start,N2.out,Option.bind_some,Option.bind_none]];rfl⟩
 ·obtain ⟨rf,kwf,wdf,kbf⟩:=X2.out.fin (cs:=[.int .i64 12,.int .i64 s2,.int .i64 0,.int .i64 0,.int .i64 0,.int .i64 0,.string ⟨#[]⟩,.string ⟨#[]⟩,.string ⟨#[]⟩,.string ⟨#[]⟩,.string ⟨#[]⟩,.slice none 0 0,.string ⟨#[]⟩,.int .i64 0,.slice none 0 0,.int .i64 0,.int .i64 0,.string ⟨#[]⟩,.string ⟨#[]⟩,.string ⟨#[]⟩,.int .i64 0,.bool false,.int .i64 0,.int .i64 0,.int .i64 0,.string ⟨#[]⟩,.string ⟨#[]⟩,.string ⟨#[]⟩,.slice none 0 0,.string ⟨#[]⟩,.int .i64 0,.int .i64 0,.string ⟨#[]⟩]) rfl
  refine bodyPost_ret (results_cell rfl _ rfl (lv_row (T:=43) Tryz.underlying43 (by kernel_rfl) rf rfl)) rfl ?_
  refine ⟨kwf,?_⟩
  rw [show actP (b_start::WW)=some ({ zAct with kind:=12,node:=s2 },W2) by simp only [act_start,N2.out,Option.bind_some]]
  exact ⟨_,rfl,actV_plain hb rfl rfl rfl,wdf⟩
theorem rdact_deliver (b p:Nat) (WW:Ws) (w:World) (h:WdS w b p (b_deliver::WW)):Calls Tryz.prog 17 #[.pointer (some ⟨b,0,none⟩)] w (RdQ b p w (ActV b w.heap.size) (actP (b_deliver::WW))):=by
 have HI:=gH (fun w1 W (h:WdS w1 b p W)=>number_rd b p W w1 h)
 have HW0:=gH (show Calls Tryz.prog 27 #[.pointer (some ⟨b,0,none⟩)] (w.alloc (.cells z33.toArray 43)) fun e w'=>e=.returned (.string ⟨#[100,101,108,105,118,101,114]⟩)∧WdS w' b p WW∧Kw b (w.alloc (.cells z33.toArray 43)) w' from word_yes b p b_deliver WW _ (h.aft ((Aft.refl w).alloc _)))
 have hb:=h.lt
 have HPL:=gH h.plt
 have HLO:=gH h.low
 clear h
 go_enter Tryz.func17,Tryz.ntmps17
 go_wp2_with (first
  | (go_at_call 27;with_reducible refine HW0.out.mono ?_;rintro e w1 ⟨rfl,d,k1⟩;have X1:=gH (Br.start (zs:=z33) hb HPL.out HLO.out k1 d);clear d k1)
  | (go_at_call 28;with_reducible refine (HI.out _ _ X1.out.ds).mono ?_;rintro e w2 q;rcases number_cases q with ⟨n,rfl,k1⟩ | ⟨s2,W2,n,rfl,d,k1⟩;all_goals (have N2:=gH n;have K2:=gH (X1.out.kw.trans k1);clear n q;try (have X2:=gH (X1.out.call k1 d);have e2:=svAct_row (vs:=[.int .i64 3,.int .i64 0,.int .i64 s2,.int .i64 0,.int .i64 0,.int .i64 0,.string ⟨#[]⟩,.string ⟨#[]⟩,.string ⟨#[]⟩,.string ⟨#[]⟩,.string ⟨#[]⟩,.slice none 0 0,.string ⟨#[]⟩,.int .i64 0,.slice none 0 0,.int .i64 0,.int .i64 0,.string ⟨#[]⟩,.string ⟨#[]⟩,.string ⟨#[]⟩,.int .i64 0,.bool false,.int .i64 0,.int .i64 0,.int .i64 0,.string ⟨#[]⟩,.string ⟨#[]⟩,.string ⟨#[]⟩,.slice none 0 0,.string ⟨#[]⟩,.int .i64 0,.int .i64 0,.string ⟨#[]⟩]) X2.out.res rfl rfl (by simp [Value.oneCell']);clear d k1))))
 ·exact ⟨rfl,K2.out,by rw [show actP (b_deliver::WW)=none by simp only [act_deliver,N2.out,Option.bind_some,Option.bind_none]];rfl⟩
 ·obtain ⟨rf,kwf,wdf,kbf⟩:=X2.out.fin (cs:=[.int .i64 3,.int .i64 0,.int .i64 s2,.int .i64 0,.int .i64 0,.int .i64 0,.string ⟨#[]⟩,.string ⟨#[]⟩,.string ⟨#[]⟩,.string ⟨#[]⟩,.string ⟨#[]⟩,.slice none 0 0,.string ⟨#[]⟩,.int .i64 0,.slice none 0 0,.int .i64 0,.int .i64 0,.string ⟨#[]⟩,.string ⟨#[]⟩,.string ⟨#[]⟩,.int .i64 0,.bool false,.int .i64 0,.int .i64 0,.int .i64 0,.string ⟨#[]⟩,.string ⟨#[]⟩,.string ⟨#[]⟩,.slice none 0 0,.string ⟨#[]⟩,.int .i64 0,.int .i64 0,.string ⟨#[]⟩]) rfl
  refine bodyPost_ret (results_cell rfl _ rfl (lv_row (T:=43) Tryz.underlying43 (by kernel_rfl) rf rfl)) rfl ?_
  refine ⟨kwf,?_⟩
  rw [show actP (b_deliver::WW)=some ({ zAct with kind:=3,n:=s2 },W2) by simp only [act_deliver,N2.out,Option.bind_some]]
  exact ⟨_,rfl,actV_plain hb rfl rfl rfl,wdf⟩
theorem rdact_drop (b p:Nat) (WW:Ws) (w:World) (h:WdS w b p (b_drop::WW)):Calls Tryz.prog 17 #[.pointer (some ⟨b,0,none⟩)] w (RdQ b p w (ActV b w.heap.size) (actP (b_drop::WW))):=by
 have HI:=gH (fun w1 W (h:WdS w1 b p W)=>number_rd b p W w1 h)
 have HW0:=gH (show Calls Tryz.prog 27 #[.pointer (some ⟨b,0,none⟩)] (w.alloc (.cells z33.toArray 43)) fun e w'=>e=.returned (.string ⟨#[100,114,111,112]⟩)∧WdS w' b p WW∧Kw b (w.alloc (.cells z33.toArray 43)) w' from word_yes b p b_drop WW _ (h.aft ((Aft.refl w).alloc _)))
 have hb:=h.lt
 have HPL:=gH h.plt
 have HLO:=gH h.low
 clear h
 go_enter Tryz.func17,Tryz.ntmps17
 go_wp2_with (first
  | (go_at_call 27;with_reducible refine HW0.out.mono ?_;rintro e w1 ⟨rfl,d,k1⟩;have X1:=gH (Br.start (zs:=z33) hb HPL.out HLO.out k1 d);clear d k1)
  | (go_at_call 28;with_reducible refine (HI.out _ _ X1.out.ds).mono ?_;rintro e w2 q;rcases number_cases q with ⟨n,rfl,k1⟩ | ⟨s2,W2,n,rfl,d,k1⟩;all_goals (have N2:=gH n;have K2:=gH (X1.out.kw.trans k1);clear n q;try (have X2:=gH (X1.out.call k1 d);have e2:=svAct_row (vs:=[.int .i64 4,.int .i64 0,.int .i64 s2,.int .i64 0,.int .i64 0,.int .i64 0,.string ⟨#[]⟩,.string ⟨#[]⟩,.string ⟨#[]⟩,.string ⟨#[]⟩,.string ⟨#[]⟩,.slice none 0 0,.string ⟨#[]⟩,.int .i64 0,.slice none 0 0,.int .i64 0,.int .i64 0,.string ⟨#[]⟩,.string ⟨#[]⟩,.string ⟨#[]⟩,.int .i64 0,.bool false,.int .i64 0,.int .i64 0,.int .i64 0,.string ⟨#[]⟩,.string ⟨#[]⟩,.string ⟨#[]⟩,.slice none 0 0,.string ⟨#[]⟩,.int .i64 0,.int .i64 0,.string ⟨#[]⟩]) X2.out.res rfl rfl (by simp [Value.oneCell']);clear d k1))))
 ·exact ⟨rfl,K2.out,by rw [show actP (b_drop::WW)=none by simp only [act_drop,N2.out,Option.bind_some,Option.bind_none]];rfl⟩
 ·obtain ⟨rf,kwf,wdf,kbf⟩:=X2.out.fin (cs:=[.int .i64 4,.int .i64 0,.int .i64 s2,.int .i64 0,.int .i64 0,.int .i64 0,.string ⟨#[]⟩,.string ⟨#[]⟩,.string ⟨#[]⟩,.string ⟨#[]⟩,.string ⟨#[]⟩,.slice none 0 0,.string ⟨#[]⟩,.int .i64 0,.slice none 0 0,.int .i64 0,.int .i64 0,.string ⟨#[]⟩,.string ⟨#[]⟩,.string ⟨#[]⟩,.int .i64 0,.bool false,.int .i64 0,.int .i64 0,.int .i64 0,.string ⟨#[]⟩,.string ⟨#[]⟩,.string ⟨#[]⟩,.slice none 0 0,.string ⟨#[]⟩,.int .i64 0,.int .i64 0,.string ⟨#[]⟩]) rfl
  refine bodyPost_ret (results_cell rfl _ rfl (lv_row (T:=43) Tryz.underlying43 (by kernel_rfl) rf rfl)) rfl ?_
  refine ⟨kwf,?_⟩
  rw [show actP (b_drop::WW)=some ({ zAct with kind:=4,n:=s2 },W2) by simp only [act_drop,N2.out,Option.bind_some]]
  exact ⟨_,rfl,actV_plain hb rfl rfl rfl,wdf⟩
theorem rdact_double (b p:Nat) (WW:Ws) (w:World) (h:WdS w b p (b_double::WW)):Calls Tryz.prog 17 #[.pointer (some ⟨b,0,none⟩)] w (RdQ b p w (ActV b w.heap.size) (actP (b_double::WW))):=by
 have HI:=gH (fun w1 W (h:WdS w1 b p W)=>number_rd b p W w1 h)
 have HW0:=gH (show Calls Tryz.prog 27 #[.pointer (some ⟨b,0,none⟩)] (w.alloc (.cells z33.toArray 43)) fun e w'=>e=.returned (.string ⟨#[100,111,117,98,108,101]⟩)∧WdS w' b p WW∧Kw b (w.alloc (.cells z33.toArray 43)) w' from word_yes b p b_double WW _ (h.aft ((Aft.refl w).alloc _)))
 have hb:=h.lt
 have HPL:=gH h.plt
 have HLO:=gH h.low
 clear h
 go_enter Tryz.func17,Tryz.ntmps17
 go_wp2_with (first
  | (go_at_call 27;with_reducible refine HW0.out.mono ?_;rintro e w1 ⟨rfl,d,k1⟩;have X1:=gH (Br.start (zs:=z33) hb HPL.out HLO.out k1 d);clear d k1)
  | (go_at_call 28;with_reducible refine (HI.out _ _ X1.out.ds).mono ?_;rintro e w2 q;rcases number_cases q with ⟨n,rfl,k1⟩ | ⟨s2,W2,n,rfl,d,k1⟩;all_goals (have N2:=gH n;have K2:=gH (X1.out.kw.trans k1);clear n q;try (have X2:=gH (X1.out.call k1 d);have e2:=svAct_row (vs:=[.int .i64 5,.int .i64 0,.int .i64 s2,.int .i64 0,.int .i64 0,.int .i64 0,.string ⟨#[]⟩,.string ⟨#[]⟩,.string ⟨#[]⟩,.string ⟨#[]⟩,.string ⟨#[]⟩,.slice none 0 0,.string ⟨#[]⟩,.int .i64 0,.slice none 0 0,.int .i64 0,.int .i64 0,.string ⟨#[]⟩,.string ⟨#[]⟩,.string ⟨#[]⟩,.int .i64 0,.bool false,.int .i64 0,.int .i64 0,.int .i64 0,.string ⟨#[]⟩,.string ⟨#[]⟩,.string ⟨#[]⟩,.slice none 0 0,.string ⟨#[]⟩,.int .i64 0,.int .i64 0,.string ⟨#[]⟩]) X2.out.res rfl rfl (by simp [Value.oneCell']);clear d k1))))
 ·exact ⟨rfl,K2.out,by rw [show actP (b_double::WW)=none by simp only [act_double,N2.out,Option.bind_some,Option.bind_none]];rfl⟩
 ·obtain ⟨rf,kwf,wdf,kbf⟩:=X2.out.fin (cs:=[.int .i64 5,.int .i64 0,.int .i64 s2,.int .i64 0,.int .i64 0,.int .i64 0,.string ⟨#[]⟩,.string ⟨#[]⟩,.string ⟨#[]⟩,.string ⟨#[]⟩,.string ⟨#[]⟩,.slice none 0 0,.string ⟨#[]⟩,.int .i64 0,.slice none 0 0,.int .i64 0,.int .i64 0,.string ⟨#[]⟩,.string ⟨#[]⟩,.string ⟨#[]⟩,.int .i64 0,.bool false,.int .i64 0,.int .i64 0,.int .i64 0,.string ⟨#[]⟩,.string ⟨#[]⟩,.string ⟨#[]⟩,.slice none 0 0,.string ⟨#[]⟩,.int .i64 0,.int .i64 0,.string ⟨#[]⟩]) rfl
  refine bodyPost_ret (results_cell rfl _ rfl (lv_row (T:=43) Tryz.underlying43 (by kernel_rfl) rf rfl)) rfl ?_
  refine ⟨kwf,?_⟩
  rw [show actP (b_double::WW)=some ({ zAct with kind:=5,n:=s2 },W2) by simp only [act_double,N2.out,Option.bind_some]]
  exact ⟨_,rfl,actV_plain hb rfl rfl rfl,wdf⟩
theorem rdact_world (b p:Nat) (WW:Ws) (w:World) (h:WdS w b p (b_world::WW)):Calls Tryz.prog 17 #[.pointer (some ⟨b,0,none⟩)] w (RdQ b p w (ActV b w.heap.size) (actP (b_world::WW))):=by
 have HI:=gH (fun w1 W (h:WdS w1 b p W)=>number_rd b p W w1 h)
 have HW0:=gH (show Calls Tryz.prog 27 #[.pointer (some ⟨b,0,none⟩)] (w.alloc (.cells z33.toArray 43)) fun e w'=>e=.returned (.string ⟨#[119,111,114,108,100]⟩)∧WdS w' b p WW∧Kw b (w.alloc (.cells z33.toArray 43)) w' from word_yes b p b_world WW _ (h.aft ((Aft.refl w).alloc _)))
 have hb:=h.lt
 have HPL:=gH h.plt
 have HLO:=gH h.low
 clear h
 go_enter Tryz.func17,Tryz.ntmps17
 go_wp2_with (first
  | (go_at_call 27;with_reducible refine HW0.out.mono ?_;rintro e w1 ⟨rfl,d,k1⟩;have X1:=gH (Br.start (zs:=z33) hb HPL.out HLO.out k1 d);have e2:=svAct_row (vs:=[.int .i64 2,.int .i64 0,.int .i64 0,.int .i64 0,.int .i64 0,.int .i64 0,.string ⟨#[]⟩,.string ⟨#[]⟩,.string ⟨#[]⟩,.string ⟨#[]⟩,.string ⟨#[]⟩,.slice none 0 0,.string ⟨#[]⟩,.int .i64 0,.slice none 0 0,.int .i64 0,.int .i64 0,.string ⟨#[]⟩,.string ⟨#[]⟩,.string ⟨#[]⟩,.int .i64 0,.bool false,.int .i64 0,.int .i64 0,.int .i64 0,.string ⟨#[]⟩,.string ⟨#[]⟩,.string ⟨#[]⟩,.slice none 0 0,.string ⟨#[]⟩,.int .i64 0,.int .i64 0,.string ⟨#[]⟩]) X1.out.res rfl rfl (by simp [Value.oneCell']);clear d k1))
 ·obtain ⟨rf,kwf,wdf,kbf⟩:=X1.out.fin (cs:=[.int .i64 2,.int .i64 0,.int .i64 0,.int .i64 0,.int .i64 0,.int .i64 0,.string ⟨#[]⟩,.string ⟨#[]⟩,.string ⟨#[]⟩,.string ⟨#[]⟩,.string ⟨#[]⟩,.slice none 0 0,.string ⟨#[]⟩,.int .i64 0,.slice none 0 0,.int .i64 0,.int .i64 0,.string ⟨#[]⟩,.string ⟨#[]⟩,.string ⟨#[]⟩,.int .i64 0,.bool false,.int .i64 0,.int .i64 0,.int .i64 0,.string ⟨#[]⟩,.string ⟨#[]⟩,.string ⟨#[]⟩,.slice none 0 0,.string ⟨#[]⟩,.int .i64 0,.int .i64 0,.string ⟨#[]⟩]) rfl
  refine bodyPost_ret (results_cell rfl _ rfl (lv_row (T:=43) Tryz.underlying43 (by kernel_rfl) rf rfl)) rfl ?_
  refine ⟨kwf,?_⟩
  rw [show actP (b_world::WW)=some ({ zAct with kind:=2 },WW) by simp only [act_world]]
  exact ⟨_,rfl,actV_plain hb rfl rfl rfl,wdf⟩
theorem rdact_learner (b p:Nat) (WW:Ws) (w:World) (h:WdS w b p (b_learner::WW)):Calls Tryz.prog 17 #[.pointer (some ⟨b,0,none⟩)] w (RdQ b p w (ActV b w.heap.size) (actP (b_learner::WW))):=by
 have HI:=gH (fun w1 W (h:WdS w1 b p W)=>number_rd b p W w1 h)
 have HW0:=gH (show Calls Tryz.prog 27 #[.pointer (some ⟨b,0,none⟩)] (w.alloc (.cells z33.toArray 43)) fun e w'=>e=.returned (.string ⟨#[108,101,97,114,110,101,114]⟩)∧WdS w' b p WW∧Kw b (w.alloc (.cells z33.toArray 43)) w' from word_yes b p b_learner WW _ (h.aft ((Aft.refl w).alloc _)))
 have hb:=h.lt
 have HPL:=gH h.plt
 have HLO:=gH h.low
 clear h
 go_enter Tryz.func17,Tryz.ntmps17
 go_wp2_with (first
  | (go_at_call 27;with_reducible refine HW0.out.mono ?_;rintro e w1 ⟨rfl,d,k1⟩;have X1:=gH (Br.start (zs:=z33) hb HPL.out HLO.out k1 d);have rz1:=gH X1.out.res.ltD;clear d k1)
  | (go_at_call 30;with_reducible refine (change_rd 1 b p _ _ X1.out.ds).mono ?_;rintro e w2 q;rcases act_cases (W:=WW) q with ⟨n,rfl,k1⟩ | ⟨a,A,c,A2,c2,A3,c3,W2,n,rfl,g,d,k1⟩;all_goals (have N2:=gH n;have K2:=gH (X1.out.kw.trans k1);clear n q;try (have X2:=gH (X1.out.call k1 d);have e2:=svAct_row (vs:=actV a A c A2 c2 A3 c3) X2.out.res rfl rfl (by simp [actV,cmdV,ropV,Value.oneCell']);clear d k1))))
 ·exact ⟨rfl,K2.out,by rw [act_learner,N2.out];rfl⟩
 ·obtain ⟨rf,kwf,wdf,kbf⟩:=X2.out.fin (cs:=actV a A c A2 c2 A3 c3) rfl
  refine bodyPost_ret (results_cell rfl _ rfl (lv_row (T:=43) Tryz.underlying43 (by kernel_rfl) rf rfl)) rfl ?_
  refine ⟨kwf,?_⟩
  have z1:=rz1.out
  rw [act_learner,N2.out]
  obtain ⟨g1,g2,g3,g4,g5⟩:=g
  exact ⟨_,rfl,⟨_,_,_,_,_,_,rfl,(g1.hi kbf (fun g e=>by have e':g=_:=e;omega)).down (by omega) (by omega),(g2.hi kbf (fun g e=>by have e':g=_:=e;omega)).down (by omega) (by omega),⟨(g3.1.hi kbf (fun g e=>by have e':g=_:=e;omega)).down (by omega) (by omega),g3.2⟩,g4,g5⟩,wdf⟩
theorem rdact_voter (b p:Nat) (WW:Ws) (w:World) (h:WdS w b p (b_voter::WW)):Calls Tryz.prog 17 #[.pointer (some ⟨b,0,none⟩)] w (RdQ b p w (ActV b w.heap.size) (actP (b_voter::WW))):=by
 have HI:=gH (fun w1 W (h:WdS w1 b p W)=>number_rd b p W w1 h)
 have HW0:=gH (show Calls Tryz.prog 27 #[.pointer (some ⟨b,0,none⟩)] (w.alloc (.cells z33.toArray 43)) fun e w'=>e=.returned (.string ⟨#[118,111,116,101,114]⟩)∧WdS w' b p WW∧Kw b (w.alloc (.cells z33.toArray 43)) w' from word_yes b p b_voter WW _ (h.aft ((Aft.refl w).alloc _)))
 have hb:=h.lt
 have HPL:=gH h.plt
 have HLO:=gH h.low
 clear h
 go_enter Tryz.func17,Tryz.ntmps17
 go_wp2_with (first
  | (go_at_call 27;with_reducible refine HW0.out.mono ?_;rintro e w1 ⟨rfl,d,k1⟩;have X1:=gH (Br.start (zs:=z33) hb HPL.out HLO.out k1 d);have rz1:=gH X1.out.res.ltD;clear d k1)
  | (go_at_call 30;with_reducible refine (change_rd 2 b p _ _ X1.out.ds).mono ?_;rintro e w2 q;rcases act_cases (W:=WW) q with ⟨n,rfl,k1⟩ | ⟨a,A,c,A2,c2,A3,c3,W2,n,rfl,g,d,k1⟩;all_goals (have N2:=gH n;have K2:=gH (X1.out.kw.trans k1);clear n q;try (have X2:=gH (X1.out.call k1 d);have e2:=svAct_row (vs:=actV a A c A2 c2 A3 c3) X2.out.res rfl rfl (by simp [actV,cmdV,ropV,Value.oneCell']);clear d k1))))
 ·exact ⟨rfl,K2.out,by rw [act_voter,N2.out];rfl⟩
 ·obtain ⟨rf,kwf,wdf,kbf⟩:=X2.out.fin (cs:=actV a A c A2 c2 A3 c3) rfl
  refine bodyPost_ret (results_cell rfl _ rfl (lv_row (T:=43) Tryz.underlying43 (by kernel_rfl) rf rfl)) rfl ?_
  refine ⟨kwf,?_⟩
  have z1:=rz1.out
  rw [act_voter,N2.out]
  obtain ⟨g1,g2,g3,g4,g5⟩:=g
  exact ⟨_,rfl,⟨_,_,_,_,_,_,rfl,(g1.hi kbf (fun g e=>by have e':g=_:=e;omega)).down (by omega) (by omega),(g2.hi kbf (fun g e=>by have e':g=_:=e;omega)).down (by omega) (by omega),⟨(g3.1.hi kbf (fun g e=>by have e':g=_:=e;omega)).down (by omega) (by omega),g3.2⟩,g4,g5⟩,wdf⟩
theorem rdact_remove (b p:Nat) (WW:Ws) (w:World) (h:WdS w b p (b_remove::WW)):Calls Tryz.prog 17 #[.pointer (some ⟨b,0,none⟩)] w (RdQ b p w (ActV b w.heap.size) (actP (b_remove::WW))):=by
 have HI:=gH (fun w1 W (h:WdS w1 b p W)=>number_rd b p W w1 h)
 have HW0:=gH (show Calls Tryz.prog 27 #[.pointer (some ⟨b,0,none⟩)] (w.alloc (.cells z33.toArray 43)) fun e w'=>e=.returned (.string ⟨#[114,101,109,111,118,101]⟩)∧WdS w' b p WW∧Kw b (w.alloc (.cells z33.toArray 43)) w' from word_yes b p b_remove WW _ (h.aft ((Aft.refl w).alloc _)))
 have hb:=h.lt
 have HPL:=gH h.plt
 have HLO:=gH h.low
 clear h
 go_enter Tryz.func17,Tryz.ntmps17
 go_wp2_with (first
  | (go_at_call 27;with_reducible refine HW0.out.mono ?_;rintro e w1 ⟨rfl,d,k1⟩;have X1:=gH (Br.start (zs:=z33) hb HPL.out HLO.out k1 d);have rz1:=gH X1.out.res.ltD;clear d k1)
  | (go_at_call 30;with_reducible refine (change_rd 3 b p _ _ X1.out.ds).mono ?_;rintro e w2 q;rcases act_cases (W:=WW) q with ⟨n,rfl,k1⟩ | ⟨a,A,c,A2,c2,A3,c3,W2,n,rfl,g,d,k1⟩;all_goals (have N2:=gH n;have K2:=gH (X1.out.kw.trans k1);clear n q;try (have X2:=gH (X1.out.call k1 d);have e2:=svAct_row (vs:=actV a A c A2 c2 A3 c3) X2.out.res rfl rfl (by simp [actV,cmdV,ropV,Value.oneCell']);clear d k1))))
 ·exact ⟨rfl,K2.out,by rw [act_remove,N2.out];rfl⟩
 ·obtain ⟨rf,kwf,wdf,kbf⟩:=X2.out.fin (cs:=actV a A c A2 c2 A3 c3) rfl
  refine bodyPost_ret (results_cell rfl _ rfl (lv_row (T:=43) Tryz.underlying43 (by kernel_rfl) rf rfl)) rfl ?_
  refine ⟨kwf,?_⟩
  have z1:=rz1.out
  rw [act_remove,N2.out]
  obtain ⟨g1,g2,g3,g4,g5⟩:=g
  exact ⟨_,rfl,⟨_,_,_,_,_,_,rfl,(g1.hi kbf (fun g e=>by have e':g=_:=e;omega)).down (by omega) (by omega),(g2.hi kbf (fun g e=>by have e':g=_:=e;omega)).down (by omega) (by omega),⟨(g3.1.hi kbf (fun g e=>by have e':g=_:=e;omega)).down (by omega) (by omega),g3.2⟩,g4,g5⟩,wdf⟩
theorem rdact_lease (b p:Nat) (WW:Ws) (w:World) (h:WdS w b p (b_lease::WW)):Calls Tryz.prog 17 #[.pointer (some ⟨b,0,none⟩)] w (RdQ b p w (ActV b w.heap.size) (actP (b_lease::WW))):=by
 have HI:=gH (fun w1 W (h:WdS w1 b p W)=>number_rd b p W w1 h)
 have HW0:=gH (show Calls Tryz.prog 27 #[.pointer (some ⟨b,0,none⟩)] (w.alloc (.cells z33.toArray 43)) fun e w'=>e=.returned (.string ⟨#[108,101,97,115,101]⟩)∧WdS w' b p WW∧Kw b (w.alloc (.cells z33.toArray 43)) w' from word_yes b p b_lease WW _ (h.aft ((Aft.refl w).alloc _)))
 have hb:=h.lt
 have HPL:=gH h.plt
 have HLO:=gH h.low
 clear h
 go_enter Tryz.func17,Tryz.ntmps17
 go_wp2_with (first
  | (go_at_call 27;with_reducible refine HW0.out.mono ?_;rintro e w1 ⟨rfl,d,k1⟩;have ST:=bx_start (t2:=43) (zs:=z33) hb HPL.out HLO.out k1 d [.int .i64 9,.int .i64 0,.int .i64 0,.int .i64 0,.int .i64 0,.int .i64 0,.string ⟨#[]⟩,.string ⟨#[]⟩,.string ⟨#[]⟩,.string ⟨#[]⟩,.string ⟨#[]⟩,.slice none 0 0,.string ⟨#[]⟩,.int .i64 0,.slice none 0 0,.int .i64 0,.int .i64 0,.string ⟨#[]⟩,.string ⟨#[]⟩,.string ⟨#[]⟩,.int .i64 0,.bool false,.int .i64 0,.int .i64 0,.int .i64 0,.string ⟨#[]⟩,.string ⟨#[]⟩,.string ⟨#[]⟩,.slice none 0 0,.string ⟨#[]⟩,.int .i64 0,.int .i64 0,.string ⟨#[]⟩];have S:=gH ST.1;have X1:=gH ST.2;clear d k1 ST)
  | (go_at_call 28;with_reducible refine (HI.out _ _ X1.out.ds).mono ?_;rintro e w2 q;rcases number_cases q with ⟨n,rfl,k⟩ | ⟨s2,W2,n,rfl,d,k⟩;all_goals (have N2:=gH n;have K2:=gH (X1.out.kw.trans k);clear n q;try (have X2:=gH (X1.out.call S.out k d);have xz2:=X2.out.row.ltD;have rz2:=X2.out.res.ltD;clear d)))
  | (go_at_call 28;with_reducible refine (HI.out _ _ X2.out.ds).mono ?_;rintro e w3 q;rcases number_cases q with ⟨n,rfl,k⟩ | ⟨s3,W3,n,rfl,d,k⟩;all_goals (have N3:=gH n;have K3:=gH (X2.out.kw.trans k);clear n q;try (have X3:=gH (X2.out.call S.out k d);have xz3:=X3.out.row.ltD;have rz3:=X3.out.res.ltD;obtain ⟨c3_1,f3_1⟩:=X3.out.cf 1 (by simp);obtain ⟨c3_2,f3_2⟩:=X3.out.cf 2 (by simp);have XF:=(X3.out.set S.out 2 (.int .i64 s2) (by simp)).set S.out 1 (.int .i64 s3) (by simp);simp only [List.set_cons_succ,List.set_cons_zero] at XF;have XF:=gH XF;obtain ⟨e1,e2⟩:=endsAct XF.out rfl rfl (by simp [Value.oneCell']);clear d))))
 ·exact ⟨rfl,K2.out,by rw [show actP (b_lease::WW)=none by simp only [act_lease,N2.out,Option.bind_some,Option.bind_none]];rfl⟩
 ·exact ⟨rfl,K3.out,by rw [show actP (b_lease::WW)=none by simp only [act_lease,N2.out,N3.out,Option.bind_some,Option.bind_none]];rfl⟩
 ·obtain ⟨rf,kwf,wdf,kbf⟩:=XF.out.fin S.out rfl
  refine bodyPost_ret (results_cell rfl _ rfl (lv_row (T:=43) Tryz.underlying43 (by kernel_rfl) rf rfl)) rfl ?_
  have S:=S.out
  have sb:=S.fb
  have sr:=S.fr
  have sx:=S.fx
  refine ⟨kwf,?_⟩
  rw [show actP (b_lease::WW)=some ({ zAct with kind:=9,n:=s2,node:=s3 },W3) by simp only [act_lease,N2.out,N3.out,Option.bind_some]]
  exact ⟨_,rfl,actV_plain hb rfl rfl rfl,wdf⟩
theorem rdact_crash (b p:Nat) (WW:Ws) (w:World) (h:WdS w b p (b_crash::WW)):Calls Tryz.prog 17 #[.pointer (some ⟨b,0,none⟩)] w (RdQ b p w (ActV b w.heap.size) (actP (b_crash::WW))):=by
 have HI:=gH (fun w1 W (h:WdS w1 b p W)=>number_rd b p W w1 h)
 have HW0:=gH (show Calls Tryz.prog 27 #[.pointer (some ⟨b,0,none⟩)] (w.alloc (.cells z33.toArray 43)) fun e w'=>e=.returned (.string ⟨#[99,114,97,115,104]⟩)∧WdS w' b p WW∧Kw b (w.alloc (.cells z33.toArray 43)) w' from word_yes b p b_crash WW _ (h.aft ((Aft.refl w).alloc _)))
 have hb:=h.lt
 have HPL:=gH h.plt
 have HLO:=gH h.low
 clear h
 go_enter Tryz.func17,Tryz.ntmps17
 go_wp2_with (first
  | (go_at_call 27;with_reducible refine HW0.out.mono ?_;rintro e w1 ⟨rfl,d,k1⟩;have ST:=bx_start (t2:=43) (zs:=z33) hb HPL.out HLO.out k1 d [.int .i64 11,.int .i64 0,.int .i64 0,.int .i64 0,.int .i64 0,.int .i64 0,.string ⟨#[]⟩,.string ⟨#[]⟩,.string ⟨#[]⟩,.string ⟨#[]⟩,.string ⟨#[]⟩,.slice none 0 0,.string ⟨#[]⟩,.int .i64 0,.slice none 0 0,.int .i64 0,.int .i64 0,.string ⟨#[]⟩,.string ⟨#[]⟩,.string ⟨#[]⟩,.int .i64 0,.bool false,.int .i64 0,.int .i64 0,.int .i64 0,.string ⟨#[]⟩,.string ⟨#[]⟩,.string ⟨#[]⟩,.slice none 0 0,.string ⟨#[]⟩,.int .i64 0,.int .i64 0,.string ⟨#[]⟩];have S:=gH ST.1;have X1:=gH ST.2;clear d k1 ST)
  | (go_at_call 28;with_reducible refine (HI.out _ _ X1.out.ds).mono ?_;rintro e w2 q;rcases number_cases q with ⟨n,rfl,k⟩ | ⟨s2,W2,n,rfl,d,k⟩;all_goals (have N2:=gH n;have K2:=gH (X1.out.kw.trans k);clear n q;try (have X2:=gH (X1.out.call S.out k d);have xz2:=X2.out.row.ltD;have rz2:=X2.out.res.ltD;clear d)))
  | (go_at_call 28;with_reducible refine (HI.out _ _ X2.out.ds).mono ?_;rintro e w3 q;rcases number_cases q with ⟨n,rfl,k⟩ | ⟨s3,W3,n,rfl,d,k⟩;all_goals (have N3:=gH n;have K3:=gH (X2.out.kw.trans k);clear n q;try (have X3:=gH (X2.out.call S.out k d);have xz3:=X3.out.row.ltD;have rz3:=X3.out.res.ltD;obtain ⟨c3_1,f3_1⟩:=X3.out.cf 1 (by simp);obtain ⟨c3_2,f3_2⟩:=X3.out.cf 2 (by simp);have XF:=(X3.out.set S.out 1 (.int .i64 s2) (by simp)).set S.out 2 (.int .i64 s3) (by simp);simp only [List.set_cons_succ,List.set_cons_zero] at XF;have XF:=gH XF;obtain ⟨e1,e2⟩:=endsAct XF.out rfl rfl (by simp [Value.oneCell']);clear d))))
 ·exact ⟨rfl,K2.out,by rw [show actP (b_crash::WW)=none by simp only [act_crash,N2.out,Option.bind_some,Option.bind_none]];rfl⟩
 ·exact ⟨rfl,K3.out,by rw [show actP (b_crash::WW)=none by simp only [act_crash,N2.out,N3.out,Option.bind_some,Option.bind_none]];rfl⟩
 ·obtain ⟨rf,kwf,wdf,kbf⟩:=XF.out.fin S.out rfl
  refine bodyPost_ret (results_cell rfl _ rfl (lv_row (T:=43) Tryz.underlying43 (by kernel_rfl) rf rfl)) rfl ?_
  have S:=S.out
  have sb:=S.fb
  have sr:=S.fr
  have sx:=S.fx
  refine ⟨kwf,?_⟩
  rw [show actP (b_crash::WW)=some ({ zAct with kind:=11,node:=s2,n:=s3 },W3) by simp only [act_crash,N2.out,N3.out,Option.bind_some]]
  exact ⟨_,rfl,actV_plain hb rfl rfl rfl,wdf⟩
theorem rdact_read (b p:Nat) (WW:Ws) (w:World) (h:WdS w b p (b_read::WW)):Calls Tryz.prog 17 #[.pointer (some ⟨b,0,none⟩)] w (RdQ b p w (ActV b w.heap.size) (actP (b_read::WW))):=by
 have HI:=gH (fun w1 W (h:WdS w1 b p W)=>number_rd b p W w1 h)
 have HW0:=gH (show Calls Tryz.prog 27 #[.pointer (some ⟨b,0,none⟩)] (w.alloc (.cells z33.toArray 43)) fun e w'=>e=.returned (.string ⟨#[114,101,97,100]⟩)∧WdS w' b p WW∧Kw b (w.alloc (.cells z33.toArray 43)) w' from word_yes b p b_read WW _ (h.aft ((Aft.refl w).alloc _)))
 have hb:=h.lt
 have HPL:=gH h.plt
 have HLO:=gH h.low
 clear h
 go_enter Tryz.func17,Tryz.ntmps17
 go_wp2_with (first
  | (go_at_call 27;with_reducible refine HW0.out.mono ?_;rintro e w1 ⟨rfl,d,k1⟩;have ST:=bx_start (t2:=43) (zs:=z33) hb HPL.out HLO.out k1 d [.int .i64 7,.int .i64 0,.int .i64 0,.int .i64 0,.int .i64 0,.int .i64 0,.string ⟨#[]⟩,.string ⟨#[]⟩,.string ⟨#[]⟩,.string ⟨#[]⟩,.string ⟨#[]⟩,.slice none 0 0,.string ⟨#[]⟩,.int .i64 0,.slice none 0 0,.int .i64 0,.int .i64 0,.string ⟨#[]⟩,.string ⟨#[]⟩,.string ⟨#[]⟩,.int .i64 0,.bool false,.int .i64 0,.int .i64 0,.int .i64 0,.string ⟨#[]⟩,.string ⟨#[]⟩,.string ⟨#[]⟩,.slice none 0 0,.string ⟨#[]⟩,.int .i64 0,.int .i64 0,.string ⟨#[]⟩];have S:=gH ST.1;have X1:=gH ST.2;clear d k1 ST)
  | (go_at_call 28;with_reducible refine (HI.out _ _ X1.out.ds).mono ?_;rintro e w2 q;rcases number_cases q with ⟨n,rfl,k⟩ | ⟨s2,W2,n,rfl,d,k⟩;all_goals (have N2:=gH n;have K2:=gH (X1.out.kw.trans k);clear n q;try (have X2:=gH (X1.out.call S.out k d);have xz2:=X2.out.row.ltD;have rz2:=X2.out.res.ltD;clear d)))
  | (go_at_call 28;with_reducible refine (HI.out _ _ X2.out.ds).mono ?_;rintro e w3 q;rcases number_cases q with ⟨n,rfl,k⟩ | ⟨s3,W3,n,rfl,d,k⟩;all_goals (have N3:=gH n;have K3:=gH (X2.out.kw.trans k);clear n q;try (have X3:=gH (X2.out.call S.out k d);have xz3:=X3.out.row.ltD;have rz3:=X3.out.res.ltD;clear d)))
  | (go_at_call 28;with_reducible refine (HI.out _ _ X3.out.ds).mono ?_;rintro e w4 q;rcases number_cases q with ⟨n,rfl,k⟩ | ⟨s4,W4,n,rfl,d,k⟩;all_goals (have N4:=gH n;have K4:=gH (X3.out.kw.trans k);clear n q;try (have X4:=gH (X3.out.call S.out k d);have xz4:=X4.out.row.ltD;have rz4:=X4.out.res.ltD;obtain ⟨c4_1,f4_1⟩:=X4.out.cf 1 (by simp);obtain ⟨c4_3,f4_3⟩:=X4.out.cf 3 (by simp);obtain ⟨c4_4,f4_4⟩:=X4.out.cf 4 (by simp);have XF:=((X4.out.set S.out 1 (.int .i64 s2) (by simp)).set S.out 3 (.int .i64 s3) (by simp)).set S.out 4 (.int .i64 s4) (by simp);simp only [List.set_cons_succ,List.set_cons_zero] at XF;have XF:=gH XF;obtain ⟨e1,e2⟩:=endsAct XF.out rfl rfl (by simp [Value.oneCell']);clear d))))
 ·exact ⟨rfl,K2.out,by rw [show actP (b_read::WW)=none by simp only [act_read,N2.out,Option.bind_some,Option.bind_none,threeP]];rfl⟩
 ·exact ⟨rfl,K3.out,by rw [show actP (b_read::WW)=none by simp only [act_read,N2.out,N3.out,Option.bind_some,Option.bind_none,threeP]];rfl⟩
 ·exact ⟨rfl,K4.out,by rw [show actP (b_read::WW)=none by simp only [act_read,N2.out,N3.out,N4.out,Option.bind_some,Option.bind_none,threeP]];rfl⟩
 ·obtain ⟨rf,kwf,wdf,kbf⟩:=XF.out.fin S.out rfl
  refine bodyPost_ret (results_cell rfl _ rfl (lv_row (T:=43) Tryz.underlying43 (by kernel_rfl) rf rfl)) rfl ?_
  have S:=S.out
  have sb:=S.fb
  have sr:=S.fr
  have sx:=S.fx
  refine ⟨kwf,?_⟩
  rw [show actP (b_read::WW)=some ({ zAct with kind:=7,node:=s2,client:=s3,number:=s4 },W4) by simp only [act_read,N2.out,N3.out,N4.out,Option.bind_some,threeP]]
  exact ⟨_,rfl,actV_plain hb rfl rfl rfl,wdf⟩
theorem cmd_cases {b p B:Nat} {W:Ws} {w:World} {e:Ending} {w':World} (h:RdQ b p w (CmdV b B) (cmdP W) e w') :
  (cmdP W=none∧e=.panicked [{ v:=.iface 74 (.agg #[]),recovered:=false }]∧Kw b w w')∨∃ c A k A2 k2 W',cmdP W=some (c,W')∧e=.returned (.agg (cmdV c A k A2 k2).toArray) ∧
   (ColsV b B w' (.slice A c.cols.length k) c.cols∧NamesV b B w' (.slice A2 c.rule.cols.length k2) c.rule.cols∧CmdOk c)∧WdS w' b p W'∧Kw b w w':=by
 obtain ⟨k,h2⟩:=h
 cases hq:cmdP W with
 | none=>rw [hq] at h2;exact .inl ⟨rfl,h2,k⟩
 | some y =>
  obtain ⟨c,W'⟩:=y
  rw [hq] at h2
  obtain ⟨v,rfl,⟨A,q,A2,q2,rfl,h3⟩,h4⟩:=h2
  exact .inr ⟨c,A,q,A2,q2,W',rfl,rfl,h3,h4,k⟩
theorem rop_cases {b p B:Nat} {W:Ws} {w:World} {e:Ending} {w':World} (h:RdQ b p w (RopV b B) (rowP W) e w') :
  (rowP W=none∧e=.panicked [{ v:=.iface 74 (.agg #[]),recovered:=false }]∧Kw b w w')∨∃ c A k W',rowP W=some (c,W')∧e=.returned (.agg (ropV c A k).toArray) ∧
   (ValsV b B w' (.slice A c.row.length k) c.row∧RopOk c)∧WdS w' b p W'∧Kw b w w':=by
 obtain ⟨k,h2⟩:=h
 cases hq:rowP W with
 | none=>rw [hq] at h2;exact .inl ⟨rfl,h2,k⟩
 | some y =>
  obtain ⟨c,W'⟩:=y
  rw [hq] at h2
  obtain ⟨v,rfl,⟨A,q,rfl,h3,h5,h6,h7,h8,h9⟩,h4⟩:=h2
  exact .inr ⟨c,A,q,W',rfl,rfl,⟨h3,⟨h5,h6,h7,h8,h9⟩⟩,h4,k⟩
theorem sv_at {T:TypeId} {k:Nat} (hi:(Tryz.prog.info? T).map (·.size)=some k) {V:World} {x:Nat} {pre mid post vs:List Value} (h:RowAt V x (pre++(mid++post))) (hm:mid.length=k) (hv:vs.length=k) (h1:∀ v∈vs,v.oneCell'=true) :
  (storeVar T ⟨x,pre.length,none⟩ (.agg vs.toArray)).run Tryz.prog V=.ok () (V.setCells x pre.length vs):=by
 refine run_sv V T x pre.length vs (by rw [hv];exact hi) fun j hj=>⟨?_,?_,?_⟩
 ·rw [h.2.1 (pre.length+j) (by simp;omega),List.getElem?_eq_getElem (by simp;omega)];rfl
 ·exact h.2.2 (pre.length+j) (by simp;omega)
 ·rw [List.getD,List.getElem?_eq_getElem hj];exact h1 _ (List.getElem_mem hj)
theorem svCmd_at {V:World} {x n:Nat} {pre mid post:List Value} (c:Cmd) (A:Option Addr) (k:Nat) (A2:Option Addr) (k2:Nat) (h:RowAt V x (pre++(mid++post))) (hp:pre.length=n) (hm:mid.length=17) :
  (svCmd ⟨x,n,none⟩ (.agg (cmdV c A k A2 k2).toArray)).run Tryz.prog V=.ok () (V.setCells x n (cmdV c A k A2 k2)):=by
 subst hp
 exact sv_at (T:=31) (by kernel_rfl) h hm rfl (by simp [cmdV,Value.oneCell'])
theorem svRop_at {V:World} {x n:Nat} {pre mid post:List Value} (c:ROp) (A:Option Addr) (k:Nat) (h:RowAt V x (pre++(mid++post))) (hp:pre.length=n) (hm:mid.length=9) :
  (svRop ⟨x,n,none⟩ (.agg (ropV c A k).toArray)).run Tryz.prog V=.ok () (V.setCells x n (ropV c A k)):=by
 subst hp
 exact sv_at (T:=41) (by kernel_rfl) h hm rfl (by simp [ropV,Value.oneCell'])
theorem Bx.setsAt {b p r x n:Nat} {w V:World} {W:Ws} {zs:List Value} {pre mid post vs:List Value} (X:Bx b p r x w V W zs (pre++(mid++post))) (S:Bs b p r x w) (hp:pre.length=n) (hm:mid.length=vs.length):Bx b p r x w (V.setCells x n vs) W zs (pre++(vs++post)):=by
 subst hp;exact X.sets S hm
theorem ask_eq (s2 s3 s4:Int) (c:Cmd) (A:Option Addr) (k:Nat) (A2:Option Addr) (k2:Nat):[.int .i64 6,.int .i64 s2,.int .i64 0,.int .i64 s3,.int .i64 s4]++(cmdV c A k A2 k2++[.int .i64 0,.int .i64 0,.int .i64 0,.string ⟨#[]⟩,.string ⟨#[]⟩,.string ⟨#[]⟩,.slice none 0 0,.string ⟨#[]⟩,.int .i64 0,.int .i64 0,.string ⟨#[]⟩])=actV { zAct with kind:=6,node:=s2,client:=s3,number:=s4,cmd:=c } A k A2 k2 none 0:=rfl
theorem rowact_eq (s2:Int) (c:ROp) (A:Option Addr) (k:Nat):[.int .i64 10,.int .i64 0,.int .i64 s2,.int .i64 0,.int .i64 0,.int .i64 0,.string ⟨#[]⟩,.string ⟨#[]⟩,.string ⟨#[]⟩,.string ⟨#[]⟩,.string ⟨#[]⟩,.slice none 0 0,.string ⟨#[]⟩,.int .i64 0,.slice none 0 0,.int .i64 0,.int .i64 0,.string ⟨#[]⟩,.string ⟨#[]⟩,.string ⟨#[]⟩,.int .i64 0,.bool false,.int .i64 0,.int .i64 0]++(ropV c A k++[])=actV { zAct with kind:=10,n:=s2,row:=c } none 0 none 0 A k:=rfl
theorem actV_len (a:Dact) (A:Option Addr) (k:Nat) (A2:Option Addr) (k2:Nat) (A3:Option Addr) (k3:Nat):(actV a A k A2 k2 A3 k3).length=33:=rfl
theorem actV_one (a:Dact) (A:Option Addr) (k:Nat) (A2:Option Addr) (k2:Nat) (A3:Option Addr) (k3:Nat):∀ v∈actV a A k A2 k2 A3 k3,v.oneCell'=true:=by simp [actV,cmdV,ropV,Value.oneCell']
theorem cmdV_len (c:Cmd) (A:Option Addr) (k:Nat) (A2:Option Addr) (k2:Nat):(cmdV c A k A2 k2).length=17:=rfl
theorem ropV_len (c:ROp) (A:Option Addr) (k:Nat):(ropV c A k).length=9:=rfl
theorem rdact_ask (b p:Nat) (WW:Ws) (w:World) (h:WdS w b p (b_ask::WW)):Calls Tryz.prog 17 #[.pointer (some ⟨b,0,none⟩)] w (RdQ b p w (ActV b w.heap.size) (actP (b_ask::WW))):=by
 have HI:=gH (fun w1 W (h:WdS w1 b p W)=>number_rd b p W w1 h)
 have HW0:=gH (show Calls Tryz.prog 27 #[.pointer (some ⟨b,0,none⟩)] (w.alloc (.cells z33.toArray 43)) fun e w'=>e=.returned (.string ⟨#[97,115,107]⟩)∧WdS w' b p WW∧Kw b (w.alloc (.cells z33.toArray 43)) w' from word_yes b p b_ask WW _ (h.aft ((Aft.refl w).alloc _)))
 have hb:=h.lt
 have HPL:=gH h.plt
 have HLO:=gH h.low
 have HC:=gH (fun w1 W (h:WdS w1 b p W)=>command_rd b p W w1 h)
 clear h
 go_enter Tryz.func17,Tryz.ntmps17
 go_wp2_with (first
  | (go_at_call 27;with_reducible refine HW0.out.mono ?_;rintro e w1 ⟨rfl,d,k1⟩;have ST:=bx_start (t2:=43) (zs:=z33) hb HPL.out HLO.out k1 d [.int .i64 6,.int .i64 0,.int .i64 0,.int .i64 0,.int .i64 0,.int .i64 0,.string ⟨#[]⟩,.string ⟨#[]⟩,.string ⟨#[]⟩,.string ⟨#[]⟩,.string ⟨#[]⟩,.slice none 0 0,.string ⟨#[]⟩,.int .i64 0,.slice none 0 0,.int .i64 0,.int .i64 0,.string ⟨#[]⟩,.string ⟨#[]⟩,.string ⟨#[]⟩,.int .i64 0,.bool false,.int .i64 0,.int .i64 0,.int .i64 0,.string ⟨#[]⟩,.string ⟨#[]⟩,.string ⟨#[]⟩,.slice none 0 0,.string ⟨#[]⟩,.int .i64 0,.int .i64 0,.string ⟨#[]⟩];have S:=gH ST.1;have X1:=gH ST.2;clear d k1 ST)
  | (go_at_call 28;with_reducible refine (HI.out _ _ X1.out.ds).mono ?_;rintro e w2 q;rcases number_cases q with ⟨n,rfl,k⟩ | ⟨s2,W2,n,rfl,d,k⟩;all_goals (have N2:=gH n;have K2:=gH (X1.out.kw.trans k);clear n q;try (have X2:=gH (X1.out.call S.out k d);have xz2:=X2.out.row.ltD;have rz2:=X2.out.res.ltD;clear d)))
  | (go_at_call 28;with_reducible refine (HI.out _ _ X2.out.ds).mono ?_;rintro e w3 q;rcases number_cases q with ⟨n,rfl,k⟩ | ⟨s3,W3,n,rfl,d,k⟩;all_goals (have N3:=gH n;have K3:=gH (X2.out.kw.trans k);clear n q;try (have X3:=gH (X2.out.call S.out k d);have xz3:=X3.out.row.ltD;have rz3:=X3.out.res.ltD;clear d)))
  | (go_at_call 28;with_reducible refine (HI.out _ _ X3.out.ds).mono ?_;rintro e w4 q;rcases number_cases q with ⟨n,rfl,k⟩ | ⟨s4,W4,n,rfl,d,k⟩;all_goals (have N4:=gH n;have K4:=gH (X3.out.kw.trans k);clear n q;try (have X4:=gH (X3.out.call S.out k d);have xz4:=X4.out.row.ltD;have rz4:=X4.out.res.ltD;obtain ⟨c4_1,f4_1⟩:=X4.out.cf 1 (by simp);obtain ⟨c4_3,f4_3⟩:=X4.out.cf 3 (by simp);obtain ⟨c4_4,f4_4⟩:=X4.out.cf 4 (by simp);have X4s:=gH (((X4.out.set S.out 1 (.int .i64 s2) (by simp)).set S.out 3 (.int .i64 s3) (by simp)).set S.out 4 (.int .i64 s4) (by simp));clear d)))
  | (go_at_call 29;with_reducible refine (HC.out _ _ X4s.out.ds).mono ?_;rintro e w5 q;rcases cmd_cases q with ⟨n,rfl,k1⟩ | ⟨c,A,k,A2,k2,W5,n,rfl,g,d,k1⟩;all_goals (have N5:=gH n;have K5:=gH (X4s.out.kw.trans k1);clear n q;try (have X5:=gH (X4s.out.call S.out k1 d);have xz5:=X5.out.row.ltD;have X5p:Bx b p w.heap.size w1.heap.size w w5 W5 z33 ([.int .i64 6,.int .i64 s2,.int .i64 0,.int .i64 s3,.int .i64 s4]++(z17++[.int .i64 0,.int .i64 0,.int .i64 0,.string ⟨#[]⟩,.string ⟨#[]⟩,.string ⟨#[]⟩,.slice none 0 0,.string ⟨#[]⟩,.int .i64 0,.int .i64 0,.string ⟨#[]⟩])):=(by have:=X5.out;simpa only [List.set_cons_succ,List.set_cons_zero,List.cons_append,List.nil_append,List.append_nil] using this);have e5:=svCmd_at c A k A2 k2 X5p.row (n:=5) (by simp) (by simp);have XF:=X5p.setsAt (n:=5) (vs:=cmdV c A k A2 k2) S.out (by simp) (by simp [cmdV_len]);rw [ask_eq] at XF;have XF:=gH XF;obtain ⟨e1,e2⟩:=endsAct XF.out rfl (actV_len _ _ _ _ _ _ _) (actV_one _ _ _ _ _ _ _);clear d k1 X5p))))
 ·exact ⟨rfl,K2.out,by rw [show actP (b_ask::WW)=none by simp only [act_ask,N2.out,Option.bind_some,Option.bind_none,threeP]];rfl⟩
 ·exact ⟨rfl,K3.out,by rw [show actP (b_ask::WW)=none by simp only [act_ask,N2.out,N3.out,Option.bind_some,Option.bind_none,threeP]];rfl⟩
 ·exact ⟨rfl,K4.out,by rw [show actP (b_ask::WW)=none by simp only [act_ask,N2.out,N3.out,N4.out,Option.bind_some,Option.bind_none,threeP]];rfl⟩
 ·exact ⟨rfl,K5.out,by rw [show actP (b_ask::WW)=none by simp only [act_ask,N2.out,N3.out,N4.out,N5.out,Option.bind_some,Option.bind_none,threeP]];rfl⟩
 ·obtain ⟨rf,kwf,wdf,kbf⟩:=XF.out.fin S.out rfl
  refine bodyPost_ret (results_cell rfl _ rfl (lv_row (T:=43) Tryz.underlying43 (by kernel_rfl) rf rfl)) rfl ?_
  have S:=S.out
  have sb:=S.fb
  have sr:=S.fr
  have sx:=S.fx
  obtain ⟨g1,g2,g3⟩:=g
  have z2:=X4s.out.row.ltD
  have z3:=X4s.out.res.ltD
  have z4:=X4s.out.ds.lt
  have kx:=kb_setCellsD w1.heap.size (cmdV c A k A2 k2) w5 5
  refine ⟨kwf,?_⟩
  rw [show actP (b_ask::WW)=some ({ zAct with kind:=6,node:=s2,client:=s3,number:=s4,cmd:=c },W5) by simp only [act_ask,N2.out,N3.out,N4.out,N5.out,Option.bind_some,threeP]]
  exact ⟨_,rfl,⟨_,_,_,_,_,_,rfl,((g1.hi kx (fun g e=>by have e':g=_:=e;omega)).hi kbf (fun g e=>by have e':g=_:=e;omega)).down (by omega) (by omega),((g2.hi kx (fun g e=>by have e':g=_:=e;omega)).hi kbf (fun g e=>by have e':g=_:=e;omega)).down (by omega) (by omega),vals_nil b _ _ sb,g3,ropOk_z⟩,wdf⟩
theorem rdact_row (b p:Nat) (WW:Ws) (w:World) (h:WdS w b p (b_row::WW)):Calls Tryz.prog 17 #[.pointer (some ⟨b,0,none⟩)] w (RdQ b p w (ActV b w.heap.size) (actP (b_row::WW))):=by
 have HI:=gH (fun w1 W (h:WdS w1 b p W)=>number_rd b p W w1 h)
 have HW0:=gH (show Calls Tryz.prog 27 #[.pointer (some ⟨b,0,none⟩)] (w.alloc (.cells z33.toArray 43)) fun e w'=>e=.returned (.string ⟨#[114,111,119]⟩)∧WdS w' b p WW∧Kw b (w.alloc (.cells z33.toArray 43)) w' from word_yes b p b_row WW _ (h.aft ((Aft.refl w).alloc _)))
 have hb:=h.lt
 have HPL:=gH h.plt
 have HLO:=gH h.low
 have HR:=gH (fun w1 W (h:WdS w1 b p W)=>row_rd b p W w1 h)
 clear h
 go_enter Tryz.func17,Tryz.ntmps17
 go_wp2_with (first
  | (go_at_call 27;with_reducible refine HW0.out.mono ?_;rintro e w1 ⟨rfl,d,k1⟩;have D1:=gH d;have R1:=gH k1;clear d k1)
  | (go_at_call 28;with_reducible refine (HI.out _ _ D1.out).mono ?_;rintro e w2 q;rcases number_cases q with ⟨n,rfl,k1⟩ | ⟨s2,W2,n,rfl,d,k1⟩;all_goals (have N2:=gH n;have R2:=gH (R1.out.trans k1);have K2:=gH (((Kw.refl b w).alloc _).trans R2.out);clear n q;try (have ST:=bx_start (t2:=43) (zs:=z33) hb HPL.out HLO.out R2.out d [.int .i64 10,.int .i64 0,.int .i64 s2,.int .i64 0,.int .i64 0,.int .i64 0,.string ⟨#[]⟩,.string ⟨#[]⟩,.string ⟨#[]⟩,.string ⟨#[]⟩,.string ⟨#[]⟩,.slice none 0 0,.string ⟨#[]⟩,.int .i64 0,.slice none 0 0,.int .i64 0,.int .i64 0,.string ⟨#[]⟩,.string ⟨#[]⟩,.string ⟨#[]⟩,.int .i64 0,.bool false,.int .i64 0,.int .i64 0,.int .i64 0,.string ⟨#[]⟩,.string ⟨#[]⟩,.string ⟨#[]⟩,.slice none 0 0,.string ⟨#[]⟩,.int .i64 0,.int .i64 0,.string ⟨#[]⟩];have S:=gH ST.1;have X2:=gH ST.2;clear d k1 ST)))
  | (go_at_call 31;with_reducible refine (HR.out _ _ X2.out.ds).mono ?_;rintro e w3 q;rcases rop_cases q with ⟨n,rfl,k1⟩ | ⟨c,A,k,W3,n,rfl,g,d,k1⟩;all_goals (have N3:=gH n;have K3:=gH (X2.out.kw.trans k1);clear n q;try (have X3:=gH (X2.out.call S.out k1 d);have xz3:=X3.out.row.ltD;have X3p:Bx b p w.heap.size w2.heap.size w w3 W3 z33 ([.int .i64 10,.int .i64 0,.int .i64 s2,.int .i64 0,.int .i64 0,.int .i64 0,.string ⟨#[]⟩,.string ⟨#[]⟩,.string ⟨#[]⟩,.string ⟨#[]⟩,.string ⟨#[]⟩,.slice none 0 0,.string ⟨#[]⟩,.int .i64 0,.slice none 0 0,.int .i64 0,.int .i64 0,.string ⟨#[]⟩,.string ⟨#[]⟩,.string ⟨#[]⟩,.int .i64 0,.bool false,.int .i64 0,.int .i64 0]++([.int .i64 0,.string ⟨#[]⟩,.string ⟨#[]⟩,.string ⟨#[]⟩,.slice none 0 0,.string ⟨#[]⟩,.int .i64 0,.int .i64 0,.string ⟨#[]⟩]++[])):=(by have:=X3.out;simpa only [List.set_cons_succ,List.set_cons_zero,List.cons_append,List.nil_append,List.append_nil] using this);have e5:=svRop_at c A k X3p.row (n:=24) (by simp) (by simp);have XF:=X3p.setsAt (n:=24) (vs:=ropV c A k) S.out (by simp) (by simp [ropV_len]);rw [rowact_eq] at XF;have XF:=gH XF;obtain ⟨e1,e2⟩:=endsAct XF.out rfl (actV_len _ _ _ _ _ _ _) (actV_one _ _ _ _ _ _ _);clear d k1 X3p))))
 ·exact ⟨rfl,K2.out,by rw [show actP (b_row::WW)=none by simp only [act_row,N2.out,Option.bind_some,Option.bind_none]];rfl⟩
 ·exact ⟨rfl,K3.out,by rw [show actP (b_row::WW)=none by simp only [act_row,N2.out,N3.out,Option.bind_some,Option.bind_none]];rfl⟩
 ·obtain ⟨rf,kwf,wdf,kbf⟩:=XF.out.fin S.out rfl
  refine bodyPost_ret (results_cell rfl _ rfl (lv_row (T:=43) Tryz.underlying43 (by kernel_rfl) rf rfl)) rfl ?_
  have S:=S.out
  have sb:=S.fb
  have sr:=S.fr
  have sx:=S.fx
  obtain ⟨g1,g2⟩:=g
  have z2:=X2.out.row.ltD
  have z3:=X2.out.res.ltD
  have z4:=X2.out.ds.lt
  have kx:=kb_setCellsD w2.heap.size (ropV c A k) w3 24
  refine ⟨kwf,?_⟩
  rw [show actP (b_row::WW)=some ({ zAct with kind:=10,n:=s2,row:=c },W3) by simp only [act_row,N2.out,N3.out,Option.bind_some]]
  exact ⟨_,rfl,⟨_,_,_,_,_,_,rfl,cols_nil b _ _ sb,names_nil b _ _ sb,⟨((g1.1.hi kx (fun g e=>by have e':g=_:=e;omega)).hi kbf (fun g e=>by have e':g=_:=e;omega)).down (by omega) (by omega),g1.2⟩,cmdOk_z,g2⟩,wdf⟩
theorem rdact_none (b p:Nat) (f:ByteArray) (WW:Ws) (w:World) (h:WdS w b p (f::WW)) (h0:eqS f b_tick=false) (h1:eqS f b_world=false) (h2:eqS f b_start=false) (h3:eqS f b_deliver=false) (h4:eqS f b_drop=false) (h5:eqS f b_double=false) (h6:eqS f b_ask=false) (h7:eqS f b_read=false) (h8:eqS f b_learner=false) (h9:eqS f b_voter=false) (h10:eqS f b_remove=false) (h11:eqS f b_lease=false) (h12:eqS f b_row=false) (h13:eqS f b_crash=false):Calls Tryz.prog 17 #[.pointer (some ⟨b,0,none⟩)] w (RdQ b p w (ActV b w.heap.size) (actP (f::WW))):=by
 have HI:=gH (fun w1 W (h:WdS w1 b p W)=>number_rd b p W w1 h)
 have HW0:=gH (show Calls Tryz.prog 27 #[.pointer (some ⟨b,0,none⟩)] (w.alloc (.cells z33.toArray 43)) fun e w'=>e=.returned (.string f)∧WdS w' b p WW∧Kw b (w.alloc (.cells z33.toArray 43)) w' from word_yes b p f WW _ (h.aft ((Aft.refl w).alloc _)))
 have hb:=h.lt
 have HPL:=gH h.plt
 have HLO:=gH h.low
 have q0:(f.toList==[116,105,99,107])=false:=by have:=eqS_as h0;exact this
 have q1:(f.toList==[119,111,114,108,100])=false:=by have:=eqS_as h1;exact this
 have q2:(f.toList==[115,116,97,114,116])=false:=by have:=eqS_as h2;exact this
 have q3:(f.toList==[100,101,108,105,118,101,114])=false:=by have:=eqS_as h3;exact this
 have q4:(f.toList==[100,114,111,112])=false:=by have:=eqS_as h4;exact this
 have q5:(f.toList==[100,111,117,98,108,101])=false:=by have:=eqS_as h5;exact this
 have q6:(f.toList==[97,115,107])=false:=by have:=eqS_as h6;exact this
 have q7:(f.toList==[114,101,97,100])=false:=by have:=eqS_as h7;exact this
 have q8:(f.toList==[108,101,97,114,110,101,114])=false:=by have:=eqS_as h8;exact this
 have q9:(f.toList==[118,111,116,101,114])=false:=by have:=eqS_as h9;exact this
 have q10:(f.toList==[114,101,109,111,118,101])=false:=by have:=eqS_as h10;exact this
 have q11:(f.toList==[108,101,97,115,101])=false:=by have:=eqS_as h11;exact this
 have q12:(f.toList==[114,111,119])=false:=by have:=eqS_as h12;exact this
 have q13:(f.toList==[99,114,97,115,104])=false:=by have:=eqS_as h13;exact this
 have HB:=gH (show actP (f::WW)=none by rw [actP_cons];unfold actT;simp only [h0,h1,h2,h3,h4,h5,h6,h7,h8,h9,h10,h11,h12,h13,Bool.false_eq_true,if_false])
 clear h0 h1 h2 h3 h4 h5 h6 h7 h8 h9 h10 h11 h12 h13
 clear h
 go_enter Tryz.func17,Tryz.ntmps17
 go_wp2_with (first
  | (go_at_call 27;with_reducible refine HW0.out.mono ?_;rintro e w1 ⟨rfl,d,k1⟩;have X1:=gH (Br.start (zs:=z33) hb HPL.out HLO.out k1 d);clear d k1))
 ·exact ⟨rfl,X1.out.kw,by rw [HB.out];rfl⟩
theorem act_rd (b p:Nat) (W:Ws) (w:World) (h:WdS w b p W):Calls Tryz.prog 17 #[.pointer (some ⟨b,0,none⟩)] w (RdQ b p w (ActV b w.heap.size) (actP W)):=by
 cases W with
 | nil =>
  have HW0:=gH (word_no b p _ (h.aft ((Aft.refl w).alloc (.cells z33.toArray 43))))
  clear h
  go_enter Tryz.func17,Tryz.ntmps17
  go_wp2_with (first | (go_at_call 27;refine HW0.out.mono ?_;rintro e w' ⟨he,rfl⟩;unfold NoL at he;subst he))
  exact ⟨rfl,(Kw.refl _ _).alloc _,rfl⟩
 | cons f WW =>
  cases h0:eqS f b_tick with
  | true=>rw [eqS_iffD] at h0;subst h0;exact rdact_tick b p WW w h
  | false =>
  cases h1:eqS f b_world with
  | true=>rw [eqS_iffD] at h1;subst h1;exact rdact_world b p WW w h
  | false =>
  cases h2:eqS f b_start with
  | true=>rw [eqS_iffD] at h2;subst h2;exact rdact_start b p WW w h
  | false =>
  cases h3:eqS f b_deliver with
  | true=>rw [eqS_iffD] at h3;subst h3;exact rdact_deliver b p WW w h
  | false =>
  cases h4:eqS f b_drop with
  | true=>rw [eqS_iffD] at h4;subst h4;exact rdact_drop b p WW w h
  | false =>
  cases h5:eqS f b_double with
  | true=>rw [eqS_iffD] at h5;subst h5;exact rdact_double b p WW w h
  | false =>
  cases h6:eqS f b_ask with
  | true=>rw [eqS_iffD] at h6;subst h6;exact rdact_ask b p WW w h
  | false =>
  cases h7:eqS f b_read with
  | true=>rw [eqS_iffD] at h7;subst h7;exact rdact_read b p WW w h
  | false =>
  cases h8:eqS f b_learner with
  | true=>rw [eqS_iffD] at h8;subst h8;exact rdact_learner b p WW w h
  | false =>
  cases h9:eqS f b_voter with
  | true=>rw [eqS_iffD] at h9;subst h9;exact rdact_voter b p WW w h
  | false =>
  cases h10:eqS f b_remove with
  | true=>rw [eqS_iffD] at h10;subst h10;exact rdact_remove b p WW w h
  | false =>
  cases h11:eqS f b_lease with
  | true=>rw [eqS_iffD] at h11;subst h11;exact rdact_lease b p WW w h
  | false =>
  cases h12:eqS f b_row with
  | true=>rw [eqS_iffD] at h12;subst h12;exact rdact_row b p WW w h
  | false =>
  cases h13:eqS f b_crash with
  | true=>rw [eqS_iffD] at h13;subst h13;exact rdact_crash b p WW w h
  | false =>
  exact rdact_none b p f WW w h h0 h1 h2 h3 h4 h5 h6 h7 h8 h9 h10 h11 h12 h13
theorem ix_hit:∀ {l:Bts} {c:UInt8} {i:Nat},Lib.indexByte l c=i→c∉l.take i∧l=l.take i++c::l.drop (i+1)∧i < l.length:=by
 intro l c i h
 obtain ⟨h1,h2⟩:=Lib.indexByte_some h
 obtain ⟨hl,h3⟩:=List.getElem?_eq_some_iff.1 h1
 refine ⟨fun hm=>?_,?_,hl⟩
 ·obtain ⟨k,hk,he⟩:=List.mem_iff_getElem.1 hm
  simp only [List.length_take] at hk
  refine h2 k (by omega) ?_
  rw [List.getElem?_eq_some_iff]
  exact ⟨by omega,by simpa using he⟩
 ·conv=>lhs;rw [← List.take_append_drop i l]
  rw [List.drop_eq_getElem_cons hl,h3]
theorem ix_miss {l:Bts} {c:UInt8} (h:Lib.indexByte l c = -1):c∉l:=fun hm=>by
 obtain ⟨k,hk,he⟩:=List.mem_iff_getElem.1 hm
 exact Lib.indexByte_none h k (by rw [List.getElem?_eq_some_iff];exact ⟨hk,he⟩)
def spB:ByteArray:=⟨#[32]⟩
theorem ixB (s:ByteArray):Lib.indexB s spB=Lib.indexByte s.data.toList 32:=Lib.index_one _ _
theorem split_words:∀ (k:Nat) (s:ByteArray),Lib.countB s spB=k→Lib.splitB spB 0 k s=wordsB s:=by
 intro k
 induction k with
 | zero =>
  intro s hk
  have hm:Lib.indexB s spB = -1:=by
   rcases Lib.indexB_cases s spB with h | ⟨i,h,_⟩
   ·exact h
   ·rw [Lib.countB_hit s spB i (by decide) h] at hk;omega
  rw [Lib.splitB_zero,wordsB,cut_free 32 _ (ix_miss (by rw [← ixB];exact hm))]
  simp [wd_of]
 | succ k ih =>
  intro s hk
  rcases Lib.indexB_cases s spB with h | ⟨i,h,_⟩
  ·rw [Lib.countB_miss s spB h] at hk;omega
  ·have h':=h
   rw [ixB] at h'
   obtain ⟨q1,q2,q3⟩:=ix_hit h'
   have hk2:Lib.countB (s.extract (i+spB.size) s.size) spB=k:=by
    have:=Lib.countB_hit s spB i (by decide) h
    omega
   rw [Lib.splitB_hit spB 0 k s i h,ih _ hk2]
   unfold wordsB
   conv=>rhs;rw [q2,cut_pre 32 _ _ q1]
   rw [List.map_cons]
   congr 1
   ·refine ba_ext ?_
    rw [wd_data,Nat.add_zero,Lib.extract_upto]
   ·rw [Lib.extract_to_end]
    rfl
theorem words_len (s:ByteArray):(wordsB s).length≤s.size+1:=by
 unfold wordsB
 rw [List.length_map,Lib.size_eq]
 exact cut_len 32 _
theorem cut_each (b:UInt8):∀ (l w:Bts),w∈cutL b l→w.length≤l.length
 | [],w,h=>by
  simp only [cutL,List.mem_singleton] at h
  subst h;simp
 | c::l,w,h=>by
  have ih:=cut_each b l
  unfold cutL at h
  split at h
  ·rcases List.mem_cons.1 h with rfl | h
   ·simp
   ·have:=ih w h;simp;omega
  ·split at h
   ·simp only [List.mem_singleton] at h
    subst h;simp
   ·rename_i v r hq
    rcases List.mem_cons.1 h with rfl | h
    ·have:=ih v (by rw [hq];simp);simp;omega
    ·have:=ih w (by rw [hq];simp [h]);simp;omega
theorem words_each {s x:ByteArray} (h:x∈wordsB s):x.size≤s.size:=by
 unfold wordsB at h
 obtain ⟨l,hl,rfl⟩:=List.mem_map.1 h
 rw [wd_size,Lib.size_eq]
 exact cut_each 32 _ _ hl
theorem words_ne (s:ByteArray):wordsB s≠[]:=by
 unfold wordsB
 intro h
 exact cutL_ne 32 _ (List.map_eq_nil_iff.1 h)
def zs33:List Value:=z33
theorem caught_panic (q:Nat) (x:Value) (w:World) (rq:RowAt w q [x]) :
  CallsD Tryz.prog 15 #[.pointer (some ⟨q,0,none⟩)] (.panicking [{ v:=.iface 74 (.agg #[]),recovered:=false }]) w fun e u' w' =>
   e=.returned (.tuple #[])∧u'=.panicking [{ v:=.iface 74 (.agg #[]),recovered:=true }]∧Kb (fun g=>g=q) w w'∧RowAt w' q [.int .i64 230]:=by
 refine callsD_of_wpS Tryz.func15 rfl fun c₀ cs hu=>?_
 apply wpS_seq
 apply wpS_region
 simp [wpOpsS,go_sem,recoverD,hu,Tryz.ntmps15,Exit.thenS]
 have e:(#[Value.pointer (some ⟨q,0,none⟩)]++((Array.replicate 9 undef).setIfInBounds 2 (Value.iface 74 (Value.agg #[]))).setIfInBounds 1 (Value.iface 74 (Value.agg #[])))=#[Value.pointer (some ⟨q,0,none⟩),undef,Value.iface 74 (Value.agg #[]),Value.iface 74 (Value.agg #[]),undef,undef,undef,undef,undef,undef]:=rfl
 rw [e]
 clear e
 have HQ:=gH rq
 have y0:=rq.cell (j:=0) rfl
 have g0:=rq.2.2 0 (by simp)
 have yz:=rq.1
 clear rq
 have hta:∀ V:World,(Instr.typeAssert (Value.iface 74 (Value.agg #[])) 20 74 false).run Tryz.prog V=.ok (.agg #[]) V:=fun V=>by first | rfl | kernel_rfl
 refine wpS_of_wp ?_
 go_wp2_with fail
 refine ⟨rfl,_,rfl,.tuple #[],?_,rfl,rfl,Kb.set _ _ _ _ |>.mono (fun g _ e=>e),?_⟩
 ·exact results_none rfl _ _ _
 ·exact HQ.out.set 0 _ (by simp)
theorem zero_act (p q:Nat) (k:Int) (xs:List Value) (hk:k≠0) (u:FrameMode) (w:World) (rp:RowAt w p xs) (hl:xs.length=33) (rq:RowAt w q [.int .i64 k]) (hpq:p≠q) :
  CallsD Tryz.prog 14 #[.pointer (some ⟨q,0,none⟩),.pointer (some ⟨p,0,none⟩)] u w fun e u' w' =>
   u'=u∧e=.returned (.tuple #[])∧w'=w.setCells p 0 zs33:=by
 have y0:=rq.cell (j:=0) rfl
 have hst:(svAct ⟨p,0,none⟩ (.agg z33.toArray)).run Tryz.prog w=.ok () (w.setCells p 0 zs33):=sv_row (T:=43) (k:=33) (vs:=zs33) (by kernel_rfl) rp hl rfl (by simp [zs33,Value.oneCell'])
 have hne:(k != 0)=true:=by simpa using hk
 clear rq rp
 go_enter_d Tryz.func14,Tryz.ntmps14
 go_wp2_with fail
 ·go_end0
  exact ⟨rfl,rfl⟩
theorem keep_act (p q:Nat) (u:FrameMode) (w:World) (rq:RowAt w q [.int .i64 0]) :
  CallsD Tryz.prog 14 #[.pointer (some ⟨q,0,none⟩),.pointer (some ⟨p,0,none⟩)] u w fun e u' w' =>
   u'=u∧e=.returned (.tuple #[])∧w'=w:=by
 have y0:=rq.cell (j:=0) rfl
 clear rq
 go_enter_d Tryz.func14,Tryz.ntmps14
 go_wp2_with fail
 go_end0
 exact ⟨rfl,rfl⟩
theorem caught_idle (q:Addr) (w:World) :
  CallsD Tryz.prog 15 #[.pointer (some q)] .returning w fun e u' w'=>e=.returned (.tuple #[])∧u'=.returning∧w'=w:=by
 refine callsD_of_wpS Tryz.func15 rfl fun c₀ cs hu=>?_
 apply wpS_seq
 apply wpS_region
 simp [wpOpsS,go_sem,recoverD,hu,Tryz.ntmps15,Exit.thenS]
 have e:(#[Value.pointer (some q)]++((Array.replicate 9 undef).setIfInBounds 2 Value.nilIface).setIfInBounds 1 Value.nilIface)=#[Value.pointer (some q),undef,Value.nilIface,Value.nilIface,undef,undef,undef,undef,undef,undef]:=rfl
 rw [e]
 clear e
 refine wpS_of_wp ?_
 go_wp2_with fail
 cases c₀
 refine ⟨rfl,_,?_,.tuple #[],?_,rfl,rfl,rfl⟩
 ·simp only at hu
  subst hu
  rfl
 ·exact results_none rfl _ _ _
theorem results_cellsD2 {fn:Func} {a u:Tmp} {t s:TypeId} (h:fn.results=#[.cell a t,.cell u s]) (tmps:Array Value) {P:Program} {w:World} {p q:Addr} {v x:Value} (ha:tmps.getD a undef=.pointer (some p)) (hu:tmps.getD u undef=.pointer (some q)) (hl:(loadVar t p).run P w=.ok v w) (hm:(loadVar s q).run P w=.ok x w) :
  (results fn tmps).run P w=.ok (.tuple #[v,x]) w:=by
 rw [Array.getD_eq_getD_getElem?] at ha hu
 simp [results,h,ha,hu,asAddr,hl,hm]
theorem lvErrD_row {V:World} {q:Nat} {k:Int} (h:RowAt V q [.int .i64 k]):(loadVar 44 ⟨q,0,none⟩).run Tryz.prog V=.ok (.int .i64 k) V:=by
 have y0:=h.cell (j:=0) rfl
 simp [go_sem,y0]
def parseDs (p q:Nat):List Deferred:=[{ target:=Target.fn (Fn.func 15) #[],args:=#[.pointer (some ⟨q,0,none⟩)] },{ target:=Target.fn (Fn.func 14) #[.pointer (some ⟨q,0,none⟩),.pointer (some ⟨p,0,none⟩)],args:=#[] }]
theorem desk_dies {tmps:Array Value} {R:Ending→World→Prop} {p q:Nat} {xs:List Value} {x:Value} {V:World} (h2:tmps.getD 2 undef=.pointer (some ⟨p,0,none⟩)) (h3:tmps.getD 3 undef=.pointer (some ⟨q,0,none⟩)) (rp:RowAt V p xs) (hl:xs.length=33) (rq:RowAt V q [x]) (hpq:p≠q)
  (hR:∀ w',Kb (fun g=>g=p∨g=q) V w'→R (.returned (.tuple #[.agg zs33.toArray,.int .i64 230])) w') :
  Leaves Tryz.prog Tryz.f6 tmps R (parseDs p q) (.panicking [{ v:=.iface 74 (.agg #[]),recovered:=false }]) V:=by
 refine leaves_cons (f:=15) (args:=#[.pointer (some ⟨q,0,none⟩)]) (by simp) (by simp [go_sem]) ?_
 refine (caught_panic q x V rq).mono ?_
 rintro e u' w1 ⟨rfl,rfl,kb,r1⟩
 have rp1:=kb.row rp hpq
 refine leaves_cons (f:=14) (args:=#[.pointer (some ⟨q,0,none⟩),.pointer (some ⟨p,0,none⟩)]) (by simp [settle]) (by simp [go_sem]) ?_
 refine (zero_act p q 230 xs (by decide) _ w1 rp1 hl r1 hpq).mono ?_
 rintro e u' w2 ⟨rfl,rfl,rfl⟩
 have k2:=kb_setCellsD p zs33 w1 0
 have r2:RowAt (w1.setCells p 0 zs33) p zs33:=by simpa using row_setCells zs33 w1 [] xs rp1 hl
 have r3:=k2.row r1 (fun e=>hpq e.symm)
 exact ⟨_,results_cellsD2 rfl tmps h2 h3 (lvAct_row r2 rfl) (lvErrD_row r3),hR _ ((kb.mono fun g _ e=>.inr e).trans (k2.mono fun g _ e=>.inl e))⟩
theorem desk_goes {tmps:Array Value} {R:Ending→World→Prop} {p q:Nat} {cs:List Value} {V:World} (h2:tmps.getD 2 undef=.pointer (some ⟨p,0,none⟩)) (h3:tmps.getD 3 undef=.pointer (some ⟨q,0,none⟩)) (rp:RowAt V p cs) (hl:cs.length=33) (rq:RowAt V q [.int .i64 0])
  (hR:R (.returned (.tuple #[.agg cs.toArray,.int .i64 0])) V) :
  Leaves Tryz.prog Tryz.f6 tmps R (parseDs p q) .returning V:=by
 refine leaves_cons (f:=15) (args:=#[.pointer (some ⟨q,0,none⟩)]) (by simp) (by simp [go_sem]) ?_
 refine (caught_idle ⟨q,0,none⟩ V).mono ?_
 rintro e u' w1 ⟨rfl,rfl,rfl⟩
 refine leaves_cons (f:=14) (args:=#[.pointer (some ⟨q,0,none⟩),.pointer (some ⟨p,0,none⟩)]) (by simp [settle]) (by simp [go_sem]) ?_
 refine (keep_act p q _ w1 rq).mono ?_
 rintro e u' w2 ⟨rfl,rfl,rfl⟩
 exact ⟨_,results_cellsD2 rfl tmps h2 h3 (lvAct_row rp hl) (lvErrD_row rq),hR⟩
def ParseQ (w:World) (o:Option Dact) (e:Ending) (w':World):Prop :=
 Aft w w'∧match o with
 | some a=>∃ b B v,w.heap.size≤b∧ActV b B w' v a∧e=.returned (.tuple #[v,.int .i64 0])
 | none=>e=.returned (.tuple #[.agg zs33.toArray,.int .i64 230])
theorem split_in (s:ByteArray) (w:World) (hs:s.size≤4096) (hl:LibV w) :
  Calls Tryz.prog 16 #[.string s,.string ⟨#[32]⟩] w fun e w'=>e=.returned (.slice (some ⟨w.heap.size,0,none⟩) (wordsB s).length (wordsB s).length)∧Aft w w'∧Pcs w' w.heap.size 0 (wordsB s).length (wordsB s)∧w'.heap.size=w.heap.size+1∧LibV w':=by
 obtain ⟨m,hm⟩:=hl
 refine (Tryz.strings_Split s spB m w (by omega) hm (by decide)).mono ?_
 rintro e w' ⟨rfl,rfl⟩
 have e1:Lib.splitB spB 0 (Lib.countB s spB) s=wordsB s:=split_words _ s rfl
 have e2:Lib.countB s spB+1=(wordsB s).length:=by rw [← e1,Lib.splitB_all spB (by decide) 0 _ s rfl]
 rw [e1,e2]
 refine ⟨rfl,(Aft.refl w).alloc _,⟨Nat.le_refl _,by simp,fun i hi=>⟨?_,Nat.le_trans (words_each (List.getElem_mem hi)) hs⟩⟩,by simp,LibV.kb (P:=fun _=>False) ⟨m,hm⟩ (Kb.of_aft ((Aft.refl w).alloc _)) id⟩
 have r:=rowAt_newD w ((wordsB s).map Value.string) 9
 rw [Nat.zero_add]
 exact r.cell (j:=i) (by simp [hi])
structure PSt (w:World) (b p:Nat) (a:Dact) (W':Ws) (v:Value) (zs:List Value) (V:World):Prop where
 act:∃ B,w.heap.size+1 < B∧ActV b B V v a
 wds:WdS V b p W'
 aft:Aft w V
 lb:w.heap.size+1 < b
 lp:w.heap.size+1 < p
 lm:0 < w.heap.size
 row:RowAt V w.heap.size zs
 len:zs.length=33
 err:RowAt V (w.heap.size+1) [.int .i64 0]
theorem PSt.free {w:World} {b p:Nat} {a:Dact} {W':Ws} {v:Value} {zs:List Value} {V:World} (h:PSt w b p a W' v zs V):V.frozen? ⟨w.heap.size+1,0,none⟩=false:=h.err.2.2 0 (by simp)
theorem PSt.fin {w:World} {b p:Nat} {a:Dact} {W':Ws} {A:Option Addr} {k:Nat} {A2:Option Addr} {k2:Nat} {A3:Option Addr} {k3:Nat} {zs:List Value} {V:World} (h:PSt w b p a W' (.agg (actV a A k A2 k2 A3 k3).toArray) zs V) :
  ∃ V',(svAct ⟨w.heap.size,0,none⟩ (.agg (actV a A k A2 k2 A3 k3).toArray)).run Tryz.prog V=.ok () V'∧PSt w b p a W' (.agg (actV a A k A2 k2 A3 k3).toArray) (actV a A k A2 k2 A3 k3) V':=by
 have kb:=kb_setCellsD w.heap.size (actV a A k A2 k2 A3 k3) V 0
 have:=h.lb
 have:=h.lp
 have:=h.lm
 obtain ⟨B,hB,B1,n1,B2,n2,B3,n3,hv,q1,q2,q3,q4,q5⟩:=h.act
 refine ⟨_,svAct_row h.row h.len rfl (actV_one a A k A2 k2 A3 k3),⟨⟨B,hB,B1,n1,B2,n2,B3,n3,hv,q1.hi kb (fun g e=>by have:g=w.heap.size:=e;omega),q2.hi kb (fun g e=>by have:g=w.heap.size:=e;omega),⟨q3.1.hi kb (fun g e=>by have:g=w.heap.size:=e;omega),q3.2⟩,q4,q5⟩,h.wds.kb kb (by omega) (by omega) (by omega),kb.to_aft h.aft (fun g hg e=>by have:g=w.heap.size:=e;omega),h.lb,h.lp,h.lm,?_,rfl,kb.row h.err (by omega)⟩⟩
 simpa using row_setCells (actV a A k A2 k2 A3 k3) V [] zs h.row h.len
theorem parse_in (s:ByteArray) (w:World) (hs:Small s.size) (hl:LibV w) (hm:0 < w.heap.size) :
  Calls Tryz.prog 6 #[.string s] w (ParseQ w (parseB s)):=by
 have hmf:∀ (fn:Fn) (first cap:Array Value) (w:World),(Instr.makeFunc fn first cap).run Tryz.prog w=.ok (.func fn first cap) w:=fun _ _ _ _=>rfl
 have hlen:=hs
 obtain ⟨W,hW⟩:∃ W,W=((w.alloc (.cells z33.toArray 43)).alloc (.cells #[.int .i64 0] 44)):=⟨_,rfl⟩
 have aW:Aft w W:=by rw [hW];exact ((Aft.refl w).alloc _).alloc _
 delta z33 at hW
 have rp:RowAt W w.heap.size zs33:=by
  rw [hW]
  exact Kb.row (P:=fun _=>False) (Kb.of_aft ((Aft.refl _).alloc _)) (rowAt_newD w zs33 _) id
 have rq:RowAt W (w.heap.size+1) [.int .i64 0]:=by
  rw [hW]
  have:=rowAt_newD (w.alloc (.cells zs33.toArray 43)) [.int .i64 0] 44
  rw [show (w.alloc (.cells zs33.toArray 43)).heap.size=w.heap.size+1 by simp] at this
  exact this
 have zW:W.heap.size=w.heap.size+2:=by rw [hW];simp
 have HLW:=gH (hl.kb (P:=fun _=>False) (Kb.of_aft aW) id)
 by_cases h4:s.size≤4096
 ·have h5:¬ (4096:Int) < (s.size:Int):=by omega
  have HP:=gH rp
  have HQ:=gH rq
  have HSP:=gH (split_in s W h4 HLW.out)
  have HAW:=gH aW
  have HZW:=gH zW
  have HPB:=gH (show parseB s=parseW (wordsB s) from by unfold parseB;rw [if_pos h4])
  have DIE:=gH (show ∀ (V:World) (xs:List Value) (x:Value) (tmps:Array Value),Aft w V→RowAt V w.heap.size xs→xs.length=33→RowAt V (w.heap.size+1) [x]→tmps.getD 2 undef=.pointer (some ⟨w.heap.size,0,none⟩)→tmps.getD 3 undef=.pointer (some ⟨w.heap.size+1,0,none⟩)→parseB s=none→Leaves Tryz.prog Tryz.f6 tmps (ParseQ w (parseB s)) (parseDs w.heap.size (w.heap.size+1)) (.panicking [{ v:=.iface 74 (.agg #[]),recovered:=false }]) V from
   fun V xs x tmps a r1 hl r2 t2 t3 he=>desk_dies t2 t3 r1 hl r2 (by omega) fun w' kb=>by
    rw [he]
    exact ⟨kb.to_aft a (fun g hg e=>by omega),rfl⟩)
  have HWD:=gH (show ∀ w1,Aft W w1∧Pcs w1 W.heap.size 0 (wordsB s).length (wordsB s)∧w1.heap.size=W.heap.size+1∧LibV w1→WdS (w1.alloc (.cells #[.slice (some ⟨W.heap.size,0,none⟩) (wordsB s).length (wordsB s).length] 59)) w1.heap.size W.heap.size (wordsB s)∧Aft W (w1.alloc (.cells #[.slice (some ⟨W.heap.size,0,none⟩) (wordsB s).length (wordsB s).length] 59)) from fun w1 ⟨a1,p1,z1,l1⟩=>by
   have a2:Aft w1 (w1.alloc (.cells #[.slice (some ⟨W.heap.size,0,none⟩) (wordsB s).length (wordsB s).length] 59)):=(Aft.refl w1).alloc _
   have r:=rowAt_newD w1 [.slice (some ⟨W.heap.size,0,none⟩) (wordsB s).length (wordsB s).length] 59
   have k2:=Kb.of_aft (P:=fun _=>False) a2
   exact ⟨⟨⟨0,(wordsB s).length,r.cell (j:=0) rfl,p1.kb k2 id⟩,r.1,r.2.2 0 (by simp),by omega,by have:=words_len s;omega,l1.kb k2 id,by have:=HZW.out;omega⟩,a1.trans a2⟩)
  clear rp rq aW zW hl
  cases hact:actP (wordsB s) with
  | none =>
   have HAC:=gH (show ∀ w1,Aft W w1∧Pcs w1 W.heap.size 0 (wordsB s).length (wordsB s)∧w1.heap.size=W.heap.size+1∧LibV w1→Calls Tryz.prog 17 #[.pointer (some ⟨w1.heap.size,0,none⟩)] (w1.alloc (.cells #[.slice (some ⟨W.heap.size,0,none⟩) (wordsB s).length (wordsB s).length] 59)) fun e w'=>e=.panicked [{ v:=.iface 74 (.agg #[]),recovered:=false }]∧Aft w w'∧RowAt w' w.heap.size zs33∧RowAt w' (w.heap.size+1) [.int .i64 0] from fun w1 h=>by
    obtain ⟨d,a2⟩:=HWD.out w1 h
    refine (act_rd _ _ _ _ d).mono ?_
    rintro e w' q
    rw [hact] at q
    obtain ⟨k,rfl⟩:=q
    have kb:=(Kb.of_aft (P:=fun k=>k=w1.heap.size) a2).trans k
    have:=HZW.out
    have:=h.2.2.1
    exact ⟨rfl,kb.to_aft HAW.out (fun g hg e=>by have:g=w1.heap.size:=e;omega),kb.row HP.out (by omega),kb.row HQ.out (by omega)⟩)
   have HN:=gH (show parseB s=none from by rw [HPB.out];unfold parseW;rw [hact];rfl)
   clear hact
   go_enter_defers Tryz.func6,Tryz.ntmps6
   go_upto_region 1 with fail
   rw [← hW]
   clear hW
   go_wp2_with (first
    | (go_at_call 16;with_reducible refine HSP.out.mono ?_;rintro e w1 ⟨rfl,q⟩;have HS1:=gH q;clear q)
    | (go_at_call 17;with_reducible refine (HAC.out _ HS1.out).mono ?_;rintro e w2 ⟨rfl,q⟩;have HS2:=gH q;clear q))
   exact DIE.out _ _ _ _ HS2.out.1 HS2.out.2.1 rfl HS2.out.2.2 rfl rfl HN.out
  | some y =>
   obtain ⟨a,W'⟩:=y
   have HAC:=gH (show ∀ w1,Aft W w1∧Pcs w1 W.heap.size 0 (wordsB s).length (wordsB s)∧w1.heap.size=W.heap.size+1∧LibV w1→Calls Tryz.prog 17 #[.pointer (some ⟨w1.heap.size,0,none⟩)] (w1.alloc (.cells #[.slice (some ⟨W.heap.size,0,none⟩) (wordsB s).length (wordsB s).length] 59)) fun e w'=>∃ A k A2 k2 A3 k3,e=.returned (.agg (actV a A k A2 k2 A3 k3).toArray)∧PSt w w1.heap.size W.heap.size a W' (.agg (actV a A k A2 k2 A3 k3).toArray) zs33 w' from fun w1 h=>by
    obtain ⟨d,a2⟩:=HWD.out w1 h
    refine (act_rd _ _ _ _ d).mono ?_
    rintro e w' q
    rw [hact] at q
    obtain ⟨k,v,rfl,⟨A,q1,A2,q2,A3,q3,rfl,g⟩,d2⟩:=q
    have kb:=(Kb.of_aft (P:=fun k=>k=w1.heap.size) a2).trans k
    have:=HZW.out
    have:=h.2.2.1
    exact ⟨A,q1,A2,q2,A3,q3,rfl,⟨_,by simp;omega,A,q1,A2,q2,A3,q3,rfl,g⟩,d2,kb.to_aft HAW.out (fun g hg e=>by have:g=w1.heap.size:=e;omega),by omega,by omega,hm,kb.row HP.out (by omega),rfl,kb.row HQ.out (by omega)⟩)
   have HN:=gH (show parseB s=if W'=[] then some a else none from by rw [HPB.out];unfold parseW;rw [hact];rfl)
   clear hact
   cases W' with
   | nil =>
    go_enter_defers Tryz.func6,Tryz.ntmps6
    go_upto_region 1 with fail
    rw [← hW]
    clear hW
    go_wp2_with (first
     | (go_at_call 16;with_reducible refine HSP.out.mono ?_;rintro e w1 ⟨rfl,q⟩;have HS1:=gH q;clear q)
     | (go_at_call 17;with_reducible refine (HAC.out _ HS1.out).mono ?_;rintro e w2 ⟨A,k,A2,k2,A3,k3,rfl,q⟩;go_loud (obtain ⟨V3,e3,q3⟩:=q.fin;have e4:=lvAct_row q3.row q3.len;have HS3:=gH q3;have HMO:=gH (more_no _ _ _ q3.wds);obtain ⟨V4,e5,q4⟩:=q3.fin;have y0:=q4.err.cell (j:=0) rfl;have y1:=q4.free;have HS4:=gH q4;clear q q3 q4))
     | (go_at_call 19;with_reducible refine HMO.out.mono ?_;rintro e w3 ⟨rfl,rfl⟩)
     | (go_at_call 18;with_reducible refine (dis_ok _).mono ?_;rintro e w3 ⟨rfl,rfl⟩))
    refine desk_goes (cs:=actV a A k A2 k2 A3 k3) rfl rfl ((Kb.set _ _ _ _).row HS4.out.row (by omega)) rfl (HS4.out.err.set 0 _ (by simp)) ?_
    rw [HN.out]
    have q4:=HS4.out
    obtain ⟨B,hB,B1,n1,B2,n2,B3,n3,hv,g1,g2,g3,g4,g5⟩:=q4.act
    have kb:=Kb.set V4 (w.heap.size+1) 0 (.int .i64 0)
    have hlb:=q4.lb
    refine ⟨q4.aft.setCell _ _ (by simp),_,_,_,by omega,⟨B1,n1,B2,n2,B3,n3,hv,g1.hi kb ?_,g2.hi kb ?_,⟨g3.1.hi kb ?_,g3.2⟩,g4,g5⟩,rfl⟩
    all_goals exact fun g e=>by have:g=w.heap.size+1:=e;omega
   | cons x W' =>
    have HN2:=gH (show parseB s=none from by rw [HN.out];rfl)
    go_enter_defers Tryz.func6,Tryz.ntmps6
    go_upto_region 1 with fail
    rw [← hW]
    clear hW
    go_wp2_with (first
     | (go_at_call 16;with_reducible refine HSP.out.mono ?_;rintro e w1 ⟨rfl,q⟩;have HS1:=gH q;clear q)
     | (go_at_call 17;with_reducible refine (HAC.out _ HS1.out).mono ?_;rintro e w2 ⟨A,k,A2,k2,A3,k3,rfl,q⟩;obtain ⟨V3,e3,q3⟩:=q.fin;have HS3:=gH q3;have HMO:=gH (more_yes _ _ _ _ _ q3.wds);clear q q3)
     | (go_at_call 19;with_reducible refine HMO.out.mono ?_;rintro e w3 ⟨rfl,rfl⟩)
     | (go_at_call 18;with_reducible refine (dis_no _).mono ?_;rintro e w3 ⟨he,rfl⟩;unfold NoL at he;subst he))
    exact DIE.out _ _ _ _ HS3.out.aft HS3.out.row rfl HS3.out.err rfl rfl HN2.out
 ·have h5:(4096:Int) < (s.size:Int):=by omega
  have hst:(svAct ⟨w.heap.size,0,none⟩ (.agg z33.toArray)).run Tryz.prog W=.ok () (W.setCells w.heap.size 0 zs33):=sv_row (T:=43) (k:=33) (vs:=zs33) (by kernel_rfl) rp rfl rfl (by simp [zs33,Value.oneCell'])
  delta z33 at hst
  have kb:=kb_setCellsD w.heap.size zs33 W 0
  have r1:RowAt (W.setCells w.heap.size 0 zs33) w.heap.size zs33:=by simpa using row_setCells zs33 W [] zs33 rp rfl
  have r2:=kb.row rq (by omega)
  have a2:=kb.to_aft aW (fun g hg e=>by have:g=w.heap.size:=e;omega)
  generalize W.setCells w.heap.size 0 zs33=V at hst kb r1 r2 a2
  have y0:=r2.cell (j:=0) rfl
  have y1:=r2.2.2 0 (by simp)
  have HR:=gH (And.intro r1 (And.intro r2 a2))
  have HN:=gH (show parseB s=none from by unfold parseB;rw [if_neg h4])
  clear rp rq aW zW kb r1 r2 a2 hl
  go_enter_defers Tryz.func6,Tryz.ntmps6
  go_upto_region 1 with fail
  rw [← hW]
  clear hW
  go_wp2_with fail
  refine ⟨_,results_cellsD2 rfl _ rfl rfl (lvAct_row (cs:=zs33) ?_ rfl) (lvErrD_row (k:=230) ?_),?_⟩
  ·exact (Kb.set _ _ _ _).row HR.out.1 (by omega)
  ·exact HR.out.2.1.set 0 _ (by simp)
  ·rw [HN.out]
   exact ⟨HR.out.2.2.setCell _ _ (by simp),rfl⟩
def pieces (b:UInt8) (s:ByteArray):Ws:=(cutL b s.data.toList).map wd
structure CutI (b:UInt8) (s:ByteArray) (w wr:World) (l:Ws) (h:Hd) (fr i:Nat):Prop where
 own:wr.ownsRow w.heap.size 9 1 (.slice h.a l.length h.c) l.length (l.flatMap nameC)
 aft:Aft w wr
 len:l.length≤i
 on:i≤s.size→fr≤i∧pieces b s=l++(cutL b (s.data.toList.drop fr)).map wd∧b∉(s.data.toList.drop fr).take (i - fr)
 fin:s.size < i→i=s.size+1∧pieces b s=l
theorem CutI.start (b:UInt8) (s:ByteArray) (w:World):CutI b s w w [] ⟨none,0,0⟩ 0 0 :=
 ⟨own_nilN w,Aft.refl w,Nat.le_refl _,fun _=>⟨Nat.le_refl _,by simp [pieces],by simp⟩,fun h=>by omega⟩
theorem aft_grownN {w w1 w5:World} {o:Obj} {ob:Option Nat} (a:Aft w w1) (hB:∀ k,ob=some k→w.heap.size≤k) (hg:(w1.alloc o).grownBy w5 ob):Aft w w5:=by
 have a2:=a.alloc o
 exact ⟨hg.os.trans a2.os,hg.tape.trans a2.tape,hg.output.trans a2.output,Nat.le_trans a2.size hg.size,fun k hk=>(hg.block k (Nat.lt_of_lt_of_le hk a2.size) (fun e=>by have:=hB k e.symm;omega)).trans (a2.block k hk)⟩
theorem piece_eq (s:ByteArray) (fr i:Nat) (h:fr≤i) (hi:i≤s.size):s.extract fr i=wd ((s.data.toList.drop fr).take (i - fr)):=by
 refine ba_ext ?_
 rw [wd_data]
 rw [ByteArray.data_extract,Array.toList_extract]
theorem CutI.skip {b:UInt8} {s:ByteArray} {w wr:World} {l:Ws} {h:Hd} {fr i:Nat} (g:CutI b s w wr l h fr i) (hi:i < s.size) (hb:s[i]≠b):CutI b s w wr l h fr (i+1):=by
 obtain ⟨q1,q2,q3⟩:=g.on (by omega)
 refine ⟨g.own,g.aft,by have:=g.len;omega,fun _=>⟨by omega,q2,?_⟩,fun h=>by omega⟩
 have hL:i < s.data.toList.length:=by rw [← Lib.size_eq];exact hi
 have e:(s.data.toList.drop fr).take (i+1 - fr)=(s.data.toList.drop fr).take (i - fr)++[s[i]]:=by
  rw [show i+1 - fr=(i - fr)+1 by omega,List.take_add_one,List.getElem?_drop,show fr+(i - fr)=i by omega,List.getElem?_eq_getElem hL]
  simp [ByteArray.getElem_eq_getElem_data]
 rw [e]
 simp only [List.mem_append,List.mem_singleton,not_or]
 exact ⟨q3,fun e=>hb e.symm⟩
theorem CutI.cut {b:UInt8} {s:ByteArray} {w wr w5:World} {o:Obj} {l:Ws} {h:Hd} {fr i gg cap:Nat} (g:CutI b s w wr l h fr i) (hi:i≤s.size) (hb:i=s.size∨∃ h:i < s.size,s[i]=b)
  (ho:w5.ownsRow w.heap.size 9 1 (.slice (some ⟨gg,0,none⟩) (l.length+1) cap) (l.length+1) (l.flatMap nameC++[.string (s.extract fr i)])) (hg:(wr.alloc o).grownBy w5 (Value.slice h.a l.length h.c).ownBlock) :
  CutI b s w w5 (l++[s.extract fr i]) ⟨some ⟨gg,0,none⟩,l.length+1,cap⟩ (i+1) (i+1):=by
 obtain ⟨q1,q2,q3⟩:=g.on hi
 have hz:s.data.toList.length=s.size:=(Lib.size_eq s).symm
 refine ⟨by rw [List.length_append,List.flatMap_append];exact ho,aft_grownN g.aft (fun k hk=>(g.own.lt k hk).1) hg,by rw [List.length_append];have:=g.len;simp;omega,fun h1=>?_,fun h1=>?_⟩
 ·rcases hb with rfl | ⟨h2,h3⟩
  ·omega
  ·refine ⟨Nat.le_refl _,?_,by simp⟩
   have e:s.data.toList.drop fr=(s.data.toList.drop fr).take (i - fr)++b::s.data.toList.drop (i+1):=by
    conv=>lhs;rw [← List.take_append_drop (i - fr) (s.data.toList.drop fr)]
    congr 1
    rw [List.drop_drop,show fr+(i - fr)=i by omega,List.drop_eq_getElem_cons (by omega)]
    congr 1
   rw [q2,piece_eq s fr i q1 hi]
   conv=>lhs;rw [e,cut_pre b _ _ q3]
   simp
 ·have h4:i=s.size:=by omega
  refine ⟨by omega,?_⟩
  rw [q2,piece_eq s fr i q1 hi]
  have e:(s.data.toList.drop fr).take (i - fr)=s.data.toList.drop fr:=List.take_of_length_le (by rw [List.length_drop];omega)
  rw [e] at q3 ⊢
  rw [cut_free b _ q3];simp
def CutQ (b:UInt8) (s:ByteArray) (w:World) (e:Ending) (w':World):Prop :=
 Aft w w'∧∃ h:Hd,e=.returned (.slice h.a (pieces b s).length h.c)∧w'.ownsRow w.heap.size 9 1 (.slice h.a (pieces b s).length h.c) (pieces b s).length ((pieces b s).flatMap nameC)
theorem cut_dn (b:UInt8) (c:Int) (hc:c=b.toNat) (s:ByteArray) (w:World) (hs:s.size≤4096):Calls Tryz.prog 20 #[.string s,.int .u8 c] w (CutQ b s w):=by
 have G0:=gH (CutI.start b s w)
 have HC:=gH hc
 clear hc
 go_enter Tryz.func20,Tryz.ntmps20
 go_wp2_with fail
 go_loopw [5,6,7] (fun u5 u6 u7 wr=>∃ (l:Ws) (h:Hd) (fr i:Nat),u5=.slice h.a l.length h.c∧u6=.int .i64 fr∧u7=.int .i64 i∧i≤s.size+1∧CutI b s w wr l h fr i) (fun _ _ u7 _=>s.size+1 - (intOf u7).toNat)
 case atStart=>exact ⟨[],⟨none,0,0⟩,0,0,rfl,rfl,rfl,Nat.zero_le _,G0.out⟩
 case round =>
  obtain ⟨l,h,fr,i,rfl,rfl,rfl,hi,g⟩:=hrel
  have G:=gH g
  obtain ⟨n,hn⟩:∃ n,l.length=n:=⟨_,rfl⟩
  have hz:n≤4097:=by have:=g.len;omega
  rw [hn]
  have HN:=gH hn
  by_cases hle:i≤s.size
  ·obtain ⟨q1,-,-⟩:=g.on hle
   have HBZ:=gH (show w.heap.size≤(wr.alloc (.cells #[.string (s.extract fr i)] 9)).heap.size from by have:=g.aft.size;simp;omega)
   have HOW:=gH (show wr.ownsRow w.heap.size 9 1 (.slice h.a n h.c) n (l.flatMap nameC) from by rw [← hn];exact g.own)
   have HST:=gH (show ∀ (w5:World) (gg cap:Nat) (o:Obj),(i=s.size∨∃ h:i < s.size,s[i]=b)→w5.ownsRow w.heap.size 9 1 (.slice (some ⟨gg,0,none⟩) (n+1) cap) (n+1) (l.flatMap nameC++[.string (s.extract fr i)])→(wr.alloc o).grownBy w5 (Value.slice h.a n h.c).ownBlock→CutI b s w w5 (l++[s.extract fr i]) ⟨some ⟨gg,0,none⟩,n+1,cap⟩ (i+1) (i+1) from fun w5 gg cap o hb h1 h2=>by
    subst hn
    exact g.cut hle hb h1 h2)
   have hcase:((i:Int)==(s.size:Int))=true∨(((i:Int)==(s.size:Int))=false∧∃ h:i < s.size,(((s[i].toNat:Int)==c)=true∧s[i]=b)∨(((s[i].toNat:Int)==c)=false∧s[i]≠b)):=by
    by_cases e:i=s.size
    ·exact .inl (by simp [e])
    ·refine .inr ⟨by rw [beq_eq_false_iff_ne];omega,by omega,?_⟩
     by_cases e2:s[i]'(by omega)=b
     ·exact .inl ⟨by rw [HC.out,e2];simp,e2⟩
     ·exact .inr ⟨by rw [HC.out,beq_eq_false_iff_ne];intro e3;exact e2 (UInt8.toNat_inj.1 (by omega)),e2⟩
   clear g hn
   rcases hcase with h0 | ⟨h0,hlt,⟨h1,hB⟩ | ⟨h1,hB⟩⟩
   ·have HW:=gH (show i=s.size from by have:=eq_of_beq h0;omega)
    go_wp2_with (first | (at_builtin;go_must (refine app_desk Tryz.underlying26 infoDS rfl (by decide) (by decide) rfl _ _ rfl w.heap.size (.slice h.a n h.c) n (l.flatMap nameC) rfl (HOW.out.alloc _) wr.heap.size [.string (s.extract fr i)] rfl (heap_alloc_new wr _) rfl (by simp [Value.oneCell']) (by omega) HBZ.out ?_);intro gg cap' w5 hown5 hgrow hat;have G5:=gH (HST.out _ _ _ _ (.inl HW.out) hown5 hgrow);clear hown5 hgrow hat))
    refine ⟨⟨l++[s.extract fr i],⟨some ⟨gg,0,none⟩,n+1,cap'⟩,i+1,i+1,by rw [List.length_append,HN.out];rfl,by go_num,by go_num,by omega,G5.out⟩,?_⟩
    simp [intOf];omega
   ·have HW:=gH (show ∃ h:i < s.size,s[i]=b from ⟨hlt,hB⟩)
    clear hB
    go_wp2_with (first | (at_builtin;go_must (refine app_desk Tryz.underlying26 infoDS rfl (by decide) (by decide) rfl _ _ rfl w.heap.size (.slice h.a n h.c) n (l.flatMap nameC) rfl (HOW.out.alloc _) wr.heap.size [.string (s.extract fr i)] rfl (heap_alloc_new wr _) rfl (by simp [Value.oneCell']) (by omega) HBZ.out ?_);intro gg cap' w5 hown5 hgrow hat;have G5:=gH (HST.out _ _ _ _ (.inr HW.out) hown5 hgrow);clear hown5 hgrow hat))
    refine ⟨⟨l++[s.extract fr i],⟨some ⟨gg,0,none⟩,n+1,cap'⟩,i+1,i+1,by rw [List.length_append,HN.out];rfl,by go_num,by go_num,by omega,G5.out⟩,?_⟩
    simp [intOf];omega
   ·have HW:=gH (G.out.skip hlt hB)
    go_wp2_with fail
    refine ⟨⟨l,h,fr,i+1,by rw [HN.out],rfl,by go_num,by omega,HW.out⟩,?_⟩
    simp [intOf];omega
  ·go_wp2_with fail
   go_ret
   obtain ⟨q1,q2⟩:=G.out.fin (by omega)
   refine ⟨G.out.aft,h,?_,?_⟩
   ·rw [q2,HN.out];rfl
   ·rw [q2];exact G.out.own
end Go.Proofs.YtbdanlipghhgpaaGreatDoor
