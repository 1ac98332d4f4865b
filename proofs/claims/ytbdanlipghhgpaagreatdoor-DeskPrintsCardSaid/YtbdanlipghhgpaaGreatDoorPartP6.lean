import Derived.Test.YtbdanlipghhgpaaGreatDoorPartP5
namespace Go.Proofs.YtbdanlipghhgpaaGreatDoor
open Go.RowKit Go.Deep
set_option maxRecDepth 100000
set_option linter.unusedVariables false
set_option maxHeartbeats 64000000
def ColsV (b B:Nat) (w':World) (v:Value) (l:List Col):Prop:=OwnR 67 3 colC b B w' v l∧l.length≤4097∧∀ c∈l,Small c.name.size
theorem ColsV.hi {b B:Nat} {w w':World} {v:Value} {l:List Col} {P:Nat→Prop} (h:ColsV b B w v l) (k:Kb P w w') (hp:∀ g,P g→g < B):ColsV b B w' v l:=⟨h.1.hi k hp,h.2⟩
theorem ColsV.down {b B B0:Nat} {w:World} {v:Value} {l:List Col} (h:ColsV b B w v l) (hB:B0≤B) (hb:b < B0):ColsV b B0 w v l:=⟨h.1.down hB hb,h.2⟩
theorem cols_one (V:World) (x j:Nat) (u:Value) (b:Nat) (c:Col) (hb:b < V.heap.size) (hs:Small c.name.size):ColsV b V.heap.size ((V.setCell ⟨x,j,none⟩ u).alloc (.cells #[.string c.name,.int .i64 c.kind,.bool c.null] 67)) (.slice (some ⟨V.heap.size,0,none⟩) 1 1) [c]:=by
 have hz:(V.setCell ⟨x,j,none⟩ u).heap.size=V.heap.size:=by simp
 have h:=own_one (V.setCell ⟨x,j,none⟩ u) V.heap.size 67 3 [.string c.name,.int .i64 c.kind,.bool c.null] rfl (by omega)
 rw [hz] at h
 exact ⟨⟨⟨some ⟨V.heap.size,0,none⟩,1,1⟩,rfl,h,hb⟩,by simp,by simpa using hs⟩
theorem own_nilD {α:Type} (ty:TypeId) (size:Nat) (cells:α→List Value) (b B:Nat) (w:World) (hb:b < B):OwnR ty size cells b B w (.slice none 0 0) ([]:List α):=⟨⟨none,0,0⟩,rfl,⟨by simp,.inl ⟨rfl,rfl⟩⟩,hb⟩
theorem cols_nil (b B:Nat) (w:World) (hb:b < B):ColsV b B w (.slice none 0 0) []:=⟨own_nilD _ _ _ b B w hb,by simp,by simp⟩
theorem names_nil (b B:Nat) (w:World) (hb:b < B):NamesV b B w (.slice none 0 0) []:=⟨own_nilD _ _ _ b B w hb,by simp,by simp⟩
def NmZ (s:ByteArray):Prop:=s=zBy∨nameB s=true
def cmdV (c:Cmd) (A:Option Addr) (k:Nat) (A2:Option Addr) (k2:Nat):List Value :=
 [.int .i64 c.kind,.string c.actor,.string c.schema,.string c.table,.string c.name,.string c.role,.slice A c.cols.length k,.string c.rule.name,.int .i64 c.rule.kind,.slice A2 c.rule.cols.length k2,.int .i64 c.rule.low,.int .i64 c.rule.high,.string c.rule.schema,.string c.rule.table,.string c.rule.key,.int .i64 c.right,.bool c.opt]
structure CmdOk (c:Cmd):Prop where
 actor:NmZ c.actor
 schema:NmZ c.schema
 table:NmZ c.table
 name:NmZ c.name
 role:NmZ c.role
 rname:NmZ c.rule.name
 rs:NmZ c.rule.schema
 rt:NmZ c.rule.table
 rk:NmZ c.rule.key
def CmdV (b B:Nat) (w':World) (v:Value) (c:Cmd):Prop :=
 ∃ A k A2 k2,v=.agg (cmdV c A k A2 k2).toArray∧ColsV b B w' (.slice A c.cols.length k) c.cols∧NamesV b B w' (.slice A2 c.rule.cols.length k2) c.rule.cols∧CmdOk c
theorem tab_cases {b p x:Nat} {W:Ws} {w:World} {cs:List Value} {e:Ending} {w':World} (h:RdX b p x w cs (tabL W) e w') :
  ((∀ y,tableP y W=none)∧e=.panicked [{ v:=.iface 74 (.agg #[]),recovered:=false }]∧Kx b x w w') ∨
  ∃ s t W',(∀ y,tableP y W=some ({ y with schema:=s,table:=t },W'))∧e=.returned (.tuple #[])∧(nameB s=true∧nameB t=true∧RowAt w' x ((cs.set 2 (.string s)).set 3 (.string t)))∧WdS w' b p W'∧Kx b x w w':=by
 obtain ⟨k,h2⟩:=h
 unfold tabL at h2
 cases h1:nameP W with
 | none =>
  rw [h1] at h2
  exact .inl ⟨fun y=>by simp only [tableP,h1,Option.bind_none],h2,k⟩
 | some y =>
  obtain ⟨s,W1⟩:=y
  rw [h1] at h2
  simp only [Option.bind_some] at h2
  cases h3:nameP W1 with
  | none =>
   rw [h3] at h2
   exact .inl ⟨fun y=>by simp only [tableP,h1,h3,Option.bind_some,Option.bind_none],h2,k⟩
  | some z =>
   obtain ⟨t,W2⟩:=z
   rw [h3] at h2
   obtain ⟨h4,h5,h6⟩:=h2
   exact .inr ⟨s,t,W2,fun y=>by simp only [tableP,h1,h3,Option.bind_some],h4,⟨(nameP_some h1).2,(nameP_some h3).2,h5⟩,h6,k⟩
theorem rgt_cases {b p x:Nat} {W:Ws} {w:World} {cs:List Value} {e:Ending} {w':World} (h:RdX b p x w cs (rgtL W) e w') :
  ((∀ y,rightP y W=none)∧e=.panicked [{ v:=.iface 74 (.agg #[]),recovered:=false }]∧Kx b x w w') ∨
  ∃ r t W',(∀ y,rightP y W=some ({ y with right:=r,role:=t },W'))∧e=.returned (.tuple #[])∧(nameB t=true∧RowAt w' x ((cs.set 15 (.int .i64 r)).set 5 (.string t)))∧WdS w' b p W'∧Kx b x w w':=by
 obtain ⟨k,h2⟩:=h
 unfold rgtL at h2
 cases h1:oneP rightO W with
 | none =>
  rw [h1] at h2
  exact .inl ⟨fun y=>by simp only [rightP,h1,Option.bind_none],h2,k⟩
 | some y =>
  obtain ⟨s,W1⟩:=y
  rw [h1] at h2
  simp only [Option.bind_some] at h2
  cases h3:nameP W1 with
  | none =>
   rw [h3] at h2
   exact .inl ⟨fun y=>by simp only [rightP,h1,h3,Option.bind_some,Option.bind_none],h2,k⟩
  | some z =>
   obtain ⟨t,W2⟩:=z
   rw [h3] at h2
   obtain ⟨h4,h5,h6⟩:=h2
   exact .inr ⟨s,t,W2,fun y=>by simp only [rightP,h1,h3,Option.bind_some],h4,⟨(nameP_some h3).2,h5⟩,h6,k⟩
theorem col_cases {b p:Nat} {W:Ws} {w:World} {e:Ending} {w':World} (h:RdQ b p w ColV (colP W) e w') :
  (colP W=none∧e=.panicked [{ v:=.iface 74 (.agg #[]),recovered:=false }]∧Kw b w w')∨∃ c W',colP W=some (c,W')∧e=.returned (.agg #[.string c.name,.int .i64 c.kind,.bool c.null])∧Small c.name.size∧WdS w' b p W'∧Kw b w w':=by
 obtain ⟨k,h2⟩:=h
 cases hq:colP W with
 | none=>rw [hq] at h2;exact .inl ⟨rfl,h2,k⟩
 | some y =>
  obtain ⟨c,W'⟩:=y
  rw [hq] at h2
  obtain ⟨v,rfl,⟨rfl,h3⟩,h4⟩:=h2
  exact .inr ⟨c,W',rfl,rfl,h3,h4,k⟩
theorem rule_cases {b p B:Nat} {k0:Int} {W:Ws} {w:World} {e:Ending} {w':World} (h:RdQ b p w (RulV b B) (ruleP k0 W) e w') :
  (ruleP k0 W=none∧e=.panicked [{ v:=.iface 74 (.agg #[]),recovered:=false }]∧Kw b w w')∨∃ A c r W',ruleP k0 W=some (r,W') ∧
   e=.returned (.agg #[.string r.name,.int .i64 r.kind,.slice A r.cols.length c,.int .i64 r.low,.int .i64 r.high,.string r.schema,.string r.table,.string r.key])∧(NamesV b B w' (.slice A r.cols.length c) r.cols∧NmZ r.name∧NmZ r.schema∧NmZ r.table∧NmZ r.key)∧WdS w' b p W'∧Kw b w w':=by
 obtain ⟨k,h2⟩:=h
 cases hq:ruleP k0 W with
 | none=>rw [hq] at h2;exact .inl ⟨rfl,h2,k⟩
 | some y =>
  obtain ⟨r,W'⟩:=y
  rw [hq] at h2
  obtain ⟨v,rfl,⟨u,rfl,g1,g2,g3,g4,g5⟩,h4⟩:=h2
  obtain ⟨⟨hd,rfl,h5⟩,h6⟩:=g1
  exact .inr ⟨hd.a,hd.c,r,W',rfl,rfl,⟨⟨⟨hd,rfl,h5⟩,h6⟩,.inr g2,g3,g4,g5⟩,h4,k⟩
theorem cmdP_cons (f:ByteArray) (W:Ws):cmdP (f::W)=(nameP W).bind fun y=>bodyP f { zCmd with actor:=y.1 } y.2:=rfl
theorem body_schema (x:Cmd) (W:Ws):bodyP b_schema x W=((nameP W).bind fun (s,W)=>some ({ x with kind:=1,schema:=s },W)):=by
 unfold bodyP
 rw [if_pos (eqS_yes _)]
theorem body_dropschema (x:Cmd) (W:Ws):bodyP b_dropschema x W=((nameP W).bind fun (s,W)=>some ({ x with kind:=2,schema:=s },W)):=by
 unfold bodyP
 rw [if_neg (neB (by decide)),if_pos (eqS_yes _)]
theorem body_table (x:Cmd) (W:Ws):bodyP b_table x W=((tableP { x with kind:=3 } W).bind fun (x,W)=>(colsP W).bind fun (l,W)=>some ({ x with cols:=l },W)):=by
 unfold bodyP
 rw [if_neg (neB (by decide)),if_neg (neB (by decide)),if_pos (eqS_yes _)]
theorem body_droptable (x:Cmd) (W:Ws):bodyP b_droptable x W=(tableP { x with kind:=4 } W):=by
 unfold bodyP
 rw [if_neg (neB (by decide)),if_neg (neB (by decide)),if_neg (neB (by decide)),if_pos (eqS_yes _)]
theorem body_column (x:Cmd) (W:Ws):bodyP b_column x W=((tableP { x with kind:=5 } W).bind fun (x,W)=>(colP W).bind fun (c,W)=>some ({ x with cols:=[c] },W)):=by
 unfold bodyP
 rw [if_neg (neB (by decide)),if_neg (neB (by decide)),if_neg (neB (by decide)),if_neg (neB (by decide)),if_pos (eqS_yes _)]
theorem body_dropcolumn (x:Cmd) (W:Ws):bodyP b_dropcolumn x W=((tableP { x with kind:=6 } W).bind fun (x,W)=>(nameP W).bind fun (s,W)=>some ({ x with name:=s },W)):=by
 unfold bodyP
 rw [if_neg (neB (by decide)),if_neg (neB (by decide)),if_neg (neB (by decide)),if_neg (neB (by decide)),if_neg (neB (by decide)),if_pos (eqS_yes _)]
theorem body_index (x:Cmd) (W:Ws):bodyP b_index x W=((tableP { x with kind:=7 } W).bind fun (x,W)=>(ruleP 1 W).bind fun (r,W)=>some ({ x with rule:=r },W)):=by
 unfold bodyP
 rw [if_neg (neB (by decide)),if_neg (neB (by decide)),if_neg (neB (by decide)),if_neg (neB (by decide)),if_neg (neB (by decide)),if_neg (neB (by decide)),if_pos (eqS_yes _)]
theorem body_key (x:Cmd) (W:Ws):bodyP b_key x W=((tableP { x with kind:=7 } W).bind fun (x,W)=>(ruleP 2 W).bind fun (r,W)=>some ({ x with rule:=r },W)):=by
 unfold bodyP
 rw [if_neg (neB (by decide)),if_neg (neB (by decide)),if_neg (neB (by decide)),if_neg (neB (by decide)),if_neg (neB (by decide)),if_neg (neB (by decide)),if_neg (neB (by decide)),if_pos (eqS_yes _)]
theorem body_check (x:Cmd) (W:Ws):bodyP b_check x W=((tableP { x with kind:=7 } W).bind fun (x,W)=>(ruleP 3 W).bind fun (r,W)=>some ({ x with rule:=r },W)):=by
 unfold bodyP
 rw [if_neg (neB (by decide)),if_neg (neB (by decide)),if_neg (neB (by decide)),if_neg (neB (by decide)),if_neg (neB (by decide)),if_neg (neB (by decide)),if_neg (neB (by decide)),if_neg (neB (by decide)),if_pos (eqS_yes _)]
theorem body_foreign (x:Cmd) (W:Ws):bodyP b_foreign x W=((tableP { x with kind:=7 } W).bind fun (x,W)=>(ruleP 4 W).bind fun (r,W)=>some ({ x with rule:=r },W)):=by
 unfold bodyP
 rw [if_neg (neB (by decide)),if_neg (neB (by decide)),if_neg (neB (by decide)),if_neg (neB (by decide)),if_neg (neB (by decide)),if_neg (neB (by decide)),if_neg (neB (by decide)),if_neg (neB (by decide)),if_neg (neB (by decide)),if_pos (eqS_yes _)]
theorem body_droprule (x:Cmd) (W:Ws):bodyP b_droprule x W=((tableP { x with kind:=8 } W).bind fun (x,W)=>(nameP W).bind fun (s,W)=>some ({ x with name:=s },W)):=by
 unfold bodyP
 rw [if_neg (neB (by decide)),if_neg (neB (by decide)),if_neg (neB (by decide)),if_neg (neB (by decide)),if_neg (neB (by decide)),if_neg (neB (by decide)),if_neg (neB (by decide)),if_neg (neB (by decide)),if_neg (neB (by decide)),if_neg (neB (by decide)),if_pos (eqS_yes _)]
theorem body_owner (x:Cmd) (W:Ws):bodyP b_owner x W=((tableP { x with kind:=9 } W).bind fun (x,W)=>(nameP W).bind fun (s,W)=>some ({ x with role:=s },W)):=by
 unfold bodyP
 rw [if_neg (neB (by decide)),if_neg (neB (by decide)),if_neg (neB (by decide)),if_neg (neB (by decide)),if_neg (neB (by decide)),if_neg (neB (by decide)),if_neg (neB (by decide)),if_neg (neB (by decide)),if_neg (neB (by decide)),if_neg (neB (by decide)),if_neg (neB (by decide)),if_pos (eqS_yes _)]
theorem body_role (x:Cmd) (W:Ws):bodyP b_role x W=((nameP W).bind fun (s,W)=>some ({ x with kind:=10,role:=s },W)):=by
 unfold bodyP
 rw [if_neg (neB (by decide)),if_neg (neB (by decide)),if_neg (neB (by decide)),if_neg (neB (by decide)),if_neg (neB (by decide)),if_neg (neB (by decide)),if_neg (neB (by decide)),if_neg (neB (by decide)),if_neg (neB (by decide)),if_neg (neB (by decide)),if_neg (neB (by decide)),if_neg (neB (by decide)),if_pos (eqS_yes _)]
theorem body_droprole (x:Cmd) (W:Ws):bodyP b_droprole x W=((nameP W).bind fun (s,W)=>some ({ x with kind:=11,role:=s },W)):=by
 unfold bodyP
 rw [if_neg (neB (by decide)),if_neg (neB (by decide)),if_neg (neB (by decide)),if_neg (neB (by decide)),if_neg (neB (by decide)),if_neg (neB (by decide)),if_neg (neB (by decide)),if_neg (neB (by decide)),if_neg (neB (by decide)),if_neg (neB (by decide)),if_neg (neB (by decide)),if_neg (neB (by decide)),if_neg (neB (by decide)),if_pos (eqS_yes _)]
theorem body_member (x:Cmd) (W:Ws):bodyP b_member x W=((nameP W).bind fun (s,W)=>(nameP W).bind fun (t,W)=>some ({ x with kind:=12,role:=s,name:=t },W)):=by
 unfold bodyP
 rw [if_neg (neB (by decide)),if_neg (neB (by decide)),if_neg (neB (by decide)),if_neg (neB (by decide)),if_neg (neB (by decide)),if_neg (neB (by decide)),if_neg (neB (by decide)),if_neg (neB (by decide)),if_neg (neB (by decide)),if_neg (neB (by decide)),if_neg (neB (by decide)),if_neg (neB (by decide)),if_neg (neB (by decide)),if_neg (neB (by decide)),if_pos (eqS_yes _)]
theorem body_unmember (x:Cmd) (W:Ws):bodyP b_unmember x W=((nameP W).bind fun (s,W)=>(nameP W).bind fun (t,W)=>some ({ x with kind:=13,role:=s,name:=t },W)):=by
 unfold bodyP
 rw [if_neg (neB (by decide)),if_neg (neB (by decide)),if_neg (neB (by decide)),if_neg (neB (by decide)),if_neg (neB (by decide)),if_neg (neB (by decide)),if_neg (neB (by decide)),if_neg (neB (by decide)),if_neg (neB (by decide)),if_neg (neB (by decide)),if_neg (neB (by decide)),if_neg (neB (by decide)),if_neg (neB (by decide)),if_neg (neB (by decide)),if_neg (neB (by decide)),if_pos (eqS_yes _)]
theorem body_grant (x:Cmd) (W:Ws):bodyP b_grant x W=((tableP { x with kind:=14 } W).bind fun (x,W)=>(rightP x W).bind fun (x,W)=>optP x W):=by
 unfold bodyP
 rw [if_neg (neB (by decide)),if_neg (neB (by decide)),if_neg (neB (by decide)),if_neg (neB (by decide)),if_neg (neB (by decide)),if_neg (neB (by decide)),if_neg (neB (by decide)),if_neg (neB (by decide)),if_neg (neB (by decide)),if_neg (neB (by decide)),if_neg (neB (by decide)),if_neg (neB (by decide)),if_neg (neB (by decide)),if_neg (neB (by decide)),if_neg (neB (by decide)),if_neg (neB (by decide)),if_pos (eqS_yes _)]
theorem body_revoke (x:Cmd) (W:Ws):bodyP b_revoke x W=((tableP { x with kind:=15 } W).bind fun (x,W)=>rightP x W):=by
 unfold bodyP
 rw [if_neg (neB (by decide)),if_neg (neB (by decide)),if_neg (neB (by decide)),if_neg (neB (by decide)),if_neg (neB (by decide)),if_neg (neB (by decide)),if_neg (neB (by decide)),if_neg (neB (by decide)),if_neg (neB (by decide)),if_neg (neB (by decide)),if_neg (neB (by decide)),if_neg (neB (by decide)),if_neg (neB (by decide)),if_neg (neB (by decide)),if_neg (neB (by decide)),if_neg (neB (by decide)),if_neg (neB (by decide)),if_pos (eqS_yes _)]
theorem command_schema (b p:Nat) (a:ByteArray) (WW:Ws) (w:World) (h:WdS w b p (b_schema::a::WW)):Calls Tryz.prog 29 #[.pointer (some ⟨b,0,none⟩)] w (RdQ b p w (CmdV b w.heap.size) (cmdP (b_schema::a::WW))):=by
 have HN:=gH (fun w1 W (h:WdS w1 b p W)=>name_rd b p W w1 h)
 have HW0:=gH (show Calls Tryz.prog 27 #[.pointer (some ⟨b,0,none⟩)] (w.alloc (.cells z17.toArray 31)) fun e w'=>e=.returned (.string ⟨#[115,99,104,101,109,97]⟩)∧WdS w' b p (a::WW)∧Kw b (w.alloc (.cells z17.toArray 31)) w' from word_yes b p b_schema (a::WW) _ (h.aft ((Aft.refl w).alloc _)))
 have hb:=h.lt
 have HPL:=gH h.plt
 have HLO:=gH h.low
 clear h
 go_enter Tryz.func29,Tryz.ntmps29
 go_wp2_with (first
  | (go_at_call 27;with_reducible refine HW0.out.mono ?_;rintro e w1 ⟨rfl,d,k⟩;have ST:=bx_start (t2:=31) (zs:=z17) hb HPL.out HLO.out k d z17;have S:=gH ST.1;have X1:=gH ST.2;clear d k ST)
  | (go_at_call 19;with_reducible refine (more_yes b p a WW _ X1.out.ds).mono ?_;rintro e w' ⟨rfl,rfl⟩)
  | (go_at_call 48;with_reducible refine (HN.out _ _ X1.out.ds).mono ?_;rintro e w2 q;rcases name_cases q with ⟨n,rfl,k⟩ | ⟨s2,W2,n,rfl,g2,d,k⟩;all_goals (have N2:=gH n;have K2:=gH (X1.out.kw.trans k);clear n q;try (have X2:=gH (X1.out.call S.out k d);have xz2:=X2.out.row.ltD;have rz2:=X2.out.res.ltD;obtain ⟨c2_1,f2_1⟩:=X2.out.cf 1 (by simp);have X2s:=gH (X2.out.set S.out 1 (.string s2) (by simp));clear d)))
  | (go_at_call 48;with_reducible refine (HN.out _ _ X2s.out.ds).mono ?_;rintro e w3 q;rcases name_cases q with ⟨n,rfl,k⟩ | ⟨s3,W3,n,rfl,g3,d,k⟩;all_goals (have N3:=gH n;have K3:=gH (X2s.out.kw.trans k);clear n q;try (have X3:=gH (X2s.out.call S.out k d);have xz3:=X3.out.row.ltD;have rz3:=X3.out.res.ltD;obtain ⟨c3_0,f3_0⟩:=X3.out.cf 0 (by simp);obtain ⟨c3_2,f3_2⟩:=X3.out.cf 2 (by simp);have XF:=(X3.out.set S.out 0 (.int .i64 1) (by simp)).set S.out 2 (.string s3) (by simp);simp only [List.set_cons_succ,List.set_cons_zero] at XF;have XF:=gH XF;obtain ⟨e1,e2⟩:=endsCmd XF.out rfl rfl (by simp [Value.oneCell']);clear d))))
 ·exact ⟨rfl,K2.out,by rw [show cmdP (b_schema::a::WW)=none by simp only [cmdP_cons,body_schema,N2.out,Option.bind_some,Option.bind_none]];rfl⟩
 ·exact ⟨rfl,K3.out,by rw [show cmdP (b_schema::a::WW)=none by simp only [cmdP_cons,body_schema,N2.out,N3.out,Option.bind_some,Option.bind_none]];rfl⟩
 ·obtain ⟨rf,kwf,wdf,kbf⟩:=XF.out.fin S.out rfl
  refine bodyPost_ret (results_cell rfl _ rfl (lv_row (T:=31) Tryz.underlying31 (by kernel_rfl) rf rfl)) rfl ?_
  have S:=S.out
  have sb:=S.fb
  have sr:=S.fr
  have sx:=S.fx
  refine ⟨kwf,?_⟩
  rw [show cmdP (b_schema::a::WW)=some ({ zCmd with actor:=s2,kind:=1,schema:=s3 },W3) by simp only [cmdP_cons,body_schema,N2.out,N3.out,Option.bind_some]]
  exact ⟨_,rfl,⟨_,_,_,_,rfl,cols_nil b _ _ sb,names_nil b _ _ sb,⟨.inr g2,.inr g3,.inl rfl,.inl rfl,.inl rfl,.inl rfl,.inl rfl,.inl rfl,.inl rfl⟩⟩,wdf⟩
theorem command_dropschema (b p:Nat) (a:ByteArray) (WW:Ws) (w:World) (h:WdS w b p (b_dropschema::a::WW)):Calls Tryz.prog 29 #[.pointer (some ⟨b,0,none⟩)] w (RdQ b p w (CmdV b w.heap.size) (cmdP (b_dropschema::a::WW))):=by
 have HN:=gH (fun w1 W (h:WdS w1 b p W)=>name_rd b p W w1 h)
 have HW0:=gH (show Calls Tryz.prog 27 #[.pointer (some ⟨b,0,none⟩)] (w.alloc (.cells z17.toArray 31)) fun e w'=>e=.returned (.string ⟨#[100,114,111,112,115,99,104,101,109,97]⟩)∧WdS w' b p (a::WW)∧Kw b (w.alloc (.cells z17.toArray 31)) w' from word_yes b p b_dropschema (a::WW) _ (h.aft ((Aft.refl w).alloc _)))
 have hb:=h.lt
 have HPL:=gH h.plt
 have HLO:=gH h.low
 clear h
 go_enter Tryz.func29,Tryz.ntmps29
 go_wp2_with (first
  | (go_at_call 27;with_reducible refine HW0.out.mono ?_;rintro e w1 ⟨rfl,d,k⟩;have ST:=bx_start (t2:=31) (zs:=z17) hb HPL.out HLO.out k d z17;have S:=gH ST.1;have X1:=gH ST.2;clear d k ST)
  | (go_at_call 19;with_reducible refine (more_yes b p a WW _ X1.out.ds).mono ?_;rintro e w' ⟨rfl,rfl⟩)
  | (go_at_call 48;with_reducible refine (HN.out _ _ X1.out.ds).mono ?_;rintro e w2 q;rcases name_cases q with ⟨n,rfl,k⟩ | ⟨s2,W2,n,rfl,g2,d,k⟩;all_goals (have N2:=gH n;have K2:=gH (X1.out.kw.trans k);clear n q;try (have X2:=gH (X1.out.call S.out k d);have xz2:=X2.out.row.ltD;have rz2:=X2.out.res.ltD;obtain ⟨c2_1,f2_1⟩:=X2.out.cf 1 (by simp);have X2s:=gH (X2.out.set S.out 1 (.string s2) (by simp));clear d)))
  | (go_at_call 48;with_reducible refine (HN.out _ _ X2s.out.ds).mono ?_;rintro e w3 q;rcases name_cases q with ⟨n,rfl,k⟩ | ⟨s3,W3,n,rfl,g3,d,k⟩;all_goals (have N3:=gH n;have K3:=gH (X2s.out.kw.trans k);clear n q;try (have X3:=gH (X2s.out.call S.out k d);have xz3:=X3.out.row.ltD;have rz3:=X3.out.res.ltD;obtain ⟨c3_0,f3_0⟩:=X3.out.cf 0 (by simp);obtain ⟨c3_2,f3_2⟩:=X3.out.cf 2 (by simp);have XF:=(X3.out.set S.out 0 (.int .i64 2) (by simp)).set S.out 2 (.string s3) (by simp);simp only [List.set_cons_succ,List.set_cons_zero] at XF;have XF:=gH XF;obtain ⟨e1,e2⟩:=endsCmd XF.out rfl rfl (by simp [Value.oneCell']);clear d))))
 ·exact ⟨rfl,K2.out,by rw [show cmdP (b_dropschema::a::WW)=none by simp only [cmdP_cons,body_dropschema,N2.out,Option.bind_some,Option.bind_none]];rfl⟩
 ·exact ⟨rfl,K3.out,by rw [show cmdP (b_dropschema::a::WW)=none by simp only [cmdP_cons,body_dropschema,N2.out,N3.out,Option.bind_some,Option.bind_none]];rfl⟩
 ·obtain ⟨rf,kwf,wdf,kbf⟩:=XF.out.fin S.out rfl
  refine bodyPost_ret (results_cell rfl _ rfl (lv_row (T:=31) Tryz.underlying31 (by kernel_rfl) rf rfl)) rfl ?_
  have S:=S.out
  have sb:=S.fb
  have sr:=S.fr
  have sx:=S.fx
  refine ⟨kwf,?_⟩
  rw [show cmdP (b_dropschema::a::WW)=some ({ zCmd with actor:=s2,kind:=2,schema:=s3 },W3) by simp only [cmdP_cons,body_dropschema,N2.out,N3.out,Option.bind_some]]
  exact ⟨_,rfl,⟨_,_,_,_,rfl,cols_nil b _ _ sb,names_nil b _ _ sb,⟨.inr g2,.inr g3,.inl rfl,.inl rfl,.inl rfl,.inl rfl,.inl rfl,.inl rfl,.inl rfl⟩⟩,wdf⟩
theorem command_droptable (b p:Nat) (a:ByteArray) (WW:Ws) (w:World) (h:WdS w b p (b_droptable::a::WW)):Calls Tryz.prog 29 #[.pointer (some ⟨b,0,none⟩)] w (RdQ b p w (CmdV b w.heap.size) (cmdP (b_droptable::a::WW))):=by
 have HN:=gH (fun w1 W (h:WdS w1 b p W)=>name_rd b p W w1 h)
 have HT:=gH (fun x w1 W cs (h:WdS w1 b p W) (hx:RowAt w1 x cs) (hl:cs.length=17) (hb:¬ x=b) (hp:¬ x=p) h0=>table_rd b p x W w1 cs h hx hl hb hp h0)
 have HW0:=gH (show Calls Tryz.prog 27 #[.pointer (some ⟨b,0,none⟩)] (w.alloc (.cells z17.toArray 31)) fun e w'=>e=.returned (.string ⟨#[100,114,111,112,116,97,98,108,101]⟩)∧WdS w' b p (a::WW)∧Kw b (w.alloc (.cells z17.toArray 31)) w' from word_yes b p b_droptable (a::WW) _ (h.aft ((Aft.refl w).alloc _)))
 have hb:=h.lt
 have HPL:=gH h.plt
 have HLO:=gH h.low
 clear h
 go_enter Tryz.func29,Tryz.ntmps29
 go_wp2_with (first
  | (go_at_call 27;with_reducible refine HW0.out.mono ?_;rintro e w1 ⟨rfl,d,k⟩;have ST:=bx_start (t2:=31) (zs:=z17) hb HPL.out HLO.out k d z17;have S:=gH ST.1;have X1:=gH ST.2;clear d k ST)
  | (go_at_call 19;with_reducible refine (more_yes b p a WW _ X1.out.ds).mono ?_;rintro e w' ⟨rfl,rfl⟩)
  | (go_at_call 48;with_reducible refine (HN.out _ _ X1.out.ds).mono ?_;rintro e w2 q;rcases name_cases q with ⟨n,rfl,k⟩ | ⟨s2,W2,n,rfl,g2,d,k⟩;all_goals (have N2:=gH n;have K2:=gH (X1.out.kw.trans k);clear n q;try (have X2:=gH (X1.out.call S.out k d);have xz2:=X2.out.row.ltD;have rz2:=X2.out.res.ltD;obtain ⟨c2_1,f2_1⟩:=X2.out.cf 1 (by simp);obtain ⟨c2_0,f2_0⟩:=X2.out.cf 0 (by simp);have X2s:=gH ((X2.out.set S.out 1 (.string s2) (by simp)).set S.out 0 (.int .i64 4) (by simp));clear d)))
  | (go_at_call 49;with_reducible refine (HT.out _ _ _ _ X2s.out.ds X2s.out.row (by simp) (S.out.xb) (S.out.xp) (S.out.x0)).mono ?_;rintro e w3 q;rcases tab_cases q with ⟨n,rfl,k⟩ | ⟨s3,t3,W3,n,rfl,⟨g3,u3,r⟩,d,k⟩;all_goals (have N3:=gH n;have K3:=gH (Kx.kw X2s.out.kw k S.out.fx);clear n q;try (have X3:=gH (X2s.out.kx S.out k d r);have xz3:=X3.out.row.ltD;have rz3:=X3.out.res.ltD;have XF:=X3.out;simp only [List.set_cons_succ,List.set_cons_zero] at XF;have XF:=gH XF;obtain ⟨e1,e2⟩:=endsCmd XF.out rfl rfl (by simp [Value.oneCell']);clear d r))))
 ·exact ⟨rfl,K2.out,by rw [show cmdP (b_droptable::a::WW)=none by simp only [cmdP_cons,body_droptable,N2.out,Option.bind_some,Option.bind_none]];rfl⟩
 ·exact ⟨rfl,K3.out,by rw [show cmdP (b_droptable::a::WW)=none by simp only [cmdP_cons,body_droptable,N2.out,N3.out,Option.bind_some,Option.bind_none]];rfl⟩
 ·obtain ⟨rf,kwf,wdf,kbf⟩:=XF.out.fin S.out rfl
  refine bodyPost_ret (results_cell rfl _ rfl (lv_row (T:=31) Tryz.underlying31 (by kernel_rfl) rf rfl)) rfl ?_
  have S:=S.out
  have sb:=S.fb
  have sr:=S.fr
  have sx:=S.fx
  refine ⟨kwf,?_⟩
  rw [show cmdP (b_droptable::a::WW)=some ({ zCmd with actor:=s2,kind:=4,schema:=s3,table:=t3 },W3) by simp only [cmdP_cons,body_droptable,N2.out,N3.out,Option.bind_some]]
  exact ⟨_,rfl,⟨_,_,_,_,rfl,cols_nil b _ _ sb,names_nil b _ _ sb,⟨.inr g2,.inr g3,.inr u3,.inl rfl,.inl rfl,.inl rfl,.inl rfl,.inl rfl,.inl rfl⟩⟩,wdf⟩
theorem command_dropcolumn (b p:Nat) (a:ByteArray) (WW:Ws) (w:World) (h:WdS w b p (b_dropcolumn::a::WW)):Calls Tryz.prog 29 #[.pointer (some ⟨b,0,none⟩)] w (RdQ b p w (CmdV b w.heap.size) (cmdP (b_dropcolumn::a::WW))):=by
 have HN:=gH (fun w1 W (h:WdS w1 b p W)=>name_rd b p W w1 h)
 have HT:=gH (fun x w1 W cs (h:WdS w1 b p W) (hx:RowAt w1 x cs) (hl:cs.length=17) (hb:¬ x=b) (hp:¬ x=p) h0=>table_rd b p x W w1 cs h hx hl hb hp h0)
 have HW0:=gH (show Calls Tryz.prog 27 #[.pointer (some ⟨b,0,none⟩)] (w.alloc (.cells z17.toArray 31)) fun e w'=>e=.returned (.string ⟨#[100,114,111,112,99,111,108,117,109,110]⟩)∧WdS w' b p (a::WW)∧Kw b (w.alloc (.cells z17.toArray 31)) w' from word_yes b p b_dropcolumn (a::WW) _ (h.aft ((Aft.refl w).alloc _)))
 have hb:=h.lt
 have HPL:=gH h.plt
 have HLO:=gH h.low
 clear h
 go_enter Tryz.func29,Tryz.ntmps29
 go_wp2_with (first
  | (go_at_call 27;with_reducible refine HW0.out.mono ?_;rintro e w1 ⟨rfl,d,k⟩;have ST:=bx_start (t2:=31) (zs:=z17) hb HPL.out HLO.out k d z17;have S:=gH ST.1;have X1:=gH ST.2;clear d k ST)
  | (go_at_call 19;with_reducible refine (more_yes b p a WW _ X1.out.ds).mono ?_;rintro e w' ⟨rfl,rfl⟩)
  | (go_at_call 48;with_reducible refine (HN.out _ _ X1.out.ds).mono ?_;rintro e w2 q;rcases name_cases q with ⟨n,rfl,k⟩ | ⟨s2,W2,n,rfl,g2,d,k⟩;all_goals (have N2:=gH n;have K2:=gH (X1.out.kw.trans k);clear n q;try (have X2:=gH (X1.out.call S.out k d);have xz2:=X2.out.row.ltD;have rz2:=X2.out.res.ltD;obtain ⟨c2_1,f2_1⟩:=X2.out.cf 1 (by simp);obtain ⟨c2_0,f2_0⟩:=X2.out.cf 0 (by simp);have X2s:=gH ((X2.out.set S.out 1 (.string s2) (by simp)).set S.out 0 (.int .i64 6) (by simp));clear d)))
  | (go_at_call 49;with_reducible refine (HT.out _ _ _ _ X2s.out.ds X2s.out.row (by simp) (S.out.xb) (S.out.xp) (S.out.x0)).mono ?_;rintro e w3 q;rcases tab_cases q with ⟨n,rfl,k⟩ | ⟨s3,t3,W3,n,rfl,⟨g3,u3,r⟩,d,k⟩;all_goals (have N3:=gH n;have K3:=gH (Kx.kw X2s.out.kw k S.out.fx);clear n q;try (have X3:=gH (X2s.out.kx S.out k d r);have xz3:=X3.out.row.ltD;have rz3:=X3.out.res.ltD;clear d r)))
  | (go_at_call 48;with_reducible refine (HN.out _ _ X3.out.ds).mono ?_;rintro e w4 q;rcases name_cases q with ⟨n,rfl,k⟩ | ⟨s4,W4,n,rfl,g4,d,k⟩;all_goals (have N4:=gH n;have K4:=gH (X3.out.kw.trans k);clear n q;try (have X4:=gH (X3.out.call S.out k d);have xz4:=X4.out.row.ltD;have rz4:=X4.out.res.ltD;obtain ⟨c4_4,f4_4⟩:=X4.out.cf 4 (by simp);have XF:=X4.out.set S.out 4 (.string s4) (by simp);simp only [List.set_cons_succ,List.set_cons_zero] at XF;have XF:=gH XF;obtain ⟨e1,e2⟩:=endsCmd XF.out rfl rfl (by simp [Value.oneCell']);clear d))))
 ·exact ⟨rfl,K2.out,by rw [show cmdP (b_dropcolumn::a::WW)=none by simp only [cmdP_cons,body_dropcolumn,N2.out,Option.bind_some,Option.bind_none]];rfl⟩
 ·exact ⟨rfl,K3.out,by rw [show cmdP (b_dropcolumn::a::WW)=none by simp only [cmdP_cons,body_dropcolumn,N2.out,N3.out,Option.bind_some,Option.bind_none]];rfl⟩
 ·exact ⟨rfl,K4.out,by rw [show cmdP (b_dropcolumn::a::WW)=none by simp only [cmdP_cons,body_dropcolumn,N2.out,N3.out,N4.out,Option.bind_some,Option.bind_none]];rfl⟩
 ·obtain ⟨rf,kwf,wdf,kbf⟩:=XF.out.fin S.out rfl
  refine bodyPost_ret (results_cell rfl _ rfl (lv_row (T:=31) Tryz.underlying31 (by kernel_rfl) rf rfl)) rfl ?_
  have S:=S.out
  have sb:=S.fb
  have sr:=S.fr
  have sx:=S.fx
  refine ⟨kwf,?_⟩
  rw [show cmdP (b_dropcolumn::a::WW)=some ({ zCmd with actor:=s2,kind:=6,schema:=s3,table:=t3,name:=s4 },W4) by simp only [cmdP_cons,body_dropcolumn,N2.out,N3.out,N4.out,Option.bind_some]]
  exact ⟨_,rfl,⟨_,_,_,_,rfl,cols_nil b _ _ sb,names_nil b _ _ sb,⟨.inr g2,.inr g3,.inr u3,.inr g4,.inl rfl,.inl rfl,.inl rfl,.inl rfl,.inl rfl⟩⟩,wdf⟩
theorem command_droprule (b p:Nat) (a:ByteArray) (WW:Ws) (w:World) (h:WdS w b p (b_droprule::a::WW)):Calls Tryz.prog 29 #[.pointer (some ⟨b,0,none⟩)] w (RdQ b p w (CmdV b w.heap.size) (cmdP (b_droprule::a::WW))):=by
 have HN:=gH (fun w1 W (h:WdS w1 b p W)=>name_rd b p W w1 h)
 have HT:=gH (fun x w1 W cs (h:WdS w1 b p W) (hx:RowAt w1 x cs) (hl:cs.length=17) (hb:¬ x=b) (hp:¬ x=p) h0=>table_rd b p x W w1 cs h hx hl hb hp h0)
 have HW0:=gH (show Calls Tryz.prog 27 #[.pointer (some ⟨b,0,none⟩)] (w.alloc (.cells z17.toArray 31)) fun e w'=>e=.returned (.string ⟨#[100,114,111,112,114,117,108,101]⟩)∧WdS w' b p (a::WW)∧Kw b (w.alloc (.cells z17.toArray 31)) w' from word_yes b p b_droprule (a::WW) _ (h.aft ((Aft.refl w).alloc _)))
 have hb:=h.lt
 have HPL:=gH h.plt
 have HLO:=gH h.low
 clear h
 go_enter Tryz.func29,Tryz.ntmps29
 go_wp2_with (first
  | (go_at_call 27;with_reducible refine HW0.out.mono ?_;rintro e w1 ⟨rfl,d,k⟩;have ST:=bx_start (t2:=31) (zs:=z17) hb HPL.out HLO.out k d z17;have S:=gH ST.1;have X1:=gH ST.2;clear d k ST)
  | (go_at_call 19;with_reducible refine (more_yes b p a WW _ X1.out.ds).mono ?_;rintro e w' ⟨rfl,rfl⟩)
  | (go_at_call 48;with_reducible refine (HN.out _ _ X1.out.ds).mono ?_;rintro e w2 q;rcases name_cases q with ⟨n,rfl,k⟩ | ⟨s2,W2,n,rfl,g2,d,k⟩;all_goals (have N2:=gH n;have K2:=gH (X1.out.kw.trans k);clear n q;try (have X2:=gH (X1.out.call S.out k d);have xz2:=X2.out.row.ltD;have rz2:=X2.out.res.ltD;obtain ⟨c2_1,f2_1⟩:=X2.out.cf 1 (by simp);obtain ⟨c2_0,f2_0⟩:=X2.out.cf 0 (by simp);have X2s:=gH ((X2.out.set S.out 1 (.string s2) (by simp)).set S.out 0 (.int .i64 8) (by simp));clear d)))
  | (go_at_call 49;with_reducible refine (HT.out _ _ _ _ X2s.out.ds X2s.out.row (by simp) (S.out.xb) (S.out.xp) (S.out.x0)).mono ?_;rintro e w3 q;rcases tab_cases q with ⟨n,rfl,k⟩ | ⟨s3,t3,W3,n,rfl,⟨g3,u3,r⟩,d,k⟩;all_goals (have N3:=gH n;have K3:=gH (Kx.kw X2s.out.kw k S.out.fx);clear n q;try (have X3:=gH (X2s.out.kx S.out k d r);have xz3:=X3.out.row.ltD;have rz3:=X3.out.res.ltD;clear d r)))
  | (go_at_call 48;with_reducible refine (HN.out _ _ X3.out.ds).mono ?_;rintro e w4 q;rcases name_cases q with ⟨n,rfl,k⟩ | ⟨s4,W4,n,rfl,g4,d,k⟩;all_goals (have N4:=gH n;have K4:=gH (X3.out.kw.trans k);clear n q;try (have X4:=gH (X3.out.call S.out k d);have xz4:=X4.out.row.ltD;have rz4:=X4.out.res.ltD;obtain ⟨c4_4,f4_4⟩:=X4.out.cf 4 (by simp);have XF:=X4.out.set S.out 4 (.string s4) (by simp);simp only [List.set_cons_succ,List.set_cons_zero] at XF;have XF:=gH XF;obtain ⟨e1,e2⟩:=endsCmd XF.out rfl rfl (by simp [Value.oneCell']);clear d))))
 ·exact ⟨rfl,K2.out,by rw [show cmdP (b_droprule::a::WW)=none by simp only [cmdP_cons,body_droprule,N2.out,Option.bind_some,Option.bind_none]];rfl⟩
 ·exact ⟨rfl,K3.out,by rw [show cmdP (b_droprule::a::WW)=none by simp only [cmdP_cons,body_droprule,N2.out,N3.out,Option.bind_some,Option.bind_none]];rfl⟩
 ·exact ⟨rfl,K4.out,by rw [show cmdP (b_droprule::a::WW)=none by simp only [cmdP_cons,body_droprule,N2.out,N3.out,N4.out,Option.bind_some,Option.bind_none]];rfl⟩
 ·obtain ⟨rf,kwf,wdf,kbf⟩:=XF.out.fin S.out rfl
  refine bodyPost_ret (results_cell rfl _ rfl (lv_row (T:=31) Tryz.underlying31 (by kernel_rfl) rf rfl)) rfl ?_
  have S:=S.out
  have sb:=S.fb
  have sr:=S.fr
  have sx:=S.fx
  refine ⟨kwf,?_⟩
  rw [show cmdP (b_droprule::a::WW)=some ({ zCmd with actor:=s2,kind:=8,schema:=s3,table:=t3,name:=s4 },W4) by simp only [cmdP_cons,body_droprule,N2.out,N3.out,N4.out,Option.bind_some]]
  exact ⟨_,rfl,⟨_,_,_,_,rfl,cols_nil b _ _ sb,names_nil b _ _ sb,⟨.inr g2,.inr g3,.inr u3,.inr g4,.inl rfl,.inl rfl,.inl rfl,.inl rfl,.inl rfl⟩⟩,wdf⟩
theorem command_owner (b p:Nat) (a:ByteArray) (WW:Ws) (w:World) (h:WdS w b p (b_owner::a::WW)):Calls Tryz.prog 29 #[.pointer (some ⟨b,0,none⟩)] w (RdQ b p w (CmdV b w.heap.size) (cmdP (b_owner::a::WW))):=by
 have HN:=gH (fun w1 W (h:WdS w1 b p W)=>name_rd b p W w1 h)
 have HT:=gH (fun x w1 W cs (h:WdS w1 b p W) (hx:RowAt w1 x cs) (hl:cs.length=17) (hb:¬ x=b) (hp:¬ x=p) h0=>table_rd b p x W w1 cs h hx hl hb hp h0)
 have HW0:=gH (show Calls Tryz.prog 27 #[.pointer (some ⟨b,0,none⟩)] (w.alloc (.cells z17.toArray 31)) fun e w'=>e=.returned (.string ⟨#[111,119,110,101,114]⟩)∧WdS w' b p (a::WW)∧Kw b (w.alloc (.cells z17.toArray 31)) w' from word_yes b p b_owner (a::WW) _ (h.aft ((Aft.refl w).alloc _)))
 have hb:=h.lt
 have HPL:=gH h.plt
 have HLO:=gH h.low
 clear h
 go_enter Tryz.func29,Tryz.ntmps29
 go_wp2_with (first
  | (go_at_call 27;with_reducible refine HW0.out.mono ?_;rintro e w1 ⟨rfl,d,k⟩;have ST:=bx_start (t2:=31) (zs:=z17) hb HPL.out HLO.out k d z17;have S:=gH ST.1;have X1:=gH ST.2;clear d k ST)
  | (go_at_call 19;with_reducible refine (more_yes b p a WW _ X1.out.ds).mono ?_;rintro e w' ⟨rfl,rfl⟩)
  | (go_at_call 48;with_reducible refine (HN.out _ _ X1.out.ds).mono ?_;rintro e w2 q;rcases name_cases q with ⟨n,rfl,k⟩ | ⟨s2,W2,n,rfl,g2,d,k⟩;all_goals (have N2:=gH n;have K2:=gH (X1.out.kw.trans k);clear n q;try (have X2:=gH (X1.out.call S.out k d);have xz2:=X2.out.row.ltD;have rz2:=X2.out.res.ltD;obtain ⟨c2_1,f2_1⟩:=X2.out.cf 1 (by simp);obtain ⟨c2_0,f2_0⟩:=X2.out.cf 0 (by simp);have X2s:=gH ((X2.out.set S.out 1 (.string s2) (by simp)).set S.out 0 (.int .i64 9) (by simp));clear d)))
  | (go_at_call 49;with_reducible refine (HT.out _ _ _ _ X2s.out.ds X2s.out.row (by simp) (S.out.xb) (S.out.xp) (S.out.x0)).mono ?_;rintro e w3 q;rcases tab_cases q with ⟨n,rfl,k⟩ | ⟨s3,t3,W3,n,rfl,⟨g3,u3,r⟩,d,k⟩;all_goals (have N3:=gH n;have K3:=gH (Kx.kw X2s.out.kw k S.out.fx);clear n q;try (have X3:=gH (X2s.out.kx S.out k d r);have xz3:=X3.out.row.ltD;have rz3:=X3.out.res.ltD;clear d r)))
  | (go_at_call 48;with_reducible refine (HN.out _ _ X3.out.ds).mono ?_;rintro e w4 q;rcases name_cases q with ⟨n,rfl,k⟩ | ⟨s4,W4,n,rfl,g4,d,k⟩;all_goals (have N4:=gH n;have K4:=gH (X3.out.kw.trans k);clear n q;try (have X4:=gH (X3.out.call S.out k d);have xz4:=X4.out.row.ltD;have rz4:=X4.out.res.ltD;obtain ⟨c4_5,f4_5⟩:=X4.out.cf 5 (by simp);have XF:=X4.out.set S.out 5 (.string s4) (by simp);simp only [List.set_cons_succ,List.set_cons_zero] at XF;have XF:=gH XF;obtain ⟨e1,e2⟩:=endsCmd XF.out rfl rfl (by simp [Value.oneCell']);clear d))))
 ·exact ⟨rfl,K2.out,by rw [show cmdP (b_owner::a::WW)=none by simp only [cmdP_cons,body_owner,N2.out,Option.bind_some,Option.bind_none]];rfl⟩
 ·exact ⟨rfl,K3.out,by rw [show cmdP (b_owner::a::WW)=none by simp only [cmdP_cons,body_owner,N2.out,N3.out,Option.bind_some,Option.bind_none]];rfl⟩
 ·exact ⟨rfl,K4.out,by rw [show cmdP (b_owner::a::WW)=none by simp only [cmdP_cons,body_owner,N2.out,N3.out,N4.out,Option.bind_some,Option.bind_none]];rfl⟩
 ·obtain ⟨rf,kwf,wdf,kbf⟩:=XF.out.fin S.out rfl
  refine bodyPost_ret (results_cell rfl _ rfl (lv_row (T:=31) Tryz.underlying31 (by kernel_rfl) rf rfl)) rfl ?_
  have S:=S.out
  have sb:=S.fb
  have sr:=S.fr
  have sx:=S.fx
  refine ⟨kwf,?_⟩
  rw [show cmdP (b_owner::a::WW)=some ({ zCmd with actor:=s2,kind:=9,schema:=s3,table:=t3,role:=s4 },W4) by simp only [cmdP_cons,body_owner,N2.out,N3.out,N4.out,Option.bind_some]]
  exact ⟨_,rfl,⟨_,_,_,_,rfl,cols_nil b _ _ sb,names_nil b _ _ sb,⟨.inr g2,.inr g3,.inr u3,.inl rfl,.inr g4,.inl rfl,.inl rfl,.inl rfl,.inl rfl⟩⟩,wdf⟩
theorem command_role (b p:Nat) (a:ByteArray) (WW:Ws) (w:World) (h:WdS w b p (b_role::a::WW)):Calls Tryz.prog 29 #[.pointer (some ⟨b,0,none⟩)] w (RdQ b p w (CmdV b w.heap.size) (cmdP (b_role::a::WW))):=by
 have HN:=gH (fun w1 W (h:WdS w1 b p W)=>name_rd b p W w1 h)
 have HW0:=gH (show Calls Tryz.prog 27 #[.pointer (some ⟨b,0,none⟩)] (w.alloc (.cells z17.toArray 31)) fun e w'=>e=.returned (.string ⟨#[114,111,108,101]⟩)∧WdS w' b p (a::WW)∧Kw b (w.alloc (.cells z17.toArray 31)) w' from word_yes b p b_role (a::WW) _ (h.aft ((Aft.refl w).alloc _)))
 have hb:=h.lt
 have HPL:=gH h.plt
 have HLO:=gH h.low
 clear h
 go_enter Tryz.func29,Tryz.ntmps29
 go_wp2_with (first
  | (go_at_call 27;with_reducible refine HW0.out.mono ?_;rintro e w1 ⟨rfl,d,k⟩;have ST:=bx_start (t2:=31) (zs:=z17) hb HPL.out HLO.out k d z17;have S:=gH ST.1;have X1:=gH ST.2;clear d k ST)
  | (go_at_call 19;with_reducible refine (more_yes b p a WW _ X1.out.ds).mono ?_;rintro e w' ⟨rfl,rfl⟩)
  | (go_at_call 48;with_reducible refine (HN.out _ _ X1.out.ds).mono ?_;rintro e w2 q;rcases name_cases q with ⟨n,rfl,k⟩ | ⟨s2,W2,n,rfl,g2,d,k⟩;all_goals (have N2:=gH n;have K2:=gH (X1.out.kw.trans k);clear n q;try (have X2:=gH (X1.out.call S.out k d);have xz2:=X2.out.row.ltD;have rz2:=X2.out.res.ltD;obtain ⟨c2_1,f2_1⟩:=X2.out.cf 1 (by simp);have X2s:=gH (X2.out.set S.out 1 (.string s2) (by simp));clear d)))
  | (go_at_call 48;with_reducible refine (HN.out _ _ X2s.out.ds).mono ?_;rintro e w3 q;rcases name_cases q with ⟨n,rfl,k⟩ | ⟨s3,W3,n,rfl,g3,d,k⟩;all_goals (have N3:=gH n;have K3:=gH (X2s.out.kw.trans k);clear n q;try (have X3:=gH (X2s.out.call S.out k d);have xz3:=X3.out.row.ltD;have rz3:=X3.out.res.ltD;obtain ⟨c3_0,f3_0⟩:=X3.out.cf 0 (by simp);obtain ⟨c3_5,f3_5⟩:=X3.out.cf 5 (by simp);have XF:=(X3.out.set S.out 0 (.int .i64 10) (by simp)).set S.out 5 (.string s3) (by simp);simp only [List.set_cons_succ,List.set_cons_zero] at XF;have XF:=gH XF;obtain ⟨e1,e2⟩:=endsCmd XF.out rfl rfl (by simp [Value.oneCell']);clear d))))
 ·exact ⟨rfl,K2.out,by rw [show cmdP (b_role::a::WW)=none by simp only [cmdP_cons,body_role,N2.out,Option.bind_some,Option.bind_none]];rfl⟩
 ·exact ⟨rfl,K3.out,by rw [show cmdP (b_role::a::WW)=none by simp only [cmdP_cons,body_role,N2.out,N3.out,Option.bind_some,Option.bind_none]];rfl⟩
 ·obtain ⟨rf,kwf,wdf,kbf⟩:=XF.out.fin S.out rfl
  refine bodyPost_ret (results_cell rfl _ rfl (lv_row (T:=31) Tryz.underlying31 (by kernel_rfl) rf rfl)) rfl ?_
  have S:=S.out
  have sb:=S.fb
  have sr:=S.fr
  have sx:=S.fx
  refine ⟨kwf,?_⟩
  rw [show cmdP (b_role::a::WW)=some ({ zCmd with actor:=s2,kind:=10,role:=s3 },W3) by simp only [cmdP_cons,body_role,N2.out,N3.out,Option.bind_some]]
  exact ⟨_,rfl,⟨_,_,_,_,rfl,cols_nil b _ _ sb,names_nil b _ _ sb,⟨.inr g2,.inl rfl,.inl rfl,.inl rfl,.inr g3,.inl rfl,.inl rfl,.inl rfl,.inl rfl⟩⟩,wdf⟩
theorem command_droprole (b p:Nat) (a:ByteArray) (WW:Ws) (w:World) (h:WdS w b p (b_droprole::a::WW)):Calls Tryz.prog 29 #[.pointer (some ⟨b,0,none⟩)] w (RdQ b p w (CmdV b w.heap.size) (cmdP (b_droprole::a::WW))):=by
 have HN:=gH (fun w1 W (h:WdS w1 b p W)=>name_rd b p W w1 h)
 have HW0:=gH (show Calls Tryz.prog 27 #[.pointer (some ⟨b,0,none⟩)] (w.alloc (.cells z17.toArray 31)) fun e w'=>e=.returned (.string ⟨#[100,114,111,112,114,111,108,101]⟩)∧WdS w' b p (a::WW)∧Kw b (w.alloc (.cells z17.toArray 31)) w' from word_yes b p b_droprole (a::WW) _ (h.aft ((Aft.refl w).alloc _)))
 have hb:=h.lt
 have HPL:=gH h.plt
 have HLO:=gH h.low
 clear h
 go_enter Tryz.func29,Tryz.ntmps29
 go_wp2_with (first
  | (go_at_call 27;with_reducible refine HW0.out.mono ?_;rintro e w1 ⟨rfl,d,k⟩;have ST:=bx_start (t2:=31) (zs:=z17) hb HPL.out HLO.out k d z17;have S:=gH ST.1;have X1:=gH ST.2;clear d k ST)
  | (go_at_call 19;with_reducible refine (more_yes b p a WW _ X1.out.ds).mono ?_;rintro e w' ⟨rfl,rfl⟩)
  | (go_at_call 48;with_reducible refine (HN.out _ _ X1.out.ds).mono ?_;rintro e w2 q;rcases name_cases q with ⟨n,rfl,k⟩ | ⟨s2,W2,n,rfl,g2,d,k⟩;all_goals (have N2:=gH n;have K2:=gH (X1.out.kw.trans k);clear n q;try (have X2:=gH (X1.out.call S.out k d);have xz2:=X2.out.row.ltD;have rz2:=X2.out.res.ltD;obtain ⟨c2_1,f2_1⟩:=X2.out.cf 1 (by simp);have X2s:=gH (X2.out.set S.out 1 (.string s2) (by simp));clear d)))
  | (go_at_call 48;with_reducible refine (HN.out _ _ X2s.out.ds).mono ?_;rintro e w3 q;rcases name_cases q with ⟨n,rfl,k⟩ | ⟨s3,W3,n,rfl,g3,d,k⟩;all_goals (have N3:=gH n;have K3:=gH (X2s.out.kw.trans k);clear n q;try (have X3:=gH (X2s.out.call S.out k d);have xz3:=X3.out.row.ltD;have rz3:=X3.out.res.ltD;obtain ⟨c3_0,f3_0⟩:=X3.out.cf 0 (by simp);obtain ⟨c3_5,f3_5⟩:=X3.out.cf 5 (by simp);have XF:=(X3.out.set S.out 0 (.int .i64 11) (by simp)).set S.out 5 (.string s3) (by simp);simp only [List.set_cons_succ,List.set_cons_zero] at XF;have XF:=gH XF;obtain ⟨e1,e2⟩:=endsCmd XF.out rfl rfl (by simp [Value.oneCell']);clear d))))
 ·exact ⟨rfl,K2.out,by rw [show cmdP (b_droprole::a::WW)=none by simp only [cmdP_cons,body_droprole,N2.out,Option.bind_some,Option.bind_none]];rfl⟩
 ·exact ⟨rfl,K3.out,by rw [show cmdP (b_droprole::a::WW)=none by simp only [cmdP_cons,body_droprole,N2.out,N3.out,Option.bind_some,Option.bind_none]];rfl⟩
 ·obtain ⟨rf,kwf,wdf,kbf⟩:=XF.out.fin S.out rfl
  refine bodyPost_ret (results_cell rfl _ rfl (lv_row (T:=31) Tryz.underlying31 (by kernel_rfl) rf rfl)) rfl ?_
  have S:=S.out
  have sb:=S.fb
  have sr:=S.fr
  have sx:=S.fx
  refine ⟨kwf,?_⟩
  rw [show cmdP (b_droprole::a::WW)=some ({ zCmd with actor:=s2,kind:=11,role:=s3 },W3) by simp only [cmdP_cons,body_droprole,N2.out,N3.out,Option.bind_some]]
  exact ⟨_,rfl,⟨_,_,_,_,rfl,cols_nil b _ _ sb,names_nil b _ _ sb,⟨.inr g2,.inl rfl,.inl rfl,.inl rfl,.inr g3,.inl rfl,.inl rfl,.inl rfl,.inl rfl⟩⟩,wdf⟩
theorem command_member (b p:Nat) (a:ByteArray) (WW:Ws) (w:World) (h:WdS w b p (b_member::a::WW)):Calls Tryz.prog 29 #[.pointer (some ⟨b,0,none⟩)] w (RdQ b p w (CmdV b w.heap.size) (cmdP (b_member::a::WW))):=by
 have HN:=gH (fun w1 W (h:WdS w1 b p W)=>name_rd b p W w1 h)
 have HW0:=gH (show Calls Tryz.prog 27 #[.pointer (some ⟨b,0,none⟩)] (w.alloc (.cells z17.toArray 31)) fun e w'=>e=.returned (.string ⟨#[109,101,109,98,101,114]⟩)∧WdS w' b p (a::WW)∧Kw b (w.alloc (.cells z17.toArray 31)) w' from word_yes b p b_member (a::WW) _ (h.aft ((Aft.refl w).alloc _)))
 have hb:=h.lt
 have HPL:=gH h.plt
 have HLO:=gH h.low
 clear h
 go_enter Tryz.func29,Tryz.ntmps29
 go_wp2_with (first
  | (go_at_call 27;with_reducible refine HW0.out.mono ?_;rintro e w1 ⟨rfl,d,k⟩;have ST:=bx_start (t2:=31) (zs:=z17) hb HPL.out HLO.out k d z17;have S:=gH ST.1;have X1:=gH ST.2;clear d k ST)
  | (go_at_call 19;with_reducible refine (more_yes b p a WW _ X1.out.ds).mono ?_;rintro e w' ⟨rfl,rfl⟩)
  | (go_at_call 48;with_reducible refine (HN.out _ _ X1.out.ds).mono ?_;rintro e w2 q;rcases name_cases q with ⟨n,rfl,k⟩ | ⟨s2,W2,n,rfl,g2,d,k⟩;all_goals (have N2:=gH n;have K2:=gH (X1.out.kw.trans k);clear n q;try (have X2:=gH (X1.out.call S.out k d);have xz2:=X2.out.row.ltD;have rz2:=X2.out.res.ltD;obtain ⟨c2_1,f2_1⟩:=X2.out.cf 1 (by simp);have X2s:=gH (X2.out.set S.out 1 (.string s2) (by simp));clear d)))
  | (go_at_call 48;with_reducible refine (HN.out _ _ X2s.out.ds).mono ?_;rintro e w3 q;rcases name_cases q with ⟨n,rfl,k⟩ | ⟨s3,W3,n,rfl,g3,d,k⟩;all_goals (have N3:=gH n;have K3:=gH (X2s.out.kw.trans k);clear n q;try (have X3:=gH (X2s.out.call S.out k d);have xz3:=X3.out.row.ltD;have rz3:=X3.out.res.ltD;clear d)))
  | (go_at_call 48;with_reducible refine (HN.out _ _ X3.out.ds).mono ?_;rintro e w4 q;rcases name_cases q with ⟨n,rfl,k⟩ | ⟨s4,W4,n,rfl,g4,d,k⟩;all_goals (have N4:=gH n;have K4:=gH (X3.out.kw.trans k);clear n q;try (have X4:=gH (X3.out.call S.out k d);have xz4:=X4.out.row.ltD;have rz4:=X4.out.res.ltD;obtain ⟨c4_0,f4_0⟩:=X4.out.cf 0 (by simp);obtain ⟨c4_5,f4_5⟩:=X4.out.cf 5 (by simp);obtain ⟨c4_4,f4_4⟩:=X4.out.cf 4 (by simp);have XF:=((X4.out.set S.out 0 (.int .i64 12) (by simp)).set S.out 5 (.string s3) (by simp)).set S.out 4 (.string s4) (by simp);simp only [List.set_cons_succ,List.set_cons_zero] at XF;have XF:=gH XF;obtain ⟨e1,e2⟩:=endsCmd XF.out rfl rfl (by simp [Value.oneCell']);clear d))))
 ·exact ⟨rfl,K2.out,by rw [show cmdP (b_member::a::WW)=none by simp only [cmdP_cons,body_member,N2.out,Option.bind_some,Option.bind_none]];rfl⟩
 ·exact ⟨rfl,K3.out,by rw [show cmdP (b_member::a::WW)=none by simp only [cmdP_cons,body_member,N2.out,N3.out,Option.bind_some,Option.bind_none]];rfl⟩
 ·exact ⟨rfl,K4.out,by rw [show cmdP (b_member::a::WW)=none by simp only [cmdP_cons,body_member,N2.out,N3.out,N4.out,Option.bind_some,Option.bind_none]];rfl⟩
 ·obtain ⟨rf,kwf,wdf,kbf⟩:=XF.out.fin S.out rfl
  refine bodyPost_ret (results_cell rfl _ rfl (lv_row (T:=31) Tryz.underlying31 (by kernel_rfl) rf rfl)) rfl ?_
  have S:=S.out
  have sb:=S.fb
  have sr:=S.fr
  have sx:=S.fx
  refine ⟨kwf,?_⟩
  rw [show cmdP (b_member::a::WW)=some ({ zCmd with actor:=s2,kind:=12,role:=s3,name:=s4 },W4) by simp only [cmdP_cons,body_member,N2.out,N3.out,N4.out,Option.bind_some]]
  exact ⟨_,rfl,⟨_,_,_,_,rfl,cols_nil b _ _ sb,names_nil b _ _ sb,⟨.inr g2,.inl rfl,.inl rfl,.inr g4,.inr g3,.inl rfl,.inl rfl,.inl rfl,.inl rfl⟩⟩,wdf⟩
theorem command_unmember (b p:Nat) (a:ByteArray) (WW:Ws) (w:World) (h:WdS w b p (b_unmember::a::WW)):Calls Tryz.prog 29 #[.pointer (some ⟨b,0,none⟩)] w (RdQ b p w (CmdV b w.heap.size) (cmdP (b_unmember::a::WW))):=by
 have HN:=gH (fun w1 W (h:WdS w1 b p W)=>name_rd b p W w1 h)
 have HW0:=gH (show Calls Tryz.prog 27 #[.pointer (some ⟨b,0,none⟩)] (w.alloc (.cells z17.toArray 31)) fun e w'=>e=.returned (.string ⟨#[117,110,109,101,109,98,101,114]⟩)∧WdS w' b p (a::WW)∧Kw b (w.alloc (.cells z17.toArray 31)) w' from word_yes b p b_unmember (a::WW) _ (h.aft ((Aft.refl w).alloc _)))
 have hb:=h.lt
 have HPL:=gH h.plt
 have HLO:=gH h.low
 clear h
 go_enter Tryz.func29,Tryz.ntmps29
 go_wp2_with (first
  | (go_at_call 27;with_reducible refine HW0.out.mono ?_;rintro e w1 ⟨rfl,d,k⟩;have ST:=bx_start (t2:=31) (zs:=z17) hb HPL.out HLO.out k d z17;have S:=gH ST.1;have X1:=gH ST.2;clear d k ST)
  | (go_at_call 19;with_reducible refine (more_yes b p a WW _ X1.out.ds).mono ?_;rintro e w' ⟨rfl,rfl⟩)
  | (go_at_call 48;with_reducible refine (HN.out _ _ X1.out.ds).mono ?_;rintro e w2 q;rcases name_cases q with ⟨n,rfl,k⟩ | ⟨s2,W2,n,rfl,g2,d,k⟩;all_goals (have N2:=gH n;have K2:=gH (X1.out.kw.trans k);clear n q;try (have X2:=gH (X1.out.call S.out k d);have xz2:=X2.out.row.ltD;have rz2:=X2.out.res.ltD;obtain ⟨c2_1,f2_1⟩:=X2.out.cf 1 (by simp);have X2s:=gH (X2.out.set S.out 1 (.string s2) (by simp));clear d)))
  | (go_at_call 48;with_reducible refine (HN.out _ _ X2s.out.ds).mono ?_;rintro e w3 q;rcases name_cases q with ⟨n,rfl,k⟩ | ⟨s3,W3,n,rfl,g3,d,k⟩;all_goals (have N3:=gH n;have K3:=gH (X2s.out.kw.trans k);clear n q;try (have X3:=gH (X2s.out.call S.out k d);have xz3:=X3.out.row.ltD;have rz3:=X3.out.res.ltD;clear d)))
  | (go_at_call 48;with_reducible refine (HN.out _ _ X3.out.ds).mono ?_;rintro e w4 q;rcases name_cases q with ⟨n,rfl,k⟩ | ⟨s4,W4,n,rfl,g4,d,k⟩;all_goals (have N4:=gH n;have K4:=gH (X3.out.kw.trans k);clear n q;try (have X4:=gH (X3.out.call S.out k d);have xz4:=X4.out.row.ltD;have rz4:=X4.out.res.ltD;obtain ⟨c4_0,f4_0⟩:=X4.out.cf 0 (by simp);obtain ⟨c4_5,f4_5⟩:=X4.out.cf 5 (by simp);obtain ⟨c4_4,f4_4⟩:=X4.out.cf 4 (by simp);have XF:=((X4.out.set S.out 0 (.int .i64 13) (by simp)).set S.out 5 (.string s3) (by simp)).set S.out 4 (.string s4) (by simp);simp only [List.set_cons_succ,List.set_cons_zero] at XF;have XF:=gH XF;obtain ⟨e1,e2⟩:=endsCmd XF.out rfl rfl (by simp [Value.oneCell']);clear d))))
 ·exact ⟨rfl,K2.out,by rw [show cmdP (b_unmember::a::WW)=none by simp only [cmdP_cons,body_unmember,N2.out,Option.bind_some,Option.bind_none]];rfl⟩
 ·exact ⟨rfl,K3.out,by rw [show cmdP (b_unmember::a::WW)=none by simp only [cmdP_cons,body_unmember,N2.out,N3.out,Option.bind_some,Option.bind_none]];rfl⟩
 ·exact ⟨rfl,K4.out,by rw [show cmdP (b_unmember::a::WW)=none by simp only [cmdP_cons,body_unmember,N2.out,N3.out,N4.out,Option.bind_some,Option.bind_none]];rfl⟩
 ·obtain ⟨rf,kwf,wdf,kbf⟩:=XF.out.fin S.out rfl
  refine bodyPost_ret (results_cell rfl _ rfl (lv_row (T:=31) Tryz.underlying31 (by kernel_rfl) rf rfl)) rfl ?_
  have S:=S.out
  have sb:=S.fb
  have sr:=S.fr
  have sx:=S.fx
  refine ⟨kwf,?_⟩
  rw [show cmdP (b_unmember::a::WW)=some ({ zCmd with actor:=s2,kind:=13,role:=s3,name:=s4 },W4) by simp only [cmdP_cons,body_unmember,N2.out,N3.out,N4.out,Option.bind_some]]
  exact ⟨_,rfl,⟨_,_,_,_,rfl,cols_nil b _ _ sb,names_nil b _ _ sb,⟨.inr g2,.inl rfl,.inl rfl,.inr g4,.inr g3,.inl rfl,.inl rfl,.inl rfl,.inl rfl⟩⟩,wdf⟩
theorem command_column (b p:Nat) (a:ByteArray) (WW:Ws) (w:World) (h:WdS w b p (b_column::a::WW)):Calls Tryz.prog 29 #[.pointer (some ⟨b,0,none⟩)] w (RdQ b p w (CmdV b w.heap.size) (cmdP (b_column::a::WW))):=by
 have HN:=gH (fun w1 W (h:WdS w1 b p W)=>name_rd b p W w1 h)
 have HT:=gH (fun x w1 W cs (h:WdS w1 b p W) (hx:RowAt w1 x cs) (hl:cs.length=17) (hb:¬ x=b) (hp:¬ x=p) h0=>table_rd b p x W w1 cs h hx hl hb hp h0)
 have HC:=gH (fun w1 W (h:WdS w1 b p W)=>column_rd b p W w1 h)
 have HW0:=gH (show Calls Tryz.prog 27 #[.pointer (some ⟨b,0,none⟩)] (w.alloc (.cells z17.toArray 31)) fun e w'=>e=.returned (.string ⟨#[99,111,108,117,109,110]⟩)∧WdS w' b p (a::WW)∧Kw b (w.alloc (.cells z17.toArray 31)) w' from word_yes b p b_column (a::WW) _ (h.aft ((Aft.refl w).alloc _)))
 have hb:=h.lt
 have HPL:=gH h.plt
 have HLO:=gH h.low
 clear h
 go_enter Tryz.func29,Tryz.ntmps29
 go_wp2_with (first
  | (go_at_call 27;with_reducible refine HW0.out.mono ?_;rintro e w1 ⟨rfl,d,k⟩;have ST:=bx_start (t2:=31) (zs:=z17) hb HPL.out HLO.out k d z17;have S:=gH ST.1;have X1:=gH ST.2;clear d k ST)
  | (go_at_call 19;with_reducible refine (more_yes b p a WW _ X1.out.ds).mono ?_;rintro e w' ⟨rfl,rfl⟩)
  | (go_at_call 48;with_reducible refine (HN.out _ _ X1.out.ds).mono ?_;rintro e w2 q;rcases name_cases q with ⟨n,rfl,k⟩ | ⟨s2,W2,n,rfl,g2,d,k⟩;all_goals (have N2:=gH n;have K2:=gH (X1.out.kw.trans k);clear n q;try (have X2:=gH (X1.out.call S.out k d);have xz2:=X2.out.row.ltD;have rz2:=X2.out.res.ltD;obtain ⟨c2_1,f2_1⟩:=X2.out.cf 1 (by simp);obtain ⟨c2_0,f2_0⟩:=X2.out.cf 0 (by simp);have X2s:=gH ((X2.out.set S.out 1 (.string s2) (by simp)).set S.out 0 (.int .i64 5) (by simp));clear d)))
  | (go_at_call 49;with_reducible refine (HT.out _ _ _ _ X2s.out.ds X2s.out.row (by simp) (S.out.xb) (S.out.xp) (S.out.x0)).mono ?_;rintro e w3 q;rcases tab_cases q with ⟨n,rfl,k⟩ | ⟨s3,t3,W3,n,rfl,⟨g3,u3,r⟩,d,k⟩;all_goals (have N3:=gH n;have K3:=gH (Kx.kw X2s.out.kw k S.out.fx);clear n q;try (have X3:=gH (X2s.out.kx S.out k d r);have xz3:=X3.out.row.ltD;have rz3:=X3.out.res.ltD;clear d r)))
  | (go_at_call 50;with_reducible refine (HC.out _ _ X3.out.ds).mono ?_;rintro e w4 q;rcases col_cases q with ⟨n,rfl,k⟩ | ⟨s4,W4,n,rfl,g4,d,k⟩;all_goals (have N4:=gH n;have K4:=gH (X3.out.kw.trans k);clear n q;try (have X4:=gH (X3.out.call S.out k d);have xz4:=X4.out.row.ltD;have rz4:=X4.out.res.ltD;obtain ⟨c4_6,f4_6⟩:=X4.out.cf 6 (by simp);have O4:=gH (cols_one w4 w1.heap.size 6 (.slice (some ⟨w4.heap.size,0,none⟩) 1 1) b s4 X4.out.ds.lt g4);have XF:=(X4.out.set S.out 6 (.slice (some ⟨w4.heap.size,0,none⟩) 1 1) (by simp)).alloc (.cells #[.string s4.name,.int .i64 s4.kind,.bool s4.null] 67);simp only [List.set_cons_succ,List.set_cons_zero] at XF;have XF:=gH XF;obtain ⟨e1,e2⟩:=endsCmd XF.out rfl rfl (by simp [Value.oneCell']);clear d))))
 ·exact ⟨rfl,K2.out,by rw [show cmdP (b_column::a::WW)=none by simp only [cmdP_cons,body_column,N2.out,Option.bind_some,Option.bind_none]];rfl⟩
 ·exact ⟨rfl,K3.out,by rw [show cmdP (b_column::a::WW)=none by simp only [cmdP_cons,body_column,N2.out,N3.out,Option.bind_some,Option.bind_none]];rfl⟩
 ·exact ⟨rfl,K4.out,by rw [show cmdP (b_column::a::WW)=none by simp only [cmdP_cons,body_column,N2.out,N3.out,N4.out,Option.bind_some,Option.bind_none]];rfl⟩
 ·obtain ⟨rf,kwf,wdf,kbf⟩:=XF.out.fin S.out rfl
  refine bodyPost_ret (results_cell rfl _ rfl (lv_row (T:=31) Tryz.underlying31 (by kernel_rfl) rf rfl)) rfl ?_
  have S:=S.out
  have sb:=S.fb
  have sr:=S.fr
  have sx:=S.fx
  have z2:=X4.out.row.ltD
  have z3:=X4.out.res.ltD
  have z4:=X4.out.ds.lt
  have z5:=X4.out.kw.size
  refine ⟨kwf,?_⟩
  rw [show cmdP (b_column::a::WW)=some ({ zCmd with actor:=s2,kind:=5,schema:=s3,table:=t3,cols:=[s4] },W4) by simp only [cmdP_cons,body_column,N2.out,N3.out,N4.out,Option.bind_some]]
  exact ⟨_,rfl,⟨_,_,_,_,rfl,((O4.out.hi kbf (fun g e=>by have e':g=_:=e;omega)).down (by omega) (by omega)),names_nil b _ _ sb,⟨.inr g2,.inr g3,.inr u3,.inl rfl,.inl rfl,.inl rfl,.inl rfl,.inl rfl,.inl rfl⟩⟩,wdf⟩
theorem command_index (b p:Nat) (a:ByteArray) (WW:Ws) (w:World) (h:WdS w b p (b_index::a::WW)):Calls Tryz.prog 29 #[.pointer (some ⟨b,0,none⟩)] w (RdQ b p w (CmdV b w.heap.size) (cmdP (b_index::a::WW))):=by
 have HN:=gH (fun w1 W (h:WdS w1 b p W)=>name_rd b p W w1 h)
 have HT:=gH (fun x w1 W cs (h:WdS w1 b p W) (hx:RowAt w1 x cs) (hl:cs.length=17) (hb:¬ x=b) (hp:¬ x=p) h0=>table_rd b p x W w1 cs h hx hl hb hp h0)
 have HR:=gH (fun w1 W (h:WdS w1 b p W)=>rule_index b p W w1 h)
 have HW0:=gH (show Calls Tryz.prog 27 #[.pointer (some ⟨b,0,none⟩)] (w.alloc (.cells z17.toArray 31)) fun e w'=>e=.returned (.string ⟨#[105,110,100,101,120]⟩)∧WdS w' b p (a::WW)∧Kw b (w.alloc (.cells z17.toArray 31)) w' from word_yes b p b_index (a::WW) _ (h.aft ((Aft.refl w).alloc _)))
 have hb:=h.lt
 have HPL:=gH h.plt
 have HLO:=gH h.low
 clear h
 go_enter Tryz.func29,Tryz.ntmps29
 go_wp2_with (first
  | (go_at_call 27;with_reducible refine HW0.out.mono ?_;rintro e w1 ⟨rfl,d,k⟩;have ST:=bx_start (t2:=31) (zs:=z17) hb HPL.out HLO.out k d z17;have S:=gH ST.1;have X1:=gH ST.2;clear d k ST)
  | (go_at_call 19;with_reducible refine (more_yes b p a WW _ X1.out.ds).mono ?_;rintro e w' ⟨rfl,rfl⟩)
  | (go_at_call 48;with_reducible refine (HN.out _ _ X1.out.ds).mono ?_;rintro e w2 q;rcases name_cases q with ⟨n,rfl,k⟩ | ⟨s2,W2,n,rfl,g2,d,k⟩;all_goals (have N2:=gH n;have K2:=gH (X1.out.kw.trans k);clear n q;try (have X2:=gH (X1.out.call S.out k d);have xz2:=X2.out.row.ltD;have rz2:=X2.out.res.ltD;obtain ⟨c2_1,f2_1⟩:=X2.out.cf 1 (by simp);obtain ⟨c2_0,f2_0⟩:=X2.out.cf 0 (by simp);have X2s:=gH ((X2.out.set S.out 1 (.string s2) (by simp)).set S.out 0 (.int .i64 7) (by simp));clear d)))
  | (go_at_call 49;with_reducible refine (HT.out _ _ _ _ X2s.out.ds X2s.out.row (by simp) (S.out.xb) (S.out.xp) (S.out.x0)).mono ?_;rintro e w3 q;rcases tab_cases q with ⟨n,rfl,k⟩ | ⟨s3,t3,W3,n,rfl,⟨g3,u3,r⟩,d,k⟩;all_goals (have N3:=gH n;have K3:=gH (Kx.kw X2s.out.kw k S.out.fx);clear n q;try (have X3:=gH (X2s.out.kx S.out k d r);have xz3:=X3.out.row.ltD;have rz3:=X3.out.res.ltD;clear d r)))
  | (go_at_call 51;with_reducible refine (HR.out _ _ X3.out.ds).mono ?_;rintro e w4 q;rcases rule_cases q with ⟨n,rfl,k⟩ | ⟨A4,q4,s4,W4,n,rfl,g4,d,k⟩;all_goals (have N4:=gH n;have K4:=gH (X3.out.kw.trans k);clear n q;try (have X4:=gH (X3.out.call S.out k d);have xz4:=X4.out.row.ltD;have rz4:=X4.out.res.ltD;obtain ⟨c4_7,f4_7⟩:=X4.out.cf 7 (by simp);obtain ⟨c4_8,f4_8⟩:=X4.out.cf 8 (by simp);obtain ⟨c4_9,f4_9⟩:=X4.out.cf 9 (by simp);obtain ⟨c4_10,f4_10⟩:=X4.out.cf 10 (by simp);obtain ⟨c4_11,f4_11⟩:=X4.out.cf 11 (by simp);obtain ⟨c4_12,f4_12⟩:=X4.out.cf 12 (by simp);obtain ⟨c4_13,f4_13⟩:=X4.out.cf 13 (by simp);obtain ⟨c4_14,f4_14⟩:=X4.out.cf 14 (by simp);have XF:=((((((((X4.out.set S.out 7 (.string s4.name) (by simp)).set S.out 8 (.int .i64 s4.kind) (by simp)).set S.out 9 (.slice A4 s4.cols.length q4) (by simp)).set S.out 10 (.int .i64 s4.low) (by simp)).set S.out 11 (.int .i64 s4.high) (by simp)).set S.out 12 (.string s4.schema) (by simp)).set S.out 13 (.string s4.table) (by simp)).set S.out 14 (.string s4.key) (by simp));simp only [List.set_cons_succ,List.set_cons_zero] at XF;have XF:=gH XF;obtain ⟨e1,e2⟩:=endsCmd XF.out rfl rfl (by simp [Value.oneCell']);clear d))))
 ·exact ⟨rfl,K2.out,by rw [show cmdP (b_index::a::WW)=none by simp only [cmdP_cons,body_index,N2.out,Option.bind_some,Option.bind_none]];rfl⟩
 ·exact ⟨rfl,K3.out,by rw [show cmdP (b_index::a::WW)=none by simp only [cmdP_cons,body_index,N2.out,N3.out,Option.bind_some,Option.bind_none]];rfl⟩
 ·exact ⟨rfl,K4.out,by rw [show cmdP (b_index::a::WW)=none by simp only [cmdP_cons,body_index,N2.out,N3.out,N4.out,Option.bind_some,Option.bind_none]];rfl⟩
 ·obtain ⟨rf,kwf,wdf,kbf⟩:=XF.out.fin S.out rfl
  refine bodyPost_ret (results_cell rfl _ rfl (lv_row (T:=31) Tryz.underlying31 (by kernel_rfl) rf rfl)) rfl ?_
  have S:=S.out
  have sb:=S.fb
  have sr:=S.fr
  have sx:=S.fx
  have z2:=X3.out.row.ltD
  have z3:=X3.out.res.ltD
  have z4:=X3.out.ds.lt
  have z5:=X3.out.kw.size
  refine ⟨kwf,?_⟩
  rw [show cmdP (b_index::a::WW)=some ({ zCmd with actor:=s2,kind:=7,schema:=s3,table:=t3,rule:=s4 },W4) by simp only [cmdP_cons,body_index,N2.out,N3.out,N4.out,Option.bind_some]]
  exact ⟨_,rfl,⟨_,_,_,_,rfl,cols_nil b _ _ sb,((((((((((g4.1.hi (Kb.set _ _ _ _) (fun g e=>by have e':g=_:=e;omega)).hi (Kb.set _ _ _ _) (fun g e=>by have e':g=_:=e;omega)).hi (Kb.set _ _ _ _) (fun g e=>by have e':g=_:=e;omega)).hi (Kb.set _ _ _ _) (fun g e=>by have e':g=_:=e;omega)).hi (Kb.set _ _ _ _) (fun g e=>by have e':g=_:=e;omega)).hi (Kb.set _ _ _ _) (fun g e=>by have e':g=_:=e;omega)).hi (Kb.set _ _ _ _) (fun g e=>by have e':g=_:=e;omega)).hi (Kb.set _ _ _ _) (fun g e=>by have e':g=_:=e;omega)).hi kbf (fun g e=>by have e':g=_:=e;omega)).down (by omega) (by omega)),⟨.inr g2,.inr g3,.inr u3,.inl rfl,.inl rfl,g4.2.1,g4.2.2.1,g4.2.2.2.1,g4.2.2.2.2⟩⟩,wdf⟩
theorem command_key (b p:Nat) (a:ByteArray) (WW:Ws) (w:World) (h:WdS w b p (b_key::a::WW)):Calls Tryz.prog 29 #[.pointer (some ⟨b,0,none⟩)] w (RdQ b p w (CmdV b w.heap.size) (cmdP (b_key::a::WW))):=by
 have HN:=gH (fun w1 W (h:WdS w1 b p W)=>name_rd b p W w1 h)
 have HT:=gH (fun x w1 W cs (h:WdS w1 b p W) (hx:RowAt w1 x cs) (hl:cs.length=17) (hb:¬ x=b) (hp:¬ x=p) h0=>table_rd b p x W w1 cs h hx hl hb hp h0)
 have HR:=gH (fun w1 W (h:WdS w1 b p W)=>rule_key b p W w1 h)
 have HW0:=gH (show Calls Tryz.prog 27 #[.pointer (some ⟨b,0,none⟩)] (w.alloc (.cells z17.toArray 31)) fun e w'=>e=.returned (.string ⟨#[107,101,121]⟩)∧WdS w' b p (a::WW)∧Kw b (w.alloc (.cells z17.toArray 31)) w' from word_yes b p b_key (a::WW) _ (h.aft ((Aft.refl w).alloc _)))
 have hb:=h.lt
 have HPL:=gH h.plt
 have HLO:=gH h.low
 clear h
 go_enter Tryz.func29,Tryz.ntmps29
 go_wp2_with (first
  | (go_at_call 27;with_reducible refine HW0.out.mono ?_;rintro e w1 ⟨rfl,d,k⟩;have ST:=bx_start (t2:=31) (zs:=z17) hb HPL.out HLO.out k d z17;have S:=gH ST.1;have X1:=gH ST.2;clear d k ST)
  | (go_at_call 19;with_reducible refine (more_yes b p a WW _ X1.out.ds).mono ?_;rintro e w' ⟨rfl,rfl⟩)
  | (go_at_call 48;with_reducible refine (HN.out _ _ X1.out.ds).mono ?_;rintro e w2 q;rcases name_cases q with ⟨n,rfl,k⟩ | ⟨s2,W2,n,rfl,g2,d,k⟩;all_goals (have N2:=gH n;have K2:=gH (X1.out.kw.trans k);clear n q;try (have X2:=gH (X1.out.call S.out k d);have xz2:=X2.out.row.ltD;have rz2:=X2.out.res.ltD;obtain ⟨c2_1,f2_1⟩:=X2.out.cf 1 (by simp);obtain ⟨c2_0,f2_0⟩:=X2.out.cf 0 (by simp);have X2s:=gH ((X2.out.set S.out 1 (.string s2) (by simp)).set S.out 0 (.int .i64 7) (by simp));clear d)))
  | (go_at_call 49;with_reducible refine (HT.out _ _ _ _ X2s.out.ds X2s.out.row (by simp) (S.out.xb) (S.out.xp) (S.out.x0)).mono ?_;rintro e w3 q;rcases tab_cases q with ⟨n,rfl,k⟩ | ⟨s3,t3,W3,n,rfl,⟨g3,u3,r⟩,d,k⟩;all_goals (have N3:=gH n;have K3:=gH (Kx.kw X2s.out.kw k S.out.fx);clear n q;try (have X3:=gH (X2s.out.kx S.out k d r);have xz3:=X3.out.row.ltD;have rz3:=X3.out.res.ltD;clear d r)))
  | (go_at_call 51;with_reducible refine (HR.out _ _ X3.out.ds).mono ?_;rintro e w4 q;rcases rule_cases q with ⟨n,rfl,k⟩ | ⟨A4,q4,s4,W4,n,rfl,g4,d,k⟩;all_goals (have N4:=gH n;have K4:=gH (X3.out.kw.trans k);clear n q;try (have X4:=gH (X3.out.call S.out k d);have xz4:=X4.out.row.ltD;have rz4:=X4.out.res.ltD;obtain ⟨c4_7,f4_7⟩:=X4.out.cf 7 (by simp);obtain ⟨c4_8,f4_8⟩:=X4.out.cf 8 (by simp);obtain ⟨c4_9,f4_9⟩:=X4.out.cf 9 (by simp);obtain ⟨c4_10,f4_10⟩:=X4.out.cf 10 (by simp);obtain ⟨c4_11,f4_11⟩:=X4.out.cf 11 (by simp);obtain ⟨c4_12,f4_12⟩:=X4.out.cf 12 (by simp);obtain ⟨c4_13,f4_13⟩:=X4.out.cf 13 (by simp);obtain ⟨c4_14,f4_14⟩:=X4.out.cf 14 (by simp);have XF:=((((((((X4.out.set S.out 7 (.string s4.name) (by simp)).set S.out 8 (.int .i64 s4.kind) (by simp)).set S.out 9 (.slice A4 s4.cols.length q4) (by simp)).set S.out 10 (.int .i64 s4.low) (by simp)).set S.out 11 (.int .i64 s4.high) (by simp)).set S.out 12 (.string s4.schema) (by simp)).set S.out 13 (.string s4.table) (by simp)).set S.out 14 (.string s4.key) (by simp));simp only [List.set_cons_succ,List.set_cons_zero] at XF;have XF:=gH XF;obtain ⟨e1,e2⟩:=endsCmd XF.out rfl rfl (by simp [Value.oneCell']);clear d))))
 ·exact ⟨rfl,K2.out,by rw [show cmdP (b_key::a::WW)=none by simp only [cmdP_cons,body_key,N2.out,Option.bind_some,Option.bind_none]];rfl⟩
 ·exact ⟨rfl,K3.out,by rw [show cmdP (b_key::a::WW)=none by simp only [cmdP_cons,body_key,N2.out,N3.out,Option.bind_some,Option.bind_none]];rfl⟩
 ·exact ⟨rfl,K4.out,by rw [show cmdP (b_key::a::WW)=none by simp only [cmdP_cons,body_key,N2.out,N3.out,N4.out,Option.bind_some,Option.bind_none]];rfl⟩
 ·obtain ⟨rf,kwf,wdf,kbf⟩:=XF.out.fin S.out rfl
  refine bodyPost_ret (results_cell rfl _ rfl (lv_row (T:=31) Tryz.underlying31 (by kernel_rfl) rf rfl)) rfl ?_
  have S:=S.out
  have sb:=S.fb
  have sr:=S.fr
  have sx:=S.fx
  have z2:=X3.out.row.ltD
  have z3:=X3.out.res.ltD
  have z4:=X3.out.ds.lt
  have z5:=X3.out.kw.size
  refine ⟨kwf,?_⟩
  rw [show cmdP (b_key::a::WW)=some ({ zCmd with actor:=s2,kind:=7,schema:=s3,table:=t3,rule:=s4 },W4) by simp only [cmdP_cons,body_key,N2.out,N3.out,N4.out,Option.bind_some]]
  exact ⟨_,rfl,⟨_,_,_,_,rfl,cols_nil b _ _ sb,((((((((((g4.1.hi (Kb.set _ _ _ _) (fun g e=>by have e':g=_:=e;omega)).hi (Kb.set _ _ _ _) (fun g e=>by have e':g=_:=e;omega)).hi (Kb.set _ _ _ _) (fun g e=>by have e':g=_:=e;omega)).hi (Kb.set _ _ _ _) (fun g e=>by have e':g=_:=e;omega)).hi (Kb.set _ _ _ _) (fun g e=>by have e':g=_:=e;omega)).hi (Kb.set _ _ _ _) (fun g e=>by have e':g=_:=e;omega)).hi (Kb.set _ _ _ _) (fun g e=>by have e':g=_:=e;omega)).hi (Kb.set _ _ _ _) (fun g e=>by have e':g=_:=e;omega)).hi kbf (fun g e=>by have e':g=_:=e;omega)).down (by omega) (by omega)),⟨.inr g2,.inr g3,.inr u3,.inl rfl,.inl rfl,g4.2.1,g4.2.2.1,g4.2.2.2.1,g4.2.2.2.2⟩⟩,wdf⟩
theorem command_check (b p:Nat) (a:ByteArray) (WW:Ws) (w:World) (h:WdS w b p (b_check::a::WW)):Calls Tryz.prog 29 #[.pointer (some ⟨b,0,none⟩)] w (RdQ b p w (CmdV b w.heap.size) (cmdP (b_check::a::WW))):=by
 have HN:=gH (fun w1 W (h:WdS w1 b p W)=>name_rd b p W w1 h)
 have HT:=gH (fun x w1 W cs (h:WdS w1 b p W) (hx:RowAt w1 x cs) (hl:cs.length=17) (hb:¬ x=b) (hp:¬ x=p) h0=>table_rd b p x W w1 cs h hx hl hb hp h0)
 have HR:=gH (fun w1 W (h:WdS w1 b p W)=>rule_check b p W w1 h)
 have HW0:=gH (show Calls Tryz.prog 27 #[.pointer (some ⟨b,0,none⟩)] (w.alloc (.cells z17.toArray 31)) fun e w'=>e=.returned (.string ⟨#[99,104,101,99,107]⟩)∧WdS w' b p (a::WW)∧Kw b (w.alloc (.cells z17.toArray 31)) w' from word_yes b p b_check (a::WW) _ (h.aft ((Aft.refl w).alloc _)))
 have hb:=h.lt
 have HPL:=gH h.plt
 have HLO:=gH h.low
 clear h
 go_enter Tryz.func29,Tryz.ntmps29
 go_wp2_with (first
  | (go_at_call 27;with_reducible refine HW0.out.mono ?_;rintro e w1 ⟨rfl,d,k⟩;have ST:=bx_start (t2:=31) (zs:=z17) hb HPL.out HLO.out k d z17;have S:=gH ST.1;have X1:=gH ST.2;clear d k ST)
  | (go_at_call 19;with_reducible refine (more_yes b p a WW _ X1.out.ds).mono ?_;rintro e w' ⟨rfl,rfl⟩)
  | (go_at_call 48;with_reducible refine (HN.out _ _ X1.out.ds).mono ?_;rintro e w2 q;rcases name_cases q with ⟨n,rfl,k⟩ | ⟨s2,W2,n,rfl,g2,d,k⟩;all_goals (have N2:=gH n;have K2:=gH (X1.out.kw.trans k);clear n q;try (have X2:=gH (X1.out.call S.out k d);have xz2:=X2.out.row.ltD;have rz2:=X2.out.res.ltD;obtain ⟨c2_1,f2_1⟩:=X2.out.cf 1 (by simp);obtain ⟨c2_0,f2_0⟩:=X2.out.cf 0 (by simp);have X2s:=gH ((X2.out.set S.out 1 (.string s2) (by simp)).set S.out 0 (.int .i64 7) (by simp));clear d)))
  | (go_at_call 49;with_reducible refine (HT.out _ _ _ _ X2s.out.ds X2s.out.row (by simp) (S.out.xb) (S.out.xp) (S.out.x0)).mono ?_;rintro e w3 q;rcases tab_cases q with ⟨n,rfl,k⟩ | ⟨s3,t3,W3,n,rfl,⟨g3,u3,r⟩,d,k⟩;all_goals (have N3:=gH n;have K3:=gH (Kx.kw X2s.out.kw k S.out.fx);clear n q;try (have X3:=gH (X2s.out.kx S.out k d r);have xz3:=X3.out.row.ltD;have rz3:=X3.out.res.ltD;clear d r)))
  | (go_at_call 51;with_reducible refine (HR.out _ _ X3.out.ds).mono ?_;rintro e w4 q;rcases rule_cases q with ⟨n,rfl,k⟩ | ⟨A4,q4,s4,W4,n,rfl,g4,d,k⟩;all_goals (have N4:=gH n;have K4:=gH (X3.out.kw.trans k);clear n q;try (have X4:=gH (X3.out.call S.out k d);have xz4:=X4.out.row.ltD;have rz4:=X4.out.res.ltD;obtain ⟨c4_7,f4_7⟩:=X4.out.cf 7 (by simp);obtain ⟨c4_8,f4_8⟩:=X4.out.cf 8 (by simp);obtain ⟨c4_9,f4_9⟩:=X4.out.cf 9 (by simp);obtain ⟨c4_10,f4_10⟩:=X4.out.cf 10 (by simp);obtain ⟨c4_11,f4_11⟩:=X4.out.cf 11 (by simp);obtain ⟨c4_12,f4_12⟩:=X4.out.cf 12 (by simp);obtain ⟨c4_13,f4_13⟩:=X4.out.cf 13 (by simp);obtain ⟨c4_14,f4_14⟩:=X4.out.cf 14 (by simp);have XF:=((((((((X4.out.set S.out 7 (.string s4.name) (by simp)).set S.out 8 (.int .i64 s4.kind) (by simp)).set S.out 9 (.slice A4 s4.cols.length q4) (by simp)).set S.out 10 (.int .i64 s4.low) (by simp)).set S.out 11 (.int .i64 s4.high) (by simp)).set S.out 12 (.string s4.schema) (by simp)).set S.out 13 (.string s4.table) (by simp)).set S.out 14 (.string s4.key) (by simp));simp only [List.set_cons_succ,List.set_cons_zero] at XF;have XF:=gH XF;obtain ⟨e1,e2⟩:=endsCmd XF.out rfl rfl (by simp [Value.oneCell']);clear d))))
 ·exact ⟨rfl,K2.out,by rw [show cmdP (b_check::a::WW)=none by simp only [cmdP_cons,body_check,N2.out,Option.bind_some,Option.bind_none]];rfl⟩
 ·exact ⟨rfl,K3.out,by rw [show cmdP (b_check::a::WW)=none by simp only [cmdP_cons,body_check,N2.out,N3.out,Option.bind_some,Option.bind_none]];rfl⟩
 ·exact ⟨rfl,K4.out,by rw [show cmdP (b_check::a::WW)=none by simp only [cmdP_cons,body_check,N2.out,N3.out,N4.out,Option.bind_some,Option.bind_none]];rfl⟩
 ·obtain ⟨rf,kwf,wdf,kbf⟩:=XF.out.fin S.out rfl
  refine bodyPost_ret (results_cell rfl _ rfl (lv_row (T:=31) Tryz.underlying31 (by kernel_rfl) rf rfl)) rfl ?_
  have S:=S.out
  have sb:=S.fb
  have sr:=S.fr
  have sx:=S.fx
  have z2:=X3.out.row.ltD
  have z3:=X3.out.res.ltD
  have z4:=X3.out.ds.lt
  have z5:=X3.out.kw.size
  refine ⟨kwf,?_⟩
  rw [show cmdP (b_check::a::WW)=some ({ zCmd with actor:=s2,kind:=7,schema:=s3,table:=t3,rule:=s4 },W4) by simp only [cmdP_cons,body_check,N2.out,N3.out,N4.out,Option.bind_some]]
  exact ⟨_,rfl,⟨_,_,_,_,rfl,cols_nil b _ _ sb,((((((((((g4.1.hi (Kb.set _ _ _ _) (fun g e=>by have e':g=_:=e;omega)).hi (Kb.set _ _ _ _) (fun g e=>by have e':g=_:=e;omega)).hi (Kb.set _ _ _ _) (fun g e=>by have e':g=_:=e;omega)).hi (Kb.set _ _ _ _) (fun g e=>by have e':g=_:=e;omega)).hi (Kb.set _ _ _ _) (fun g e=>by have e':g=_:=e;omega)).hi (Kb.set _ _ _ _) (fun g e=>by have e':g=_:=e;omega)).hi (Kb.set _ _ _ _) (fun g e=>by have e':g=_:=e;omega)).hi (Kb.set _ _ _ _) (fun g e=>by have e':g=_:=e;omega)).hi kbf (fun g e=>by have e':g=_:=e;omega)).down (by omega) (by omega)),⟨.inr g2,.inr g3,.inr u3,.inl rfl,.inl rfl,g4.2.1,g4.2.2.1,g4.2.2.2.1,g4.2.2.2.2⟩⟩,wdf⟩
theorem command_foreign (b p:Nat) (a:ByteArray) (WW:Ws) (w:World) (h:WdS w b p (b_foreign::a::WW)):Calls Tryz.prog 29 #[.pointer (some ⟨b,0,none⟩)] w (RdQ b p w (CmdV b w.heap.size) (cmdP (b_foreign::a::WW))):=by
 have HN:=gH (fun w1 W (h:WdS w1 b p W)=>name_rd b p W w1 h)
 have HT:=gH (fun x w1 W cs (h:WdS w1 b p W) (hx:RowAt w1 x cs) (hl:cs.length=17) (hb:¬ x=b) (hp:¬ x=p) h0=>table_rd b p x W w1 cs h hx hl hb hp h0)
 have HR:=gH (fun w1 W (h:WdS w1 b p W)=>rule_foreign b p W w1 h)
 have HW0:=gH (show Calls Tryz.prog 27 #[.pointer (some ⟨b,0,none⟩)] (w.alloc (.cells z17.toArray 31)) fun e w'=>e=.returned (.string ⟨#[102,111,114,101,105,103,110]⟩)∧WdS w' b p (a::WW)∧Kw b (w.alloc (.cells z17.toArray 31)) w' from word_yes b p b_foreign (a::WW) _ (h.aft ((Aft.refl w).alloc _)))
 have hb:=h.lt
 have HPL:=gH h.plt
 have HLO:=gH h.low
 clear h
 go_enter Tryz.func29,Tryz.ntmps29
 go_wp2_with (first
  | (go_at_call 27;with_reducible refine HW0.out.mono ?_;rintro e w1 ⟨rfl,d,k⟩;have ST:=bx_start (t2:=31) (zs:=z17) hb HPL.out HLO.out k d z17;have S:=gH ST.1;have X1:=gH ST.2;clear d k ST)
  | (go_at_call 19;with_reducible refine (more_yes b p a WW _ X1.out.ds).mono ?_;rintro e w' ⟨rfl,rfl⟩)
  | (go_at_call 48;with_reducible refine (HN.out _ _ X1.out.ds).mono ?_;rintro e w2 q;rcases name_cases q with ⟨n,rfl,k⟩ | ⟨s2,W2,n,rfl,g2,d,k⟩;all_goals (have N2:=gH n;have K2:=gH (X1.out.kw.trans k);clear n q;try (have X2:=gH (X1.out.call S.out k d);have xz2:=X2.out.row.ltD;have rz2:=X2.out.res.ltD;obtain ⟨c2_1,f2_1⟩:=X2.out.cf 1 (by simp);obtain ⟨c2_0,f2_0⟩:=X2.out.cf 0 (by simp);have X2s:=gH ((X2.out.set S.out 1 (.string s2) (by simp)).set S.out 0 (.int .i64 7) (by simp));clear d)))
  | (go_at_call 49;with_reducible refine (HT.out _ _ _ _ X2s.out.ds X2s.out.row (by simp) (S.out.xb) (S.out.xp) (S.out.x0)).mono ?_;rintro e w3 q;rcases tab_cases q with ⟨n,rfl,k⟩ | ⟨s3,t3,W3,n,rfl,⟨g3,u3,r⟩,d,k⟩;all_goals (have N3:=gH n;have K3:=gH (Kx.kw X2s.out.kw k S.out.fx);clear n q;try (have X3:=gH (X2s.out.kx S.out k d r);have xz3:=X3.out.row.ltD;have rz3:=X3.out.res.ltD;clear d r)))
  | (go_at_call 51;with_reducible refine (HR.out _ _ X3.out.ds).mono ?_;rintro e w4 q;rcases rule_cases q with ⟨n,rfl,k⟩ | ⟨A4,q4,s4,W4,n,rfl,g4,d,k⟩;all_goals (have N4:=gH n;have K4:=gH (X3.out.kw.trans k);clear n q;try (have X4:=gH (X3.out.call S.out k d);have xz4:=X4.out.row.ltD;have rz4:=X4.out.res.ltD;obtain ⟨c4_7,f4_7⟩:=X4.out.cf 7 (by simp);obtain ⟨c4_8,f4_8⟩:=X4.out.cf 8 (by simp);obtain ⟨c4_9,f4_9⟩:=X4.out.cf 9 (by simp);obtain ⟨c4_10,f4_10⟩:=X4.out.cf 10 (by simp);obtain ⟨c4_11,f4_11⟩:=X4.out.cf 11 (by simp);obtain ⟨c4_12,f4_12⟩:=X4.out.cf 12 (by simp);obtain ⟨c4_13,f4_13⟩:=X4.out.cf 13 (by simp);obtain ⟨c4_14,f4_14⟩:=X4.out.cf 14 (by simp);have XF:=((((((((X4.out.set S.out 7 (.string s4.name) (by simp)).set S.out 8 (.int .i64 s4.kind) (by simp)).set S.out 9 (.slice A4 s4.cols.length q4) (by simp)).set S.out 10 (.int .i64 s4.low) (by simp)).set S.out 11 (.int .i64 s4.high) (by simp)).set S.out 12 (.string s4.schema) (by simp)).set S.out 13 (.string s4.table) (by simp)).set S.out 14 (.string s4.key) (by simp));simp only [List.set_cons_succ,List.set_cons_zero] at XF;have XF:=gH XF;obtain ⟨e1,e2⟩:=endsCmd XF.out rfl rfl (by simp [Value.oneCell']);clear d))))
 ·exact ⟨rfl,K2.out,by rw [show cmdP (b_foreign::a::WW)=none by simp only [cmdP_cons,body_foreign,N2.out,Option.bind_some,Option.bind_none]];rfl⟩
 ·exact ⟨rfl,K3.out,by rw [show cmdP (b_foreign::a::WW)=none by simp only [cmdP_cons,body_foreign,N2.out,N3.out,Option.bind_some,Option.bind_none]];rfl⟩
 ·exact ⟨rfl,K4.out,by rw [show cmdP (b_foreign::a::WW)=none by simp only [cmdP_cons,body_foreign,N2.out,N3.out,N4.out,Option.bind_some,Option.bind_none]];rfl⟩
 ·obtain ⟨rf,kwf,wdf,kbf⟩:=XF.out.fin S.out rfl
  refine bodyPost_ret (results_cell rfl _ rfl (lv_row (T:=31) Tryz.underlying31 (by kernel_rfl) rf rfl)) rfl ?_
  have S:=S.out
  have sb:=S.fb
  have sr:=S.fr
  have sx:=S.fx
  have z2:=X3.out.row.ltD
  have z3:=X3.out.res.ltD
  have z4:=X3.out.ds.lt
  have z5:=X3.out.kw.size
  refine ⟨kwf,?_⟩
  rw [show cmdP (b_foreign::a::WW)=some ({ zCmd with actor:=s2,kind:=7,schema:=s3,table:=t3,rule:=s4 },W4) by simp only [cmdP_cons,body_foreign,N2.out,N3.out,N4.out,Option.bind_some]]
  exact ⟨_,rfl,⟨_,_,_,_,rfl,cols_nil b _ _ sb,((((((((((g4.1.hi (Kb.set _ _ _ _) (fun g e=>by have e':g=_:=e;omega)).hi (Kb.set _ _ _ _) (fun g e=>by have e':g=_:=e;omega)).hi (Kb.set _ _ _ _) (fun g e=>by have e':g=_:=e;omega)).hi (Kb.set _ _ _ _) (fun g e=>by have e':g=_:=e;omega)).hi (Kb.set _ _ _ _) (fun g e=>by have e':g=_:=e;omega)).hi (Kb.set _ _ _ _) (fun g e=>by have e':g=_:=e;omega)).hi (Kb.set _ _ _ _) (fun g e=>by have e':g=_:=e;omega)).hi (Kb.set _ _ _ _) (fun g e=>by have e':g=_:=e;omega)).hi kbf (fun g e=>by have e':g=_:=e;omega)).down (by omega) (by omega)),⟨.inr g2,.inr g3,.inr u3,.inl rfl,.inl rfl,g4.2.1,g4.2.2.1,g4.2.2.2.1,g4.2.2.2.2⟩⟩,wdf⟩
theorem command_revoke (b p:Nat) (a:ByteArray) (WW:Ws) (w:World) (h:WdS w b p (b_revoke::a::WW)):Calls Tryz.prog 29 #[.pointer (some ⟨b,0,none⟩)] w (RdQ b p w (CmdV b w.heap.size) (cmdP (b_revoke::a::WW))):=by
 have HN:=gH (fun w1 W (h:WdS w1 b p W)=>name_rd b p W w1 h)
 have HT:=gH (fun x w1 W cs (h:WdS w1 b p W) (hx:RowAt w1 x cs) (hl:cs.length=17) (hb:¬ x=b) (hp:¬ x=p) h0=>table_rd b p x W w1 cs h hx hl hb hp h0)
 have HG:=gH (fun x w1 W cs (h:WdS w1 b p W) (hx:RowAt w1 x cs) (hl:cs.length=17) (hb:¬ x=b) (hp:¬ x=p) h0=>right_rd b p x W w1 cs h hx hl hb hp h0)
 have HW0:=gH (show Calls Tryz.prog 27 #[.pointer (some ⟨b,0,none⟩)] (w.alloc (.cells z17.toArray 31)) fun e w'=>e=.returned (.string ⟨#[114,101,118,111,107,101]⟩)∧WdS w' b p (a::WW)∧Kw b (w.alloc (.cells z17.toArray 31)) w' from word_yes b p b_revoke (a::WW) _ (h.aft ((Aft.refl w).alloc _)))
 have hb:=h.lt
 have HPL:=gH h.plt
 have HLO:=gH h.low
 clear h
 go_enter Tryz.func29,Tryz.ntmps29
 go_wp2_with (first
  | (go_at_call 27;with_reducible refine HW0.out.mono ?_;rintro e w1 ⟨rfl,d,k⟩;have ST:=bx_start (t2:=31) (zs:=z17) hb HPL.out HLO.out k d z17;have S:=gH ST.1;have X1:=gH ST.2;clear d k ST)
  | (go_at_call 19;with_reducible refine (more_yes b p a WW _ X1.out.ds).mono ?_;rintro e w' ⟨rfl,rfl⟩)
  | (go_at_call 48;with_reducible refine (HN.out _ _ X1.out.ds).mono ?_;rintro e w2 q;rcases name_cases q with ⟨n,rfl,k⟩ | ⟨s2,W2,n,rfl,g2,d,k⟩;all_goals (have N2:=gH n;have K2:=gH (X1.out.kw.trans k);clear n q;try (have X2:=gH (X1.out.call S.out k d);have xz2:=X2.out.row.ltD;have rz2:=X2.out.res.ltD;obtain ⟨c2_1,f2_1⟩:=X2.out.cf 1 (by simp);obtain ⟨c2_0,f2_0⟩:=X2.out.cf 0 (by simp);have X2s:=gH ((X2.out.set S.out 1 (.string s2) (by simp)).set S.out 0 (.int .i64 15) (by simp));clear d)))
  | (go_at_call 49;with_reducible refine (HT.out _ _ _ _ X2s.out.ds X2s.out.row (by simp) (S.out.xb) (S.out.xp) (S.out.x0)).mono ?_;rintro e w3 q;rcases tab_cases q with ⟨n,rfl,k⟩ | ⟨s3,t3,W3,n,rfl,⟨g3,u3,r⟩,d,k⟩;all_goals (have N3:=gH n;have K3:=gH (Kx.kw X2s.out.kw k S.out.fx);clear n q;try (have X3:=gH (X2s.out.kx S.out k d r);have xz3:=X3.out.row.ltD;have rz3:=X3.out.res.ltD;clear d r)))
  | (go_at_call 52;with_reducible refine (HG.out _ _ _ _ X3.out.ds X3.out.row (by simp) (S.out.xb) (S.out.xp) (S.out.x0)).mono ?_;rintro e w4 q;rcases rgt_cases q with ⟨n,rfl,k⟩ | ⟨s4,t4,W4,n,rfl,⟨u4,r⟩,d,k⟩;all_goals (have N4:=gH n;have K4:=gH (Kx.kw X3.out.kw k S.out.fx);clear n q;try (have X4:=gH (X3.out.kx S.out k d r);have xz4:=X4.out.row.ltD;have rz4:=X4.out.res.ltD;have XF:=X4.out;simp only [List.set_cons_succ,List.set_cons_zero] at XF;have XF:=gH XF;obtain ⟨e1,e2⟩:=endsCmd XF.out rfl rfl (by simp [Value.oneCell']);clear d r))))
 ·exact ⟨rfl,K2.out,by rw [show cmdP (b_revoke::a::WW)=none by simp only [cmdP_cons,body_revoke,N2.out,Option.bind_some,Option.bind_none]];rfl⟩
 ·exact ⟨rfl,K3.out,by rw [show cmdP (b_revoke::a::WW)=none by simp only [cmdP_cons,body_revoke,N2.out,N3.out,Option.bind_some,Option.bind_none]];rfl⟩
 ·exact ⟨rfl,K4.out,by rw [show cmdP (b_revoke::a::WW)=none by simp only [cmdP_cons,body_revoke,N2.out,N3.out,N4.out,Option.bind_some,Option.bind_none]];rfl⟩
 ·obtain ⟨rf,kwf,wdf,kbf⟩:=XF.out.fin S.out rfl
  refine bodyPost_ret (results_cell rfl _ rfl (lv_row (T:=31) Tryz.underlying31 (by kernel_rfl) rf rfl)) rfl ?_
  have S:=S.out
  have sb:=S.fb
  have sr:=S.fr
  have sx:=S.fx
  refine ⟨kwf,?_⟩
  rw [show cmdP (b_revoke::a::WW)=some ({ zCmd with actor:=s2,kind:=15,schema:=s3,table:=t3,right:=s4,role:=t4 },W4) by simp only [cmdP_cons,body_revoke,N2.out,N3.out,N4.out,Option.bind_some]]
  exact ⟨_,rfl,⟨_,_,_,_,rfl,cols_nil b _ _ sb,names_nil b _ _ sb,⟨.inr g2,.inr g3,.inr u3,.inl rfl,.inr u4,.inl rfl,.inl rfl,.inl rfl,.inl rfl⟩⟩,wdf⟩
theorem command_grant (b p:Nat) (a:ByteArray) (WW:Ws) (w:World) (h:WdS w b p (b_grant::a::WW)):Calls Tryz.prog 29 #[.pointer (some ⟨b,0,none⟩)] w (RdQ b p w (CmdV b w.heap.size) (cmdP (b_grant::a::WW))):=by
 have HN:=gH (fun w1 W (h:WdS w1 b p W)=>name_rd b p W w1 h)
 have HT:=gH (fun x w1 W cs (h:WdS w1 b p W) (hx:RowAt w1 x cs) (hl:cs.length=17) (hb:¬ x=b) (hp:¬ x=p) h0=>table_rd b p x W w1 cs h hx hl hb hp h0)
 have HG:=gH (fun x w1 W cs (h:WdS w1 b p W) (hx:RowAt w1 x cs) (hl:cs.length=17) (hb:¬ x=b) (hp:¬ x=p) h0=>right_rd b p x W w1 cs h hx hl hb hp h0)
 have HW0:=gH (show Calls Tryz.prog 27 #[.pointer (some ⟨b,0,none⟩)] (w.alloc (.cells z17.toArray 31)) fun e w'=>e=.returned (.string ⟨#[103,114,97,110,116]⟩)∧WdS w' b p (a::WW)∧Kw b (w.alloc (.cells z17.toArray 31)) w' from word_yes b p b_grant (a::WW) _ (h.aft ((Aft.refl w).alloc _)))
 have hb:=h.lt
 have HPL:=gH h.plt
 have HLO:=gH h.low
 clear h
 go_enter Tryz.func29,Tryz.ntmps29
 go_wp2_with (first
  | (go_at_call 27;with_reducible refine HW0.out.mono ?_;rintro e w1 ⟨rfl,d,k⟩;have ST:=bx_start (t2:=31) (zs:=z17) hb HPL.out HLO.out k d z17;have S:=gH ST.1;have X1:=gH ST.2;clear d k ST)
  | (go_at_call 19;with_reducible refine (more_yes b p a WW _ X1.out.ds).mono ?_;rintro e w' ⟨rfl,rfl⟩)
  | (go_at_call 48;with_reducible refine (HN.out _ _ X1.out.ds).mono ?_;rintro e w2 q;rcases name_cases q with ⟨n,rfl,k⟩ | ⟨s2,W2,n,rfl,g2,d,k⟩;all_goals (have N2:=gH n;have K2:=gH (X1.out.kw.trans k);clear n q;try (have X2:=gH (X1.out.call S.out k d);have xz2:=X2.out.row.ltD;have rz2:=X2.out.res.ltD;obtain ⟨c2_1,f2_1⟩:=X2.out.cf 1 (by simp);obtain ⟨c2_0,f2_0⟩:=X2.out.cf 0 (by simp);have X2s:=gH ((X2.out.set S.out 1 (.string s2) (by simp)).set S.out 0 (.int .i64 14) (by simp));clear d)))
  | (go_at_call 49;with_reducible refine (HT.out _ _ _ _ X2s.out.ds X2s.out.row (by simp) (S.out.xb) (S.out.xp) (S.out.x0)).mono ?_;rintro e w3 q;rcases tab_cases q with ⟨n,rfl,k⟩ | ⟨s3,t3,W3,n,rfl,⟨g3,u3,r⟩,d,k⟩;all_goals (have N3:=gH n;have K3:=gH (Kx.kw X2s.out.kw k S.out.fx);clear n q;try (have X3:=gH (X2s.out.kx S.out k d r);have xz3:=X3.out.row.ltD;have rz3:=X3.out.res.ltD;clear d r)))
  | (go_at_call 52;with_reducible refine (HG.out _ _ _ _ X3.out.ds X3.out.row (by simp) (S.out.xb) (S.out.xp) (S.out.x0)).mono ?_;rintro e w4 q;rcases rgt_cases q with ⟨n,rfl,k⟩ | ⟨s4,t4,W4,n,rfl,⟨u4,r⟩,d,k⟩;rotate_left;rcases W4 with _ | ⟨y,W4⟩;all_goals (have N4:=gH n;have K4:=gH (Kx.kw X3.out.kw k S.out.fx);clear n q;try (have X4:=gH (X3.out.kx S.out k d r);have xz4:=X4.out.row.ltD;have rz4:=X4.out.res.ltD;clear d r)))
  | (go_at_call 19;(first | (with_reducible refine (more_yes b p _ _ _ X4.out.ds).mono ?_) | (with_reducible refine (more_no b p _ X4.out.ds).mono ?_;have XF:=X4.out;simp only [List.set_cons_succ,List.set_cons_zero] at XF;have XF:=gH XF;obtain ⟨e1,e2⟩:=endsCmd XF.out rfl rfl (by simp [Value.oneCell'])));rintro e w' ⟨rfl,rfl⟩)
  | (go_at_call 27;with_reducible refine (word_yes b p _ _ _ X4.out.ds).mono ?_;rintro e w5 ⟨rfl,d,k⟩;obtain ⟨q5,e5⟩:∃ q,eqS y b_option=q:=⟨_,rfl⟩;have e5':=eqS_as e5;unfold b_option at e5';simp only at e5';have E5:=gH e5;clear e5;have K5:=gH (X4.out.kw.trans k);have X5:=gH (X4.out.call S.out k d);have xz5:=X5.out.row.ltD;have rz5:=X5.out.res.ltD;obtain ⟨c5_16,f5_16⟩:=X5.out.cf 16 (by simp);have XF:=X5.out.set S.out 16 (.bool true) (by simp);simp only [List.set_cons_succ,List.set_cons_zero] at XF;have XF:=gH XF;obtain ⟨e1,e2⟩:=endsCmd XF.out rfl rfl (by simp [Value.oneCell']);clear d k;cases q5)
  | (go_at_call 18;first | (refine (dis_no _).mono ?_;rintro e w' ⟨he,rfl⟩;unfold NoL at he;subst he) | (refine (dis_ok _).mono ?_;rintro e w' ⟨rfl,rfl⟩)))
 all_goals first
  | (exact ⟨rfl,K2.out,by rw [show cmdP (b_grant::a::WW)=none by simp only [cmdP_cons,body_grant,N2.out,Option.bind_some,Option.bind_none]];rfl⟩)
  | (exact ⟨rfl,K3.out,by rw [show cmdP (b_grant::a::WW)=none by simp only [cmdP_cons,body_grant,N2.out,N3.out,Option.bind_some,Option.bind_none]];rfl⟩)
  | (exact ⟨rfl,K4.out,by rw [show cmdP (b_grant::a::WW)=none by simp only [cmdP_cons,body_grant,N2.out,N3.out,N4.out,Option.bind_some,Option.bind_none]];rfl⟩)
  | (exact ⟨rfl,K5.out,by rw [show cmdP (b_grant::a::WW)=none by simp only [cmdP_cons,body_grant,N2.out,N3.out,N4.out,Option.bind_some,Option.bind_none,optP,E5.out,Bool.false_eq_true,if_false]];rfl⟩)
  | (
   obtain ⟨rf,kwf,wdf,kbf⟩:=XF.out.fin S.out rfl
   refine bodyPost_ret (results_cell rfl _ rfl (lv_row (T:=31) Tryz.underlying31 (by kernel_rfl) rf rfl)) rfl ?_
   have S:=S.out
   have sb:=S.fb
   have sr:=S.fr
   have sx:=S.fx
   refine ⟨kwf,?_⟩
   rw [show cmdP (b_grant::a::WW)=some ({ zCmd with actor:=s2,kind:=14,schema:=s3,table:=t3,right:=s4,role:=t4 },[]) by simp only [cmdP_cons,body_grant,N2.out,N3.out,N4.out,Option.bind_some,optP]]
   exact ⟨_,rfl,⟨_,_,_,_,rfl,cols_nil b _ _ sb,names_nil b _ _ sb,⟨.inr g2,.inr g3,.inr u3,.inl rfl,.inr u4,.inl rfl,.inl rfl,.inl rfl,.inl rfl⟩⟩,wdf⟩)
  | (
   obtain ⟨rf,kwf,wdf,kbf⟩:=XF.out.fin S.out rfl
   refine bodyPost_ret (results_cell rfl _ rfl (lv_row (T:=31) Tryz.underlying31 (by kernel_rfl) rf rfl)) rfl ?_
   have S:=S.out
   have sb:=S.fb
   have sr:=S.fr
   have sx:=S.fx
   refine ⟨kwf,?_⟩
   rw [show cmdP (b_grant::a::WW)=some ({ zCmd with actor:=s2,kind:=14,schema:=s3,table:=t3,right:=s4,role:=t4,opt:=true },W4) by simp only [cmdP_cons,body_grant,N2.out,N3.out,N4.out,Option.bind_some,optP,E5.out,if_true]]
   exact ⟨_,rfl,⟨_,_,_,_,rfl,cols_nil b _ _ sb,names_nil b _ _ sb,⟨.inr g2,.inr g3,.inr u3,.inl rfl,.inr u4,.inl rfl,.inl rfl,.inl rfl,.inl rfl⟩⟩,wdf⟩)
end Go.Proofs.YtbdanlipghhgpaaGreatDoor
