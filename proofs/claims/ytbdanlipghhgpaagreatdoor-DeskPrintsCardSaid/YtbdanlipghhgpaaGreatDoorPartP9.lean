import Derived.Test.YtbdanlipghhgpaaGreatDoorPartP8
namespace Go.Proofs.YtbdanlipghhgpaaGreatDoor
open Go.RowKit Go.Deep
set_option maxRecDepth 100000
set_option linter.unusedVariables false
set_option maxHeartbeats 64000000
theorem plain_dn (s:ByteArray) (w:World) (hs:Small s.size):Calls Tryz.prog 89 #[.string s] w fun e w'=>e=.returned (.bool (txtB s))∧w=w':=by
 have hs':=hs.max
 unfold maxLen at hs'
 go_enter Tryz.func89,Tryz.ntmps89
 go_wp2_with fail
 go_loop [3] (fun i=>∃ k:Nat,k≤s.size∧i=.int .i64 k∧(s.data.toList.take k).all isPl=true) (fun i=>s.size - (intOf i).toNat)
 case atStart=>exact ⟨0,Nat.zero_le _,rfl,rfl⟩
 case round =>
  obtain ⟨k,hk,rfl,ha⟩:=hrel
  have HA:=gH ha;clear ha
  by_cases hlt:k < s.size
  ·have hp:=isPl_false s[k]
   have hps:=pl_succ s k hlt
   cases hq:isPl s[k]
   ·have H2:=gH (pl_false s k hlt hq)
    have hb0:=hp.1 hq
    have hb:(s[k].toNat:Int) < 48∨(58≤(s[k].toNat:Int)∧(s[k].toNat:Int) < 95)∨(96≤(s[k].toNat:Int)∧(s[k].toNat:Int) < 97)∨122 < (s[k].toNat:Int):=by omega
    have hne:((s[k].toNat:Int) != 95)=true:=by rw [bne_iff_ne];omega
    clear hp hq hps hb0
    rcases hb with hb | hb | hb | hb
    all_goals
     go_wp2_with fail
     go_ret
     exact ⟨by unfold txtB;rw [H2.out];rfl,rfl⟩
   ·rw [hq] at hps hp
    have HS:=gH hps
    have hb:((97≤(s[k].toNat:Int)∧(s[k].toNat:Int)≤122)∨(48≤(s[k].toNat:Int)∧(s[k].toNat:Int)≤57)∨(s[k].toNat:Int)=95):=by
     rw [← isPl_iff,hq]
    clear hp hq hps
    have FIN:=gH (show (List.take (k+1) s.data.toList).all isPl=true by rw [HS.out,HA.out];rfl)
    rcases hb with hb | hb | hb
    all_goals
     go_wp2_with fail
     go_round
     case rel=>exact ⟨k+1,by omega,by go_num,FIN.out⟩
     case measure=>simp [intOf];omega
  ·go_wp2_with fail
   go_ret
   refine ⟨?_,rfl⟩
   refine Eq.trans (b:=.returned (.bool _)) rfl (ret_of (bool_of ?_))
   unfold txtB
   rw [pl_true s k hlt HA.out,Bool.true_and]
   by_cases h32:s.size≤32
   ·rw [decide_eq_true h32];exact decide_eq_true (by omega)
   ·rw [decide_eq_false h32];exact decide_eq_false (by omega)
theorem eqS_d (a b:ByteArray):eqS a b=(a.toList==b.data.toList):=(eqS_as rfl).symm
theorem kind_eq (s:ByteArray):kindB s=(if s.toList==[115,99,104,101,109,97] then 1 else if s.toList==[100,114,111,112,115,99,104,101,109,97] then 2 else if s.toList==[116,97,98,108,101] then 3 else if s.toList==[100,114,111,112,116,97,98,108,101] then 4 else if s.toList==[99,111,108,117,109,110] then 5 else if s.toList==[100,114,111,112,99,111,108,117,109,110] then 6 else if s.toList==[105,110,100,101,120] then 7 else if s.toList==[107,101,121] then 7 else if s.toList==[99,104,101,99,107] then 7 else if s.toList==[102,111,114,101,105,103,110] then 7 else if s.toList==[100,114,111,112,114,117,108,101] then 8 else if s.toList==[111,119,110,101,114] then 9 else if s.toList==[114,111,108,101] then 10 else if s.toList==[100,114,111,112,114,111,108,101] then 11 else if s.toList==[109,101,109,98,101,114] then 12 else if s.toList==[117,110,109,101,109,98,101,114] then 13 else if s.toList==[103,114,97,110,116] then 14 else if s.toList==[114,101,118,111,107,101] then 15 else 0):=by
 unfold kindB
 simp only [eqS_d,b_schema,b_dropschema,b_table,b_droptable,b_column,b_dropcolumn,b_index,b_key,b_check,b_foreign,b_droprule,b_owner,b_role,b_droprole,b_member,b_unmember,b_grant,b_revoke]
theorem kind_dn (s:ByteArray) (w:World):Calls Tryz.prog 56 #[.string s] w fun e w'=>e=.returned (.int .i64 (kindB s))∧w=w':=by
 go_enter Tryz.func56,Tryz.ntmps56
 go_wp2_with fail
 all_goals
  go_ret
  refine ⟨?_,rfl⟩
  rw [kind_eq s]
  first | (simp [*];done) | (exfalso;simp_all;done)
theorem quo_yes {s:ByteArray} (h:quoB s=true):∃ h0:0 < s.size,((s[0].toNat:Int)==39)=true∧s.extract 1 s.size=quoless s:=by
 unfold quoB Lib.hasPrefix at h
 cases hq:s.data.toList with
 | nil=>rw [hq] at h;simp [List.isPrefixOf] at h
 | cons a l =>
  rw [hq] at h
  have ha:a=39:=by
   simp [List.isPrefixOf] at h
   exact h.symm
  have hz:=Lib.size_eq s
  rw [hq,List.length_cons] at hz
  refine ⟨by omega,?_,?_⟩
  ·have:=head_get s (by omega)
   rw [hq] at this
   have this:a=s[0]:=this
   rw [← this,ha];rfl
  ·refine ba_ext ?_
   unfold quoless
   rw [Lib.extract_to_end,wd_data,hq,ha]
   simp [Lib.trimPrefix,Lib.hasPrefix,List.isPrefixOf]
theorem quo_no {s:ByteArray} (h:quoB s=false):s.size=0∨∃ h0:0 < s.size,((s[0].toNat:Int)==39)=false:=by
 by_cases h0:s.size=0
 ·exact .inl h0
 ·refine .inr ⟨by omega,?_⟩
  rw [beq_eq_false_iff_ne]
  intro e
  unfold quoB Lib.hasPrefix at h
  have:=head_get s (by omega)
  cases hq:s.data.toList with
  | nil=>have hz:=Lib.size_eq s;rw [hq,List.length_nil] at hz;omega
  | cons a l =>
   rw [hq] at this h
   have this:a=s[0]:=this
   have ha:a=39:=by rw [this];exact UInt8.toNat_inj.1 (by have:(39:UInt8).toNat=39:=rfl;omega)
   rw [ha] at h
   simp [List.isPrefixOf] at h
structure Nr (b p r:Nat) (w V:World) (W:Ws) (d:Bool) (zs:List Value):Prop where
 ds:LnS V b p W d
 res:RowAt V r zs
 kw:Kw b w V
 fb:b < w.heap.size
 fp:p < w.heap.size
 fr:w.heap.size≤r
section
variable {b p r : Nat} {w V V1 : World} {W W1 : Ws} {d d1 : Bool} {zs cs : List Value}
theorem Nr.start (h:LnS w b p W d) (zs:List Value) (t:TypeId):Nr b p w.heap.size w (w.alloc (.cells zs.toArray t)) W d zs :=
 ⟨h.aft ((Aft.refl _).alloc _),rowAt_newD w zs t,(Kw.refl _ _).alloc _,h.lt,h.plt,Nat.le_refl _⟩
theorem Nr.call (X:Nr b p r w V W d zs) (k:Kw b V V1) (l:LnS V1 b p W1 d1):Nr b p r w V1 W1 d1 zs :=
 ⟨l,X.res.kw k (by have:=X.fb;have:=X.fr;omega),X.kw.trans k,X.fb,X.fp,X.fr⟩
theorem Nr.aft (X:Nr b p r w V W d zs) (a:Aft V V1):Nr b p r w V1 W d zs:=X.call ((Kw.refl _ _).aft a) (X.ds.aft a)
theorem Nr.bad (X:Nr b p r w V W d zs) (x:Bool):Nr b p r w (V.setCell ⟨b,1,none⟩ (.bool x)) W x zs :=
 X.call (X.ds.bad x).2 (X.ds.bad x).1
theorem Nr.sets (X:Nr b p r w V W d zs) (hz:zs.length=cs.length):Nr b p r w (V.setCells r 0 cs) W d cs:=by
 have kb:=kb_setCellsD r cs V 0
 have:=X.fb
 have:=X.fp
 have:=X.fr
 refine ⟨X.ds.kb kb (by omega) (by omega),by simpa using row_setCells cs V [] zs X.res hz,?_,X.fb,X.fp,X.fr⟩
 exact ⟨kb.os.trans X.kw.os,kb.tape.trans X.kw.tape,kb.output.trans X.kw.output,Nat.le_trans X.kw.size kb.size,fun j hj hne=>(kb.block j (Nat.lt_of_lt_of_le hj X.kw.size) (by omega)).trans (X.kw.block j hj hne)⟩
end
theorem svVal_rowN {V:World} {r:Nat} {zs vs:List Value} (h:RowAt V r zs) (hz:zs.length=3) (hv:vs.length=3) (h1:∀ v∈vs,v.oneCell'=true):(svVal ⟨r,0,none⟩ (.agg vs.toArray)).run Tryz.prog V=.ok () (V.setCells r 0 vs) :=
 sv_row (T:=39) (by kernel_rfl) h hz hv h1
def ValN (w':World) (v:Value) (x:Val):Prop:=v=.agg #[.int .i64 x.kind,.int .i64 x.int,.string x.text]∧x.text.size≤4096
theorem value_dn (b p:Nat) (W:Ws) (d:Bool) (w:World) (h:LnS w b p W d):Calls Tryz.prog 60 #[.pointer (some ⟨b,0,none⟩)] w (RdN b p w ValN (valD W d)):=by
 have X0:=Nr.start h [.int .i64 0,.int .i64 0,.string ⟨#[]⟩] 39
 obtain ⟨s,W1,d1,hq,hs,hc⟩:=lword_cases b p W d _ X0.ds
 have HC:=gH hc
 have HX0:=gH X0
 have e:valD W d=((valV s).1,W1,d1 || !(valV s).2):=by unfold valD;rw [one_word,hq]
 rw [e]
 have hb:=h.lt
 have hsm:Small s.size:=Nat.le_trans hs (by decide)
 have hs':=hsm.max
 unfold maxLen at hs'
 clear hc hq e h X0
 have LE:=gH hs
 have QLE:=gH (quoless_le s)
 cases q1:eqS s b_null with
 | true =>
  have e1:=eqS_as q1
  unfold b_null at e1
  simp only at e1
  have HV:=gH (show valV s=(⟨1,0,zBy⟩,true) from by unfold valV;rw [q1];rfl)
  clear q1
  go_enter Tryz.func60,Tryz.ntmps60
  go_wp2_with (first | (go_at_call 32;with_reducible refine HC.out.mono ?_;rintro e w1 ⟨rfl,l1,k1⟩;have X1:=gH (HX0.out.call k1 l1);have e2:=svVal_rowN (vs:=[.int .i64 1,.int .i64 0,.string ⟨#[]⟩]) X1.out.res rfl rfl (by simp [Value.oneCell']);clear l1 k1))
  have XF:=X1.out.sets (cs:=[.int .i64 1,.int .i64 0,.string ⟨#[]⟩]) rfl
  refine bodyPost_ret (results_cell rfl _ rfl (lv_row (T:=39) Tryz.underlying39 (by kernel_rfl) XF.res rfl)) rfl ?_
  rw [HV.out]
  refine ⟨XF.kw,_,rfl,⟨rfl,Nat.zero_le _⟩,?_⟩
  simpa using XF.ds
 | false =>
  have e1:=eqS_as q1
  unfold b_null at e1
  simp only at e1
  cases q2:quoB s with
  | true =>
   obtain ⟨h0,e3,e4⟩:=quo_yes q2
   obtain ⟨t,ht⟩:∃ t,quoless s=t:=⟨_,rfl⟩
   rw [ht] at e4 QLE
   obtain ⟨ok,hok⟩:∃ ok,txtB t=ok:=⟨_,rfl⟩
   have HV:=gH (show valV s=(⟨3,0,t⟩,ok) from by unfold valV;rw [q1,q2,ht,hok];rfl)
   have HP:=gH (show ∀ V:World,Calls Tryz.prog 89 #[.string t] V fun e w'=>e=.returned (.bool ok)∧V=w' from fun V=>hok▸plain_dn t V (Nat.le_trans (Nat.le_trans QLE.out hs) (by decide)))
   have h1:(0:Int) < (s.size:Int):=by omega
   have hA:1≤s.size:=by omega
   clear q1 q2 ht hok
   cases d1
   all_goals
    cases ok
    all_goals
     go_enter Tryz.func60,Tryz.ntmps60
     go_wp2_with (first | (go_at_call 32;with_reducible refine HC.out.mono ?_;rintro e w1 ⟨rfl,l1,k1⟩;have X1:=gH (HX0.out.call k1 l1);have y1:=l1.c1;have y2:=l1.f1;have y3:=l1.lt;have e2:=fun x=>svVal_rowN (vs:=[.int .i64 3,.int .i64 0,.string t]) (X1.out.bad x).res rfl rfl (by simp [Value.oneCell']);clear l1 k1) | (go_at_call 89;with_reducible refine (HP.out _).mono ?_;rintro e w2 ⟨rfl,rfl⟩))
     have XF:=fun x=>(X1.out.bad x).sets (cs:=[.int .i64 3,.int .i64 0,.string t]) rfl
     refine bodyPost_ret (results_cell rfl _ rfl (lv_row (T:=39) Tryz.underlying39 (by kernel_rfl) (XF _).res rfl)) rfl ?_
     rw [HV.out]
     refine ⟨(XF _).kw,_,rfl,⟨rfl,Nat.le_trans QLE.out LE.out⟩,?_⟩
     exact (XF _).ds
  | false =>
   obtain ⟨n,ok,hn⟩:∃ n ok,numV s=(n,ok):=⟨_,_,rfl⟩
   have HN:=gH (number_dn s)
   rw [hn] at HN
   have HN:=gH (show ∀ V:World,Calls Tryz.prog 55 #[.string s] V fun e w'=>e=.returned (.tuple #[.int .i64 n,.bool ok])∧V=w' from fun V=>HN.out V hsm)
   have HV:=gH (show valV s=(⟨2,n,zBy⟩,ok) from by unfold valV;rw [q1,q2,hn];rfl)
   have h2:=quo_no q2
   clear q1 q2 hn
   rcases h2 with h2 | ⟨h2,e3⟩
   focus
    have h1:¬ (0:Int) < (s.size:Int):=by omega
   rotate_left
   focus
    have h1:(0:Int) < (s.size:Int):=by omega
    have e4:¬ (s[0].toNat:Int)=39:=by simpa using e3
   rotate_left
   all_goals
    cases d1
    all_goals
     cases ok
     all_goals
      go_enter Tryz.func60,Tryz.ntmps60
      go_wp2_with (first | (go_at_call 32;with_reducible refine HC.out.mono ?_;rintro e w1 ⟨rfl,l1,k1⟩;have X1:=gH (HX0.out.call k1 l1);have y1:=l1.c1;have y2:=l1.f1;have y3:=l1.lt;have e2:=fun x=>svVal_rowN (vs:=[.int .i64 2,.int .i64 n,.string ⟨#[]⟩]) (X1.out.bad x).res rfl rfl (by simp [Value.oneCell']);clear l1 k1) | (go_at_call 55;with_reducible refine (HN.out _).mono ?_;rintro e w2 ⟨rfl,rfl⟩))
      have XF:=fun x=>(X1.out.bad x).sets (cs:=[.int .i64 2,.int .i64 n,.string ⟨#[]⟩]) rfl
      refine bodyPost_ret (results_cell rfl _ rfl (lv_row (T:=39) Tryz.underlying39 (by kernel_rfl) (XF _).res rfl)) rfl ?_
      rw [HV.out]
      refine ⟨(XF _).kw,_,rfl,⟨rfl,Nat.zero_le _⟩,?_⟩
      exact (XF _).ds
structure Nx (b p r x:Nat) (w V:World) (W:Ws) (d:Bool) (zs cs:List Value):Prop where
 nr:Nr b p r w V W d zs
 row:RowAt V x cs
 fx:w.heap.size≤x
 fn:¬ r=x
section
variable {b p r x : Nat} {w V V1 : World} {W W1 : Ws} {d d1 : Bool} {zs cs : List Value}
theorem Nr.box (X:Nr b p r w V W d zs) (cs:List Value) (t:TypeId):Nx b p r V.heap.size w (V.alloc (.cells cs.toArray t)) W d zs cs :=
 ⟨X.aft ((Aft.refl _).alloc _),rowAt_newD V cs t,X.kw.size,by have:=X.res.1;omega⟩
theorem Nx.call (X:Nx b p r x w V W d zs cs) (k:Kw b V V1) (l:LnS V1 b p W1 d1):Nx b p r x w V1 W1 d1 zs cs :=
 ⟨X.nr.call k l,X.row.kw k (by have:=X.nr.fb;have:=X.fx;omega),X.fx,X.fn⟩
theorem Nx.aft (X:Nx b p r x w V W d zs cs) (a:Aft V V1):Nx b p r x w V1 W d zs cs:=X.call ((Kw.refl _ _).aft a) (X.nr.ds.aft a)
theorem Nx.bad (X:Nx b p r x w V W d zs cs) (y:Bool):Nx b p r x w (V.setCell ⟨b,1,none⟩ (.bool y)) W y zs cs:=X.call (X.nr.ds.bad y).2 (X.nr.ds.bad y).1
theorem Nx.set (X:Nx b p r x w V W d zs cs) (j:Nat) (v:Value) (hj:j < cs.length):Nx b p r x w (V.setCell ⟨x,j,none⟩ v) W d zs (cs.set j v):=by
 have:=X.nr.fb
 have:=X.nr.fp
 have:=X.fx
 have kb:=Kb.set V x j v
 exact ⟨⟨X.nr.ds.kb kb (by omega) (by omega),kb.row X.nr.res X.fn,X.nr.kw.set x j v (.inr X.fx),X.nr.fb,X.nr.fp,X.nr.fr⟩,X.row.set j v hj,X.fx,X.fn⟩
theorem Nx.cf (X:Nx b p r x w V W d zs cs) (j:Nat) (hj:j < cs.length):V.cell? ⟨x,j,none⟩=some cs[j]∧V.frozen? ⟨x,j,none⟩=false:=rowC X.row j hj
theorem Nx.ne (X:Nx b p r x w V W d zs cs) {g:Nat} (h:V.heap.size≤g):¬ g=x:=by have:=X.row.1;omega
theorem Nx.ne2 (X:Nx b p r x w V W d zs cs) {g:Nat} (h:V.heap.size≤g):¬ x=g:=by have:=X.row.1;omega
theorem Nx.lt (X:Nx b p r x w V W d zs cs):b < V.heap.size∧x < V.heap.size∧r < V.heap.size:=⟨X.nr.ds.lt,X.row.1,X.nr.res.1⟩
end
theorem own_two {w:World} {B:Nat} {A:Option Addr} {c:Nat} {x y:ByteArray} (h:w.ownsRow B 9 1 (.slice A 2 c) 2 [.string x,.string y]):∃ g,A=some ⟨g,0,none⟩∧g < w.heap.size∧w.cell? ⟨g,0,none⟩=some (.string x)∧w.cell? ⟨g,1,none⟩=some (.string y):=by
 have h':=h
 obtain ⟨_,h | ⟨g,cap,cur,hv,hB,hg,_⟩⟩:=h
 ·exact absurd h.2 (by decide)
 ·have e:A=some ⟨g,0,none⟩:=by injection hv
  subst e
  exact ⟨g,rfl,(h'.lt g rfl).2,h'.cellAt 0 (by decide),h'.cellAt 1 (by decide)⟩
theorem nul_yes {s:ByteArray} (h:nulB s=true):∃ h0:0 < s.size,s[s.size - 1]=63∧s.extract 0 (s.size - 1)=nulless s:=by
 unfold nulB at h
 have h1:=h
 unfold Lib.hasSuffix at h
 obtain ⟨l,hl⟩:=List.isSuffixOf_iff_suffix.1 h
 have hz:=Lib.size_eq s
 rw [← hl,List.length_append] at hz
 simp only [List.length_cons,List.length_nil] at hz
 refine ⟨by omega,?_,?_⟩
 ·have e:s[s.size - 1]=s.data.toList[s.size - 1]'(by rw [← Lib.size_eq];omega):=by simp [ByteArray.getElem_eq_getElem_data]
  rw [e]
  simp only [← hl]
  rw [List.getElem_append_right (by omega)]
  simp
 ·refine ba_ext ?_
  unfold nulless Lib.trimSuffix
  rw [if_pos h1,wd_data,Lib.extract_upto]
  simp only [List.length_cons,List.length_nil]
  rw [Lib.size_eq]
theorem nul_no {s:ByteArray} (h:nulB s=false):nulless s=s∧(s.size=0∨∃ h0:0 < s.size,s[s.size - 1]≠63):=by
 refine ⟨?_,?_⟩
 ·refine ba_ext ?_
  unfold nulless Lib.trimSuffix
  unfold nulB at h
  rw [if_neg (by rw [h];decide),wd_data]
 ·by_cases h0:s.size=0
  ·exact .inl h0
  ·refine .inr ⟨by omega,fun e=>?_⟩
   unfold nulB Lib.hasSuffix at h
   have hl:s.data.toList.length=s.size:=(Lib.size_eq s).symm
   have:s.data.toList=s.data.toList.dropLast++[63]:=by
    have hn:s.data.toList≠[]:=by intro e;rw [e] at hl;simp at hl;omega
    conv=>lhs;rw [← List.dropLast_concat_getLast hn]
    congr 2
    rw [List.getLast_eq_getElem]
    have e2:s[s.size - 1]=s.data.toList[s.size - 1]'(by omega):=by simp [ByteArray.getElem_eq_getElem_data]
    simp only [hl]
    rw [← e2,e]
   have h3:[63].isSuffixOf s.data.toList=true:=List.isSuffixOf_iff_suffix.2 ⟨_,this.symm⟩
   rw [h3] at h;cases h
def ColN (w':World) (v:Value) (c:Col):Prop:=v=.agg #[.string c.name,.int .i64 c.kind,.bool c.null]∧c.name.size≤4096
theorem lvCol_rowN {V:World} {x:Nat} {cs:List Value} (h:RowAt V x cs) (hk:cs.length=3):(lvCol ⟨x,0,none⟩).run Tryz.prog V=.ok (.agg cs.toArray) V :=
 lv_row (T:=67) Tryz.underlying67 (by kernel_rfl) h hk
theorem svCol_rowN {V:World} {r:Nat} {zs vs:List Value} (h:RowAt V r zs) (hz:zs.length=3) (hv:vs.length=3) (h1:∀ v∈vs,v.oneCell'=true):(svCol ⟨r,0,none⟩ (.agg vs.toArray)).run Tryz.prog V=.ok () (V.setCells r 0 vs) :=
 sv_row (T:=67) (by kernel_rfl) h hz hv h1
theorem column_dn (b p:Nat) (W:Ws) (d:Bool) (w:World) (h:LnS w b p W d):Calls Tryz.prog 58 #[.pointer (some ⟨b,0,none⟩)] w (RdN b p w ColN (colD W d)):=by
 have X0:=Nr.start h [.string ⟨#[]⟩,.int .i64 0,.bool false] 67
 obtain ⟨s,W1,d1,hq,hs,hc⟩:=lword_cases b p W d _ X0.ds
 have HC:=gH hc
 have HX0:=gH X0
 have e:colD W d=((colV s).1,W1,d1 || !(colV s).2):=by unfold colD;rw [one_word,hq]
 rw [e]
 have hb:=h.lt
 have hsm:Small s.size:=Nat.le_trans hs (by decide)
 have hs':=hsm.max
 unfold maxLen at hs'
 clear hc hq e h X0
 obtain ⟨u,hu⟩:∃ u,nulless s=u:=⟨_,rfl⟩
 have hul:u.size≤4096:=by have:=nulless_le s;rw [hu] at this;omega
 have HU:=gH hul
 have HCU:=gH (show ∀ V,Calls Tryz.prog 20 #[.string u,.int .u8 58] V (CutQ 58 u V) from fun V=>cut_dn 58 58 rfl u V hul)
 obtain ⟨nl,hnl⟩:∃ nl,nulB s=nl:=⟨_,rfl⟩
 have hcv:colV s=if decide ((colsS u).length=2)&&nameB ((colsS u).getD 0 zBy)&&(eqS ((colsS u).getD 1 zBy) b_int || eqS ((colsS u).getD 1 zBy) b_text) then (⟨(colsS u).getD 0 zBy,if eqS ((colsS u).getD 1 zBy) b_text then 3 else 2,nl⟩,true) else (⟨zBy,0,nl⟩,false):=by unfold colV;rw [hu,hnl]
 have HCS:=gH (show ∀ x∈colsS u,x.size≤4096 from fun x hx=>by
  unfold colsS at hx
  obtain ⟨l,hl,rfl⟩:=List.mem_map.1 hx
  have:=cut_each 58 _ _ hl
  rw [wd_size]
  have:=Lib.size_eq u
  omega)
 -- what the pieces are
 have hcase:(∃ n,n≠2∧(colsS u).length=n∧colV s=(⟨zBy,0,nl⟩,false))∨∃ p0 p1,colsS u=[p0,p1]∧p0.size≤4096∧((nameB p0=false∧colV s=(⟨zBy,0,nl⟩,false))∨(nameB p0=true∧((eqS p1 b_int=true∧eqS p1 b_text=false∧colV s=(⟨p0,2,nl⟩,true))∨(eqS p1 b_int=false∧eqS p1 b_text=true∧colV s=(⟨p0,3,nl⟩,true))∨(eqS p1 b_int=false∧eqS p1 b_text=false∧colV s=(⟨zBy,0,nl⟩,false))))):=by
  by_cases h2:(colsS u).length=2
  ·obtain ⟨p0,p1,hp⟩:∃ p0 p1,colsS u=[p0,p1]:=by
    match colsS u,h2 with
    | [a,c],_=>exact ⟨a,c,rfl⟩
   refine .inr ⟨p0,p1,hp,HCS.out p0 (by rw [hp];simp),?_⟩
   rw [hp] at hcv
   simp only [List.length_cons,List.length_nil,List.getD_cons_zero,List.getD_cons_succ,Nat.zero_add,Nat.reduceAdd,decide_true,Bool.true_and] at hcv
   cases q1:nameB p0 with
   | false=>rw [q1] at hcv;exact .inl ⟨rfl,hcv⟩
   | true =>
    rw [q1] at hcv
    refine .inr ⟨rfl,?_⟩
    cases q2:eqS p1 b_int with
    | true =>
     have q3:eqS p1 b_text=false:=by
      rw [eqS_iffD] at q2;subst q2
      cases hx:eqS b_int b_text with
      | false=>rfl
      | true=>rw [eqS_iffD] at hx;have:=congrArg ByteArray.size hx;cases this
     rw [q2,q3] at hcv
     exact .inl ⟨rfl,q3,hcv⟩
    | false =>
     cases q3:eqS p1 b_text with
     | true=>rw [q2,q3] at hcv;exact .inr (.inl ⟨rfl,rfl,hcv⟩)
     | false=>rw [q2,q3] at hcv;exact .inr (.inr ⟨rfl,rfl,hcv⟩)
  ·exact .inl ⟨_,h2,rfl,by rw [hcv,decide_eq_false h2];rfl⟩
 clear hcv
 have KN:=gH (fun (A:ByteArray) (q:Bool) (hA:A.size≤4096) (hq:nameB A=q)=>(show ∀ V:World,Calls Tryz.prog 87 #[.string A] V fun e w'=>e=.returned (.bool q)∧V=w' from fun V=>hq▸rname_any A V (Nat.le_trans hA (by decide))))
 have CUT2:=gH (show ∀ (p0 p1:ByteArray),colsS u=[p0,p1]→∀ V,Calls Tryz.prog 20 #[.string u,.int .u8 58] V fun e w'=>∃ g c,e=.returned (.slice (some ⟨g,0,none⟩) 2 c)∧Aft V w'∧V.heap.size≤g∧g < w'.heap.size∧w'.cell? ⟨g,0,none⟩=some (.string p0)∧w'.cell? ⟨g,1,none⟩=some (.string p1) from fun p0 p1 hp V=>(HCU.out V).mono fun e w' ⟨a,hd,h1,h2⟩=>by
  have hp':pieces 58 u=[p0,p1]:=hp
  rw [hp'] at h1 h2
  obtain ⟨g,h3,h4,h5,h6⟩:=own_two h2
  exact ⟨g,hd.c,by rw [h1,h3];rfl,a,(h2.lt g (by rw [h3];rfl)).1,h4,h5,h6⟩)
 have CUTN:=gH (show ∀ n,(colsS u).length=n→∀ V,Calls Tryz.prog 20 #[.string u,.int .u8 58] V fun e w'=>∃ A c,e=.returned (.slice A n c)∧Aft V w' from fun n hn V=>(HCU.out V).mono fun e w' ⟨a,hd,h1,h2⟩=>by
  have hp':(pieces 58 u).length=n:=hn
  rw [hp'] at h1
  exact ⟨hd.a,hd.c,h1,a⟩)
 have HUS:=gH hu
 cases nl with
 | true =>
  obtain ⟨h0,h63,hx⟩:=nul_yes hnl
  rw [hu] at hx
  have g1:(0:Int) < (s.size:Int):=by omega
  have g2:((s[s.size - 1].toNat:Int)==63)=true:=by rw [h63];rfl
  clear hu hnl h63
  rcases hcase with ⟨n,hn2,hn,hv⟩ | ⟨p0,p1,hpp,hp0,⟨hnm,hv⟩ | ⟨hnm,⟨h1,h2,hv⟩ | ⟨h1,h2,hv⟩ | ⟨h1,h2,hv⟩⟩⟩
  focus
   have HV:=gH hv
   have hn3:((n:Int) != 2)=true:=by rw [bne_iff_ne];omega
   clear hv
   go_enter Tryz.func58,Tryz.ntmps58
   go_wp2_with (first
    | (go_at_call 32;with_reducible refine HC.out.mono ?_;rintro e w1 ⟨rfl,l1,k1⟩;have X2:=(HX0.out.call k1 l1).box [.string ⟨#[]⟩,.int .i64 0,.bool true] 67;have z2:=X2.lt;obtain ⟨z20,z21,z22⟩:=z2;have X3:=gH X2;clear l1 k1 X2)
    | (go_at_call 20;with_reducible refine (CUTN.out _ hn _).mono ?_;rintro e w3 ⟨A,c,rfl,a3⟩;have X4:=gH (X3.out.aft a3);have z4:=X4.out.lt;obtain ⟨z40,z41,z42⟩:=z4;have y1:=X4.out.nr.ds.c1;have y2:=X4.out.nr.ds.f1;have XF:=gH (X4.out.bad true);have e1:=lvCol_rowN XF.out.row rfl;have e2:=svCol_rowN XF.out.nr.res rfl rfl (vs:=[.string ⟨#[]⟩,.int .i64 0,.bool true]) (by simp [Value.oneCell']);clear a3))
  rotate_left
  focus
   have HV:=gH hv
   have HPP:=gH hpp
   have HNM:=gH (KN.out p0 false hp0 hnm)
   clear hv hpp hnm
   go_enter Tryz.func58,Tryz.ntmps58
   go_wp2_with (first
    | (go_at_call 32;with_reducible refine HC.out.mono ?_;rintro e w1 ⟨rfl,l1,k1⟩;have X2:=(HX0.out.call k1 l1).box [.string ⟨#[]⟩,.int .i64 0,.bool true] 67;have z2:=X2.lt;obtain ⟨z20,z21,z22⟩:=z2;have X3:=gH X2;clear l1 k1 X2)
    | (go_at_call 20;with_reducible refine (CUT2.out _ _ HPP.out _).mono ?_;rintro e w3 ⟨g,c,rfl,a3,gV,g0,g1,g2⟩;have X4:=gH (X3.out.aft a3);have gx:=X3.out.ne gV;have gx2:=X3.out.ne2 gV;clear gV;have z4:=X4.out.lt;obtain ⟨z40,z41,z42⟩:=z4;have y1:=X4.out.nr.ds.c1;have y2:=X4.out.nr.ds.f1;have XF:=gH (X4.out.bad true);have e1:=lvCol_rowN XF.out.row rfl;have e2:=svCol_rowN XF.out.nr.res rfl rfl (vs:=[.string ⟨#[]⟩,.int .i64 0,.bool true]) (by simp [Value.oneCell']);clear a3)
    | (go_at_call 87;with_reducible refine (HNM.out _).mono ?_;rintro e w2 ⟨rfl,rfl⟩))
  rotate_left
  ·have HV:=gH hv
   have HPP:=gH hpp
   have HSZ:=gH hp0
   have HNM:=gH (KN.out p0 true hp0 hnm)
   have i1:=eqS_as h1
   have i2:=eqS_as h2
   unfold b_int at i1
   unfold b_text at i2
   simp only at i1 i2
   have i1':(p1.toList != [105,110,116])=!(p1.toList==[105,110,116]):=rfl
   have i2':(p1.toList != [116,101,120,116])=!(p1.toList==[116,101,120,116]):=rfl
   rw [i1] at i1'
   rw [i2] at i2'
   clear hv hpp hnm h1 h2
   go_enter Tryz.func58,Tryz.ntmps58
   go_wp2_with (first
    | (go_at_call 32;with_reducible refine HC.out.mono ?_;rintro e w1 ⟨rfl,l1,k1⟩;have X2:=(HX0.out.call k1 l1).box [.string ⟨#[]⟩,.int .i64 0,.bool true] 67;have z2:=X2.lt;obtain ⟨z20,z21,z22⟩:=z2;have X3:=gH X2;clear l1 k1 X2)
    | (go_at_call 20;with_reducible refine (CUT2.out _ _ HPP.out _).mono ?_;rintro e w3 ⟨g,c,rfl,a3,gV,g0,g1,g2⟩;have X4:=gH (X3.out.aft a3);have gx:=X3.out.ne gV;have gx2:=X3.out.ne2 gV;clear gV;have z4:=X4.out.lt;obtain ⟨z40,z41,z42⟩:=z4;obtain ⟨c40,f40⟩:=X4.out.cf 0 (by simp);obtain ⟨c41,f41⟩:=X4.out.cf 1 (by simp);have XF:Nx b p w.heap.size w1.heap.size w _ W1 d1 [.string ⟨#[]⟩,.int .i64 0,.bool false] [.string p0,.int .i64 2,.bool true]:=(X4.out.set 0 (.string p0) (by simp)).set 1 (.int .i64 2) (by simp);have XF:=gH XF;have e1:=lvCol_rowN XF.out.row rfl;have e2:=svCol_rowN XF.out.nr.res rfl rfl (vs:=[.string p0,.int .i64 2,.bool true]) (by simp [Value.oneCell']);clear a3)
    | (go_at_call 87;with_reducible refine (HNM.out _).mono ?_;rintro e w2 ⟨rfl,rfl⟩))
   have XR:=XF.out.nr.sets (cs:=[.string p0,.int .i64 2,.bool true]) rfl
   refine bodyPost_ret (results_cell rfl _ rfl (lv_row (T:=67) Tryz.underlying67 (by kernel_rfl) XR.res rfl)) rfl ?_
   rw [HV.out]
   exact ⟨XR.kw,_,rfl,⟨rfl,HSZ.out⟩,(by simpa using XR.ds)⟩
  ·have HV:=gH hv
   have HPP:=gH hpp
   have HSZ:=gH hp0
   have HNM:=gH (KN.out p0 true hp0 hnm)
   have i1:=eqS_as h1
   have i2:=eqS_as h2
   unfold b_int at i1
   unfold b_text at i2
   simp only at i1 i2
   have i1':(p1.toList != [105,110,116])=!(p1.toList==[105,110,116]):=rfl
   have i2':(p1.toList != [116,101,120,116])=!(p1.toList==[116,101,120,116]):=rfl
   rw [i1] at i1'
   rw [i2] at i2'
   clear hv hpp hnm h1 h2
   go_enter Tryz.func58,Tryz.ntmps58
   go_wp2_with (first
    | (go_at_call 32;with_reducible refine HC.out.mono ?_;rintro e w1 ⟨rfl,l1,k1⟩;have X2:=(HX0.out.call k1 l1).box [.string ⟨#[]⟩,.int .i64 0,.bool true] 67;have z2:=X2.lt;obtain ⟨z20,z21,z22⟩:=z2;have X3:=gH X2;clear l1 k1 X2)
    | (go_at_call 20;with_reducible refine (CUT2.out _ _ HPP.out _).mono ?_;rintro e w3 ⟨g,c,rfl,a3,gV,g0,g1,g2⟩;have X4:=gH (X3.out.aft a3);have gx:=X3.out.ne gV;have gx2:=X3.out.ne2 gV;clear gV;have z4:=X4.out.lt;obtain ⟨z40,z41,z42⟩:=z4;obtain ⟨c40,f40⟩:=X4.out.cf 0 (by simp);obtain ⟨c41,f41⟩:=X4.out.cf 1 (by simp);have XF:Nx b p w.heap.size w1.heap.size w _ W1 d1 [.string ⟨#[]⟩,.int .i64 0,.bool false] [.string p0,.int .i64 3,.bool true]:=((X4.out.set 0 (.string p0) (by simp)).set 1 (.int .i64 2) (by simp)).set 1 (.int .i64 3) (by simp);have XF:=gH XF;have e1:=lvCol_rowN XF.out.row rfl;have e2:=svCol_rowN XF.out.nr.res rfl rfl (vs:=[.string p0,.int .i64 3,.bool true]) (by simp [Value.oneCell']);clear a3)
    | (go_at_call 87;with_reducible refine (HNM.out _).mono ?_;rintro e w2 ⟨rfl,rfl⟩))
   have XR:=XF.out.nr.sets (cs:=[.string p0,.int .i64 3,.bool true]) rfl
   refine bodyPost_ret (results_cell rfl _ rfl (lv_row (T:=67) Tryz.underlying67 (by kernel_rfl) XR.res rfl)) rfl ?_
   rw [HV.out]
   exact ⟨XR.kw,_,rfl,⟨rfl,HSZ.out⟩,(by simpa using XR.ds)⟩
  ·have HV:=gH hv
   have HPP:=gH hpp
   have HSZ:=gH hp0
   have HNM:=gH (KN.out p0 true hp0 hnm)
   have i1:=eqS_as h1
   have i2:=eqS_as h2
   unfold b_int at i1
   unfold b_text at i2
   simp only at i1 i2
   have i1':(p1.toList != [105,110,116])=!(p1.toList==[105,110,116]):=rfl
   have i2':(p1.toList != [116,101,120,116])=!(p1.toList==[116,101,120,116]):=rfl
   rw [i1] at i1'
   rw [i2] at i2'
   clear hv hpp hnm h1 h2
   go_enter Tryz.func58,Tryz.ntmps58
   go_wp2_with (first
    | (go_at_call 32;with_reducible refine HC.out.mono ?_;rintro e w1 ⟨rfl,l1,k1⟩;have X2:=(HX0.out.call k1 l1).box [.string ⟨#[]⟩,.int .i64 0,.bool true] 67;have z2:=X2.lt;obtain ⟨z20,z21,z22⟩:=z2;have X3:=gH X2;clear l1 k1 X2)
    | (go_at_call 20;with_reducible refine (CUT2.out _ _ HPP.out _).mono ?_;rintro e w3 ⟨g,c,rfl,a3,gV,g0,g1,g2⟩;have X4:=gH (X3.out.aft a3);have gx:=X3.out.ne gV;have gx2:=X3.out.ne2 gV;clear gV;have z4:=X4.out.lt;obtain ⟨z40,z41,z42⟩:=z4;have y1:=X4.out.nr.ds.c1;have y2:=X4.out.nr.ds.f1;have XF:=gH (X4.out.bad true);have e1:=lvCol_rowN XF.out.row rfl;have e2:=svCol_rowN XF.out.nr.res rfl rfl (vs:=[.string ⟨#[]⟩,.int .i64 0,.bool true]) (by simp [Value.oneCell']);clear a3)
    | (go_at_call 87;with_reducible refine (HNM.out _).mono ?_;rintro e w2 ⟨rfl,rfl⟩))
   have XR:=XF.out.nr.sets (cs:=[.string ⟨#[]⟩,.int .i64 0,.bool true]) rfl
   refine bodyPost_ret (results_cell rfl _ rfl (lv_row (T:=67) Tryz.underlying67 (by kernel_rfl) XR.res rfl)) rfl ?_
   rw [HV.out]
   exact ⟨XR.kw,_,rfl,⟨rfl,Nat.zero_le _⟩,(by simpa using XR.ds)⟩
  all_goals
   have XR:=XF.out.nr.sets (cs:=[.string ⟨#[]⟩,.int .i64 0,.bool true]) rfl
   refine bodyPost_ret (results_cell rfl _ rfl (lv_row (T:=67) Tryz.underlying67 (by kernel_rfl) XR.res rfl)) rfl ?_
   rw [HV.out]
   exact ⟨XR.kw,_,rfl,⟨rfl,Nat.zero_le _⟩,(by simpa using XR.ds)⟩
 | false =>
  obtain ⟨hx,hy⟩:=nul_no hnl
  rw [hu] at hx
  subst hx
  clear hu hnl
  rcases hy with h0 | ⟨h0,h63⟩
  focus
   have g1:¬ (0:Int) < (u.size:Int):=by omega
  rotate_left
  focus
   have g1:(0:Int) < (u.size:Int):=by omega
   have g2:((u[u.size - 1].toNat:Int)==63)=false:=by
    rw [beq_eq_false_iff_ne]
    intro e
    exact h63 (UInt8.toNat_inj.1 (by have:(63:UInt8).toNat=63:=rfl;omega))
   clear h63
  rotate_left
  all_goals
   rcases hcase with ⟨n,hn2,hn,hv⟩ | ⟨p0,p1,hpp,hp0,⟨hnm,hv⟩ | ⟨hnm,⟨h1,h2,hv⟩ | ⟨h1,h2,hv⟩ | ⟨h1,h2,hv⟩⟩⟩
   focus
    have HV:=gH hv
    have hn3:((n:Int) != 2)=true:=by rw [bne_iff_ne];omega
    clear hv
    go_enter Tryz.func58,Tryz.ntmps58
    go_wp2_with (first
     | (go_at_call 32;with_reducible refine HC.out.mono ?_;rintro e w1 ⟨rfl,l1,k1⟩;have X2:=(HX0.out.call k1 l1).box [.string ⟨#[]⟩,.int .i64 0,.bool false] 67;obtain ⟨c2,f2⟩:=X2.cf 2 (by simp);have z2:=X2.lt;obtain ⟨z20,z21,z22⟩:=z2;have X3:Nx b p w.heap.size w1.heap.size w _ W1 d1 [.string ⟨#[]⟩,.int .i64 0,.bool false] [.string ⟨#[]⟩,.int .i64 0,.bool false]:=X2;have X3:=gH X3;clear l1 k1 X2)
     | (go_at_call 20;with_reducible refine (CUTN.out _ hn _).mono ?_;rintro e w3 ⟨A,c,rfl,a3⟩;have X4:=gH (X3.out.aft a3);have z4:=X4.out.lt;obtain ⟨z40,z41,z42⟩:=z4;have y1:=X4.out.nr.ds.c1;have y2:=X4.out.nr.ds.f1;have XF:=gH (X4.out.bad true);have e1:=lvCol_rowN XF.out.row rfl;have e2:=svCol_rowN XF.out.nr.res rfl rfl (vs:=[.string ⟨#[]⟩,.int .i64 0,.bool false]) (by simp [Value.oneCell']);clear a3))
   rotate_left
   focus
    have HV:=gH hv
    have HPP:=gH hpp
    have HNM:=gH (KN.out p0 false hp0 hnm)
    clear hv hpp hnm
    go_enter Tryz.func58,Tryz.ntmps58
    go_wp2_with (first
     | (go_at_call 32;with_reducible refine HC.out.mono ?_;rintro e w1 ⟨rfl,l1,k1⟩;have X2:=(HX0.out.call k1 l1).box [.string ⟨#[]⟩,.int .i64 0,.bool false] 67;obtain ⟨c2,f2⟩:=X2.cf 2 (by simp);have z2:=X2.lt;obtain ⟨z20,z21,z22⟩:=z2;have X3:Nx b p w.heap.size w1.heap.size w _ W1 d1 [.string ⟨#[]⟩,.int .i64 0,.bool false] [.string ⟨#[]⟩,.int .i64 0,.bool false]:=X2;have X3:=gH X3;clear l1 k1 X2)
     | (go_at_call 20;with_reducible refine (CUT2.out _ _ HPP.out _).mono ?_;rintro e w3 ⟨g,c,rfl,a3,gV,g0,g1,g2⟩;have X4:=gH (X3.out.aft a3);have gx:=X3.out.ne gV;have gx2:=X3.out.ne2 gV;clear gV;have z4:=X4.out.lt;obtain ⟨z40,z41,z42⟩:=z4;have y1:=X4.out.nr.ds.c1;have y2:=X4.out.nr.ds.f1;have XF:=gH (X4.out.bad true);have e1:=lvCol_rowN XF.out.row rfl;have e2:=svCol_rowN XF.out.nr.res rfl rfl (vs:=[.string ⟨#[]⟩,.int .i64 0,.bool false]) (by simp [Value.oneCell']);clear a3)
     | (go_at_call 87;with_reducible refine (HNM.out _).mono ?_;rintro e w2 ⟨rfl,rfl⟩))
   rotate_left
   ·have HV:=gH hv
    have HPP:=gH hpp
    have HSZ:=gH hp0
    have HNM:=gH (KN.out p0 true hp0 hnm)
    have i1:=eqS_as h1
    have i2:=eqS_as h2
    unfold b_int at i1
    unfold b_text at i2
    simp only at i1 i2
    have i1':(p1.toList != [105,110,116])=!(p1.toList==[105,110,116]):=rfl
    have i2':(p1.toList != [116,101,120,116])=!(p1.toList==[116,101,120,116]):=rfl
    rw [i1] at i1'
    rw [i2] at i2'
    clear hv hpp hnm h1 h2
    go_enter Tryz.func58,Tryz.ntmps58
    go_wp2_with (first
     | (go_at_call 32;with_reducible refine HC.out.mono ?_;rintro e w1 ⟨rfl,l1,k1⟩;have X2:=(HX0.out.call k1 l1).box [.string ⟨#[]⟩,.int .i64 0,.bool false] 67;obtain ⟨c2,f2⟩:=X2.cf 2 (by simp);have z2:=X2.lt;obtain ⟨z20,z21,z22⟩:=z2;have X3:Nx b p w.heap.size w1.heap.size w _ W1 d1 [.string ⟨#[]⟩,.int .i64 0,.bool false] [.string ⟨#[]⟩,.int .i64 0,.bool false]:=X2;have X3:=gH X3;clear l1 k1 X2)
     | (go_at_call 20;with_reducible refine (CUT2.out _ _ HPP.out _).mono ?_;rintro e w3 ⟨g,c,rfl,a3,gV,g0,g1,g2⟩;have X4:=gH (X3.out.aft a3);have gx:=X3.out.ne gV;have gx2:=X3.out.ne2 gV;clear gV;have z4:=X4.out.lt;obtain ⟨z40,z41,z42⟩:=z4;obtain ⟨c40,f40⟩:=X4.out.cf 0 (by simp);obtain ⟨c41,f41⟩:=X4.out.cf 1 (by simp);have XF:Nx b p w.heap.size w1.heap.size w _ W1 d1 [.string ⟨#[]⟩,.int .i64 0,.bool false] [.string p0,.int .i64 2,.bool false]:=(X4.out.set 0 (.string p0) (by simp)).set 1 (.int .i64 2) (by simp);have XF:=gH XF;have e1:=lvCol_rowN XF.out.row rfl;have e2:=svCol_rowN XF.out.nr.res rfl rfl (vs:=[.string p0,.int .i64 2,.bool false]) (by simp [Value.oneCell']);clear a3)
     | (go_at_call 87;with_reducible refine (HNM.out _).mono ?_;rintro e w2 ⟨rfl,rfl⟩))
    have XR:=XF.out.nr.sets (cs:=[.string p0,.int .i64 2,.bool false]) rfl
    refine bodyPost_ret (results_cell rfl _ rfl (lv_row (T:=67) Tryz.underlying67 (by kernel_rfl) XR.res rfl)) rfl ?_
    rw [HV.out]
    exact ⟨XR.kw,_,rfl,⟨rfl,HSZ.out⟩,(by simpa using XR.ds)⟩
   ·have HV:=gH hv
    have HPP:=gH hpp
    have HSZ:=gH hp0
    have HNM:=gH (KN.out p0 true hp0 hnm)
    have i1:=eqS_as h1
    have i2:=eqS_as h2
    unfold b_int at i1
    unfold b_text at i2
    simp only at i1 i2
    have i1':(p1.toList != [105,110,116])=!(p1.toList==[105,110,116]):=rfl
    have i2':(p1.toList != [116,101,120,116])=!(p1.toList==[116,101,120,116]):=rfl
    rw [i1] at i1'
    rw [i2] at i2'
    clear hv hpp hnm h1 h2
    go_enter Tryz.func58,Tryz.ntmps58
    go_wp2_with (first
     | (go_at_call 32;with_reducible refine HC.out.mono ?_;rintro e w1 ⟨rfl,l1,k1⟩;have X2:=(HX0.out.call k1 l1).box [.string ⟨#[]⟩,.int .i64 0,.bool false] 67;obtain ⟨c2,f2⟩:=X2.cf 2 (by simp);have z2:=X2.lt;obtain ⟨z20,z21,z22⟩:=z2;have X3:Nx b p w.heap.size w1.heap.size w _ W1 d1 [.string ⟨#[]⟩,.int .i64 0,.bool false] [.string ⟨#[]⟩,.int .i64 0,.bool false]:=X2;have X3:=gH X3;clear l1 k1 X2)
     | (go_at_call 20;with_reducible refine (CUT2.out _ _ HPP.out _).mono ?_;rintro e w3 ⟨g,c,rfl,a3,gV,g0,g1,g2⟩;have X4:=gH (X3.out.aft a3);have gx:=X3.out.ne gV;have gx2:=X3.out.ne2 gV;clear gV;have z4:=X4.out.lt;obtain ⟨z40,z41,z42⟩:=z4;obtain ⟨c40,f40⟩:=X4.out.cf 0 (by simp);obtain ⟨c41,f41⟩:=X4.out.cf 1 (by simp);have XF:Nx b p w.heap.size w1.heap.size w _ W1 d1 [.string ⟨#[]⟩,.int .i64 0,.bool false] [.string p0,.int .i64 3,.bool false]:=((X4.out.set 0 (.string p0) (by simp)).set 1 (.int .i64 2) (by simp)).set 1 (.int .i64 3) (by simp);have XF:=gH XF;have e1:=lvCol_rowN XF.out.row rfl;have e2:=svCol_rowN XF.out.nr.res rfl rfl (vs:=[.string p0,.int .i64 3,.bool false]) (by simp [Value.oneCell']);clear a3)
     | (go_at_call 87;with_reducible refine (HNM.out _).mono ?_;rintro e w2 ⟨rfl,rfl⟩))
    have XR:=XF.out.nr.sets (cs:=[.string p0,.int .i64 3,.bool false]) rfl
    refine bodyPost_ret (results_cell rfl _ rfl (lv_row (T:=67) Tryz.underlying67 (by kernel_rfl) XR.res rfl)) rfl ?_
    rw [HV.out]
    exact ⟨XR.kw,_,rfl,⟨rfl,HSZ.out⟩,(by simpa using XR.ds)⟩
   ·have HV:=gH hv
    have HPP:=gH hpp
    have HSZ:=gH hp0
    have HNM:=gH (KN.out p0 true hp0 hnm)
    have i1:=eqS_as h1
    have i2:=eqS_as h2
    unfold b_int at i1
    unfold b_text at i2
    simp only at i1 i2
    have i1':(p1.toList != [105,110,116])=!(p1.toList==[105,110,116]):=rfl
    have i2':(p1.toList != [116,101,120,116])=!(p1.toList==[116,101,120,116]):=rfl
    rw [i1] at i1'
    rw [i2] at i2'
    clear hv hpp hnm h1 h2
    go_enter Tryz.func58,Tryz.ntmps58
    go_wp2_with (first
     | (go_at_call 32;with_reducible refine HC.out.mono ?_;rintro e w1 ⟨rfl,l1,k1⟩;have X2:=(HX0.out.call k1 l1).box [.string ⟨#[]⟩,.int .i64 0,.bool false] 67;obtain ⟨c2,f2⟩:=X2.cf 2 (by simp);have z2:=X2.lt;obtain ⟨z20,z21,z22⟩:=z2;have X3:Nx b p w.heap.size w1.heap.size w _ W1 d1 [.string ⟨#[]⟩,.int .i64 0,.bool false] [.string ⟨#[]⟩,.int .i64 0,.bool false]:=X2;have X3:=gH X3;clear l1 k1 X2)
     | (go_at_call 20;with_reducible refine (CUT2.out _ _ HPP.out _).mono ?_;rintro e w3 ⟨g,c,rfl,a3,gV,g0,g1,g2⟩;have X4:=gH (X3.out.aft a3);have gx:=X3.out.ne gV;have gx2:=X3.out.ne2 gV;clear gV;have z4:=X4.out.lt;obtain ⟨z40,z41,z42⟩:=z4;have y1:=X4.out.nr.ds.c1;have y2:=X4.out.nr.ds.f1;have XF:=gH (X4.out.bad true);have e1:=lvCol_rowN XF.out.row rfl;have e2:=svCol_rowN XF.out.nr.res rfl rfl (vs:=[.string ⟨#[]⟩,.int .i64 0,.bool false]) (by simp [Value.oneCell']);clear a3)
     | (go_at_call 87;with_reducible refine (HNM.out _).mono ?_;rintro e w2 ⟨rfl,rfl⟩))
    have XR:=XF.out.nr.sets (cs:=[.string ⟨#[]⟩,.int .i64 0,.bool false]) rfl
    refine bodyPost_ret (results_cell rfl _ rfl (lv_row (T:=67) Tryz.underlying67 (by kernel_rfl) XR.res rfl)) rfl ?_
    rw [HV.out]
    exact ⟨XR.kw,_,rfl,⟨rfl,Nat.zero_le _⟩,(by simpa using XR.ds)⟩
   all_goals
    have XR:=XF.out.nr.sets (cs:=[.string ⟨#[]⟩,.int .i64 0,.bool false]) rfl
    refine bodyPost_ret (results_cell rfl _ rfl (lv_row (T:=67) Tryz.underlying67 (by kernel_rfl) XR.res rfl)) rfl ?_
    rw [HV.out]
    exact ⟨XR.kw,_,rfl,⟨rfl,Nat.zero_le _⟩,(by simpa using XR.ds)⟩
section
variable {b p : Nat} {W W1 : Ws} {d d1 : Bool}
theorem lword_at {s1:ByteArray} (hq:wordD W d=(s1,W1,d1)):∀ V,LnS V b p W d→Calls Tryz.prog 32 #[.pointer (some ⟨b,0,none⟩)] V fun e w'=>e=.returned (.string s1)∧s1.size≤4096∧LnS w' b p W1 d1∧Kw b V w':=fun V h =>
 (word_dn b p W d V h).mono fun e w' ⟨k,v,h1,h2,h3⟩=>by
  have hz:=word_le h
  rw [hq] at h2 h3 hz
  exact ⟨by rw [h1,h2],hz,h3,k⟩
theorem lname_at {s1:ByteArray} (hq:nameD W d=(s1,W1,d1)):∀ V,LnS V b p W d→Calls Tryz.prog 57 #[.pointer (some ⟨b,0,none⟩)] V fun e w'=>e=.returned (.string s1)∧s1.size≤4096∧LnS w' b p W1 d1∧Kw b V w':=fun V h =>
 (lname_dn b p W d V h).mono fun e w' ⟨k,v,h1,h2,h3⟩=>by
  rw [hq] at h2 h3
  exact ⟨by rw [h1,h2.1],h2.2,h3,k⟩
theorem lnum_at {n:Int} (hq:numD W d=(n,W1,d1)):∀ V,LnS V b p W d→Calls Tryz.prog 33 #[.pointer (some ⟨b,0,none⟩)] V fun e w'=>e=.returned (.int .i64 n)∧LnS w' b p W1 d1∧Kw b V w':=fun V h =>
 (lnumber_dn b p W d V h).mono fun e w' ⟨k,v,h1,h2,h3⟩=>by
  rw [hq] at h2 h3
  exact ⟨by rw [h1,h2],h3,k⟩
theorem lnames_at {l:List ByteArray} (hq:manyB nameV W d=(l,W1,d1)):∀ V,LnS V b p W d→Calls Tryz.prog 88 #[.pointer (some ⟨b,0,none⟩)] V fun e w'=>∃ A c,e=.returned (.slice A l.length c)∧NamesN b V.heap.size w' (.slice A l.length c) l∧LnS w' b p W1 d1∧Kw b V w':=fun V h =>
 (names_dn b p W d V h).mono fun e w' ⟨k,v,h1,h2,h3⟩=>by
  rw [hq] at h2 h3
  obtain ⟨hd,h4,h5⟩:=h2.1
  exact ⟨hd.a,hd.c,by rw [h1,h4],⟨⟨hd,rfl,h5⟩,h2.2⟩,h3,k⟩
theorem lval_at {x:Val} (hq:valD W d=(x,W1,d1)):∀ V,LnS V b p W d→Calls Tryz.prog 60 #[.pointer (some ⟨b,0,none⟩)] V fun e w'=>e=.returned (.agg #[.int .i64 x.kind,.int .i64 x.int,.string x.text])∧x.text.size≤4096∧LnS w' b p W1 d1∧Kw b V w':=fun V h =>
 (value_dn b p W d V h).mono fun e w' ⟨k,v,h1,h2,h3⟩=>by
  rw [hq] at h2 h3
  exact ⟨by rw [h1,h2.1],h2.2,h3,k⟩
theorem lcol_at {x:Col} (hq:colD W d=(x,W1,d1)):∀ V,LnS V b p W d→Calls Tryz.prog 58 #[.pointer (some ⟨b,0,none⟩)] V fun e w'=>e=.returned (.agg #[.string x.name,.int .i64 x.kind,.bool x.null])∧x.name.size≤4096∧LnS w' b p W1 d1∧Kw b V w':=fun V h =>
 (column_dn b p W d V h).mono fun e w' ⟨k,v,h1,h2,h3⟩=>by
  rw [hq] at h2 h3
  exact ⟨by rw [h1,h2.1],h2.2,h3,k⟩
end
theorem NamesN.hi {b B:Nat} {w w':World} {v:Value} {l:List ByteArray} {P:Nat→Prop} (h:NamesN b B w v l) (k:Kb P w w') (hp:∀ g,P g→g < B):NamesN b B w' v l:=⟨h.1.hi k hp,h.2⟩
theorem NamesN.kw {b B:Nat} {w w':World} {v:Value} {l:List ByteArray} (h:NamesN b B w v l) (k:Kw b w w'):NamesN b B w' v l:=⟨h.1.kw k,h.2⟩
theorem NamesN.down {b B B0:Nat} {w:World} {v:Value} {l:List ByteArray} (h:NamesN b B w v l) (hB:B0≤B) (hb:b < B0):NamesN b B0 w v l:=⟨h.1.down hB hb,h.2⟩
theorem namesN_nil (b B:Nat) (w:World) (hb:b < B):NamesN b B w (.slice none 0 0) []:=⟨own_nilD _ _ _ b B w hb,by simp,by simp⟩
def RulN (b B:Nat) (w':World) (v:Value) (r:Rul):Prop :=
 ∃ A c,v=.agg #[.string r.name,.int .i64 r.kind,.slice A r.cols.length c,.int .i64 r.low,.int .i64 r.high,.string r.schema,.string r.table,.string r.key]∧NamesN b B w' (.slice A r.cols.length c) r.cols∧r.name.size≤4096∧r.schema.size≤4096∧r.table.size≤4096∧r.key.size≤4096
theorem ruleN_index (f:ByteArray) (h:eqS f b_index=true) (b p:Nat) (W:Ws) (d:Bool) (w:World) (hl:LnS w b p W d):Calls Tryz.prog 59 #[.pointer (some ⟨b,0,none⟩),.string f] w (RdN b p w (RulN b w.heap.size) (ruleD f W d)):=by
 obtain ⟨s1,W1,d1,q1⟩:∃ a c e,nameD W d=(a,c,e):=⟨_,_,_,rfl⟩
 have H1:=gH (lname_at (b:=b) (p:=p) q1)
 obtain ⟨l2,W2,d2,q2⟩:∃ a c e,manyB nameV W1 d1=(a,c,e):=⟨_,_,_,rfl⟩
 have H2:=gH (lnames_at (b:=b) (p:=p) q2)
 have e:ruleD f W d=(⟨s1,1,l2,0,0,zBy,zBy,zBy⟩,W2,d2):=by simp only [ruleD,bindD,q1,q2,h,if_true]
 rw [e]
 have ih:=eqS_as h
 unfold b_index at ih
 simp only at ih
 have HX0:=gH (Nr.start hl [.string ⟨#[]⟩,.int .i64 0,.slice none 0 0,.int .i64 0,.int .i64 0,.string ⟨#[]⟩,.string ⟨#[]⟩,.string ⟨#[]⟩] 28)
 have hb:=hl.lt
 have HB:=gH hb
 clear e hl h q1 q2
 go_enter Tryz.func59,Tryz.ntmps59
 go_wp2_with (first
  | (go_at_call 57;with_reducible refine (H1.out _ HX0.out.ds).mono ?_;rintro e w1 ⟨rfl,g1,l1,k1⟩;have X1:=(HX0.out.call k1 l1).box [.string s1,.int .i64 1,.slice none 0 0,.int .i64 0,.int .i64 0,.string ⟨#[]⟩,.string ⟨#[]⟩,.string ⟨#[]⟩] 28;have z1:=X1.lt;obtain ⟨z10,z11,z12⟩:=z1;have X1s:=gH X1;clear l1 k1 X1)
  | (go_at_call 88;with_reducible refine (H2.out _ X1s.out.nr.ds).mono ?_;rintro e w2 ⟨A2,c2,rfl,g2,m2,k2⟩;have X2:=X1s.out.call k2 m2;obtain ⟨ca2,fa2⟩:=X2.cf 2 (by simp);have z2:=X2.lt;obtain ⟨z20,z21,z22⟩:=z2;have X2s:Nx b p w.heap.size w1.heap.size w _ W2 d2 [.string ⟨#[]⟩,.int .i64 0,.slice none 0 0,.int .i64 0,.int .i64 0,.string ⟨#[]⟩,.string ⟨#[]⟩,.string ⟨#[]⟩] [.string s1,.int .i64 1,.slice A2 l2.length c2,.int .i64 0,.int .i64 0,.string ⟨#[]⟩,.string ⟨#[]⟩,.string ⟨#[]⟩]:=X2.set 2 (.slice A2 l2.length c2) (by simp);have X2s:=gH X2s;have e1:=lvRul_row X2s.out.row rfl;have e2:=svRul_row X2s.out.nr.res rfl rfl (vs:=[.string s1,.int .i64 1,.slice A2 l2.length c2,.int .i64 0,.int .i64 0,.string ⟨#[]⟩,.string ⟨#[]⟩,.string ⟨#[]⟩]) (by simp [Value.oneCell']);clear m2 k2 X2))
 have XR:=X2s.out.nr.sets (cs:=[.string s1,.int .i64 1,.slice A2 l2.length c2,.int .i64 0,.int .i64 0,.string ⟨#[]⟩,.string ⟨#[]⟩,.string ⟨#[]⟩]) rfl
 refine bodyPost_ret (results_cell rfl _ rfl (lv_row (T:=28) Tryz.underlying28 (by kernel_rfl) XR.res rfl)) rfl ?_
 have S:=X1s.out.lt
 have S2:=X1s.out.nr.kw.size
 have G:=((g2.hi (Kb.set w2 w1.heap.size 2 (.slice A2 l2.length c2)) (fun g e=>by have e':g=w1.heap.size:=e;omega)).hi (kb_setCellsD w.heap.size [.string s1,.int .i64 1,.slice A2 l2.length c2,.int .i64 0,.int .i64 0,.string ⟨#[]⟩,.string ⟨#[]⟩,.string ⟨#[]⟩] _ 0) (fun g e=>by have e':g=w.heap.size:=e;omega)).down (B0:=w.heap.size) S2 HB.out
 exact ⟨XR.kw,_,rfl,⟨A2,c2,rfl,G,g1,Nat.zero_le _,Nat.zero_le _,Nat.zero_le _⟩,XR.ds⟩
theorem ruleN_key (f:ByteArray) (h0:eqS f b_index=false) (h:eqS f b_key=true) (b p:Nat) (W:Ws) (d:Bool) (w:World) (hl:LnS w b p W d):Calls Tryz.prog 59 #[.pointer (some ⟨b,0,none⟩),.string f] w (RdN b p w (RulN b w.heap.size) (ruleD f W d)):=by
 obtain ⟨s1,W1,d1,q1⟩:∃ a c e,nameD W d=(a,c,e):=⟨_,_,_,rfl⟩
 have H1:=gH (lname_at (b:=b) (p:=p) q1)
 obtain ⟨l2,W2,d2,q2⟩:∃ a c e,manyB nameV W1 d1=(a,c,e):=⟨_,_,_,rfl⟩
 have H2:=gH (lnames_at (b:=b) (p:=p) q2)
 have e:ruleD f W d=(⟨s1,2,l2,0,0,zBy,zBy,zBy⟩,W2,d2):=by simp only [ruleD,bindD,q1,q2,h0,h,if_true,Bool.false_eq_true,if_false]
 rw [e]
 have ih0:=eqS_as h0
 unfold b_index at ih0
 simp only at ih0
 have ih:=eqS_as h
 unfold b_key at ih
 simp only at ih
 have HX0:=gH (Nr.start hl [.string ⟨#[]⟩,.int .i64 0,.slice none 0 0,.int .i64 0,.int .i64 0,.string ⟨#[]⟩,.string ⟨#[]⟩,.string ⟨#[]⟩] 28)
 have hb:=hl.lt
 have HB:=gH hb
 clear e hl h0 h q1 q2
 go_enter Tryz.func59,Tryz.ntmps59
 go_wp2_with (first
  | (go_at_call 57;with_reducible refine (H1.out _ HX0.out.ds).mono ?_;rintro e w1 ⟨rfl,g1,l1,k1⟩;have X1:=(HX0.out.call k1 l1).box [.string s1,.int .i64 2,.slice none 0 0,.int .i64 0,.int .i64 0,.string ⟨#[]⟩,.string ⟨#[]⟩,.string ⟨#[]⟩] 28;have z1:=X1.lt;obtain ⟨z10,z11,z12⟩:=z1;have X1s:=gH X1;clear l1 k1 X1)
  | (go_at_call 88;with_reducible refine (H2.out _ X1s.out.nr.ds).mono ?_;rintro e w2 ⟨A2,c2,rfl,g2,m2,k2⟩;have X2:=X1s.out.call k2 m2;obtain ⟨ca2,fa2⟩:=X2.cf 2 (by simp);have z2:=X2.lt;obtain ⟨z20,z21,z22⟩:=z2;have X2s:Nx b p w.heap.size w1.heap.size w _ W2 d2 [.string ⟨#[]⟩,.int .i64 0,.slice none 0 0,.int .i64 0,.int .i64 0,.string ⟨#[]⟩,.string ⟨#[]⟩,.string ⟨#[]⟩] [.string s1,.int .i64 2,.slice A2 l2.length c2,.int .i64 0,.int .i64 0,.string ⟨#[]⟩,.string ⟨#[]⟩,.string ⟨#[]⟩]:=X2.set 2 (.slice A2 l2.length c2) (by simp);have X2s:=gH X2s;have e1:=lvRul_row X2s.out.row rfl;have e2:=svRul_row X2s.out.nr.res rfl rfl (vs:=[.string s1,.int .i64 2,.slice A2 l2.length c2,.int .i64 0,.int .i64 0,.string ⟨#[]⟩,.string ⟨#[]⟩,.string ⟨#[]⟩]) (by simp [Value.oneCell']);clear m2 k2 X2))
 have XR:=X2s.out.nr.sets (cs:=[.string s1,.int .i64 2,.slice A2 l2.length c2,.int .i64 0,.int .i64 0,.string ⟨#[]⟩,.string ⟨#[]⟩,.string ⟨#[]⟩]) rfl
 refine bodyPost_ret (results_cell rfl _ rfl (lv_row (T:=28) Tryz.underlying28 (by kernel_rfl) XR.res rfl)) rfl ?_
 have S:=X1s.out.lt
 have S2:=X1s.out.nr.kw.size
 have G:=((g2.hi (Kb.set w2 w1.heap.size 2 (.slice A2 l2.length c2)) (fun g e=>by have e':g=w1.heap.size:=e;omega)).hi (kb_setCellsD w.heap.size [.string s1,.int .i64 2,.slice A2 l2.length c2,.int .i64 0,.int .i64 0,.string ⟨#[]⟩,.string ⟨#[]⟩,.string ⟨#[]⟩] _ 0) (fun g e=>by have e':g=w.heap.size:=e;omega)).down (B0:=w.heap.size) S2 HB.out
 exact ⟨XR.kw,_,rfl,⟨A2,c2,rfl,G,g1,Nat.zero_le _,Nat.zero_le _,Nat.zero_le _⟩,XR.ds⟩
theorem ruleN_foreign (f:ByteArray) (h0:eqS f b_index=false) (h1:eqS f b_key=false) (h2:eqS f b_check=false) (h:eqS f b_foreign=true) (b p:Nat) (W:Ws) (d:Bool) (w:World) (hl:LnS w b p W d):Calls Tryz.prog 59 #[.pointer (some ⟨b,0,none⟩),.string f] w (RdN b p w (RulN b w.heap.size) (ruleD f W d)):=by
 obtain ⟨s1,W1,d1,q1⟩:∃ a c e,nameD W d=(a,c,e):=⟨_,_,_,rfl⟩
 have H1:=gH (lname_at (b:=b) (p:=p) q1)
 obtain ⟨s2,W2,d2,q2⟩:∃ a c e,nameD W1 d1=(a,c,e):=⟨_,_,_,rfl⟩
 have H2:=gH (lname_at (b:=b) (p:=p) q2)
 obtain ⟨s3,W3,d3,q3⟩:∃ a c e,nameD W2 d2=(a,c,e):=⟨_,_,_,rfl⟩
 have H3:=gH (lname_at (b:=b) (p:=p) q3)
 obtain ⟨s4,W4,d4,q4⟩:∃ a c e,nameD W3 d3=(a,c,e):=⟨_,_,_,rfl⟩
 have H4:=gH (lname_at (b:=b) (p:=p) q4)
 obtain ⟨l5,W5,d5,q5⟩:∃ a c e,manyB nameV W4 d4=(a,c,e):=⟨_,_,_,rfl⟩
 have H5:=gH (lnames_at (b:=b) (p:=p) q5)
 have e:ruleD f W d=(⟨s1,4,l5,0,0,s2,s3,s4⟩,W5,d5):=by simp only [ruleD,bindD,q1,q2,q3,q4,q5,h0,h1,h2,h,if_true,Bool.false_eq_true,if_false]
 rw [e]
 have ih0:=eqS_as h0
 unfold b_index at ih0
 simp only at ih0
 have ih1:=eqS_as h1
 unfold b_key at ih1
 simp only at ih1
 have ih2:=eqS_as h2
 unfold b_check at ih2
 simp only at ih2
 have ih:=eqS_as h
 unfold b_foreign at ih
 simp only at ih
 have HX0:=gH (Nr.start hl [.string ⟨#[]⟩,.int .i64 0,.slice none 0 0,.int .i64 0,.int .i64 0,.string ⟨#[]⟩,.string ⟨#[]⟩,.string ⟨#[]⟩] 28)
 have hb:=hl.lt
 have HB:=gH hb
 clear e hl h0 h1 h2 h q1 q2 q3 q4 q5
 go_enter Tryz.func59,Tryz.ntmps59
 go_wp2_with (first
  | (go_at_call 57;with_reducible refine (H1.out _ HX0.out.ds).mono ?_;rintro e w1 ⟨rfl,g1,l1,k1⟩;have X1:=(HX0.out.call k1 l1).box [.string s1,.int .i64 4,.slice none 0 0,.int .i64 0,.int .i64 0,.string ⟨#[]⟩,.string ⟨#[]⟩,.string ⟨#[]⟩] 28;have z1:=X1.lt;obtain ⟨z10,z11,z12⟩:=z1;have X1s:=gH X1;clear l1 k1 X1)
  | (go_at_call 57;with_reducible refine (H2.out _ X1s.out.nr.ds).mono ?_;rintro e w2 ⟨rfl,g2,m2,k2⟩;have X2:=X1s.out.call k2 m2;obtain ⟨ca2,fa2⟩:=X2.cf 5 (by simp);have z2:=X2.lt;obtain ⟨z20,z21,z22⟩:=z2;have X2s:Nx b p w.heap.size w1.heap.size w _ W2 d2 [.string ⟨#[]⟩,.int .i64 0,.slice none 0 0,.int .i64 0,.int .i64 0,.string ⟨#[]⟩,.string ⟨#[]⟩,.string ⟨#[]⟩] [.string s1,.int .i64 4,.slice none 0 0,.int .i64 0,.int .i64 0,.string s2,.string ⟨#[]⟩,.string ⟨#[]⟩]:=X2.set 5 (.string s2) (by simp);have X2s:=gH X2s;clear m2 k2 X2)
  | (go_at_call 57;with_reducible refine (H3.out _ X2s.out.nr.ds).mono ?_;rintro e w3 ⟨rfl,g3,m3,k3⟩;have X3:=X2s.out.call k3 m3;obtain ⟨ca3,fa3⟩:=X3.cf 6 (by simp);have z3:=X3.lt;obtain ⟨z30,z31,z32⟩:=z3;have X3s:Nx b p w.heap.size w1.heap.size w _ W3 d3 [.string ⟨#[]⟩,.int .i64 0,.slice none 0 0,.int .i64 0,.int .i64 0,.string ⟨#[]⟩,.string ⟨#[]⟩,.string ⟨#[]⟩] [.string s1,.int .i64 4,.slice none 0 0,.int .i64 0,.int .i64 0,.string s2,.string s3,.string ⟨#[]⟩]:=X3.set 6 (.string s3) (by simp);have X3s:=gH X3s;clear m3 k3 X3)
  | (go_at_call 57;with_reducible refine (H4.out _ X3s.out.nr.ds).mono ?_;rintro e w4 ⟨rfl,g4,m4,k4⟩;have X4:=X3s.out.call k4 m4;obtain ⟨ca4,fa4⟩:=X4.cf 7 (by simp);have z4:=X4.lt;obtain ⟨z40,z41,z42⟩:=z4;have X4s:Nx b p w.heap.size w1.heap.size w _ W4 d4 [.string ⟨#[]⟩,.int .i64 0,.slice none 0 0,.int .i64 0,.int .i64 0,.string ⟨#[]⟩,.string ⟨#[]⟩,.string ⟨#[]⟩] [.string s1,.int .i64 4,.slice none 0 0,.int .i64 0,.int .i64 0,.string s2,.string s3,.string s4]:=X4.set 7 (.string s4) (by simp);have X4s:=gH X4s;clear m4 k4 X4)
  | (go_at_call 88;with_reducible refine (H5.out _ X4s.out.nr.ds).mono ?_;rintro e w5 ⟨A5,c5,rfl,g5,m5,k5⟩;have X5:=X4s.out.call k5 m5;obtain ⟨ca5,fa5⟩:=X5.cf 2 (by simp);have z5:=X5.lt;obtain ⟨z50,z51,z52⟩:=z5;have X5s:Nx b p w.heap.size w1.heap.size w _ W5 d5 [.string ⟨#[]⟩,.int .i64 0,.slice none 0 0,.int .i64 0,.int .i64 0,.string ⟨#[]⟩,.string ⟨#[]⟩,.string ⟨#[]⟩] [.string s1,.int .i64 4,.slice A5 l5.length c5,.int .i64 0,.int .i64 0,.string s2,.string s3,.string s4]:=X5.set 2 (.slice A5 l5.length c5) (by simp);have X5s:=gH X5s;have e1:=lvRul_row X5s.out.row rfl;have e2:=svRul_row X5s.out.nr.res rfl rfl (vs:=[.string s1,.int .i64 4,.slice A5 l5.length c5,.int .i64 0,.int .i64 0,.string s2,.string s3,.string s4]) (by simp [Value.oneCell']);clear m5 k5 X5))
 have XR:=X5s.out.nr.sets (cs:=[.string s1,.int .i64 4,.slice A5 l5.length c5,.int .i64 0,.int .i64 0,.string s2,.string s3,.string s4]) rfl
 refine bodyPost_ret (results_cell rfl _ rfl (lv_row (T:=28) Tryz.underlying28 (by kernel_rfl) XR.res rfl)) rfl ?_
 have S:=X4s.out.lt
 have S2:=X4s.out.nr.kw.size
 have G:=((g5.hi (Kb.set w5 w1.heap.size 2 (.slice A5 l5.length c5)) (fun g e=>by have e':g=w1.heap.size:=e;omega)).hi (kb_setCellsD w.heap.size [.string s1,.int .i64 4,.slice A5 l5.length c5,.int .i64 0,.int .i64 0,.string s2,.string s3,.string s4] _ 0) (fun g e=>by have e':g=w.heap.size:=e;omega)).down (B0:=w.heap.size) S2 HB.out
 exact ⟨XR.kw,_,rfl,⟨A5,c5,rfl,G,g1,g2,g3,g4⟩,XR.ds⟩
theorem ruleN_none (f:ByteArray) (h0:eqS f b_index=false) (h1:eqS f b_key=false) (h2:eqS f b_check=false) (h3:eqS f b_foreign=false) (b p:Nat) (W:Ws) (d:Bool) (w:World) (hl:LnS w b p W d):Calls Tryz.prog 59 #[.pointer (some ⟨b,0,none⟩),.string f] w (RdN b p w (RulN b w.heap.size) (ruleD f W d)):=by
 obtain ⟨s1,W1,d1,q1⟩:∃ a c e,nameD W d=(a,c,e):=⟨_,_,_,rfl⟩
 have H1:=gH (lname_at (b:=b) (p:=p) q1)
 have e:ruleD f W d=(⟨s1,0,[],0,0,zBy,zBy,zBy⟩,W1,d1):=by simp only [ruleD,bindD,q1,h0,h1,h2,h3,Bool.false_eq_true,if_false]
 rw [e]
 have ih0:=eqS_as h0
 unfold b_index at ih0
 simp only at ih0
 have ih1:=eqS_as h1
 unfold b_key at ih1
 simp only at ih1
 have ih2:=eqS_as h2
 unfold b_check at ih2
 simp only at ih2
 have ih3:=eqS_as h3
 unfold b_foreign at ih3
 simp only at ih3
 have HX0:=gH (Nr.start hl [.string ⟨#[]⟩,.int .i64 0,.slice none 0 0,.int .i64 0,.int .i64 0,.string ⟨#[]⟩,.string ⟨#[]⟩,.string ⟨#[]⟩] 28)
 have hb:=hl.lt
 have HB:=gH hb
 clear e hl h0 h1 h2 h3 q1
 go_enter Tryz.func59,Tryz.ntmps59
 go_wp2_with (first
  | (go_at_call 57;with_reducible refine (H1.out _ HX0.out.ds).mono ?_;rintro e w1 ⟨rfl,g1,l1,k1⟩;have X1:=(HX0.out.call k1 l1).box [.string s1,.int .i64 0,.slice none 0 0,.int .i64 0,.int .i64 0,.string ⟨#[]⟩,.string ⟨#[]⟩,.string ⟨#[]⟩] 28;have z1:=X1.lt;obtain ⟨z10,z11,z12⟩:=z1;have X1s:=gH X1;have e1:=lvRul_row X1s.out.row rfl;have e2:=svRul_row X1s.out.nr.res rfl rfl (vs:=[.string s1,.int .i64 0,.slice none 0 0,.int .i64 0,.int .i64 0,.string ⟨#[]⟩,.string ⟨#[]⟩,.string ⟨#[]⟩]) (by simp [Value.oneCell']);clear l1 k1 X1))
 have XR:=X1s.out.nr.sets (cs:=[.string s1,.int .i64 0,.slice none 0 0,.int .i64 0,.int .i64 0,.string ⟨#[]⟩,.string ⟨#[]⟩,.string ⟨#[]⟩]) rfl
 refine bodyPost_ret (results_cell rfl _ rfl (lv_row (T:=28) Tryz.underlying28 (by kernel_rfl) XR.res rfl)) rfl ?_
 exact ⟨XR.kw,_,rfl,⟨none,0,rfl,namesN_nil _ _ _ HB.out,g1,Nat.zero_le _,Nat.zero_le _,Nat.zero_le _⟩,XR.ds⟩
theorem NamesN.one {w1 w5:World} {b gg cap:Nat} {s:ByteArray} (h:w5.ownsRow w1.heap.size 9 1 (.slice (some ⟨gg,0,none⟩) (0+1) cap) (0+1) ([]++[.string s])) (hb:b < w1.heap.size) (hs:s.size≤4096):NamesN b w1.heap.size w5 (.slice (some ⟨gg,0,none⟩) 1 cap) [s] :=
 ⟨⟨⟨some ⟨gg,0,none⟩,1,cap⟩,rfl,h,hb⟩,by simp,by
  intro x hx
  rw [List.mem_singleton.1 hx]
  exact hs⟩
theorem aft_app {w w5:World} {o:Obj} (hg:(w.alloc o).grownBy w5 (Value.slice none 0 0).ownBlock):Aft w w5:=aft_grownN (Aft.refl w) (fun k hk=>by cases hk) hg
theorem ruleN_check (f:ByteArray) (h0:eqS f b_index=false) (h1:eqS f b_key=false) (h:eqS f b_check=true) (b p:Nat) (W:Ws) (d:Bool) (w:World) (hl:LnS w b p W d):Calls Tryz.prog 59 #[.pointer (some ⟨b,0,none⟩),.string f] w (RdN b p w (RulN b w.heap.size) (ruleD f W d)):=by
 obtain ⟨s1,W1,d1,q1⟩:∃ a c e,nameD W d=(a,c,e):=⟨_,_,_,rfl⟩
 have H1:=gH (lname_at (b:=b) (p:=p) q1)
 obtain ⟨s2,W2,d2,q2⟩:∃ a c e,nameD W1 d1=(a,c,e):=⟨_,_,_,rfl⟩
 have H2:=gH (lname_at (b:=b) (p:=p) q2)
 obtain ⟨n3,W3,d3,q3⟩:∃ a c e,numD W2 d2=(a,c,e):=⟨_,_,_,rfl⟩
 have H3:=gH (lnum_at (b:=b) (p:=p) q3)
 obtain ⟨n4,W4,d4,q4⟩:∃ a c e,numD W3 d3=(a,c,e):=⟨_,_,_,rfl⟩
 have H4:=gH (lnum_at (b:=b) (p:=p) q4)
 have e:ruleD f W d=(⟨s1,3,[s2],n3,n4,zBy,zBy,zBy⟩,W4,d4):=by simp only [ruleD,bindD,q1,q2,q3,q4,h0,h1,h,if_true,Bool.false_eq_true,if_false]
 rw [e]
 have ih0:=eqS_as h0
 unfold b_index at ih0
 simp only at ih0
 have ih1:=eqS_as h1
 unfold b_key at ih1
 simp only at ih1
 have ih:=eqS_as h
 unfold b_check at ih
 simp only at ih
 have HX0:=gH (Nr.start hl [.string ⟨#[]⟩,.int .i64 0,.slice none 0 0,.int .i64 0,.int .i64 0,.string ⟨#[]⟩,.string ⟨#[]⟩,.string ⟨#[]⟩] 28)
 have hb:=hl.lt
 have HB:=gH hb
 clear e hl h0 h1 h q1 q2 q3 q4
 go_enter Tryz.func59,Tryz.ntmps59
 go_wp2_with (first
  | (go_at_call 57;with_reducible refine (H1.out _ HX0.out.ds).mono ?_;rintro e w1 ⟨rfl,g1,l1,k1⟩;have X1:=(HX0.out.call k1 l1).box [.string s1,.int .i64 3,.slice none 0 0,.int .i64 0,.int .i64 0,.string ⟨#[]⟩,.string ⟨#[]⟩,.string ⟨#[]⟩] 28;have z1:=X1.lt;obtain ⟨z10,z11,z12⟩:=z1;have X1s:=gH X1;clear l1 k1 X1)
  | (go_at_call 57;with_reducible refine (H2.out _ X1s.out.nr.ds).mono ?_;rintro e w2 ⟨rfl,g2,m2,k2⟩;have X2:=X1s.out.call k2 m2;obtain ⟨ca2,fa2⟩:=X2.cf 2 (by simp);have z2:=X2.lt;obtain ⟨z20,z21,z22⟩:=z2;have X2s:=gH X2;clear m2 k2 X2)
  | (at_builtin;go_must (refine app_desk Tryz.underlying26 infoDS rfl (by decide) (by decide) rfl _ _ rfl w2.heap.size (.slice none 0 0) 0 [] rfl (own_nilN _) w2.heap.size [.string s2] rfl (heap_alloc_new w2 _) rfl (by simp [Value.oneCell']) (by omega) (by simp) ?_);intro gg cap' w5 hown5 hgrow hat;have X5:=X2s.out.aft (aft_app hgrow);have G5:=gH (NamesN.one hown5 z20 g2);obtain ⟨ca5,fa5⟩:=X5.cf 2 (by simp);have z5:=X5.lt;obtain ⟨z50,z51,z52⟩:=z5;have X5s:Nx b p w.heap.size w1.heap.size w _ W2 d2 [.string ⟨#[]⟩,.int .i64 0,.slice none 0 0,.int .i64 0,.int .i64 0,.string ⟨#[]⟩,.string ⟨#[]⟩,.string ⟨#[]⟩] [.string s1,.int .i64 3,.slice (some ⟨gg,0,none⟩) 1 cap',.int .i64 0,.int .i64 0,.string ⟨#[]⟩,.string ⟨#[]⟩,.string ⟨#[]⟩]:=X5.set 2 (.slice (some ⟨gg,0,none⟩) 1 cap') (by simp);have X5s:=gH X5s;clear hown5 hgrow hat X5)
  | (go_at_call 33;with_reducible refine (H3.out _ X5s.out.nr.ds).mono ?_;rintro e w6 ⟨rfl,m6,k6⟩;have X6:=X5s.out.call k6 m6;have K6:=gH k6;obtain ⟨ca6,fa6⟩:=X6.cf 3 (by simp);have z6:=X6.lt;obtain ⟨z60,z61,z62⟩:=z6;have X6s:Nx b p w.heap.size w1.heap.size w _ W3 d3 [.string ⟨#[]⟩,.int .i64 0,.slice none 0 0,.int .i64 0,.int .i64 0,.string ⟨#[]⟩,.string ⟨#[]⟩,.string ⟨#[]⟩] [.string s1,.int .i64 3,.slice (some ⟨gg,0,none⟩) 1 cap',.int .i64 n3,.int .i64 0,.string ⟨#[]⟩,.string ⟨#[]⟩,.string ⟨#[]⟩]:=X6.set 3 (.int .i64 n3) (by simp);have X6s:=gH X6s;clear m6 k6 X6)
  | (go_at_call 33;with_reducible refine (H4.out _ X6s.out.nr.ds).mono ?_;rintro e w7 ⟨rfl,m7,k7⟩;have X7:=X6s.out.call k7 m7;have K7:=gH k7;obtain ⟨ca7,fa7⟩:=X7.cf 4 (by simp);have z7:=X7.lt;obtain ⟨z70,z71,z72⟩:=z7;have X7s:Nx b p w.heap.size w1.heap.size w _ W4 d4 [.string ⟨#[]⟩,.int .i64 0,.slice none 0 0,.int .i64 0,.int .i64 0,.string ⟨#[]⟩,.string ⟨#[]⟩,.string ⟨#[]⟩] [.string s1,.int .i64 3,.slice (some ⟨gg,0,none⟩) 1 cap',.int .i64 n3,.int .i64 n4,.string ⟨#[]⟩,.string ⟨#[]⟩,.string ⟨#[]⟩]:=X7.set 4 (.int .i64 n4) (by simp);have X7s:=gH X7s;have e1:=lvRul_row X7s.out.row rfl;have e2:=svRul_row X7s.out.nr.res rfl rfl (vs:=[.string s1,.int .i64 3,.slice (some ⟨gg,0,none⟩) 1 cap',.int .i64 n3,.int .i64 n4,.string ⟨#[]⟩,.string ⟨#[]⟩,.string ⟨#[]⟩]) (by simp [Value.oneCell']);clear m7 k7 X7))
 have XR:=X7s.out.nr.sets (cs:=[.string s1,.int .i64 3,.slice (some ⟨gg,0,none⟩) 1 cap',.int .i64 n3,.int .i64 n4,.string ⟨#[]⟩,.string ⟨#[]⟩,.string ⟨#[]⟩]) rfl
 refine bodyPost_ret (results_cell rfl _ rfl (lv_row (T:=28) Tryz.underlying28 (by kernel_rfl) XR.res rfl)) rfl ?_
 have S:=X1s.out.lt
 have S2:=X2s.out.nr.kw.size
 have S3:=X2s.out.row.1
 have S4:=X2s.out.nr.res.1
 have G:=((((((G5.out.hi (Kb.set w5 w1.heap.size 2 (.slice (some ⟨gg,0,none⟩) 1 cap')) (fun g e=>by have e':g=w1.heap.size:=e;omega)).kw K6.out).hi (Kb.set w6 w1.heap.size 3 (.int .i64 n3)) (fun g e=>by have e':g=w1.heap.size:=e;omega)).kw K7.out).hi (Kb.set w7 w1.heap.size 4 (.int .i64 n4)) (fun g e=>by have e':g=w1.heap.size:=e;omega)).hi (kb_setCellsD w.heap.size [.string s1,.int .i64 3,.slice (some ⟨gg,0,none⟩) 1 cap',.int .i64 n3,.int .i64 n4,.string ⟨#[]⟩,.string ⟨#[]⟩,.string ⟨#[]⟩] _ 0) (fun g e=>by have e':g=w.heap.size:=e;omega)).down (B0:=w.heap.size) S2 HB.out
 exact ⟨XR.kw,_,rfl,⟨some ⟨gg,0,none⟩,cap',rfl,G,g1,Nat.zero_le _,Nat.zero_le _,Nat.zero_le _⟩,XR.ds⟩
theorem rule_dn (f:ByteArray) (b p:Nat) (W:Ws) (d:Bool) (w:World) (hl:LnS w b p W d):Calls Tryz.prog 59 #[.pointer (some ⟨b,0,none⟩),.string f] w (RdN b p w (RulN b w.heap.size) (ruleD f W d)):=by
 cases h0:eqS f b_index with
 | true=>exact ruleN_index f h0 b p W d w hl
 | false =>
  cases h1:eqS f b_key with
  | true=>exact ruleN_key f h0 h1 b p W d w hl
  | false =>
   cases h2:eqS f b_check with
   | true=>exact ruleN_check f h0 h1 h2 b p W d w hl
   | false =>
    cases h3:eqS f b_foreign with
    | true=>exact ruleN_foreign f h0 h1 h2 h3 b p W d w hl
    | false=>exact ruleN_none f h0 h1 h2 h3 b p W d w hl
end Go.Proofs.YtbdanlipghhgpaaGreatDoor
