import Derived.Test.YtbdanlipghhgpaaGreatDoorPartP2
namespace Go.Proofs.YtbdanlipghhgpaaGreatDoor
set_option maxRecDepth 100000
set_option linter.unusedVariables false
set_option maxHeartbeats 64000000
def itoaB (n:Int):ByteArray:=wd (Lib.itoa n)
def catB (a b:ByteArray):ByteArray:=wd (a.data.toList++b.data.toList)
def b_cint:ByteArray:=⟨#[58,105,110,116]⟩
def b_ctext:ByteArray:=⟨#[58,116,101,120,116]⟩
def b_nul:ByteArray:=⟨#[63]⟩
def b_quo:ByteArray:=⟨#[39]⟩
def colT (c:Col):ByteArray:=if c.null then catB (catB c.name (if c.kind=2 then b_cint else b_ctext)) b_nul else catB c.name (if c.kind=2 then b_cint else b_ctext)
def valT (v:Val):ByteArray:=if v.kind=1 then b_null else if v.kind=2 then itoaB v.int else catB b_quo v.text
def nmsL (l:List ByteArray):Option Ws:=if l.all nameB then some l else none
def nusL (l:List Int):Option Ws:=if l.all inN then some (l.map itoaB) else none
def colsL (l:List Col):Option Ws:=if l.all (fun c=>nameB c.name) then some (l.map colT) else none
def okV (v:Val):Bool:=if v.kind=2 then inN v.int else txtB v.text
def valsL (l:List Val):Option Ws:=if l.all okV then some (l.map valT) else none
def andL (a b:Option Ws):Option Ws:=a.bind fun l=>b.map (l++·)
def ruleL (x:Cmd):Option Ws :=
 andL (if x.rule.kind=1 then some [b_index] else if x.rule.kind=2 then some [b_key] else if x.rule.kind=3 then some [b_check] else if x.rule.kind=4 then some [b_foreign] else none)
  (andL (nmsL [x.actor,x.schema,x.table,x.rule.name]) (andL (if x.rule.kind=4 then nmsL [x.rule.schema,x.rule.table,x.rule.key] else some [])
   (andL (nmsL x.rule.cols) (if x.rule.kind=3 then nusL [x.rule.low,x.rule.high] else some []))))
def onTabL (w:ByteArray) (x:Cmd):Option Ws:=andL (some [w]) (nmsL [x.actor,x.schema,x.table])
def rightL (x:Cmd):Option Ws:=andL (some [if x.right=1 then b_read else b_write]) (andL (nmsL [x.role]) (some (if x.opt then [b_option] else [])))
def cmdL (x:Cmd):Option Ws :=
 if x.kind=1 then andL (some [b_schema]) (nmsL [x.actor,x.schema])
 else if x.kind=2 then andL (some [b_dropschema]) (nmsL [x.actor,x.schema])
 else if x.kind=3 then andL (onTabL b_table x) (colsL x.cols)
 else if x.kind=4 then onTabL b_droptable x
 else if x.kind=5 then andL (onTabL b_column x) (colsL x.cols)
 else if x.kind=6 then andL (onTabL b_dropcolumn x) (nmsL [x.name])
 else if x.kind=7 then ruleL x
 else if x.kind=8 then andL (onTabL b_droprule x) (nmsL [x.name])
 else if x.kind=9 then andL (onTabL b_owner x) (nmsL [x.role])
 else if x.kind=10 then andL (some [b_role]) (nmsL [x.actor,x.role])
 else if x.kind=11 then andL (some [b_droprole]) (nmsL [x.actor,x.role])
 else if x.kind=12 then andL (some [b_member]) (nmsL [x.actor,x.role,x.name])
 else if x.kind=13 then andL (some [b_unmember]) (nmsL [x.actor,x.role,x.name])
 else if x.kind=14 then andL (onTabL b_grant x) (rightL x)
 else if x.kind=15 then andL (onTabL b_revoke x) (rightL x)
 else none
def rowL (x:ROp):Option Ws :=
 andL (some [if x.kind=1 then b_insert else if x.kind=2 then b_remove else b_select]) (andL (nmsL [x.role,x.schema,x.table])
  (andL (if x.kind≠1∧eqS x.col zBy=false then andL (nmsL [x.col]) (valsL [x.v]) else some []) (valsL x.row)))
def chgW (k:Int):ByteArray:=if k≤1 then b_learner else if k=2 then b_voter else b_remove
def actL (a:Dact):Option Ws :=
 if a.kind=1 then andL (some [b_tick]) (nusL [a.node])
 else if a.kind=2 then some [b_world]
 else if a.kind=12 then andL (some [b_start]) (nusL [a.node])
 else if a.kind=3 then andL (some [b_deliver]) (nusL [a.n])
 else if a.kind=4 then andL (some [b_drop]) (nusL [a.n])
 else if a.kind=5 then andL (some [b_double]) (nusL [a.n])
 else if a.kind=6 then andL (some [b_ask]) (andL (nusL [a.node,a.client,a.number]) (cmdL a.cmd))
 else if a.kind=7 then andL (some [b_read]) (nusL [a.node,a.client,a.number])
 else if a.kind=8 then andL (some [chgW a.ck]) (nusL [a.node,a.cn])
 else if a.kind=9 then andL (some [b_lease]) (nusL [a.n,a.node])
 else if a.kind=10 then andL (some [b_row]) (andL (nusL [a.n]) (rowL a.row))
 else if a.kind=11 then andL (some [b_crash]) (nusL [a.node,a.n])
 else none
def lineB (W:Ws):ByteArray:=wd (joinL 32 (W.map (·.data.toList)))
def laidB (a:Dact):Option ByteArray:=(actL a).map lineB
theorem eqS_iffD (a b:ByteArray):eqS a b=true↔a=b:=by
 unfold eqS
 rw [beq_iff_eq]
 constructor
 ·intro h
  have h2:=congrArg List.toArray h
  rw [ByteArray.toList_eq,ByteArray.toList_eq] at h
  exact ba_ext h
 ·rintro rfl;rfl
theorem oneP_some {α:Type} {f:ByteArray→Option α} {W W':Ws} {x:α}:oneP f W=some (x,W')↔∃ s,W=s::W'∧f s=some x:=by
 cases W with
 | nil=>simp [oneP]
 | cons s W =>
  simp only [oneP,Option.map_eq_some_iff,Prod.mk.injEq,List.cons.injEq]
  constructor
  ·rintro ⟨y,h,rfl,rfl⟩;exact ⟨s,⟨rfl,rfl⟩,h⟩
  ·rintro ⟨_,⟨rfl,rfl⟩,h⟩;exact ⟨x,h,rfl,rfl⟩
theorem nameO_some {s t:ByteArray}:nameO s=some t↔t=s∧nameB s=true:=by
 unfold nameO
 split
 ·rename_i h
  rw [Option.some.injEq]
  exact ⟨fun e=>⟨e.symm,h⟩,fun e=>e.1.symm⟩
 ·rename_i h
  exact ⟨fun e=>(nomatch e),fun e=>absurd e.2 h⟩
theorem wordP_some {W W':Ws} {x:ByteArray} (h:wordP W=some (x,W')):W=x::W':=by
 obtain ⟨s,h1,h2⟩:=oneP_some.1 h
 simp at h2;subst h2;exact h1
theorem nameP_some {W W':Ws} {x:ByteArray} (h:nameP W=some (x,W')):W=x::W'∧nameB x=true:=by
 obtain ⟨s,h1,h2⟩:=oneP_some.1 h
 obtain ⟨rfl,h3⟩:=nameO_some.1 h2;exact ⟨h1,h3⟩
theorem numB_some {s:ByteArray} {n:Int} (h:numB s=some n):s=itoaB n∧inN n=true:=by
 obtain ⟨h1,h2⟩:=num_word h
 exact ⟨by unfold itoaB;rw [← h1,wd_of],h2⟩
theorem numP_some {W W':Ws} {n:Int} (h:numP W=some (n,W')):W=itoaB n::W'∧inN n=true:=by
 obtain ⟨s,h1,h2⟩:=oneP_some.1 h
 obtain ⟨rfl,h3⟩:=numB_some h2;exact ⟨h1,h3⟩
theorem cut_back (l:Bts) (h:(Lib.cut l [58]).2.1≠[]):l=(Lib.cut l [58]).1++58::(Lib.cut l [58]).2.1:=by
 unfold Lib.cut at h ⊢
 split
 ·rename_i h0
  obtain ⟨o,ho⟩:∃ o:Nat,Lib.index l [58]=o:=⟨_,(Int.toNat_of_nonneg h0).symm⟩
  rw [ho]
  simp only [Int.toNat_natCast,List.length_cons,List.length_nil,Nat.zero_add]
  obtain ⟨h1,_⟩:=Lib.indexByte_some ((Lib.index_one l 58).symm.trans ho)
  obtain ⟨h2,h3⟩:=List.getElem?_eq_some_iff.1 h1
  have:l.drop o=58::l.drop (o+1):=by rw [List.drop_eq_getElem_cons h2,h3]
  rw [← this,List.take_append_drop]
 ·rename_i h0
  simp [h0] at h
theorem suf_back (l:Bts) (h:Lib.hasSuffix l [63]=true):l=Lib.trimSuffix l [63]++[63]:=by
 have h':=h
 unfold Lib.trimSuffix
 rw [if_pos h]
 unfold Lib.hasSuffix at h'
 obtain ⟨t,ht⟩:=List.isSuffixOf_iff_suffix.1 h'
 subst ht
 simp
theorem suf_no (l:Bts) (h:Lib.hasSuffix l [63]=false):l=Lib.trimSuffix l [63]:=by unfold Lib.trimSuffix;rw [h];rfl
theorem colB_some {s:ByteArray} {c:Col} (h:colB s=some c):s=colT c∧nameB c.name=true∧(c.kind=2∨c.kind=3):=by
 unfold colB at h
 split at h
 ·rename_i hc
  simp only [Bool.and_eq_true,Bool.or_eq_true] at hc
  obtain ⟨hn,hk⟩:=hc
  simp only [Option.some.injEq] at h
  subst h
  have e1:(nulless s).data.toList=Lib.trimSuffix s.data.toList [63]:=wd_data _
  have hne:(Lib.cut (nulless s).data.toList [58]).2.1≠[]:=by
   intro e
   rcases hk with hk | hk
   all_goals
    rw [eqS_iffD] at hk
    have:=congrArg (fun b:ByteArray=>b.data.toList) hk
    simp only [cutK,wd_data,e] at this
    simp [b_int,b_text] at this
  have h2:=cut_back _ hne
  have e2:(cutN (nulless s)).data.toList=(Lib.cut (nulless s).data.toList [58]).1:=wd_data _
  have e3:(cutK (nulless s)).data.toList=(Lib.cut (nulless s).data.toList [58]).2.1:=wd_data _
  rw [← e2,← e3] at h2
  refine ⟨?_,hn,?_⟩
  ·apply ba_ext
   have e4:(colT ⟨cutN (nulless s),if eqS (cutK (nulless s)) b_text=true then 3 else 2,nulB s⟩).data.toList=(nulless s).data.toList++if nulB s then [63] else []:=by
    have e5:(catB (cutN (nulless s)) (if (if eqS (cutK (nulless s)) b_text=true then (3:Int) else 2)=2 then b_cint else b_ctext)).data.toList=(nulless s).data.toList:=by
     unfold catB
     rw [wd_data,h2]
     congr 1
     cases ht:eqS (cutK (nulless s)) b_text with
     | true =>
      rw [eqS_iffD] at ht
      rw [ht];rfl
     | false =>
      rw [ht] at hk
      rcases hk with hk | hk
      ·rw [eqS_iffD] at hk
       rw [hk];rfl
      ·cases hk
    generalize (if eqS (cutK (nulless s)) b_text=true then (3:Int) else 2)=q at e5 ⊢
    cases nulB s with
    | true =>
     show (catB (catB (cutN (nulless s)) (if q=2 then b_cint else b_ctext)) b_nul).data.toList=(nulless s).data.toList++[63]
     rw [catB,wd_data,e5];rfl
    | false =>
     show (catB (cutN (nulless s)) (if q=2 then b_cint else b_ctext)).data.toList=(nulless s).data.toList++[]
     rw [e5,List.append_nil]
   rw [e4]
   cases hb:nulB s with
   | true=>rw [if_pos rfl,e1];exact suf_back _ hb
   | false=>rw [if_neg (by decide),e1,List.append_nil];exact suf_no _ hb
  ·simp only
   split
   ·exact .inr rfl
   ·exact .inl rfl
 ·cases h
theorem colP_some {W W':Ws} {c:Col} (h:colP W=some (c,W')):W=colT c::W'∧nameB c.name=true∧(c.kind=2∨c.kind=3):=by
 obtain ⟨s,h1,h2⟩:=oneP_some.1 h
 obtain ⟨rfl,h3⟩:=colB_some h2;exact ⟨h1,h3⟩
theorem pre_back (l:Bts) (h:Lib.hasPrefix l [39]=true):l=39::Lib.trimPrefix l [39]:=by
 have h':=h
 unfold Lib.trimPrefix
 rw [if_pos h]
 unfold Lib.hasPrefix at h'
 obtain ⟨t,ht⟩:=List.isPrefixOf_iff_prefix.1 h'
 subst ht
 simp
theorem valB_some {s:ByteArray} {v:Val} (h:valB s=some v):s=valT v∧okV v=true∧(v.kind=1∨v.kind=2∨v.kind=3):=by
 unfold valB at h
 split at h
 ·rename_i h0
  rw [eqS_iffD] at h0
  simp only [Option.some.injEq] at h
  subst h;subst h0
  exact ⟨rfl,by decide,.inl rfl⟩
 ·split at h
  ·rename_i h1
   split at h
   ·rename_i h2
    simp only [Option.some.injEq] at h
    subst h
    refine ⟨?_,?_,.inr (.inr rfl)⟩
    ·apply ba_ext
     have:=pre_back _ h1
     simp only [valT,quoless,catB,wd_data]
     simpa [b_quo,wd_data] using this
    ·unfold okV;rw [if_neg (show ¬ (3:Int)=2 by decide)];exact h2
   ·cases h
  ·rw [Option.map_eq_some_iff] at h
   obtain ⟨n,hn,rfl⟩:=h
   obtain ⟨e,hi⟩:=numB_some hn
   refine ⟨?_,?_,.inr (.inl rfl)⟩
   ·exact e
   ·exact hi
theorem valP_some {W W':Ws} {v:Val} (h:valP W=some (v,W')):W=valT v::W'∧okV v=true∧(v.kind=1∨v.kind=2∨v.kind=3):=by
 obtain ⟨s,h1,h2⟩:=oneP_some.1 h
 obtain ⟨rfl,h3⟩:=valB_some h2;exact ⟨h1,h3⟩
theorem mapM_words {α:Type} {f:ByteArray→Option α} {T:α→ByteArray} {p:α→Prop} (hf:∀ s x,f s=some x→s=T x∧p x):∀ {W:Ws} {l:List α},W.mapM f=some l→W=l.map T∧∀ x∈l,p x
 | [],l,h=>by simp at h;subst h;exact ⟨rfl,by simp⟩
 | s::W,l,h=>by
  rw [List.mapM_cons] at h
  simp only [bind,Option.bind_eq_some_iff,pure,Option.some.injEq] at h
  obtain ⟨x,h1,m,h2,rfl⟩:=h
  obtain ⟨rfl,hp⟩:=hf s x h1
  obtain ⟨rfl,hq⟩:=mapM_words hf h2
  exact ⟨rfl,by simpa using ⟨hp,hq⟩⟩
theorem manyP_some {α:Type} {f:ByteArray→Option α} {T:α→ByteArray} {p:α→Prop} (hf:∀ s x,f s=some x→s=T x∧p x) {W W':Ws} {l:List α} (h:manyP f W=some (l,W')):W'=[]∧l≠[]∧W=l.map T∧∀ x∈l,p x:=by
 unfold manyP at h
 split at h
 ·cases h
 ·rename_i hW
  simp only [Option.map_eq_some_iff,Prod.mk.injEq] at h
  obtain ⟨m,hm,rfl,rfl⟩:=h
  obtain ⟨rfl,hp⟩:=mapM_words hf hm
  exact ⟨rfl,by intro e;subst e;exact hW rfl,rfl,hp⟩
theorem namesP_some {W W':Ws} {l:List ByteArray} (h:namesP W=some (l,W')):W'=[]∧l≠[]∧W=l∧∀ x∈l,nameB x=true:=by
 obtain ⟨h1,h2,h3,h4⟩:=manyP_some (T:=id) (p:=fun x=>nameB x=true) (fun s x hx=>by obtain ⟨rfl,h⟩:=nameO_some.1 hx;exact ⟨rfl,h⟩) h
 exact ⟨h1,h2,by simpa using h3,h4⟩
theorem colsP_some {W W':Ws} {l:List Col} (h:colsP W=some (l,W')):W'=[]∧l≠[]∧W=l.map colT∧∀ c∈l,nameB c.name=true∧(c.kind=2∨c.kind=3) :=
 manyP_some (fun _ _ h=>colB_some h) h
theorem valsP_some {W W':Ws} {l:List Val} (h:valsP W=some (l,W')):W'=[]∧l≠[]∧W=l.map valT∧∀ v∈l,okV v=true∧(v.kind=1∨v.kind=2∨v.kind=3) :=
 manyP_some (fun _ _ h=>valB_some h) h
theorem nms_all {l:List ByteArray} (h:∀ x∈l,nameB x=true):nmsL l=some l:=by unfold nmsL;rw [if_pos (List.all_eq_true.2 h)]
theorem nus_all {l:List Int} (h:∀ x∈l,inN x=true):nusL l=some (l.map itoaB):=by unfold nusL;rw [if_pos (List.all_eq_true.2 h)]
theorem cols_all {l:List Col} (h:∀ c∈l,nameB c.name=true):colsL l=some (l.map colT):=by unfold colsL;rw [if_pos (List.all_eq_true.2 h)]
theorem vals_all {l:List Val} (h:∀ c∈l,okV c=true):valsL l=some (l.map valT):=by unfold valsL;rw [if_pos (List.all_eq_true.2 h)]
theorem nms1 {a:ByteArray} (h:nameB a=true):nmsL [a]=some [a]:=nms_all (by simpa using h)
theorem nms2 {a b:ByteArray} (h:nameB a=true) (h2:nameB b=true):nmsL [a,b]=some [a,b]:=nms_all (by simp [h,h2])
theorem nms3 {a b c:ByteArray} (h:nameB a=true) (h2:nameB b=true) (h3:nameB c=true):nmsL [a,b,c]=some [a,b,c]:=nms_all (by simp [h,h2,h3])
theorem nms4 {a b c d:ByteArray} (h:nameB a=true) (h2:nameB b=true) (h3:nameB c=true) (h4:nameB d=true):nmsL [a,b,c,d]=some [a,b,c,d]:=nms_all (by simp [h,h2,h3,h4])
theorem nus1 {a:Int} (h:inN a=true):nusL [a]=some [itoaB a]:=nus_all (by simpa using h)
theorem nus2 {a b:Int} (h:inN a=true) (h2:inN b=true):nusL [a,b]=some [itoaB a,itoaB b]:=nus_all (by simp [h,h2])
theorem nus3 {a b c:Int} (h:inN a=true) (h2:inN b=true) (h3:inN c=true):nusL [a,b,c]=some [itoaB a,itoaB b,itoaB c]:=nus_all (by simp [h,h2,h3])
theorem ite_or {α:Type} {c:Prop} [Decidable c] {a b x:α} (h:(if c then a else b)=x):(c∧a=x)∨(¬ c∧b=x):=by
 by_cases hc:c
 ·rw [if_pos hc] at h;exact .inl ⟨hc,h⟩
 ·rw [if_neg hc] at h;exact .inr ⟨hc,h⟩
theorem andL_some (a b:Ws):andL (some a) (some b)=some (a++b):=rfl
theorem tableP_some {x y:Cmd} {W W':Ws} (h:tableP x W=some (y,W')):∃ s t,W=s::t::W'∧nameB s=true∧nameB t=true∧y={ x with schema:=s,table:=t }:=by
 unfold tableP at h
 simp only [Option.bind_eq_some_iff,Prod.exists,Option.some.injEq,Prod.mk.injEq] at h
 obtain ⟨s,W1,h1,t,W2,h2,rfl,rfl⟩:=h
 obtain ⟨rfl,n1⟩:=nameP_some h1
 obtain ⟨rfl,n2⟩:=nameP_some h2
 exact ⟨s,t,rfl,n1,n2,rfl⟩
theorem rightP_some {x y:Cmd} {W W':Ws} (h:rightP x W=some (y,W')):∃ r t,W=(if r=1 then b_read else b_write)::t::W'∧nameB t=true∧(r=1∨r=2)∧y={ x with right:=r,role:=t }:=by
 unfold rightP at h
 simp only [Option.bind_eq_some_iff,Prod.exists,Option.some.injEq,Prod.mk.injEq] at h
 obtain ⟨r,W1,h1,t,W2,h2,rfl,rfl⟩:=h
 obtain ⟨s,rfl,h3⟩:=oneP_some.1 h1
 obtain ⟨rfl,n2⟩:=nameP_some h2
 unfold rightO at h3
 split at h3
 ·rename_i e
  rw [eqS_iffD] at e
  cases h3;subst e
  exact ⟨1,t,rfl,n2,.inl rfl,rfl⟩
 ·split at h3
  ·rename_i e
   rw [eqS_iffD] at e
   cases h3;subst e
   exact ⟨2,t,rfl,n2,.inr rfl,rfl⟩
  ·cases h3
def ruleW (r:Rul):Ws:=r.name::((if r.kind=4 then [r.schema,r.table,r.key] else [])++(r.cols++if r.kind=3 then [itoaB r.low,itoaB r.high] else []))
structure OkRul (r:Rul):Prop where
 name:nameB r.name=true
 far:r.kind=4→nameB r.schema=true∧nameB r.table=true∧nameB r.key=true
 cols:∀ x∈r.cols,nameB x=true
 low:r.kind=3→inN r.low=true∧inN r.high=true
theorem ruleP_some {k:Int} {r:Rul} {W W':Ws} (h:ruleP k W=some (r,W')):W=ruleW r++W'∧r.kind=k∧OkRul r:=by
 unfold ruleP at h
 rw [Option.bind_eq_some_iff] at h
 obtain ⟨⟨n,W1⟩,h1,h⟩:=h
 obtain ⟨rfl,n1⟩:=nameP_some h1
 simp only at h
 split at h
 ·rename_i hk
  simp only [Option.bind_eq_some_iff,Prod.exists,Option.some.injEq,Prod.mk.injEq] at h
  obtain ⟨c,W2,h2,lo,W3,h3,hi,W4,h4,rfl,rfl⟩:=h
  obtain ⟨rfl,n2⟩:=nameP_some h2
  obtain ⟨rfl,n3⟩:=numP_some h3
  obtain ⟨rfl,n4⟩:=numP_some h4
  exact ⟨rfl,hk.symm,n1,fun e=>by simp at e,by simpa using n2,fun _=>⟨n3,n4⟩⟩
 ·split at h
  ·rename_i hk
   simp only [Option.bind_eq_some_iff,Prod.exists,Option.some.injEq,Prod.mk.injEq] at h
   obtain ⟨s,W2,h2,t,W3,h3,q,W4,h4,l,W5,h5,rfl,rfl⟩:=h
   obtain ⟨rfl,n2⟩:=nameP_some h2
   obtain ⟨rfl,n3⟩:=nameP_some h3
   obtain ⟨rfl,n4⟩:=nameP_some h4
   obtain ⟨rfl,_,rfl,n5⟩:=namesP_some h5
   exact ⟨by simp [ruleW],hk.symm,n1,fun _=>⟨n2,n3,n4⟩,n5,fun e=>by simp at e⟩
  ·rename_i k3 k4
   simp only [Option.bind_eq_some_iff,Prod.exists,Option.some.injEq,Prod.mk.injEq] at h
   obtain ⟨l,W5,h5,rfl,rfl⟩:=h
   obtain ⟨rfl,_,rfl,n5⟩:=namesP_some h5
   exact ⟨by simp [ruleW,k3,k4],rfl,n1,fun e=>absurd e k4,n5,fun e=>absurd e k3⟩
theorem ruleL_of {x:Cmd} {w:ByteArray} (h:OkRul x.rule) (ha:nameB x.actor=true) (hs:nameB x.schema=true) (ht:nameB x.table=true)
  (hw:(if x.rule.kind=1 then some [b_index] else if x.rule.kind=2 then some [b_key] else if x.rule.kind=3 then some [b_check] else if x.rule.kind=4 then some [b_foreign] else none)=some [w]) :
  ruleL x=some (w::x.actor::x.schema::x.table::ruleW x.rule):=by
 unfold ruleL
 rw [hw,nms4 ha hs ht h.name,nms_all h.cols]
 unfold ruleW
 by_cases h4:x.rule.kind=4
 ·obtain ⟨a,b,c⟩:=h.far h4
  rw [if_pos h4,if_pos h4,nms3 a b c,if_neg (by omega),if_neg (by omega)]
  simp [andL_some]
 ·rw [if_neg h4,if_neg h4]
  by_cases h3:x.rule.kind=3
  ·obtain ⟨a,b⟩:=h.low h3
   rw [if_pos h3,if_pos h3,nus2 a b]
   simp [andL_some]
  ·rw [if_neg h3,if_neg h3]
   simp [andL_some]
theorem onTabL_of {w:ByteArray} {x:Cmd} (ha:nameB x.actor=true) (hs:nameB x.schema=true) (ht:nameB x.table=true):onTabL w x=some [w,x.actor,x.schema,x.table]:=by
 unfold onTabL;rw [nms3 ha hs ht];rfl
def regC (x:Cmd):Prop:=∀ c∈x.cols,c.kind=2∨c.kind=3
def regR (x:ROp):Prop:=(x.kind=2→eqS x.col zBy=false)∧(x.kind≠1→x.row=[])
def regA (a:Dact):Prop:=regC a.cmd∧regR a.row∧(a.kind=8→1≤a.ck)
theorem regC_z {x:Cmd} (h:x.cols=[]):regC x:=fun c hc=>by rw [h] at hc;cases hc
theorem regR_z:regR zROp:=⟨fun h=>(by cases h),fun _=>rfl⟩
theorem bodyP_some {f a:ByteArray} {y:Cmd} {W W':Ws} (ha:nameB a=true) (h:bodyP f { zCmd with actor:=a } W=some (y,W')):∃ V,cmdL y=some V∧regC y∧f::a::W=V++W':=by
 unfold bodyP at h
 have h':=ite_or h;clear h;rcases h' with ⟨e,h⟩ | ⟨-,h⟩
 ·rw [eqS_iffD] at e;subst e
  simp only [Option.bind_eq_some_iff,Prod.exists,Option.some.injEq,Prod.mk.injEq] at h
  obtain ⟨s,W1,h1,rfl,rfl⟩:=h
  obtain ⟨rfl,n1⟩:=nameP_some h1
  refine ⟨[b_schema,a,s],?_,regC_z rfl,rfl⟩
  unfold cmdL;dsimp only;rw [if_pos rfl]
  rw [nms2 ha n1];rfl
 have h':=ite_or h;clear h;rcases h' with ⟨e,h⟩ | ⟨-,h⟩
 ·rw [eqS_iffD] at e;subst e
  simp only [Option.bind_eq_some_iff,Prod.exists,Option.some.injEq,Prod.mk.injEq] at h
  obtain ⟨s,W1,h1,rfl,rfl⟩:=h
  obtain ⟨rfl,n1⟩:=nameP_some h1
  refine ⟨[b_dropschema,a,s],?_,regC_z rfl,rfl⟩
  unfold cmdL;dsimp only;rw [if_neg (show ¬ (2:Int)=1 by decide),if_pos rfl]
  rw [nms2 ha n1];rfl
 have h':=ite_or h;clear h;rcases h' with ⟨e,h⟩ | ⟨-,h⟩
 ·rw [eqS_iffD] at e;subst e
  simp only [Option.bind_eq_some_iff,Prod.exists,Option.some.injEq,Prod.mk.injEq] at h
  obtain ⟨x,W1,h1,l,W2,h2,rfl,rfl⟩:=h
  obtain ⟨s,t,rfl,n1,n2,rfl⟩:=tableP_some h1
  obtain ⟨rfl,_,rfl,n3⟩:=colsP_some h2
  refine ⟨_,?_,fun c hc=>(n3 c hc).2,(List.append_nil _).symm⟩
  unfold cmdL;dsimp only;rw [if_neg (show ¬ (3:Int)=1 by decide),if_neg (show ¬ (3:Int)=2 by decide),if_pos rfl]
  rw [onTabL_of ha n1 n2,cols_all (fun c hc=>(n3 c hc).1)];rfl
 have h':=ite_or h;clear h;rcases h' with ⟨e,h⟩ | ⟨-,h⟩
 ·rw [eqS_iffD] at e;subst e
  obtain ⟨s,t,rfl,n1,n2,rfl⟩:=tableP_some h
  refine ⟨[b_droptable,a,s,t],?_,regC_z rfl,rfl⟩
  unfold cmdL;dsimp only;rw [if_neg (show ¬ (4:Int)=1 by decide),if_neg (show ¬ (4:Int)=2 by decide),if_neg (show ¬ (4:Int)=3 by decide),if_pos rfl]
  exact onTabL_of ha n1 n2
 have h':=ite_or h;clear h;rcases h' with ⟨e,h⟩ | ⟨-,h⟩
 ·rw [eqS_iffD] at e;subst e
  simp only [Option.bind_eq_some_iff,Prod.exists,Option.some.injEq,Prod.mk.injEq] at h
  obtain ⟨x,W1,h1,l,W2,h2,rfl,rfl⟩:=h
  obtain ⟨s,t,rfl,n1,n2,rfl⟩:=tableP_some h1
  obtain ⟨rfl,n3⟩:=colP_some h2
  refine ⟨[b_column,a,s,t,colT l],?_,fun c hc=>by rw [List.mem_singleton] at hc;subst hc;exact n3.2,rfl⟩
  unfold cmdL;dsimp only;rw [if_neg (show ¬ (5:Int)=1 by decide),if_neg (show ¬ (5:Int)=2 by decide),if_neg (show ¬ (5:Int)=3 by decide),if_neg (show ¬ (5:Int)=4 by decide),if_pos rfl]
  rw [onTabL_of ha n1 n2,cols_all (l:=[l]) (by simpa using n3.1)];rfl
 have h':=ite_or h;clear h;rcases h' with ⟨e,h⟩ | ⟨-,h⟩
 ·rw [eqS_iffD] at e;subst e
  simp only [Option.bind_eq_some_iff,Prod.exists,Option.some.injEq,Prod.mk.injEq] at h
  obtain ⟨x,W1,h1,c,W2,h2,rfl,rfl⟩:=h
  obtain ⟨s,t,rfl,n1,n2,rfl⟩:=tableP_some h1
  obtain ⟨rfl,n3⟩:=nameP_some h2
  refine ⟨[b_dropcolumn,a,s,t,c],?_,regC_z rfl,rfl⟩
  unfold cmdL;dsimp only;rw [if_neg (show ¬ (6:Int)=1 by decide),if_neg (show ¬ (6:Int)=2 by decide),if_neg (show ¬ (6:Int)=3 by decide),if_neg (show ¬ (6:Int)=4 by decide),if_neg (show ¬ (6:Int)=5 by decide),if_pos rfl]
  rw [onTabL_of ha n1 n2,nms1 n3];rfl
 have h':=ite_or h;clear h;rcases h' with ⟨e,h⟩ | ⟨-,h⟩
 ·rw [eqS_iffD] at e;subst e
  simp only [Option.bind_eq_some_iff,Prod.exists,Option.some.injEq,Prod.mk.injEq] at h
  obtain ⟨x,W1,h1,r,W2,h2,rfl,rfl⟩:=h
  obtain ⟨s,t,rfl,n1,n2,rfl⟩:=tableP_some h1
  obtain ⟨rfl,hk,ok⟩:=ruleP_some h2
  refine ⟨b_index::a::s::t::ruleW r,?_,regC_z rfl,rfl⟩
  unfold cmdL;dsimp only;rw [if_neg (show ¬ (7:Int)=1 by decide),if_neg (show ¬ (7:Int)=2 by decide),if_neg (show ¬ (7:Int)=3 by decide),if_neg (show ¬ (7:Int)=4 by decide),if_neg (show ¬ (7:Int)=5 by decide),if_neg (show ¬ (7:Int)=6 by decide),if_pos rfl]
  exact ruleL_of ok ha n1 n2 (by dsimp only;rw [hk];rfl)
 have h':=ite_or h;clear h;rcases h' with ⟨e,h⟩ | ⟨-,h⟩
 ·rw [eqS_iffD] at e;subst e
  simp only [Option.bind_eq_some_iff,Prod.exists,Option.some.injEq,Prod.mk.injEq] at h
  obtain ⟨x,W1,h1,r,W2,h2,rfl,rfl⟩:=h
  obtain ⟨s,t,rfl,n1,n2,rfl⟩:=tableP_some h1
  obtain ⟨rfl,hk,ok⟩:=ruleP_some h2
  refine ⟨b_key::a::s::t::ruleW r,?_,regC_z rfl,rfl⟩
  unfold cmdL;dsimp only;rw [if_neg (show ¬ (7:Int)=1 by decide),if_neg (show ¬ (7:Int)=2 by decide),if_neg (show ¬ (7:Int)=3 by decide),if_neg (show ¬ (7:Int)=4 by decide),if_neg (show ¬ (7:Int)=5 by decide),if_neg (show ¬ (7:Int)=6 by decide),if_pos rfl]
  exact ruleL_of ok ha n1 n2 (by dsimp only;rw [hk];rfl)
 have h':=ite_or h;clear h;rcases h' with ⟨e,h⟩ | ⟨-,h⟩
 ·rw [eqS_iffD] at e;subst e
  simp only [Option.bind_eq_some_iff,Prod.exists,Option.some.injEq,Prod.mk.injEq] at h
  obtain ⟨x,W1,h1,r,W2,h2,rfl,rfl⟩:=h
  obtain ⟨s,t,rfl,n1,n2,rfl⟩:=tableP_some h1
  obtain ⟨rfl,hk,ok⟩:=ruleP_some h2
  refine ⟨b_check::a::s::t::ruleW r,?_,regC_z rfl,rfl⟩
  unfold cmdL;dsimp only;rw [if_neg (show ¬ (7:Int)=1 by decide),if_neg (show ¬ (7:Int)=2 by decide),if_neg (show ¬ (7:Int)=3 by decide),if_neg (show ¬ (7:Int)=4 by decide),if_neg (show ¬ (7:Int)=5 by decide),if_neg (show ¬ (7:Int)=6 by decide),if_pos rfl]
  exact ruleL_of ok ha n1 n2 (by dsimp only;rw [hk];rfl)
 have h':=ite_or h;clear h;rcases h' with ⟨e,h⟩ | ⟨-,h⟩
 ·rw [eqS_iffD] at e;subst e
  simp only [Option.bind_eq_some_iff,Prod.exists,Option.some.injEq,Prod.mk.injEq] at h
  obtain ⟨x,W1,h1,r,W2,h2,rfl,rfl⟩:=h
  obtain ⟨s,t,rfl,n1,n2,rfl⟩:=tableP_some h1
  obtain ⟨rfl,hk,ok⟩:=ruleP_some h2
  refine ⟨b_foreign::a::s::t::ruleW r,?_,regC_z rfl,rfl⟩
  unfold cmdL;dsimp only;rw [if_neg (show ¬ (7:Int)=1 by decide),if_neg (show ¬ (7:Int)=2 by decide),if_neg (show ¬ (7:Int)=3 by decide),if_neg (show ¬ (7:Int)=4 by decide),if_neg (show ¬ (7:Int)=5 by decide),if_neg (show ¬ (7:Int)=6 by decide),if_pos rfl]
  exact ruleL_of ok ha n1 n2 (by dsimp only;rw [hk];rfl)
 have h':=ite_or h;clear h;rcases h' with ⟨e,h⟩ | ⟨-,h⟩
 ·rw [eqS_iffD] at e;subst e
  simp only [Option.bind_eq_some_iff,Prod.exists,Option.some.injEq,Prod.mk.injEq] at h
  obtain ⟨x,W1,h1,c,W2,h2,rfl,rfl⟩:=h
  obtain ⟨s,t,rfl,n1,n2,rfl⟩:=tableP_some h1
  obtain ⟨rfl,n3⟩:=nameP_some h2
  refine ⟨[b_droprule,a,s,t,c],?_,regC_z rfl,rfl⟩
  unfold cmdL;dsimp only;rw [if_neg (show ¬ (8:Int)=1 by decide),if_neg (show ¬ (8:Int)=2 by decide),if_neg (show ¬ (8:Int)=3 by decide),if_neg (show ¬ (8:Int)=4 by decide),if_neg (show ¬ (8:Int)=5 by decide),if_neg (show ¬ (8:Int)=6 by decide),if_neg (show ¬ (8:Int)=7 by decide),if_pos rfl]
  rw [onTabL_of ha n1 n2,nms1 n3];rfl
 have h':=ite_or h;clear h;rcases h' with ⟨e,h⟩ | ⟨-,h⟩
 ·rw [eqS_iffD] at e;subst e
  simp only [Option.bind_eq_some_iff,Prod.exists,Option.some.injEq,Prod.mk.injEq] at h
  obtain ⟨x,W1,h1,c,W2,h2,rfl,rfl⟩:=h
  obtain ⟨s,t,rfl,n1,n2,rfl⟩:=tableP_some h1
  obtain ⟨rfl,n3⟩:=nameP_some h2
  refine ⟨[b_owner,a,s,t,c],?_,regC_z rfl,rfl⟩
  unfold cmdL;dsimp only;rw [if_neg (show ¬ (9:Int)=1 by decide),if_neg (show ¬ (9:Int)=2 by decide),if_neg (show ¬ (9:Int)=3 by decide),if_neg (show ¬ (9:Int)=4 by decide),if_neg (show ¬ (9:Int)=5 by decide),if_neg (show ¬ (9:Int)=6 by decide),if_neg (show ¬ (9:Int)=7 by decide),if_neg (show ¬ (9:Int)=8 by decide),if_pos rfl]
  rw [onTabL_of ha n1 n2,nms1 n3];rfl
 have h':=ite_or h;clear h;rcases h' with ⟨e,h⟩ | ⟨-,h⟩
 ·rw [eqS_iffD] at e;subst e
  simp only [Option.bind_eq_some_iff,Prod.exists,Option.some.injEq,Prod.mk.injEq] at h
  obtain ⟨s,W1,h1,rfl,rfl⟩:=h
  obtain ⟨rfl,n1⟩:=nameP_some h1
  refine ⟨[b_role,a,s],?_,regC_z rfl,rfl⟩
  unfold cmdL;dsimp only;rw [if_neg (show ¬ (10:Int)=1 by decide),if_neg (show ¬ (10:Int)=2 by decide),if_neg (show ¬ (10:Int)=3 by decide),if_neg (show ¬ (10:Int)=4 by decide),if_neg (show ¬ (10:Int)=5 by decide),if_neg (show ¬ (10:Int)=6 by decide),if_neg (show ¬ (10:Int)=7 by decide),if_neg (show ¬ (10:Int)=8 by decide),if_neg (show ¬ (10:Int)=9 by decide),if_pos rfl]
  rw [nms2 ha n1];rfl
 have h':=ite_or h;clear h;rcases h' with ⟨e,h⟩ | ⟨-,h⟩
 ·rw [eqS_iffD] at e;subst e
  simp only [Option.bind_eq_some_iff,Prod.exists,Option.some.injEq,Prod.mk.injEq] at h
  obtain ⟨s,W1,h1,rfl,rfl⟩:=h
  obtain ⟨rfl,n1⟩:=nameP_some h1
  refine ⟨[b_droprole,a,s],?_,regC_z rfl,rfl⟩
  unfold cmdL;dsimp only;rw [if_neg (show ¬ (11:Int)=1 by decide),if_neg (show ¬ (11:Int)=2 by decide),if_neg (show ¬ (11:Int)=3 by decide),if_neg (show ¬ (11:Int)=4 by decide),if_neg (show ¬ (11:Int)=5 by decide),if_neg (show ¬ (11:Int)=6 by decide),if_neg (show ¬ (11:Int)=7 by decide),if_neg (show ¬ (11:Int)=8 by decide),if_neg (show ¬ (11:Int)=9 by decide),if_neg (show ¬ (11:Int)=10 by decide),if_pos rfl]
  rw [nms2 ha n1];rfl
 have h':=ite_or h;clear h;rcases h' with ⟨e,h⟩ | ⟨-,h⟩
 ·rw [eqS_iffD] at e;subst e
  simp only [Option.bind_eq_some_iff,Prod.exists,Option.some.injEq,Prod.mk.injEq] at h
  obtain ⟨s,W1,h1,t,W2,h2,rfl,rfl⟩:=h
  obtain ⟨rfl,n1⟩:=nameP_some h1
  obtain ⟨rfl,n2⟩:=nameP_some h2
  refine ⟨[b_member,a,s,t],?_,regC_z rfl,rfl⟩
  unfold cmdL;dsimp only;rw [if_neg (show ¬ (12:Int)=1 by decide),if_neg (show ¬ (12:Int)=2 by decide),if_neg (show ¬ (12:Int)=3 by decide),if_neg (show ¬ (12:Int)=4 by decide),if_neg (show ¬ (12:Int)=5 by decide),if_neg (show ¬ (12:Int)=6 by decide),if_neg (show ¬ (12:Int)=7 by decide),if_neg (show ¬ (12:Int)=8 by decide),if_neg (show ¬ (12:Int)=9 by decide),if_neg (show ¬ (12:Int)=10 by decide),if_neg (show ¬ (12:Int)=11 by decide),if_pos rfl]
  rw [nms3 ha n1 n2];rfl
 have h':=ite_or h;clear h;rcases h' with ⟨e,h⟩ | ⟨-,h⟩
 ·rw [eqS_iffD] at e;subst e
  simp only [Option.bind_eq_some_iff,Prod.exists,Option.some.injEq,Prod.mk.injEq] at h
  obtain ⟨s,W1,h1,t,W2,h2,rfl,rfl⟩:=h
  obtain ⟨rfl,n1⟩:=nameP_some h1
  obtain ⟨rfl,n2⟩:=nameP_some h2
  refine ⟨[b_unmember,a,s,t],?_,regC_z rfl,rfl⟩
  unfold cmdL;dsimp only;rw [if_neg (show ¬ (13:Int)=1 by decide),if_neg (show ¬ (13:Int)=2 by decide),if_neg (show ¬ (13:Int)=3 by decide),if_neg (show ¬ (13:Int)=4 by decide),if_neg (show ¬ (13:Int)=5 by decide),if_neg (show ¬ (13:Int)=6 by decide),if_neg (show ¬ (13:Int)=7 by decide),if_neg (show ¬ (13:Int)=8 by decide),if_neg (show ¬ (13:Int)=9 by decide),if_neg (show ¬ (13:Int)=10 by decide),if_neg (show ¬ (13:Int)=11 by decide),if_neg (show ¬ (13:Int)=12 by decide),if_pos rfl]
  rw [nms3 ha n1 n2];rfl
 have h':=ite_or h;clear h;rcases h' with ⟨e,h⟩ | ⟨-,h⟩
 ·rw [eqS_iffD] at e;subst e
  simp only [Option.bind_eq_some_iff,Prod.exists,Option.some.injEq,Prod.mk.injEq] at h
  obtain ⟨x,W1,h1,y1,W2,h2,h⟩:=h
  obtain ⟨s,t,rfl,n1,n2,rfl⟩:=tableP_some h1
  obtain ⟨r,q,rfl,n3,hr,rfl⟩:=rightP_some h2
  have e1:(if r=1 then some [b_read] else some [b_write])=some [if r=1 then b_read else b_write]:=by split<;>rfl
  cases W2 with
  | nil =>
   cases h
   refine ⟨[b_grant,a,s,t,if r=1 then b_read else b_write,q],?_,regC_z rfl,rfl⟩
   unfold cmdL;dsimp only;rw [if_neg (show ¬ (14:Int)=1 by decide),if_neg (show ¬ (14:Int)=2 by decide),if_neg (show ¬ (14:Int)=3 by decide),if_neg (show ¬ (14:Int)=4 by decide),if_neg (show ¬ (14:Int)=5 by decide),if_neg (show ¬ (14:Int)=6 by decide),if_neg (show ¬ (14:Int)=7 by decide),if_neg (show ¬ (14:Int)=8 by decide),if_neg (show ¬ (14:Int)=9 by decide),if_neg (show ¬ (14:Int)=10 by decide),if_neg (show ¬ (14:Int)=11 by decide),if_neg (show ¬ (14:Int)=12 by decide),if_neg (show ¬ (14:Int)=13 by decide),if_pos rfl]
   rw [onTabL_of ha n1 n2];unfold rightL;rw [nms1 n3];rfl
  | cons v W2 =>
   simp only [optP] at h
   split at h
   ·rename_i e;rw [eqS_iffD] at e;subst e
    cases h
    refine ⟨[b_grant,a,s,t,if r=1 then b_read else b_write,q,b_option],?_,regC_z rfl,rfl⟩
    unfold cmdL;dsimp only;rw [if_neg (show ¬ (14:Int)=1 by decide),if_neg (show ¬ (14:Int)=2 by decide),if_neg (show ¬ (14:Int)=3 by decide),if_neg (show ¬ (14:Int)=4 by decide),if_neg (show ¬ (14:Int)=5 by decide),if_neg (show ¬ (14:Int)=6 by decide),if_neg (show ¬ (14:Int)=7 by decide),if_neg (show ¬ (14:Int)=8 by decide),if_neg (show ¬ (14:Int)=9 by decide),if_neg (show ¬ (14:Int)=10 by decide),if_neg (show ¬ (14:Int)=11 by decide),if_neg (show ¬ (14:Int)=12 by decide),if_neg (show ¬ (14:Int)=13 by decide),if_pos rfl]
    rw [onTabL_of ha n1 n2];unfold rightL;rw [nms1 n3];rfl
   ·cases h
 have h':=ite_or h;clear h;rcases h' with ⟨e,h⟩ | ⟨-,h⟩
 ·rw [eqS_iffD] at e;subst e
  simp only [Option.bind_eq_some_iff,Prod.exists] at h
  obtain ⟨x,W1,h1,h2⟩:=h
  obtain ⟨s,t,rfl,n1,n2,rfl⟩:=tableP_some h1
  obtain ⟨r,q,rfl,n3,hr,rfl⟩:=rightP_some h2
  refine ⟨[b_revoke,a,s,t,if r=1 then b_read else b_write,q],?_,regC_z rfl,rfl⟩
  unfold cmdL;dsimp only;rw [if_neg (show ¬ (15:Int)=1 by decide),if_neg (show ¬ (15:Int)=2 by decide),if_neg (show ¬ (15:Int)=3 by decide),if_neg (show ¬ (15:Int)=4 by decide),if_neg (show ¬ (15:Int)=5 by decide),if_neg (show ¬ (15:Int)=6 by decide),if_neg (show ¬ (15:Int)=7 by decide),if_neg (show ¬ (15:Int)=8 by decide),if_neg (show ¬ (15:Int)=9 by decide),if_neg (show ¬ (15:Int)=10 by decide),if_neg (show ¬ (15:Int)=11 by decide),if_neg (show ¬ (15:Int)=12 by decide),if_neg (show ¬ (15:Int)=13 by decide),if_neg (show ¬ (15:Int)=14 by decide),if_pos rfl]
  rw [onTabL_of ha n1 n2];unfold rightL;rw [nms1 n3];rfl
 cases h
theorem cmdP_some {y:Cmd} {W W':Ws} (h:cmdP W=some (y,W')):∃ V,cmdL y=some V∧regC y∧W=V++W':=by
 unfold cmdP at h
 simp only [Option.bind_eq_some_iff,Prod.exists] at h
 obtain ⟨f,W1,h1,a,W2,h2,h⟩:=h
 obtain rfl:=wordP_some h1
 obtain ⟨rfl,n1⟩:=nameP_some h2
 exact bodyP_some n1 h
theorem rowP_some {y:ROp} {W W':Ws} (h:rowP W=some (y,W')):∃ V,rowL y=some V∧regR y∧W=V++W':=by
 unfold rowP at h
 rw [Option.bind_eq_some_iff] at h
 obtain ⟨⟨f,W1⟩,h1,h⟩:=h
 obtain rfl:=wordP_some h1
 simp only [Option.bind_eq_some_iff,Prod.exists] at h
 obtain ⟨r,W2,h2,s,W3,h3,t,W4,h4,h⟩:=h
 obtain ⟨rfl,n2⟩:=nameP_some h2
 obtain ⟨rfl,n3⟩:=nameP_some h3
 obtain ⟨rfl,n4⟩:=nameP_some h4
 have hne:∀ c:ByteArray,nameB c=true→eqS c zBy=false:=by
  intro c hc
  cases hq:eqS c zBy with
  | false=>rfl
  | true =>
   rw [eqS_iffD] at hq
   subst hq
   rw [show nameB zBy=false by decide] at hc
   cases hc
 split at h
 ·rename_i e
  rw [eqS_iffD] at e;subst e
  simp only [Option.bind_eq_some_iff,Prod.exists,Option.some.injEq,Prod.mk.injEq] at h
  obtain ⟨l,W5,h5,rfl,rfl⟩:=h
  obtain ⟨rfl,_,rfl,n5⟩:=valsP_some h5
  refine ⟨_,?_,⟨fun h=>(by cases h),fun h=>absurd rfl h⟩,(List.append_nil _).symm⟩
  unfold rowL;dsimp only;rw [nms3 n2 n3 n4,vals_all (fun v hv=>(n5 v hv).1)]
  rfl
 ·split at h
  ·rename_i e
   rw [eqS_iffD] at e;subst e
   simp only [Option.bind_eq_some_iff,Prod.exists,Option.some.injEq,Prod.mk.injEq] at h
   obtain ⟨c,W5,h5,v,W6,h6,rfl,rfl⟩:=h
   obtain ⟨rfl,n5⟩:=nameP_some h5
   obtain ⟨rfl,n6,_⟩:=valP_some h6
   refine ⟨[b_remove,r,s,t,c,valT v],?_,⟨fun _=>hne c n5,fun _=>rfl⟩,rfl⟩
   unfold rowL;dsimp only;rw [nms3 n2 n3 n4,vals_all (l:=[v]) (by simpa using n6),vals_all (l:=[]) (by simp),nms1 n5]
   rw [if_neg (show ¬ (2:Int)=1 by decide),if_pos rfl,if_pos ⟨by decide,hne c n5⟩]
   rfl
  ·split at h
   ·rename_i e
    rw [eqS_iffD] at e;subst e
    split at h
    ·rename_i e
     subst e
     simp only [Option.some.injEq,Prod.mk.injEq] at h
     obtain ⟨rfl,rfl⟩:=h
     refine ⟨[b_select,r,s,t],?_,⟨fun h=>(by cases h),fun _=>rfl⟩,rfl⟩
     unfold rowL;dsimp only;rw [nms3 n2 n3 n4,vals_all (l:=[]) (by simp)]
     rw [if_neg (show ¬ (3:Int)=1 by decide),if_neg (show ¬ (3:Int)=2 by decide),if_neg (by rintro ⟨_,h⟩;rw [(eqS_iffD zBy zBy).2 rfl] at h;cases h)]
     rfl
    ·simp only [Option.bind_eq_some_iff,Prod.exists,Option.some.injEq,Prod.mk.injEq] at h
     obtain ⟨c,W5,h5,v,W6,h6,rfl,rfl⟩:=h
     obtain ⟨rfl,n5⟩:=nameP_some h5
     obtain ⟨rfl,n6,_⟩:=valP_some h6
     refine ⟨[b_select,r,s,t,c,valT v],?_,⟨fun h=>(by cases h),fun _=>rfl⟩,rfl⟩
     unfold rowL;dsimp only;rw [nms3 n2 n3 n4,vals_all (l:=[v]) (by simpa using n6),vals_all (l:=[]) (by simp),nms1 n5]
     rw [if_neg (show ¬ (3:Int)=1 by decide),if_neg (show ¬ (3:Int)=2 by decide),if_pos ⟨by decide,hne c n5⟩]
     rfl
   ·cases h
theorem chgP_some {k:Int} {y:Dact} {W W':Ws} (h:chgP k W=some (y,W')):∃ n m,y={ zAct with kind:=8,node:=n,ck:=k,cn:=m }∧inN n=true∧inN m=true∧W=itoaB n::itoaB m::W':=by
 unfold chgP at h
 simp only [Option.bind_eq_some_iff,Prod.exists,Option.some.injEq,Prod.mk.injEq] at h
 obtain ⟨n,W1,h1,m,W2,h2,rfl,rfl⟩:=h
 obtain ⟨rfl,n1⟩:=numP_some h1
 obtain ⟨rfl,n2⟩:=numP_some h2
 exact ⟨n,m,rfl,n1,n2,rfl⟩
theorem threeP_some {k:Int} {y:Dact} {W W':Ws} (h:threeP k W=some (y,W')):∃ a b c,y={ zAct with kind:=k,node:=a,client:=b,number:=c }∧inN a=true∧inN b=true∧inN c=true∧W=itoaB a::itoaB b::itoaB c::W':=by
 unfold threeP at h
 simp only [Option.bind_eq_some_iff,Prod.exists,Option.some.injEq,Prod.mk.injEq] at h
 obtain ⟨n,W1,h1,m,W2,h2,q,W3,h3,rfl,rfl⟩:=h
 obtain ⟨rfl,n1⟩:=numP_some h1
 obtain ⟨rfl,n2⟩:=numP_some h2
 obtain ⟨rfl,n3⟩:=numP_some h3
 exact ⟨n,m,q,rfl,n1,n2,n3,rfl⟩
theorem actP_some {y:Dact} {W W':Ws} (h:actP W=some (y,W')):∃ V,actL y=some V∧regA y∧W=V++W':=by
 unfold actP at h
 rw [Option.bind_eq_some_iff] at h
 obtain ⟨⟨f,W1⟩,h1,h⟩:=h
 obtain rfl:=wordP_some h1
 simp only at h
 have h':=ite_or h;clear h;rcases h' with ⟨e,h⟩ | ⟨-,h⟩
 ·rw [eqS_iffD] at e;subst e
  simp only [Option.bind_eq_some_iff,Prod.exists,Option.some.injEq,Prod.mk.injEq] at h
  obtain ⟨n,W2,h2,rfl,rfl⟩:=h
  obtain ⟨rfl,n1⟩:=numP_some h2
  refine ⟨[b_tick,itoaB n],?_,⟨regC_z rfl,regR_z,fun h=>by cases h⟩,rfl⟩
  unfold actL;dsimp only;rw [if_pos rfl]
  rw [nus1 n1];rfl
 have h':=ite_or h;clear h;rcases h' with ⟨e,h⟩ | ⟨-,h⟩
 ·rw [eqS_iffD] at e;subst e
  cases h
  refine ⟨[b_world],?_,⟨regC_z rfl,regR_z,fun h=>by cases h⟩,rfl⟩
  unfold actL;dsimp only;rw [if_neg (show ¬ (2:Int)=1 by decide),if_pos rfl]
 have h':=ite_or h;clear h;rcases h' with ⟨e,h⟩ | ⟨-,h⟩
 ·rw [eqS_iffD] at e;subst e
  simp only [Option.bind_eq_some_iff,Prod.exists,Option.some.injEq,Prod.mk.injEq] at h
  obtain ⟨n,W2,h2,rfl,rfl⟩:=h
  obtain ⟨rfl,n1⟩:=numP_some h2
  refine ⟨[b_start,itoaB n],?_,⟨regC_z rfl,regR_z,fun h=>by cases h⟩,rfl⟩
  unfold actL;dsimp only;rw [if_neg (show ¬ (12:Int)=1 by decide),if_neg (show ¬ (12:Int)=2 by decide),if_pos rfl]
  rw [nus1 n1];rfl
 have h':=ite_or h;clear h;rcases h' with ⟨e,h⟩ | ⟨-,h⟩
 ·rw [eqS_iffD] at e;subst e
  simp only [Option.bind_eq_some_iff,Prod.exists,Option.some.injEq,Prod.mk.injEq] at h
  obtain ⟨n,W2,h2,rfl,rfl⟩:=h
  obtain ⟨rfl,n1⟩:=numP_some h2
  refine ⟨[b_deliver,itoaB n],?_,⟨regC_z rfl,regR_z,fun h=>by cases h⟩,rfl⟩
  unfold actL;dsimp only;rw [if_neg (show ¬ (3:Int)=1 by decide),if_neg (show ¬ (3:Int)=2 by decide),if_neg (show ¬ (3:Int)=12 by decide),if_pos rfl]
  rw [nus1 n1];rfl
 have h':=ite_or h;clear h;rcases h' with ⟨e,h⟩ | ⟨-,h⟩
 ·rw [eqS_iffD] at e;subst e
  simp only [Option.bind_eq_some_iff,Prod.exists,Option.some.injEq,Prod.mk.injEq] at h
  obtain ⟨n,W2,h2,rfl,rfl⟩:=h
  obtain ⟨rfl,n1⟩:=numP_some h2
  refine ⟨[b_drop,itoaB n],?_,⟨regC_z rfl,regR_z,fun h=>by cases h⟩,rfl⟩
  unfold actL;dsimp only;rw [if_neg (show ¬ (4:Int)=1 by decide),if_neg (show ¬ (4:Int)=2 by decide),if_neg (show ¬ (4:Int)=12 by decide),if_neg (show ¬ (4:Int)=3 by decide),if_pos rfl]
  rw [nus1 n1];rfl
 have h':=ite_or h;clear h;rcases h' with ⟨e,h⟩ | ⟨-,h⟩
 ·rw [eqS_iffD] at e;subst e
  simp only [Option.bind_eq_some_iff,Prod.exists,Option.some.injEq,Prod.mk.injEq] at h
  obtain ⟨n,W2,h2,rfl,rfl⟩:=h
  obtain ⟨rfl,n1⟩:=numP_some h2
  refine ⟨[b_double,itoaB n],?_,⟨regC_z rfl,regR_z,fun h=>by cases h⟩,rfl⟩
  unfold actL;dsimp only;rw [if_neg (show ¬ (5:Int)=1 by decide),if_neg (show ¬ (5:Int)=2 by decide),if_neg (show ¬ (5:Int)=12 by decide),if_neg (show ¬ (5:Int)=3 by decide),if_neg (show ¬ (5:Int)=4 by decide),if_pos rfl]
  rw [nus1 n1];rfl
 have h':=ite_or h;clear h;rcases h' with ⟨e,h⟩ | ⟨-,h⟩
 ·rw [eqS_iffD] at e;subst e
  simp only [Option.bind_eq_some_iff,Prod.exists,Option.some.injEq,Prod.mk.injEq] at h
  obtain ⟨a,W2,h2,x,W3,h3,rfl,rfl⟩:=h
  obtain ⟨n,m,q,rfl,n1,n2,n3,rfl⟩:=threeP_some h2
  obtain ⟨V,h4,g4,rfl⟩:=cmdP_some h3
  refine ⟨b_ask::itoaB n::itoaB m::itoaB q::V,?_,⟨g4,regR_z,fun h=>by cases h⟩,rfl⟩
  unfold actL;dsimp only;rw [if_neg (show ¬ (6:Int)=1 by decide),if_neg (show ¬ (6:Int)=2 by decide),if_neg (show ¬ (6:Int)=12 by decide),if_neg (show ¬ (6:Int)=3 by decide),if_neg (show ¬ (6:Int)=4 by decide),if_neg (show ¬ (6:Int)=5 by decide),if_pos rfl]
  rw [nus3 n1 n2 n3,h4];rfl
 have h':=ite_or h;clear h;rcases h' with ⟨e,h⟩ | ⟨-,h⟩
 ·rw [eqS_iffD] at e;subst e
  obtain ⟨n,m,q,rfl,n1,n2,n3,rfl⟩:=threeP_some h
  refine ⟨[b_read,itoaB n,itoaB m,itoaB q],?_,⟨regC_z rfl,regR_z,fun h=>by cases h⟩,rfl⟩
  unfold actL;dsimp only;rw [if_neg (show ¬ (7:Int)=1 by decide),if_neg (show ¬ (7:Int)=2 by decide),if_neg (show ¬ (7:Int)=12 by decide),if_neg (show ¬ (7:Int)=3 by decide),if_neg (show ¬ (7:Int)=4 by decide),if_neg (show ¬ (7:Int)=5 by decide),if_neg (show ¬ (7:Int)=6 by decide),if_pos rfl]
  rw [nus3 n1 n2 n3];rfl
 have h':=ite_or h;clear h;rcases h' with ⟨e,h⟩ | ⟨-,h⟩
 ·rw [eqS_iffD] at e;subst e
  obtain ⟨n,m,rfl,n1,n2,rfl⟩:=chgP_some h
  refine ⟨[b_learner,itoaB n,itoaB m],?_,⟨regC_z rfl,regR_z,fun _=>(show (1:Int)≤1 by decide)⟩,rfl⟩
  unfold actL;dsimp only;rw [if_neg (show ¬ (8:Int)=1 by decide),if_neg (show ¬ (8:Int)=2 by decide),if_neg (show ¬ (8:Int)=12 by decide),if_neg (show ¬ (8:Int)=3 by decide),if_neg (show ¬ (8:Int)=4 by decide),if_neg (show ¬ (8:Int)=5 by decide),if_neg (show ¬ (8:Int)=6 by decide),if_neg (show ¬ (8:Int)=7 by decide),if_pos rfl]
  rw [nus2 n1 n2];rfl
 have h':=ite_or h;clear h;rcases h' with ⟨e,h⟩ | ⟨-,h⟩
 ·rw [eqS_iffD] at e;subst e
  obtain ⟨n,m,rfl,n1,n2,rfl⟩:=chgP_some h
  refine ⟨[b_voter,itoaB n,itoaB m],?_,⟨regC_z rfl,regR_z,fun _=>(show (1:Int)≤2 by decide)⟩,rfl⟩
  unfold actL;dsimp only;rw [if_neg (show ¬ (8:Int)=1 by decide),if_neg (show ¬ (8:Int)=2 by decide),if_neg (show ¬ (8:Int)=12 by decide),if_neg (show ¬ (8:Int)=3 by decide),if_neg (show ¬ (8:Int)=4 by decide),if_neg (show ¬ (8:Int)=5 by decide),if_neg (show ¬ (8:Int)=6 by decide),if_neg (show ¬ (8:Int)=7 by decide),if_pos rfl]
  rw [nus2 n1 n2];rfl
 have h':=ite_or h;clear h;rcases h' with ⟨e,h⟩ | ⟨-,h⟩
 ·rw [eqS_iffD] at e;subst e
  obtain ⟨n,m,rfl,n1,n2,rfl⟩:=chgP_some h
  refine ⟨[b_remove,itoaB n,itoaB m],?_,⟨regC_z rfl,regR_z,fun _=>(show (1:Int)≤3 by decide)⟩,rfl⟩
  unfold actL;dsimp only;rw [if_neg (show ¬ (8:Int)=1 by decide),if_neg (show ¬ (8:Int)=2 by decide),if_neg (show ¬ (8:Int)=12 by decide),if_neg (show ¬ (8:Int)=3 by decide),if_neg (show ¬ (8:Int)=4 by decide),if_neg (show ¬ (8:Int)=5 by decide),if_neg (show ¬ (8:Int)=6 by decide),if_neg (show ¬ (8:Int)=7 by decide),if_pos rfl]
  rw [nus2 n1 n2];rfl
 have h':=ite_or h;clear h;rcases h' with ⟨e,h⟩ | ⟨-,h⟩
 ·rw [eqS_iffD] at e;subst e
  simp only [Option.bind_eq_some_iff,Prod.exists,Option.some.injEq,Prod.mk.injEq] at h
  obtain ⟨n,W2,h2,m,W3,h3,rfl,rfl⟩:=h
  obtain ⟨rfl,n1⟩:=numP_some h2
  obtain ⟨rfl,n2⟩:=numP_some h3
  refine ⟨[b_lease,itoaB n,itoaB m],?_,⟨regC_z rfl,regR_z,fun h=>by cases h⟩,rfl⟩
  unfold actL;dsimp only;rw [if_neg (show ¬ (9:Int)=1 by decide),if_neg (show ¬ (9:Int)=2 by decide),if_neg (show ¬ (9:Int)=12 by decide),if_neg (show ¬ (9:Int)=3 by decide),if_neg (show ¬ (9:Int)=4 by decide),if_neg (show ¬ (9:Int)=5 by decide),if_neg (show ¬ (9:Int)=6 by decide),if_neg (show ¬ (9:Int)=7 by decide),if_neg (show ¬ (9:Int)=8 by decide),if_pos rfl]
  rw [nus2 n1 n2];rfl
 have h':=ite_or h;clear h;rcases h' with ⟨e,h⟩ | ⟨-,h⟩
 ·rw [eqS_iffD] at e;subst e
  simp only [Option.bind_eq_some_iff,Prod.exists,Option.some.injEq,Prod.mk.injEq] at h
  obtain ⟨n,W2,h2,x,W3,h3,rfl,rfl⟩:=h
  obtain ⟨rfl,n1⟩:=numP_some h2
  obtain ⟨V,h4,g4,rfl⟩:=rowP_some h3
  refine ⟨b_row::itoaB n::V,?_,⟨regC_z rfl,g4,fun h=>by cases h⟩,rfl⟩
  unfold actL;dsimp only;rw [if_neg (show ¬ (10:Int)=1 by decide),if_neg (show ¬ (10:Int)=2 by decide),if_neg (show ¬ (10:Int)=12 by decide),if_neg (show ¬ (10:Int)=3 by decide),if_neg (show ¬ (10:Int)=4 by decide),if_neg (show ¬ (10:Int)=5 by decide),if_neg (show ¬ (10:Int)=6 by decide),if_neg (show ¬ (10:Int)=7 by decide),if_neg (show ¬ (10:Int)=8 by decide),if_neg (show ¬ (10:Int)=9 by decide),if_pos rfl]
  rw [nus1 n1,h4];rfl
 have h':=ite_or h;clear h;rcases h' with ⟨e,h⟩ | ⟨-,h⟩
 ·rw [eqS_iffD] at e;subst e
  simp only [Option.bind_eq_some_iff,Prod.exists,Option.some.injEq,Prod.mk.injEq] at h
  obtain ⟨n,W2,h2,m,W3,h3,rfl,rfl⟩:=h
  obtain ⟨rfl,n1⟩:=numP_some h2
  obtain ⟨rfl,n2⟩:=numP_some h3
  refine ⟨[b_crash,itoaB n,itoaB m],?_,⟨regC_z rfl,regR_z,fun h=>by cases h⟩,rfl⟩
  unfold actL;dsimp only;rw [if_neg (show ¬ (11:Int)=1 by decide),if_neg (show ¬ (11:Int)=2 by decide),if_neg (show ¬ (11:Int)=12 by decide),if_neg (show ¬ (11:Int)=3 by decide),if_neg (show ¬ (11:Int)=4 by decide),if_neg (show ¬ (11:Int)=5 by decide),if_neg (show ¬ (11:Int)=6 by decide),if_neg (show ¬ (11:Int)=7 by decide),if_neg (show ¬ (11:Int)=8 by decide),if_neg (show ¬ (11:Int)=9 by decide),if_neg (show ¬ (11:Int)=10 by decide),if_pos rfl]
  rw [nus2 n1 n2];rfl
 cases h
theorem parseW_some {a:Dact} {W:Ws} (h:parseW W=some a):actL a=some W∧regA a:=by
 unfold parseW at h
 simp only [Option.bind_eq_some_iff,Prod.exists] at h
 obtain ⟨b,W1,h1,h⟩:=h
 split at h
 ·rename_i e
  subst e
  cases h
  obtain ⟨V,h2,g2,rfl⟩:=actP_some h1
  rw [h2,List.append_nil]
  exact ⟨rfl,g2⟩
 ·cases h
theorem words_line (s:ByteArray):lineB (wordsB s)=s:=by
 unfold lineB wordsB
 rw [List.map_map]
 have:(fun b:ByteArray=>b.data.toList) ∘ wd=id:=by funext l;exact wd_data l
 rw [this,List.map_id,join_cut,wd_of]
theorem laid_of_parse {s:ByteArray} {a:Dact} (h:parseB s=some a):laidB a=some s:=by
 unfold parseB at h
 split at h
 ·unfold laidB;rw [(parseW_some h).1,Option.map_some,words_line]
 ·cases h
abbrev RD (α:Type):=α × Ws × Bool
def bindD {α β:Type} (r:RD α) (g:α→Ws→Bool→RD β):RD β:=g r.1 r.2.1 r.2.2
def moreD (W:Ws) (b:Bool):Bool:=!W.isEmpty&&!b
def oneD {α:Type} (f:ByteArray→α × Bool) (W:Ws) (b:Bool):RD α :=
 match W,b with
 | s::W,false=>((f s).1,W,!(f s).2)
 | W,_=>((f zBy).1,W,true)
def manyD {α:Type} (f:ByteArray→α × Bool):Ws→RD (List α)
 | []=>([(f zBy).1],[],true)
 | s::W=>if (f s).2 then (if W.isEmpty then ([(f s).1],[],false) else ((f s).1::(manyD f W).1,(manyD f W).2)) else ([(f s).1],W,true)
def manyB {α:Type} (f:ByteArray→α × Bool) (W:Ws) (b:Bool):RD (List α):=if b then ([(f zBy).1],W,true) else manyD f W
def numV (s:ByteArray):Int × Bool:=((numB s).getD 0,(numB s).isSome)
def nameV (s:ByteArray):ByteArray × Bool:=(s,nameB s)
def colsS (s:ByteArray):Ws:=(cutL 58 s.data.toList).map wd
def colV (s:ByteArray):Col × Bool :=
 if decide ((colsS (nulless s)).length=2)&&nameB ((colsS (nulless s)).getD 0 zBy)&&(eqS ((colsS (nulless s)).getD 1 zBy) b_int || eqS ((colsS (nulless s)).getD 1 zBy) b_text) then
  (⟨(colsS (nulless s)).getD 0 zBy,if eqS ((colsS (nulless s)).getD 1 zBy) b_text then 3 else 2,nulB s⟩,true)
 else (⟨zBy,0,nulB s⟩,false)
def valV (s:ByteArray):Val × Bool :=
 if eqS s b_null then (⟨1,0,zBy⟩,true)
 else if quoB s then (⟨3,0,quoless s⟩,txtB (quoless s))
 else (⟨2,(numV s).1,zBy⟩,(numV s).2)
def wordD:Ws→Bool→RD ByteArray:=oneD fun s=>(s,true)
def nameD:Ws→Bool→RD ByteArray:=oneD nameV
def numD:Ws→Bool→RD Int:=oneD numV
def colD:Ws→Bool→RD Col:=oneD colV
def valD:Ws→Bool→RD Val:=oneD valV
def kindB (w:ByteArray):Int :=
 if eqS w b_schema then 1
 else if eqS w b_dropschema then 2
 else if eqS w b_table then 3
 else if eqS w b_droptable then 4
 else if eqS w b_column then 5
 else if eqS w b_dropcolumn then 6
 else if eqS w b_index then 7
 else if eqS w b_key then 7
 else if eqS w b_check then 7
 else if eqS w b_foreign then 7
 else if eqS w b_droprule then 8
 else if eqS w b_owner then 9
 else if eqS w b_role then 10
 else if eqS w b_droprole then 11
 else if eqS w b_member then 12
 else if eqS w b_unmember then 13
 else if eqS w b_grant then 14
 else if eqS w b_revoke then 15
 else 0
def ruleD (w:ByteArray) (W:Ws) (b:Bool):RD Rul :=
 bindD (nameD W b) fun n W b =>
 if eqS w b_index then bindD (manyB nameV W b) fun l W b=>(⟨n,1,l,0,0,zBy,zBy,zBy⟩,W,b)
 else if eqS w b_key then bindD (manyB nameV W b) fun l W b=>(⟨n,2,l,0,0,zBy,zBy,zBy⟩,W,b)
 else if eqS w b_check then bindD (nameD W b) fun c W b=>bindD (numD W b) fun lo W b=>bindD (numD W b) fun hi W b=>(⟨n,3,[c],lo,hi,zBy,zBy,zBy⟩,W,b)
 else if eqS w b_foreign then bindD (nameD W b) fun s W b=>bindD (nameD W b) fun t W b=>bindD (nameD W b) fun q W b=>bindD (manyB nameV W b) fun l W b=>(⟨n,4,l,0,0,s,t,q⟩,W,b)
 else (⟨n,0,[],0,0,zBy,zBy,zBy⟩,W,b)
def rightV (s:ByteArray):Int × Bool:=if eqS s b_read then (1,true) else if eqS s b_write then (2,true) else (0,false)
def grantD (k:Int) (x:Cmd) (W:Ws) (b:Bool):RD Cmd :=
 bindD (oneD rightV W b) fun r W b=>bindD (nameD W b) fun t W b =>
 if k=14∧moreD W b=true then bindD (oneD (fun s=>(s,eqS s b_option)) W b) fun _ W b=>({ x with right:=r,role:=t,opt:=true },W,b)
 else ({ x with right:=r,role:=t },W,b)
def tailD (w:ByteArray) (k:Int) (x:Cmd) (W:Ws) (b:Bool):RD Cmd :=
 if k=3 then bindD (manyB colV W b) fun l W b=>({ x with cols:=l },W,b)
 else if k=5 then bindD (colD W b) fun c W b=>({ x with cols:=[c] },W,b)
 else if k=6∨k=8 then bindD (nameD W b) fun s W b=>({ x with name:=s },W,b)
 else if k=7 then bindD (ruleD w W b) fun r W b=>({ x with rule:=r },W,b)
 else if k=9 then bindD (nameD W b) fun s W b=>({ x with role:=s },W,b)
 else if k=14∨k=15 then grantD k x W b
 else (x,W,b)
def cmdD (W:Ws) (b:Bool):RD Cmd :=
 bindD (oneD (fun s=>(s,kindB s != 0)) W b) fun w W b=>bindD (nameD W b) fun a W b =>
 if 10≤kindB w∧kindB w≤13 then bindD (nameD W b) fun r W b =>
  if 12≤kindB w then bindD (nameD W b) fun n W b=>({ zCmd with kind:=kindB w,actor:=a,role:=r,name:=n },W,b)
  else ({ zCmd with kind:=kindB w,actor:=a,role:=r },W,b)
 else bindD (nameD W b) fun s W b =>
  if kindB w≠1∧kindB w≠2 then bindD (nameD W b) fun t W b=>tailD w (kindB w) { zCmd with kind:=kindB w,actor:=a,schema:=s,table:=t } W b
  else ({ zCmd with kind:=kindB w,actor:=a,schema:=s },W,b)
def rowD (W:Ws) (b:Bool):RD ROp :=
 bindD (wordD W b) fun f W b=>bindD (nameD W b) fun r W b=>bindD (nameD W b) fun s W b=>bindD (nameD W b) fun t W b =>
 if eqS f b_insert then bindD (manyB valV W b) fun l W b=>(⟨1,r,s,t,l,zBy,zVal⟩,W,b)
 else if eqS f b_remove then bindD (nameD W b) fun c W b=>bindD (valD W b) fun v W b=>(⟨2,r,s,t,[],c,v⟩,W,b)
 else if eqS f b_select then (if moreD W b=true then bindD (nameD W b) fun c W b=>bindD (valD W b) fun v W b=>(⟨3,r,s,t,[],c,v⟩,W,b) else (⟨3,r,s,t,[],zBy,zVal⟩,W,b))
 else (⟨0,r,s,t,[],zBy,zVal⟩,W,true)
def chgD (k:Int) (W:Ws) (b:Bool):RD Dact:=bindD (numD W b) fun n W b=>bindD (numD W b) fun m W b=>({ zAct with kind:=8,node:=n,ck:=k,cn:=m },W,b)
def threeD (k:Int) (W:Ws) (b:Bool):RD Dact:=bindD (numD W b) fun x W b=>bindD (numD W b) fun y W b=>bindD (numD W b) fun z W b=>({ zAct with kind:=k,node:=x,client:=y,number:=z },W,b)
def actD (W:Ws) (b:Bool):RD Dact :=
 bindD (wordD W b) fun f W b =>
 if eqS f b_tick then bindD (numD W b) fun n W b=>({ zAct with kind:=1,node:=n },W,b)
 else if eqS f b_world then ({ zAct with kind:=2 },W,b)
 else if eqS f b_start then bindD (numD W b) fun n W b=>({ zAct with kind:=12,node:=n },W,b)
 else if eqS f b_deliver then bindD (numD W b) fun n W b=>({ zAct with kind:=3,n:=n },W,b)
 else if eqS f b_drop then bindD (numD W b) fun n W b=>({ zAct with kind:=4,n:=n },W,b)
 else if eqS f b_double then bindD (numD W b) fun n W b=>({ zAct with kind:=5,n:=n },W,b)
 else if eqS f b_ask then bindD (threeD 6 W b) fun a W b=>bindD (cmdD W b) fun x W b=>({ a with cmd:=x },W,b)
 else if eqS f b_read then threeD 7 W b
 else if eqS f b_learner then chgD 1 W b
 else if eqS f b_voter then chgD 2 W b
 else if eqS f b_remove then chgD 3 W b
 else if eqS f b_lease then bindD (numD W b) fun n W b=>bindD (numD W b) fun m W b=>({ zAct with kind:=9,n:=n,node:=m },W,b)
 else if eqS f b_row then bindD (numD W b) fun n W b=>bindD (rowD W b) fun x W b=>({ zAct with kind:=10,n:=n,row:=x },W,b)
 else if eqS f b_crash then bindD (numD W b) fun n W b=>bindD (numD W b) fun m W b=>({ zAct with kind:=11,node:=n,n:=m },W,b)
 else (zAct,W,true)
def parseD (s:ByteArray):Option Dact :=
 if s.size≤4096 then (if (actD (wordsB s) false).2.2 || !(actD (wordsB s) false).2.1.isEmpty then none else some (actD (wordsB s) false).1) else none
def Rl {α:Type} (r:RD α) (o:Option (α × Ws)):Prop :=
 match o with
 | some (x,W)=>r=(x,W,false)
 | none=>r.2.2=true
structure RR {α:Type} (g:Ws→Bool→RD α) (h:Ws→Option (α × Ws)):Prop where
 same:∀ W,Rl (g W false) (h W)
 stay:∀ W,(g W true).2.2=true
theorem RR.bind {α β:Type} {g:Ws→Bool→RD α} {h:Ws→Option (α × Ws)} {g2:α→Ws→Bool→RD β} {h2:α × Ws→Option (β × Ws)} (H:RR g h) (H2:∀ x,RR (g2 x) (fun W=>h2 (x,W))) :
  RR (fun W b=>bindD (g W b) g2) (fun W=>(h W).bind h2):=by
 refine ⟨fun W=>?_,fun W=>?_⟩
 ·have h0:=H.same W
  unfold bindD
  cases hq:h W with
  | none =>
   rw [hq] at h0
   show Rl _ none
   have h0':(g W false).2.2=true:=h0
   show (g2 _ _ (g W false).2.2).2.2=true
   rw [h0']
   exact (H2 _).stay _
  | some y =>
   obtain ⟨x,W1⟩:=y
   rw [hq] at h0
   have h0':g W false=(x,W1,false):=h0
   rw [h0']
   exact (H2 x).same W1
 ·unfold bindD
  rw [H.stay W]
  exact (H2 _).stay _
theorem RR.done {α:Type} (x:α):RR (fun W b=>(x,W,b)) (fun W=>some (x,W)):=⟨fun _=>rfl,fun _=>rfl⟩
theorem RR.fail {α:Type} (x:α):RR (fun W b=>(x,W,true)) (fun _=>none):=⟨fun _=>rfl,fun _=>rfl⟩
theorem RR.ite {α:Type} {c:Prop} [Decidable c] {g g':Ws→Bool→RD α} {h h':Ws→Option (α × Ws)} (H:RR g h) (H':RR g' h'):RR (fun W b=>if c then g W b else g' W b) (fun W=>if c then h W else h' W):=by
 by_cases hc:c
 ·simp only [if_pos hc];exact H
 ·simp only [if_neg hc];exact H'
theorem RR.one {α:Type} {f:ByteArray→α × Bool} {p:ByteArray→Option α} (hf:∀ s,(f s).2=(p s).isSome∧∀ x,p s=some x→(f s).1=x):RR (oneD f) (oneP p):=by
 refine ⟨fun W=>?_,fun W=>by cases W<;>rfl⟩
 cases W with
 | nil=>rfl
 | cons s W =>
  obtain ⟨h1,h2⟩:=hf s
  cases hq:p s with
  | none =>
   rw [hq] at h1
   simp only [oneP,hq,Option.map_none]
   show (!(f s).2)=true
   rw [h1];rfl
  | some x =>
   rw [hq] at h1
   simp only [oneP,hq,Option.map_some]
   show ((f s).1,W,!(f s).2)=(x,W,false)
   rw [h1,h2 x hq];rfl
theorem many_same {α:Type} {f:ByteArray→α × Bool} {p:ByteArray→Option α} (hf:∀ s,(f s).2=(p s).isSome∧∀ x,p s=some x→(f s).1=x):∀ W,Rl (manyD f W) (manyP p W)
 | []=>rfl
 | s::W=>by
  obtain ⟨h1,h2⟩:=hf s
  have ih:=many_same hf W
  unfold manyD manyP
  rw [List.mapM_cons]
  cases hq:p s with
  | none =>
   rw [hq] at h1
   have h1':(f s).2=false:=h1
   rw [h1',if_neg (by decide),if_neg (by simp)]
   rfl
  | some x =>
   rw [hq] at h1
   have h1':(f s).2=true:=h1
   rw [if_pos h1',h2 x hq,if_neg (show ¬ s::W=[] by simp)]
   cases W with
   | nil=>rfl
   | cons t W =>
    rw [if_neg (by simp)]
    unfold manyP at ih
    rw [if_neg (by simp)] at ih
    cases hm:(t::W).mapM p with
    | none =>
     rw [hm] at ih
     exact ih
    | some l =>
     rw [hm] at ih
     have ih':manyD f (t::W)=(l,[],false):=ih
     rw [ih'];rfl
theorem RR.many {α:Type} {f:ByteArray→α × Bool} {p:ByteArray→Option α} (hf:∀ s,(f s).2=(p s).isSome∧∀ x,p s=some x→(f s).1=x):RR (manyB f) (manyP p) :=
 ⟨fun W=>by unfold manyB;rw [if_neg (by simp)];exact many_same hf W,fun W=>rfl⟩
theorem nameV_ok (s:ByteArray):(nameV s).2=(nameO s).isSome∧∀ x,nameO s=some x→(nameV s).1=x:=by
 unfold nameV nameO
 cases nameB s<;>simp
theorem numV_ok (s:ByteArray):(numV s).2=(numB s).isSome∧∀ x,numB s=some x→(numV s).1=x:=by
 unfold numV
 cases numB s<;>simp
theorem valV_ok (s:ByteArray):(valV s).2=(valB s).isSome∧∀ x,valB s=some x→(valV s).1=x:=by
 unfold valV valB
 cases eqS s b_null with
 | true=>simp
 | false =>
  cases quoB s with
  | true=>cases txtB (quoless s)<;>simp
  | false=>unfold numV;cases numB s<;>simp
theorem cut_first (b:UInt8):∀ l:Bts,cutL b l=[l]∧b∉l∨∃ w r,l=w++b::r∧b∉w∧cutL b l=w::cutL b r
 | []=>.inl ⟨rfl,by simp⟩
 | c::l=>by
  by_cases h:c=b
  ·subst h
   exact .inr ⟨[],l,rfl,by simp,by simp [cutL]⟩
  ·rcases cut_first b l with ⟨h1,h2⟩ | ⟨w,r,rfl,h2,h3⟩
   ·exact .inl ⟨cut_free b _ (by simp [h2,Ne.symm h]),by simp [h2,Ne.symm h]⟩
   ·have h4:b∉c::w:=by simp [h2,Ne.symm h]
    exact .inr ⟨c::w,r,rfl,h4,cut_pre b (c::w) r h4⟩
theorem colV_ok (s:ByteArray):(colV s).2=(colB s).isSome∧∀ x,colB s=some x→(colV s).1=x:=by
 have e1:(nulless s).data.toList=Lib.trimSuffix s.data.toList [63]:=wd_data _
 generalize hl:(nulless s).data.toList=l at *
 rcases cut_first 58 l with ⟨h1,h2⟩ | ⟨w,r,h1,h2,h3⟩
 ·have c0:Lib.index l [58] = -1:=by
   rw [Lib.index_one]
   rcases Int.lt_or_le (Lib.indexByte l 58) 0 with h | h
   ·have:=Lib.indexByte_ge l 58;omega
   ·obtain ⟨o,h⟩:∃ o:Nat,Lib.indexByte l 58=o:=⟨_,(Int.toNat_of_nonneg h).symm⟩
    obtain ⟨h5,_⟩:=Lib.indexByte_some h
    exact absurd (List.mem_of_getElem? h5) h2
  have c1:cutK (nulless s)=zBy:=by unfold cutK Lib.cut;rw [hl,c0];rfl
  have c2:colsS (nulless s)=[wd l]:=by unfold colsS;rw [hl,h1];rfl
  unfold colV colB
  rw [c1,c2]
  simp [eqS,zBy,b_int,b_text]
 ·have c0:Lib.index l [58]=(w.length:Nat):=by
   rw [Lib.index_one]
   rcases Int.lt_or_le (Lib.indexByte l 58) 0 with h | h
   ·have h5:=Lib.indexByte_none (l:=l) (c:=58) (by have:=Lib.indexByte_ge l 58;omega) w.length
    rw [h1] at h5
    simp at h5
   ·obtain ⟨o,h⟩:∃ o:Nat,Lib.indexByte l 58=o:=⟨_,(Int.toNat_of_nonneg h).symm⟩
    obtain ⟨h5,h6⟩:=Lib.indexByte_some h
    rw [h]
    congr 1
    rcases Nat.lt_trichotomy o w.length with h7 | h7 | h7
    ·rw [h1,List.getElem?_append_left h7] at h5
     exact absurd (List.mem_of_getElem? h5) h2
    ·exact h7
    ·have:=h6 _ h7
     rw [h1] at this
     simp at this
  have c1:cutN (nulless s)=wd w:=by unfold cutN Lib.cut;rw [hl,c0,h1];simp
  have c2:cutK (nulless s)=wd r:=by unfold cutK Lib.cut;rw [hl,c0,h1,if_pos (by omega)];simp only [Int.toNat_natCast,List.length_cons,List.length_nil];rw [show List.length w+(0+1)=(w++[58]).length by simp,show w++58::r=(w++[58])++r by simp,List.drop_left]
  have c3:colsS (nulless s)=wd w::(cutL 58 r).map wd:=by unfold colsS;rw [hl,h3];rfl
  unfold colV colB
  rw [c1,c2,c3]
  rcases cut_first 58 r with ⟨h4,h5⟩ | ⟨v,q,h4,h5,h6⟩
  ·rw [h4]
   simp only [List.map_cons,List.map_nil,List.length_cons,List.length_nil,List.getD_cons_zero,List.getD_cons_succ]
   cases nameB (wd w)<;>cases eqS (wd r) b_int<;>cases eqS (wd r) b_text<;>simp
  ·have hn:=cutL_ne 58 q
   have k1:eqS (wd r) b_int=false:=by
    cases hq:eqS (wd r) b_int with
    | false=>rfl
    | true =>
     rw [eqS_iffD] at hq
     have:=congrArg (fun b:ByteArray=>b.data.toList) hq
     simp only [wd_data] at this
     rw [this] at h4
     have:=congrArg (fun l:Bts=>(58:UInt8)∈l) h4
     simp [b_int] at this
   have k2:eqS (wd r) b_text=false:=by
    cases hq:eqS (wd r) b_text with
    | false=>rfl
    | true =>
     rw [eqS_iffD] at hq
     have:=congrArg (fun b:ByteArray=>b.data.toList) hq
     simp only [wd_data] at this
     rw [this] at h4
     have:=congrArg (fun l:Bts=>(58:UInt8)∈l) h4
     simp [b_text] at this
   rw [k1,k2,h6]
   simp [hn]
theorem RR.name:RR nameD nameP:=RR.one nameV_ok
theorem RR.num:RR numD numP:=RR.one numV_ok
theorem RR.col:RR colD colP:=RR.one colV_ok
theorem RR.val:RR valD valP:=RR.one valV_ok
theorem RR.word:RR wordD wordP:=RR.one fun s=>⟨rfl,fun x h=>by simpa using h⟩
theorem RR.names:RR (manyB nameV) namesP:=RR.many nameV_ok
theorem RR.cols:RR (manyB colV) colsP:=RR.many colV_ok
theorem RR.vals:RR (manyB valV) valsP:=RR.many valV_ok
theorem RR.eq {α:Type} {g g':Ws→Bool→RD α} {h h':Ws→Option (α × Ws)} (H:RR g h) (e:g'=g) (e':h'=h):RR g' h':=by rw [e,e'];exact H
theorem RR.chg (k:Int):RR (chgD k) (chgP k):=RR.num.bind fun n=>RR.num.bind fun m=>RR.done _
theorem RR.three (k:Int):RR (threeD k) (threeP k):=RR.num.bind fun n=>RR.num.bind fun m=>RR.num.bind fun q=>RR.done _
theorem RR.row:RR rowD rowP:=by
 refine RR.word.bind fun f=>RR.name.bind fun r=>RR.name.bind fun s=>RR.name.bind fun t=>?_
 refine RR.ite (RR.vals.bind fun l=>RR.done _) (RR.ite (RR.name.bind fun c=>RR.val.bind fun v=>RR.done _) (RR.ite ?_ (RR.fail _)))
 have H:RR (fun W b=>bindD (nameD W b) fun c W b=>bindD (valD W b) fun v W b=>((⟨3,r,s,t,[],c,v⟩:ROp),W,b)) (fun W=>(nameP W).bind fun (c,W)=>(valP W).bind fun (v,W)=>some ((⟨3,r,s,t,[],c,v⟩:ROp),W)):=RR.name.bind fun c=>RR.val.bind fun v=>RR.done _
 refine ⟨fun W=>?_,fun W=>?_⟩
 ·cases W with
  | nil=>rfl
  | cons x W =>
   rw [if_pos (by simp [moreD]),if_neg (by simp)]
   exact H.same (x::W)
 ·rw [if_neg (by simp [moreD])]
theorem eqS_no {a b:ByteArray} (h:a.data≠b.data):eqS a b=false:=by
 cases hq:eqS a b with
 | false=>rfl
 | true=>rw [eqS_iffD] at hq;subst hq;exact absurd rfl h
theorem eqS_yes (a:ByteArray):eqS a a=true:=(eqS_iffD a a).2 rfl
theorem RR.posD {α:Type} {c:Prop} [Decidable c] {g g':Ws→Bool→RD α} {h:Ws→Option (α × Ws)} (hc:c) (H:RR g h):RR (fun W b=>if c then g W b else g' W b) h:=by simp only [if_pos hc];exact H
theorem RR.negD {α:Type} {c:Prop} [Decidable c] {g g':Ws→Bool→RD α} {h:Ws→Option (α × Ws)} (hc:¬ c) (H:RR g' h):RR (fun W b=>if c then g W b else g' W b) h:=by simp only [if_neg hc];exact H
theorem RR.posP {α:Type} {c:Prop} [Decidable c] {g:Ws→Bool→RD α} {h h':Ws→Option (α × Ws)} (hc:c) (H:RR g h):RR g (fun W=>if c then h W else h' W):=by simp only [if_pos hc];exact H
theorem RR.negP {α:Type} {c:Prop} [Decidable c] {g:Ws→Bool→RD α} {h h':Ws→Option (α × Ws)} (hc:¬ c) (H:RR g h'):RR g (fun W=>if c then h W else h' W):=by simp only [if_neg hc];exact H
theorem neB {a b:ByteArray} (h:a.data≠b.data):¬ eqS a b=true:=by rw [eqS_no h];decide
theorem RR.rule (w:ByteArray) (k:Int) (hw:(w=b_index∧k=1)∨(w=b_key∧k=2)∨(w=b_check∧k=3)∨(w=b_foreign∧k=4)):RR (ruleD w) (ruleP k):=by
 refine RR.name.bind fun n=>?_
 rcases hw with ⟨rfl,rfl⟩ | ⟨rfl,rfl⟩ | ⟨rfl,rfl⟩ | ⟨rfl,rfl⟩
 ·exact RR.posD (eqS_yes _) (RR.negP (by decide) (RR.negP (by decide) (RR.names.bind fun l=>RR.done _)))
 ·exact RR.negD (neB (by decide)) (RR.posD (eqS_yes _) (RR.negP (by decide) (RR.negP (by decide) (RR.names.bind fun l=>RR.done _))))
 ·exact RR.negD (neB (by decide)) (RR.negD (neB (by decide)) (RR.posD (eqS_yes _) (RR.posP rfl (RR.name.bind fun c=>RR.num.bind fun lo=>RR.num.bind fun hi=>RR.done _))))
 ·exact RR.negD (neB (by decide)) (RR.negD (neB (by decide)) (RR.negD (neB (by decide)) (RR.posD (eqS_yes _) (RR.negP (by decide) (RR.posP rfl (RR.name.bind fun s=>RR.name.bind fun t=>RR.name.bind fun q=>RR.names.bind fun l=>RR.done _))))))
theorem rightV_ok (s:ByteArray):(rightV s).2=(rightO s).isSome∧∀ x,rightO s=some x→(rightV s).1=x:=by
 unfold rightV rightO
 cases eqS s b_read<;>cases eqS s b_write<;>simp
theorem RR.revoke (x:Cmd):RR (grantD 15 x) (rightP x):=by
 refine (RR.one rightV_ok).bind fun r=>RR.name.bind fun t=>?_
 exact RR.done _
theorem RR.grant (x:Cmd):RR (grantD 14 x) (fun W=>(rightP x W).bind fun (y,W)=>optP y W):=by
 have H:RR (grantD 14 x) (fun W=>(oneP rightO W).bind fun (r,W)=>(nameP W).bind fun (t,W)=>optP { x with right:=r,role:=t } W):=by
  refine (RR.one rightV_ok).bind fun r=>RR.name.bind fun t=>?_
  refine ⟨fun W=>?_,fun W=>?_⟩
  ·cases W with
   | nil=>rfl
   | cons s W =>
    rw [if_pos ⟨rfl,by simp [moreD]⟩]
    simp only [optP,bindD,oneD]
    cases eqS s b_option<;>rfl
  ·rw [if_neg (by simp [moreD])]
 refine H.eq rfl ?_
 funext W
 unfold rightP
 cases hq:oneP rightO W with
 | none=>rfl
 | some y =>
  simp only [Option.bind_some]
  cases hq2:nameP y.2 with
  | none=>rfl
  | some z=>rfl
theorem RR.table (x:Cmd) {g:ByteArray→ByteArray→Ws→Bool→RD Cmd} {h:Cmd × Ws→Option (Cmd × Ws)} (H:∀ s t,RR (g s t) (fun W=>h ({ x with schema:=s,table:=t },W))) :
  RR (fun W b=>bindD (nameD W b) fun s W b=>bindD (nameD W b) fun t W b=>g s t W b) (fun W=>(tableP x W).bind h):=by
 have H1:RR (fun W b=>bindD (nameD W b) fun s W b=>bindD (nameD W b) fun t W b=>g s t W b) (fun W=>(nameP W).bind fun (s,W)=>(nameP W).bind fun (t,W)=>h ({ x with schema:=s,table:=t },W)) :=
  RR.name.bind fun s=>RR.name.bind fun t=>H s t
 refine H1.eq rfl ?_
 funext W
 unfold tableP
 cases hq:nameP W with
 | none=>rfl
 | some y =>
  simp only [Option.bind_some]
  cases hq2:nameP y.2 with
  | none=>rfl
  | some z=>rfl
def Stay {α:Type} (g:Ws→Bool→RD α):Prop:=∀ W,(g W true).2.2=true
theorem Stay.bind {α β:Type} {g:Ws→Bool→RD α} {g2:α→Ws→Bool→RD β} (H:Stay g) (H2:∀ x,Stay (g2 x)):Stay (fun W b=>bindD (g W b) g2):=fun W=>by
 show (g2 (g W true).1 (g W true).2.1 (g W true).2.2).2.2=true
 rw [H W];exact H2 _ _
theorem Stay.done {α:Type} (x:α):Stay (fun W b=>(x,W,b)):=fun _=>rfl
def restD (w a:ByteArray) (W:Ws) (b:Bool):RD Cmd :=
 if 10≤kindB w∧kindB w≤13 then bindD (nameD W b) fun r W b =>
  if 12≤kindB w then bindD (nameD W b) fun n W b=>({ zCmd with kind:=kindB w,actor:=a,role:=r,name:=n },W,b)
  else ({ zCmd with kind:=kindB w,actor:=a,role:=r },W,b)
 else bindD (nameD W b) fun s W b =>
  if kindB w≠1∧kindB w≠2 then bindD (nameD W b) fun t W b=>tailD w (kindB w) { zCmd with kind:=kindB w,actor:=a,schema:=s,table:=t } W b
  else ({ zCmd with kind:=kindB w,actor:=a,schema:=s },W,b)
theorem cmdD_rest (W:Ws) (b:Bool):cmdD W b=bindD (oneD (fun s=>(s,kindB s != 0)) W b) fun w W b=>bindD (nameD W b) fun a W b=>restD w a W b:=rfl
theorem rest_none (w a:ByteArray) (h:kindB w=0):Stay (restD w a):=by
 have e:restD w a=fun W b=>bindD (nameD W b) fun s W b=>bindD (nameD W b) fun t W b=>({ zCmd with actor:=a,schema:=s,table:=t },W,b):=by
  funext W b
  unfold restD
  rw [h];rfl
 rw [e]
 exact Stay.bind RR.name.stay fun s=>Stay.bind RR.name.stay fun t=>Stay.done _
theorem body_none (f:ByteArray) (x:Cmd) (W:Ws) (h:kindB f=0):bodyP f x W=none:=by
 unfold kindB at h
 unfold bodyP
 have h':=ite_or h;clear h;rcases h' with ⟨-,h⟩ | ⟨e0,h⟩
 ·exact absurd h (by decide)
 have h':=ite_or h;clear h;rcases h' with ⟨-,h⟩ | ⟨e1,h⟩
 ·exact absurd h (by decide)
 have h':=ite_or h;clear h;rcases h' with ⟨-,h⟩ | ⟨e2,h⟩
 ·exact absurd h (by decide)
 have h':=ite_or h;clear h;rcases h' with ⟨-,h⟩ | ⟨e3,h⟩
 ·exact absurd h (by decide)
 have h':=ite_or h;clear h;rcases h' with ⟨-,h⟩ | ⟨e4,h⟩
 ·exact absurd h (by decide)
 have h':=ite_or h;clear h;rcases h' with ⟨-,h⟩ | ⟨e5,h⟩
 ·exact absurd h (by decide)
 have h':=ite_or h;clear h;rcases h' with ⟨-,h⟩ | ⟨e6,h⟩
 ·exact absurd h (by decide)
 have h':=ite_or h;clear h;rcases h' with ⟨-,h⟩ | ⟨e7,h⟩
 ·exact absurd h (by decide)
 have h':=ite_or h;clear h;rcases h' with ⟨-,h⟩ | ⟨e8,h⟩
 ·exact absurd h (by decide)
 have h':=ite_or h;clear h;rcases h' with ⟨-,h⟩ | ⟨e9,h⟩
 ·exact absurd h (by decide)
 have h':=ite_or h;clear h;rcases h' with ⟨-,h⟩ | ⟨e10,h⟩
 ·exact absurd h (by decide)
 have h':=ite_or h;clear h;rcases h' with ⟨-,h⟩ | ⟨e11,h⟩
 ·exact absurd h (by decide)
 have h':=ite_or h;clear h;rcases h' with ⟨-,h⟩ | ⟨e12,h⟩
 ·exact absurd h (by decide)
 have h':=ite_or h;clear h;rcases h' with ⟨-,h⟩ | ⟨e13,h⟩
 ·exact absurd h (by decide)
 have h':=ite_or h;clear h;rcases h' with ⟨-,h⟩ | ⟨e14,h⟩
 ·exact absurd h (by decide)
 have h':=ite_or h;clear h;rcases h' with ⟨-,h⟩ | ⟨e15,h⟩
 ·exact absurd h (by decide)
 have h':=ite_or h;clear h;rcases h' with ⟨-,h⟩ | ⟨e16,h⟩
 ·exact absurd h (by decide)
 have h':=ite_or h;clear h;rcases h' with ⟨-,h⟩ | ⟨e17,h⟩
 ·exact absurd h (by decide)
 rw [if_neg e0,if_neg e1,if_neg e2,if_neg e3,if_neg e4,if_neg e5,if_neg e6,if_neg e7,if_neg e8,if_neg e9,if_neg e10,if_neg e11,if_neg e12,if_neg e13,if_neg e14,if_neg e15,if_neg e16,if_neg e17]
theorem RR.rest (w a:ByteArray) (h:kindB w≠0):RR (restD w a) (fun W=>bodyP w { zCmd with actor:=a } W):=by
 unfold kindB at h
 by_cases e:eqS w b_schema=true
 ·rw [eqS_iffD] at e;subst e;clear h
  have k:kindB b_schema=1:=by decide +kernel
  unfold restD;rw [k]
  exact RR.posP (eqS_yes _) (RR.negD (by decide +kernel) (RR.name.bind fun s=>RR.negD (by decide +kernel) (RR.done _)))
 rw [if_neg e] at h;clear e
 by_cases e:eqS w b_dropschema=true
 ·rw [eqS_iffD] at e;subst e;clear h
  have k:kindB b_dropschema=2:=by decide +kernel
  unfold restD;rw [k]
  exact RR.negP (neB (by decide)) (RR.posP (eqS_yes _) (RR.negD (by decide +kernel) (RR.name.bind fun s=>RR.negD (by decide +kernel) (RR.done _))))
 rw [if_neg e] at h;clear e
 by_cases e:eqS w b_table=true
 ·rw [eqS_iffD] at e;subst e;clear h
  have k:kindB b_table=3:=by decide +kernel
  have e:restD b_table a=fun W b=>bindD (nameD W b) fun s W b=>bindD (nameD W b) fun t W b=>tailD b_table 3 { zCmd with kind:=3,actor:=a,schema:=s,table:=t } W b:=by funext W b;unfold restD;rw [k];rfl
  rw [e]
  exact RR.negP (neB (by decide)) (RR.negP (neB (by decide)) (RR.posP (eqS_yes _) (RR.table _ fun s t=>RR.posD (by decide +kernel) (RR.cols.bind fun l=>RR.done _))))
 rw [if_neg e] at h;clear e
 by_cases e:eqS w b_droptable=true
 ·rw [eqS_iffD] at e;subst e;clear h
  have k:kindB b_droptable=4:=by decide +kernel
  have e:restD b_droptable a=fun W b=>bindD (nameD W b) fun s W b=>bindD (nameD W b) fun t W b=>tailD b_droptable 4 { zCmd with kind:=4,actor:=a,schema:=s,table:=t } W b:=by funext W b;unfold restD;rw [k];rfl
  rw [e]
  refine RR.negP (neB (by decide)) (RR.negP (neB (by decide)) (RR.negP (neB (by decide)) (RR.posP (eqS_yes _) (?_))))
  have H:=RR.table { zCmd with actor:=a,kind:=4 } (g:=fun s t W b=>tailD b_droptable 4 { zCmd with kind:=4,actor:=a,schema:=s,table:=t } W b) (h:=fun y=>some y) fun s t=>RR.negD (by decide +kernel) (RR.negD (by decide +kernel) (RR.negD (by decide +kernel) (RR.negD (by decide +kernel) (RR.negD (by decide +kernel) (RR.negD (by decide +kernel) (RR.done _))))))
  exact H.eq rfl (by funext W;simp)
 rw [if_neg e] at h;clear e
 by_cases e:eqS w b_column=true
 ·rw [eqS_iffD] at e;subst e;clear h
  have k:kindB b_column=5:=by decide +kernel
  have e:restD b_column a=fun W b=>bindD (nameD W b) fun s W b=>bindD (nameD W b) fun t W b=>tailD b_column 5 { zCmd with kind:=5,actor:=a,schema:=s,table:=t } W b:=by funext W b;unfold restD;rw [k];rfl
  rw [e]
  exact RR.negP (neB (by decide)) (RR.negP (neB (by decide)) (RR.negP (neB (by decide)) (RR.negP (neB (by decide)) (RR.posP (eqS_yes _) (RR.table _ fun s t=>RR.negD (by decide +kernel) (RR.posD (by decide +kernel) (RR.col.bind fun l=>RR.done _)))))))
 rw [if_neg e] at h;clear e
 by_cases e:eqS w b_dropcolumn=true
 ·rw [eqS_iffD] at e;subst e;clear h
  have k:kindB b_dropcolumn=6:=by decide +kernel
  have e:restD b_dropcolumn a=fun W b=>bindD (nameD W b) fun s W b=>bindD (nameD W b) fun t W b=>tailD b_dropcolumn 6 { zCmd with kind:=6,actor:=a,schema:=s,table:=t } W b:=by funext W b;unfold restD;rw [k];rfl
  rw [e]
  exact RR.negP (neB (by decide)) (RR.negP (neB (by decide)) (RR.negP (neB (by decide)) (RR.negP (neB (by decide)) (RR.negP (neB (by decide)) (RR.posP (eqS_yes _) (RR.table _ fun s t=>RR.negD (by decide +kernel) (RR.negD (by decide +kernel) (RR.posD (by decide +kernel) (RR.name.bind fun l=>RR.done _)))))))))
 rw [if_neg e] at h;clear e
 by_cases e:eqS w b_index=true
 ·rw [eqS_iffD] at e;subst e;clear h
  have k:kindB b_index=7:=by decide +kernel
  have e:restD b_index a=fun W b=>bindD (nameD W b) fun s W b=>bindD (nameD W b) fun t W b=>tailD b_index 7 { zCmd with kind:=7,actor:=a,schema:=s,table:=t } W b:=by funext W b;unfold restD;rw [k];rfl
  rw [e]
  exact RR.negP (neB (by decide)) (RR.negP (neB (by decide)) (RR.negP (neB (by decide)) (RR.negP (neB (by decide)) (RR.negP (neB (by decide)) (RR.negP (neB (by decide)) (RR.posP (eqS_yes _) (RR.table _ fun s t=>RR.negD (by decide +kernel) (RR.negD (by decide +kernel) (RR.negD (by decide +kernel) (RR.posD (by decide +kernel) ((RR.rule b_index 1 (.inl ⟨rfl,rfl⟩)).bind fun r=>RR.done _)))))))))))
 rw [if_neg e] at h;clear e
 by_cases e:eqS w b_key=true
 ·rw [eqS_iffD] at e;subst e;clear h
  have k:kindB b_key=7:=by decide +kernel
  have e:restD b_key a=fun W b=>bindD (nameD W b) fun s W b=>bindD (nameD W b) fun t W b=>tailD b_key 7 { zCmd with kind:=7,actor:=a,schema:=s,table:=t } W b:=by funext W b;unfold restD;rw [k];rfl
  rw [e]
  exact RR.negP (neB (by decide)) (RR.negP (neB (by decide)) (RR.negP (neB (by decide)) (RR.negP (neB (by decide)) (RR.negP (neB (by decide)) (RR.negP (neB (by decide)) (RR.negP (neB (by decide)) (RR.posP (eqS_yes _) (RR.table _ fun s t=>RR.negD (by decide +kernel) (RR.negD (by decide +kernel) (RR.negD (by decide +kernel) (RR.posD (by decide +kernel) ((RR.rule b_key 2 (.inr (.inl ⟨rfl,rfl⟩))).bind fun r=>RR.done _))))))))))))
 rw [if_neg e] at h;clear e
 by_cases e:eqS w b_check=true
 ·rw [eqS_iffD] at e;subst e;clear h
  have k:kindB b_check=7:=by decide +kernel
  have e:restD b_check a=fun W b=>bindD (nameD W b) fun s W b=>bindD (nameD W b) fun t W b=>tailD b_check 7 { zCmd with kind:=7,actor:=a,schema:=s,table:=t } W b:=by funext W b;unfold restD;rw [k];rfl
  rw [e]
  exact RR.negP (neB (by decide)) (RR.negP (neB (by decide)) (RR.negP (neB (by decide)) (RR.negP (neB (by decide)) (RR.negP (neB (by decide)) (RR.negP (neB (by decide)) (RR.negP (neB (by decide)) (RR.negP (neB (by decide)) (RR.posP (eqS_yes _) (RR.table _ fun s t=>RR.negD (by decide +kernel) (RR.negD (by decide +kernel) (RR.negD (by decide +kernel) (RR.posD (by decide +kernel) ((RR.rule b_check 3 (.inr (.inr (.inl ⟨rfl,rfl⟩)))).bind fun r=>RR.done _)))))))))))))
 rw [if_neg e] at h;clear e
 by_cases e:eqS w b_foreign=true
 ·rw [eqS_iffD] at e;subst e;clear h
  have k:kindB b_foreign=7:=by decide +kernel
  have e:restD b_foreign a=fun W b=>bindD (nameD W b) fun s W b=>bindD (nameD W b) fun t W b=>tailD b_foreign 7 { zCmd with kind:=7,actor:=a,schema:=s,table:=t } W b:=by funext W b;unfold restD;rw [k];rfl
  rw [e]
  exact RR.negP (neB (by decide)) (RR.negP (neB (by decide)) (RR.negP (neB (by decide)) (RR.negP (neB (by decide)) (RR.negP (neB (by decide)) (RR.negP (neB (by decide)) (RR.negP (neB (by decide)) (RR.negP (neB (by decide)) (RR.negP (neB (by decide)) (RR.posP (eqS_yes _) (RR.table _ fun s t=>RR.negD (by decide +kernel) (RR.negD (by decide +kernel) (RR.negD (by decide +kernel) (RR.posD (by decide +kernel) ((RR.rule b_foreign 4 (.inr (.inr (.inr ⟨rfl,rfl⟩)))).bind fun r=>RR.done _))))))))))))))
 rw [if_neg e] at h;clear e
 by_cases e:eqS w b_droprule=true
 ·rw [eqS_iffD] at e;subst e;clear h
  have k:kindB b_droprule=8:=by decide +kernel
  have e:restD b_droprule a=fun W b=>bindD (nameD W b) fun s W b=>bindD (nameD W b) fun t W b=>tailD b_droprule 8 { zCmd with kind:=8,actor:=a,schema:=s,table:=t } W b:=by funext W b;unfold restD;rw [k];rfl
  rw [e]
  exact RR.negP (neB (by decide)) (RR.negP (neB (by decide)) (RR.negP (neB (by decide)) (RR.negP (neB (by decide)) (RR.negP (neB (by decide)) (RR.negP (neB (by decide)) (RR.negP (neB (by decide)) (RR.negP (neB (by decide)) (RR.negP (neB (by decide)) (RR.negP (neB (by decide)) (RR.posP (eqS_yes _) (RR.table _ fun s t=>RR.negD (by decide +kernel) (RR.negD (by decide +kernel) (RR.posD (by decide +kernel) (RR.name.bind fun l=>RR.done _))))))))))))))
 rw [if_neg e] at h;clear e
 by_cases e:eqS w b_owner=true
 ·rw [eqS_iffD] at e;subst e;clear h
  have k:kindB b_owner=9:=by decide +kernel
  have e:restD b_owner a=fun W b=>bindD (nameD W b) fun s W b=>bindD (nameD W b) fun t W b=>tailD b_owner 9 { zCmd with kind:=9,actor:=a,schema:=s,table:=t } W b:=by funext W b;unfold restD;rw [k];rfl
  rw [e]
  exact RR.negP (neB (by decide)) (RR.negP (neB (by decide)) (RR.negP (neB (by decide)) (RR.negP (neB (by decide)) (RR.negP (neB (by decide)) (RR.negP (neB (by decide)) (RR.negP (neB (by decide)) (RR.negP (neB (by decide)) (RR.negP (neB (by decide)) (RR.negP (neB (by decide)) (RR.negP (neB (by decide)) (RR.posP (eqS_yes _) (RR.table _ fun s t=>RR.negD (by decide +kernel) (RR.negD (by decide +kernel) (RR.negD (by decide +kernel) (RR.negD (by decide +kernel) (RR.posD (by decide +kernel) (RR.name.bind fun l=>RR.done _)))))))))))))))))
 rw [if_neg e] at h;clear e
 by_cases e:eqS w b_role=true
 ·rw [eqS_iffD] at e;subst e;clear h
  have k:kindB b_role=10:=by decide +kernel
  unfold restD;rw [k]
  exact RR.negP (neB (by decide)) (RR.negP (neB (by decide)) (RR.negP (neB (by decide)) (RR.negP (neB (by decide)) (RR.negP (neB (by decide)) (RR.negP (neB (by decide)) (RR.negP (neB (by decide)) (RR.negP (neB (by decide)) (RR.negP (neB (by decide)) (RR.negP (neB (by decide)) (RR.negP (neB (by decide)) (RR.negP (neB (by decide)) (RR.posP (eqS_yes _) (RR.posD (by decide +kernel) (RR.name.bind fun s=>RR.negD (by decide +kernel) (RR.done _)))))))))))))))
 rw [if_neg e] at h;clear e
 by_cases e:eqS w b_droprole=true
 ·rw [eqS_iffD] at e;subst e;clear h
  have k:kindB b_droprole=11:=by decide +kernel
  unfold restD;rw [k]
  exact RR.negP (neB (by decide)) (RR.negP (neB (by decide)) (RR.negP (neB (by decide)) (RR.negP (neB (by decide)) (RR.negP (neB (by decide)) (RR.negP (neB (by decide)) (RR.negP (neB (by decide)) (RR.negP (neB (by decide)) (RR.negP (neB (by decide)) (RR.negP (neB (by decide)) (RR.negP (neB (by decide)) (RR.negP (neB (by decide)) (RR.negP (neB (by decide)) (RR.posP (eqS_yes _) (RR.posD (by decide +kernel) (RR.name.bind fun s=>RR.negD (by decide +kernel) (RR.done _))))))))))))))))
 rw [if_neg e] at h;clear e
 by_cases e:eqS w b_member=true
 ·rw [eqS_iffD] at e;subst e;clear h
  have k:kindB b_member=12:=by decide +kernel
  unfold restD;rw [k]
  exact RR.negP (neB (by decide)) (RR.negP (neB (by decide)) (RR.negP (neB (by decide)) (RR.negP (neB (by decide)) (RR.negP (neB (by decide)) (RR.negP (neB (by decide)) (RR.negP (neB (by decide)) (RR.negP (neB (by decide)) (RR.negP (neB (by decide)) (RR.negP (neB (by decide)) (RR.negP (neB (by decide)) (RR.negP (neB (by decide)) (RR.negP (neB (by decide)) (RR.negP (neB (by decide)) (RR.posP (eqS_yes _) (RR.posD (by decide +kernel) (RR.name.bind fun s=>RR.posD (by decide +kernel) (RR.name.bind fun t=>RR.done _)))))))))))))))))
 rw [if_neg e] at h;clear e
 by_cases e:eqS w b_unmember=true
 ·rw [eqS_iffD] at e;subst e;clear h
  have k:kindB b_unmember=13:=by decide +kernel
  unfold restD;rw [k]
  exact RR.negP (neB (by decide)) (RR.negP (neB (by decide)) (RR.negP (neB (by decide)) (RR.negP (neB (by decide)) (RR.negP (neB (by decide)) (RR.negP (neB (by decide)) (RR.negP (neB (by decide)) (RR.negP (neB (by decide)) (RR.negP (neB (by decide)) (RR.negP (neB (by decide)) (RR.negP (neB (by decide)) (RR.negP (neB (by decide)) (RR.negP (neB (by decide)) (RR.negP (neB (by decide)) (RR.negP (neB (by decide)) (RR.posP (eqS_yes _) (RR.posD (by decide +kernel) (RR.name.bind fun s=>RR.posD (by decide +kernel) (RR.name.bind fun t=>RR.done _))))))))))))))))))
 rw [if_neg e] at h;clear e
 by_cases e:eqS w b_grant=true
 ·rw [eqS_iffD] at e;subst e;clear h
  have k:kindB b_grant=14:=by decide +kernel
  have e:restD b_grant a=fun W b=>bindD (nameD W b) fun s W b=>bindD (nameD W b) fun t W b=>tailD b_grant 14 { zCmd with kind:=14,actor:=a,schema:=s,table:=t } W b:=by funext W b;unfold restD;rw [k];rfl
  rw [e]
  exact RR.negP (neB (by decide)) (RR.negP (neB (by decide)) (RR.negP (neB (by decide)) (RR.negP (neB (by decide)) (RR.negP (neB (by decide)) (RR.negP (neB (by decide)) (RR.negP (neB (by decide)) (RR.negP (neB (by decide)) (RR.negP (neB (by decide)) (RR.negP (neB (by decide)) (RR.negP (neB (by decide)) (RR.negP (neB (by decide)) (RR.negP (neB (by decide)) (RR.negP (neB (by decide)) (RR.negP (neB (by decide)) (RR.negP (neB (by decide)) (RR.posP (eqS_yes _) (RR.table _ fun s t=>RR.negD (by decide +kernel) (RR.negD (by decide +kernel) (RR.negD (by decide +kernel) (RR.negD (by decide +kernel) (RR.negD (by decide +kernel) (RR.posD (by decide +kernel) (RR.grant _)))))))))))))))))))))))
 rw [if_neg e] at h;clear e
 by_cases e:eqS w b_revoke=true
 ·rw [eqS_iffD] at e;subst e;clear h
  have k:kindB b_revoke=15:=by decide +kernel
  have e:restD b_revoke a=fun W b=>bindD (nameD W b) fun s W b=>bindD (nameD W b) fun t W b=>tailD b_revoke 15 { zCmd with kind:=15,actor:=a,schema:=s,table:=t } W b:=by funext W b;unfold restD;rw [k];rfl
  rw [e]
  exact RR.negP (neB (by decide)) (RR.negP (neB (by decide)) (RR.negP (neB (by decide)) (RR.negP (neB (by decide)) (RR.negP (neB (by decide)) (RR.negP (neB (by decide)) (RR.negP (neB (by decide)) (RR.negP (neB (by decide)) (RR.negP (neB (by decide)) (RR.negP (neB (by decide)) (RR.negP (neB (by decide)) (RR.negP (neB (by decide)) (RR.negP (neB (by decide)) (RR.negP (neB (by decide)) (RR.negP (neB (by decide)) (RR.negP (neB (by decide)) (RR.negP (neB (by decide)) (RR.posP (eqS_yes _) (RR.table _ fun s t=>RR.negD (by decide +kernel) (RR.negD (by decide +kernel) (RR.negD (by decide +kernel) (RR.negD (by decide +kernel) (RR.negD (by decide +kernel) (RR.posD (by decide +kernel) (RR.revoke _))))))))))))))))))))))))
 rw [if_neg e] at h;clear e
 exact absurd rfl h
theorem RR.cmd:RR cmdD cmdP:=by
 refine ⟨fun W=>?_,fun W=>?_⟩
 ·cases W with
  | nil =>
   rw [cmdD_rest]
   exact Stay.bind RR.name.stay (fun x=>rest_none zBy x (by decide +kernel)) []
  | cons f W =>
   rw [cmdD_rest]
   by_cases hk:kindB f=0
   ·have e1:cmdP (f::W)=none:=by
     unfold cmdP wordP oneP
     simp only [Option.map_some,Option.bind_some]
     cases nameP W with
     | none=>rfl
     | some y=>exact body_none f _ _ hk
    rw [e1]
    show (bindD (f,W,!(kindB f != 0)) _).2.2=true
    rw [hk]
    exact Stay.bind RR.name.stay (fun x=>rest_none f x hk) W
   ·have e2:oneD (fun s=>(s,kindB s != 0)) (f::W) false=(f,W,false):=by
     show (f,W,!(kindB f != 0))=_
     rw [bne_iff_ne.2 hk];rfl
    rw [e2]
    have H:RR (fun W b=>bindD (nameD W b) fun a W b=>restD f a W b) (fun W=>(nameP W).bind fun (a,W)=>bodyP f { zCmd with actor:=a } W):=RR.name.bind fun a=>RR.rest f a hk
    exact H.same W
 ·rw [cmdD_rest]
  show (bindD (oneD _ W true) _).2.2=true
  have e3:oneD (fun s=>(s,kindB s != 0)) W true=(zBy,W,true):=by cases W<;>rfl
  rw [e3]
  exact Stay.bind RR.name.stay (fun x=>rest_none zBy x (by decide +kernel)) W
theorem RR.act:RR actD actP:=by
 refine RR.word.bind fun f=>?_
 refine RR.ite (RR.num.bind fun n=>RR.done _) (RR.ite (RR.done _) (RR.ite (RR.num.bind fun n=>RR.done _) (RR.ite (RR.num.bind fun n=>RR.done _) (RR.ite (RR.num.bind fun n=>RR.done _) (RR.ite (RR.num.bind fun n=>RR.done _) ?_)))))
 refine RR.ite ((RR.three 6).bind fun a=>RR.cmd.bind fun x=>RR.done _) (RR.ite (RR.three 7) (RR.ite (RR.chg 1) (RR.ite (RR.chg 2) (RR.ite (RR.chg 3) ?_))))
 exact RR.ite (RR.num.bind fun n=>RR.num.bind fun m=>RR.done _) (RR.ite (RR.num.bind fun n=>RR.row.bind fun x=>RR.done _) (RR.ite (RR.num.bind fun n=>RR.num.bind fun m=>RR.done _) (RR.fail _)))
theorem parse_same (s:ByteArray):parseD s=parseB s:=by
 unfold parseD parseB
 split
 ·have h:=RR.act.same (wordsB s)
  unfold parseW
  cases hq:actP (wordsB s) with
  | none =>
   rw [hq] at h
   have h':(actD (wordsB s) false).2.2=true:=h
   rw [h'];rfl
  | some y =>
   obtain ⟨x,W⟩:=y
   rw [hq] at h
   have h':actD (wordsB s) false=(x,W,false):=h
   rw [h']
   cases W<;>rfl
 ·rfl
end Go.Proofs.YtbdanlipghhgpaaGreatDoor
