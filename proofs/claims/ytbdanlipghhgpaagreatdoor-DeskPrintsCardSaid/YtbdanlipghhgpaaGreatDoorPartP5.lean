import Derived.Test.YtbdanlipghhgpaaGreatDoorPartP4
namespace Go.Proofs.YtbdanlipghhgpaaGreatDoor
open Go.RowKit Go.Deep
set_option maxRecDepth 100000
set_option linter.unusedVariables false
set_option maxHeartbeats 64000000
def goD {α:Type} (f:ByteArray→α × Bool) (rest:Ws):RD (List α):=if rest.isEmpty then ([],[],false) else manyD f rest
def manyG {α:Type} (f:ByteArray→α × Bool) (l:List α) (rest:Ws) (d:Bool):RD (List α) :=
 if l.isEmpty then manyB f rest d else if d then (l,rest,true) else (l++(goD f rest).1,(goD f rest).2)
theorem manyG_step {α:Type} (f:ByteArray→α × Bool) (l:List α) (rest:Ws) (d:Bool) (h1:l≠[]→d=false) (h2:l=[]∨moreD rest d=true) :
  manyG f (l++[(oneD f rest d).1]) (oneD f rest d).2.1 (oneD f rest d).2.2=manyG f l rest d:=by
 unfold manyG
 rw [show (l++[(oneD f rest d).1]).isEmpty=false by cases l<;>rfl]
 cases d with
 | true =>
  have hl:l=[]:=by
   cases l with
   | nil=>rfl
   | cons a l=>have:=h1 (by simp);cases this
  subst hl
  cases rest<;>rfl
 | false =>
  cases rest with
  | nil =>
   have hl:l=[]:=by
    rcases h2 with h | h
    ·exact h
    ·simp [moreD] at h
   subst hl;rfl
  | cons s W =>
   have e:oneD f (s::W) false=((f s).1,W,!(f s).2):=rfl
   rw [e]
   have e2:manyD f (s::W)=if (f s).2 then ((f s).1::(goD f W).1,(goD f W).2) else ([(f s).1],W,true):=by
    rw [manyD]
    unfold goD
    cases W<;>rfl
   cases hf:(f s).2 with
   | true =>
    rw [hf] at e2
    cases l with
    | nil =>
     show (if (!true)=true then ([(f s).1],W,true) else ([(f s).1]++(goD f W).1,(goD f W).2))=manyB f (s::W) false
     unfold manyB
     rw [if_neg (by simp),if_neg (by simp),e2,if_pos rfl];rfl
    | cons a l =>
     show (if (!true)=true then ((a::l)++[(f s).1],W,true) else ((a::l)++[(f s).1]++(goD f W).1,(goD f W).2))=(if false=true then (a::l,s::W,true) else ((a::l)++(goD f (s::W)).1,(goD f (s::W)).2))
     rw [if_neg (by simp),if_neg (by simp)]
     have e3:goD f (s::W)=manyD f (s::W):=rfl
     rw [e3,e2,if_pos rfl]
     simp
   | false =>
    rw [hf] at e2
    cases l with
    | nil =>
     show (if (!false)=true then ([(f s).1],W,true) else ([(f s).1]++(goD f W).1,(goD f W).2))=manyB f (s::W) false
     unfold manyB
     rw [if_pos (by simp),if_neg (by simp),e2,if_neg (by simp)]
    | cons a l =>
     show (if (!false)=true then ((a::l)++[(f s).1],W,true) else ((a::l)++[(f s).1]++(goD f W).1,(goD f W).2))=(if false=true then (a::l,s::W,true) else ((a::l)++(goD f (s::W)).1,(goD f (s::W)).2))
     rw [if_pos (by simp),if_neg (by simp)]
     have e3:goD f (s::W)=manyD f (s::W):=rfl
     rw [e3,e2,if_neg (by simp)]
theorem manyG_stop {α:Type} (f:ByteArray→α × Bool) (l:List α) (rest:Ws) (d:Bool) (h1:l≠[]) (h2:d=true∨moreD rest d=false):manyG f l rest d=(l,rest,d):=by
 unfold manyG
 rw [show l.isEmpty=false by cases l<;>simp_all]
 cases d with
 | true=>rfl
 | false =>
  have:rest=[]:=by
   rcases h2 with h | h
   ·cases h
   ·cases rest with
    | nil=>rfl
    | cons s W=>simp [moreD] at h
  subst this
  simp [goD]
theorem LnS.kn {w w':World} {b p B:Nat} {W:Ws} {d:Bool} (h:LnS w b p W d) (k:Kn B w w') (hb:b < B) (hp:p < B):LnS w' b p W d :=
 h.kb (P:=fun g=>B≤g) ⟨k.os,k.tape,k.output,k.size,k.block⟩ (by omega) (by omega)
theorem own_nilN (w:World) {B:Nat} {ty:TypeId} {size:Nat}:w.ownsRow B ty size (.slice none 0 0) 0 []:=⟨by simp,.inl ⟨rfl,rfl⟩⟩
structure GrowN {α:Type} (ty:TypeId) (size:Nat) (cells:α→List Value) (f:ByteArray→α × Bool) (Pz:α→Prop) (b p:Nat) (w:World) (W:Ws) (d0:Bool) (wr:World) (rest:Ws) (d:Bool) (l:List α) (h:Hd):Prop where
 inv:manyG f l rest d=manyB f W d0
 bnd:d=false→l.length+rest.length=W.length
 el:∀ x∈l,Pz x
 ds:LnS wr b p rest d
 kw:Kw b w wr
 own:wr.ownsRow w.heap.size ty size (.slice h.a l.length h.c) l.length (l.flatMap cells)
 lt:b < w.heap.size
 plt:p < w.heap.size
section
variable {α : Type} {ty : TypeId} {size : Nat} {cells : α → List Value} {f : ByteArray → α × Bool} {Pz : α → Prop} {b p : Nat} {w : World} {W : Ws} {d0 : Bool} {wr : World} {rest : Ws} {d : Bool} {l : List α} {h : Hd}
theorem GrowN.start (hl:LnS w b p W d0):GrowN ty size cells f Pz b p w W d0 w W d0 [] ⟨none,0,0⟩ :=
 ⟨rfl,fun _=>by simp,fun x hx=>absurd hx (by simp),hl,Kw.refl _ _,own_nilN w,hl.lt,hl.plt⟩
theorem GrowN.step (g:GrowN ty size cells f Pz b p w W d0 wr rest d l h) {x:α} {rest1:Ws} {d1:Bool} {w1 w5:World} {o:Obj} {gg cap:Nat} (hs:oneD f rest d=(x,rest1,d1)) (hx:Pz x) (h1:l≠[]→d=false) (h2:l=[]∨moreD rest d=true) (k1:Kw b wr w1) (l1:LnS w1 b p rest1 d1)
  (ho:w5.ownsRow w.heap.size ty size (.slice (Option.some ⟨gg,0,none⟩) (l.length+1) cap) (l.length+1) (l.flatMap cells++cells x)) (hg:(w1.alloc o).grownBy w5 (Value.slice h.a l.length h.c).ownBlock) :
  GrowN ty size cells f Pz b p w W d0 w5 rest1 d1 (l++[x]) ⟨Option.some ⟨gg,0,none⟩,l.length+1,cap⟩:=by
 have hB:∀ k,(Value.slice h.a l.length h.c).ownBlock=Option.some k→w.heap.size≤k:=fun k hk=>(g.own.lt k hk).1
 have kz:=(g.kw.trans k1).size
 have hz:w1.heap.size≤(w1.alloc o).heap.size:=by simp
 have kb:Kw b w w5:=by
  refine ⟨hg.os.trans (g.kw.trans k1).os,hg.tape.trans (g.kw.trans k1).tape,hg.output.trans (g.kw.trans k1).output,Nat.le_trans kz (Nat.le_trans hz hg.size),fun k hk hn=>?_⟩
  have h2:=((g.kw.trans k1).alloc o).block k hk hn
  exact (hg.block k (by omega) (fun e=>by have:=hB k e.symm;omega)).trans h2
 have kn:Kn w.heap.size (w1.alloc o) w5:=⟨hg.os,hg.tape,hg.output,hg.size,fun k hk hn=>hg.block k hk (fun e=>hn (hB k e.symm))⟩
 have hst:=manyG_step f l rest d h1 h2
 rw [hs] at hst
 refine ⟨hst.trans g.inv,fun hd=>?_,?_,(l1.aft ((Aft.refl _).alloc o)).kn kn g.lt g.plt,kb,by rw [List.length_append,List.flatMap_append,List.flatMap_cons,List.flatMap_nil,List.append_nil];exact ho,g.lt,g.plt⟩
 ·subst hd
  cases rest with
  | nil=>cases d<;>cases hs
  | cons s r =>
   cases d with
   | true=>cases hs
   | false =>
    have e:oneD f (s::r) false=((f s).1,r,!(f s).2):=rfl
    rw [e] at hs
    have:rest1=r:=(Prod.mk.inj (Prod.mk.inj hs).2).1.symm
    subst this
    have:=g.bnd rfl
    simp at this ⊢;omega
 ·intro y hy
  rcases List.mem_append.1 hy with h | h
  ·exact g.el y h
  ·have:y=x:=by simpa using h
   rw [this];exact hx
theorem GrowN.upto (g:GrowN ty size cells f Pz b p w W d0 wr rest d l h) (hd:l≠[]→d=false) (hW:W.length≤4097):l.length≤4097:=by
 cases l with
 | nil=>simp
 | cons a l =>
  have:=g.bnd (hd (by simp))
  omega
end
def SzS (x:ByteArray):Prop:=x.size≤4096
def NamesN (b B:Nat) (w':World) (v:Value) (l:List ByteArray):Prop:=OwnR 9 1 nameC b B w' v l∧l.length≤4098∧∀ x∈l,SzS x
theorem oneD_le {w:World} {b p:Nat} {W:Ws} {d:Bool} (h:LnS w b p W d):(oneD nameV W d).1.size≤4096:=by
 cases W with
 | nil=>exact Nat.zero_le _
 | cons s W =>
  cases d with
  | false=>exact h.le
  | true=>exact Nat.zero_le _
theorem names_dn (b p:Nat) (W:Ws) (d:Bool) (w:World) (h:LnS w b p W d):Calls Tryz.prog 88 #[.pointer (some ⟨b,0,none⟩)] w (RdN b p w (NamesN b w.heap.size) (manyB nameV W d)):=by
 have hbig:=gH h.big
 have HB:=gH h.lt
 have G0:=gH (GrowN.start (ty:=9) (size:=1) (cells:=nameC) (f:=nameV) (Pz:=SzS) h)
 clear h
 go_enter Tryz.func88,Tryz.ntmps88
 go_wp2_with fail
 go_loopw [3] (fun u3 wr=>∃ (rest:Ws) (d':Bool) (l:List ByteArray) (h:Hd),u3=.slice h.a l.length h.c∧(l≠[]→d'=false)∧GrowN 9 1 nameC nameV SzS b p w W d wr rest d' l h) (fun u3 _=>W.length - lenV u3)
 case atStart=>exact ⟨W,d,[],⟨none,0,0⟩,rfl,fun h=>absurd rfl h,G0.out⟩
 case round =>
  obtain ⟨rest,d',l,h,rfl,hd,g⟩:=hrel
  have hz:=g.upto hd hbig.out
  have G:=gH g
  have HD:=gH hd
  have HMO:=gH (more_dn b p rest d' wr g.ds)
  obtain ⟨n,hn⟩:∃ n,l.length=n:=⟨_,rfl⟩
  rw [hn] at hz ⊢
  obtain ⟨m,hm⟩:∃ m,moreD rest d'=m:=⟨_,rfl⟩
  rw [hm] at HMO
  by_cases hex:l≠[]∧m=false
  ·obtain ⟨hl,rfl⟩:=hex
   have HS:=gH (manyG_stop nameV l rest d' hl (.inr hm))
   have h0:((n:Int)==0)=false:=by rw [beq_eq_false_iff_ne];intro e;apply hl;exact List.eq_nil_of_length_eq_zero (by omega)
   have HN:=gH hn
   clear g hd hm hl hn
   go_wp2_with (first | (go_at_call 54;with_reducible refine HMO.out.mono ?_;rintro e w' ⟨rfl,rfl⟩))
   go_ret
   refine ⟨G.out.kw,_,rfl,?_⟩
   rw [← G.out.inv,HS.out]
   exact ⟨⟨⟨h,by rw [HN.out];rfl,G.out.own,G.out.lt⟩,by rw [HN.out];omega,G.out.el⟩,G.out.ds⟩
  obtain ⟨x,W1,d1,hx⟩:∃ x W1 d1,oneD nameV rest d'=(x,W1,d1):=⟨_,_,_,rfl⟩
  have HX:=gH hx
  have HSZ:=gH (show SzS x from by have:=oneD_le g.ds;rw [hx] at this;exact this)
  have HNM:=gH (show Calls Tryz.prog 57 #[.pointer (some ⟨b,0,none⟩)] wr fun e w'=>e=.returned (.string x)∧LnS w' b p W1 d1∧Kw b wr w' from by
   refine (lname_dn b p rest d' wr g.ds).mono ?_
   rintro e w' ⟨k,v,rfl,⟨rfl,_⟩,l2⟩
   unfold nameD at l2
   rw [hx] at l2
   refine ⟨?_,l2,k⟩
   unfold nameD;rw [hx])
  have HL:=gH (show l=[]∨moreD rest d'=true from by
   rcases m with _ | _
   ·exact .inl (Classical.byContradiction fun e=>hex ⟨e,rfl⟩)
   ·exact .inr hm)
  have HN:=gH hn
  have HRUN:=gH (show d1=false→n+W1.length+1=W.length from fun e=>by
   subst e
   cases rest with
   | nil=>cases d'<;>cases hx
   | cons s r =>
    cases d' with
    | true=>cases hx
    | false =>
     have e:oneD nameV (s::r) false=((nameV s).1,r,!(nameV s).2):=rfl
     rw [e] at hx
     have:W1=r:=(Prod.mk.inj (Prod.mk.inj hx).2).1.symm
     subst this
     have:=g.bnd rfl
     simp at this;omega)
  have hcase:((n:Int)==0)=true∨(((n:Int)==0)=false∧m=true):=by
   by_cases e:n=0
   ·exact .inl (by subst e;rfl)
   ·refine .inr ⟨by rw [beq_eq_false_iff_ne];omega,?_⟩
    rcases HL.out with h | h
    ·rw [h] at hn;simp at hn;omega
    ·rw [← hm];exact h
  have HBZ:=gH (show ∀ (w2:World) (o:Obj),Kw b wr w2→w.heap.size≤(w2.alloc o).heap.size from fun w2 o k2=>by
   have h1:=k2.size
   have h2:=g.kw.size
   have h3:(w2.alloc o).heap.size=w2.heap.size+1:=by simp
   omega)
  have HOW:=gH (show ∀ w2,Kw b wr w2→w2.ownsRow w.heap.size 9 1 (.slice h.a n h.c) n (l.flatMap nameC) from fun w2 k2=>by
   rw [← hn]
   exact own_kb g.own k2 (fun j hj e=>by have:=(g.own.lt j hj).1;have:=HB.out;have e':j=b:=e;omega))
  have HST:=gH (show ∀ (w2 w5:World) (gg cap:Nat) (o:Obj),Kw b wr w2→LnS w2 b p W1 d1→w5.ownsRow w.heap.size 9 1 (.slice (some ⟨gg,0,none⟩) (n+1) cap) (n+1) (l.flatMap nameC++[.string x])→(w2.alloc o).grownBy w5 (Value.slice h.a n h.c).ownBlock→GrowN 9 1 nameC nameV SzS b p w W d w5 W1 d1 (l++[x]) ⟨some ⟨gg,0,none⟩,n+1,cap⟩ from fun w2 w5 gg cap o k2 l2 h1 h2=>by
   subst hn
   exact g.step hx HSZ.out hd HL.out k2 l2 h1 h2)
  clear g hd hm hn hex hx
  cases d1
  all_goals
   rcases hcase with h0 | ⟨h0,rfl⟩
   all_goals
    go_wp2_with (first
     | (go_at_call 54;with_reducible refine HMO.out.mono ?_;rintro e w' ⟨rfl,rfl⟩)
     | (go_at_call 57;with_reducible refine HNM.out.mono ?_;rintro e w2 ⟨rfl,l2,k2⟩;have L2:=gH l2;have K2:=gH k2;clear l2 k2;have OW:=gH (HOW.out _ K2.out))
     | (at_builtin;go_must (refine app_desk Tryz.underlying26 infoDS rfl (by decide) (by decide) rfl _ _ rfl w.heap.size (.slice h.a n h.c) n (l.flatMap nameC) rfl (OW.out.alloc _) w2.heap.size [.string x] rfl (heap_alloc_new w2 _) rfl (by simp [Value.oneCell']) (by omega) (HBZ.out _ _ K2.out) ?_);intro gg cap' w5 hown5 hgrow hat;have G5:=gH (HST.out _ _ _ _ _ K2.out L2.out hown5 hgrow);have y1:=G5.out.ds.c1;have y2:=G5.out.ds.lt;clear hown5 hgrow hat))
  ·go_roundw
   case rel=>exact ⟨W1,false,l++[x],⟨some ⟨gg,0,none⟩,n+1,cap'⟩,by rw [List.length_append,HN.out];rfl,fun _=>rfl,G5.out⟩
   case measure=>have:=HRUN.out (by simp);simp [lenV];omega
  ·go_roundw
   case rel=>exact ⟨W1,false,l++[x],⟨some ⟨gg,0,none⟩,n+1,cap'⟩,by rw [List.length_append,HN.out];rfl,fun _=>rfl,G5.out⟩
   case measure=>have:=HRUN.out (by simp);simp [lenV];omega
  all_goals
   go_ret
   refine ⟨G5.out.kw,_,rfl,?_⟩
   rw [← G5.out.inv,manyG_stop _ _ _ _ (by simp) (.inl rfl)]
   exact ⟨⟨⟨⟨some ⟨gg,0,none⟩,n+1,cap'⟩,by rw [List.length_append,HN.out];rfl,G5.out.own,G5.out.lt⟩,by rw [List.length_append,HN.out];simp;omega,G5.out.el⟩,G5.out.ds⟩
theorem rowAt_newD (w:World) (c:List Value) (t:TypeId):RowAt (w.alloc (.cells c.toArray t)) w.heap.size c :=
 ⟨by simp,fun j hj=>by simp,fun j hj=>World.frozen?_alloc_at _ _ _ _ rfl⟩
def Kx (b x:Nat) (w w':World):Prop:=Kb (fun k=>k=b∨k=x) w w'
theorem Kx.trans {b x:Nat} {w w1 w2:World} (h:Kx b x w w1) (h2:Kx b x w1 w2):Kx b x w w2:=Kb.trans h h2
theorem Kw.kx {b:Nat} {w w1:World} (h:Kw b w w1) (x:Nat):Kx b x w w1:=Kb.mono h fun k _ e=>.inl e
theorem Kx.set {b x:Nat} {w w1:World} (h:Kx b x w w1) (j:Nat) (v:Value):Kx b x w (w1.setCell ⟨x,j,none⟩ v) :=
 h.trans (Kb.mono (Kb.set w1 x j v) fun k _ e=>.inr e)
theorem Kx.kw {b x:Nat} {w w1 w2:World} (h:Kw b w w1) (k:Kx b x w1 w2) (hx:w.heap.size≤x):Kw b w w2 :=
 ⟨k.os.trans h.os,k.tape.trans h.tape,k.output.trans h.output,Nat.le_trans h.size k.size,fun j hj hne=>(k.block j (Nat.lt_of_lt_of_le hj h.size) (by intro e;rcases e with e | e<;>omega)).trans (h.block j hj hne)⟩
theorem RowAt.kw {b x:Nat} {w w':World} {xs:List Value} (h:RowAt w x xs) (k:Kw b w w') (hne:¬ x=b):RowAt w' x xs:=Kb.row k h hne
theorem RowAt.kx {b x r:Nat} {w w':World} {xs:List Value} (h:RowAt w r xs) (k:Kx b x w w') (hb:¬ r=b) (hx:¬ r=x):RowAt w' r xs:=Kb.row k h (by intro e;rcases e with e | e;exact hb e;exact hx e)
theorem WdS.set {w:World} {b p x:Nat} {W:Ws} (h:WdS w b p W) (j:Nat) (v:Value) (hb:¬ x=b) (hp:¬ x=p) (h0:¬ x=0):WdS (w.setCell ⟨x,j,none⟩ v) b p W :=
 h.kb (Kb.set w x j v) (fun e=>hb e.symm) (fun e=>hp e.symm) (fun e=>h0 e.symm)
def RdX (b p x:Nat) (w:World) (cs:List Value) (o:Option (List (Nat × Value) × Ws)) (e:Ending) (w':World):Prop :=
 Kx b x w w'∧match o with
 | some (l,W)=>e=.returned (.tuple #[])∧RowAt w' x (l.foldl (fun cs u=>cs.set u.1 u.2) cs)∧WdS w' b p W
 | none=>e=NoL
def tabL (W:Ws):Option (List (Nat × Value) × Ws):=(nameP W).bind fun (s,W)=>(nameP W).map fun (t,W)=>([(2,Value.string s),(3,Value.string t)],W)
theorem name_cases {b p:Nat} {W:Ws} {w:World} {e:Ending} {w':World} (h:RdQ b p w (fun _ v x=>v=.string x∧nameB x=true) (nameP W) e w') :
  (nameP W=none∧e=.panicked [{ v:=.iface 74 (.agg #[]),recovered:=false }]∧Kw b w w')∨∃ s W',nameP W=some (s,W')∧e=.returned (.string s)∧nameB s=true∧WdS w' b p W'∧Kw b w w':=by
 obtain ⟨k,h2⟩:=h
 cases hq:nameP W with
 | none=>rw [hq] at h2;exact .inl ⟨rfl,h2,k⟩
 | some y =>
  obtain ⟨s,W'⟩:=y
  rw [hq] at h2
  obtain ⟨v,rfl,⟨rfl,h3⟩,h4⟩:=h2
  exact .inr ⟨s,W',rfl,rfl,h3,h4,k⟩
theorem RowAt.ltD {w:World} {x:Nat} {cs:List Value} (h:RowAt w x cs):x < w.heap.size:=h.1
theorem rowC {w:World} {x:Nat} {cs:List Value} (h:RowAt w x cs) (j:Nat) (hj:j < cs.length):w.cell? ⟨x,j,none⟩=some cs[j]∧w.frozen? ⟨x,j,none⟩=false :=
 ⟨h.cell (List.getElem?_eq_getElem hj),h.2.2 j hj⟩
theorem table_rd (b p x:Nat) (W:Ws) (w:World) (cs:List Value) (h:WdS w b p W) (hx:RowAt w x cs) (hl:cs.length=17) (hb:¬ x=b) (hp:¬ x=p) (h0:¬ x=0) :
  Calls Tryz.prog 49 #[.pointer (some ⟨b,0,none⟩),.pointer (some ⟨x,0,none⟩)] w (RdX b p x w cs (tabL W)):=by
 have HN:=gH (fun w1 W (h:WdS w1 b p W)=>name_rd b p W w1 h)
 have HH:=gH h
 have HX:=gH hx
 clear h hx
 go_enter Tryz.func49,Tryz.ntmps49
 go_wp2_with (first
  | (go_at_call 48;with_reducible refine (HN.out _ _ HH.out).mono ?_;rintro e w1 q1;rcases name_cases q1 with ⟨n1,rfl,k1⟩ | ⟨s,W1,n1,rfl,-,d1,k1⟩;all_goals (have N1:=gH n1;have K1:=gH k1;clear n1 k1 q1;try have D1:=gH d1))
  | (go_at_call 48;with_reducible refine (HN.out _ _ D1.out).mono ?_;rintro e w2 q2;rcases name_cases q2 with ⟨n2,rfl,k2⟩ | ⟨t,W2,n2,rfl,-,d2,k2⟩;all_goals (have X2:=gH ((HX.out.kw K1.out hb).kw k2 hb);have xz:=X2.out.ltD;obtain ⟨c2,f2⟩:=rowC X2.out 2 (by omega);obtain ⟨c3,f3⟩:=rowC X2.out 3 (by omega);have N2:=gH n2;have K2:=gH (K1.out.trans k2);clear n2 k2 q2;try (have D2:=gH d2;clear d2))))
 ·exact ⟨rfl,K1.out.kx x,by rw [show tabL W=none by simp only [tabL,N1.out,Option.bind_none]];rfl⟩
 ·exact ⟨rfl,K2.out.kx x,by rw [show tabL W=none by simp only [tabL,N1.out,N2.out,Option.bind_some,Option.map_none]];rfl⟩
 ·go_end0
  refine ⟨((K2.out.kx x).set 2 _).set 3 _,?_⟩
  rw [show tabL W=some ([(2,Value.string s),(3,Value.string t)],W2) by simp only [tabL,N1.out,N2.out,Option.bind_some,Option.map_some]]
  exact ⟨rfl,(X2.out.set 2 _ (by omega)).set 3 _ (by rw [List.length_set];omega),(D2.out.set 2 _ hb hp h0).set 3 _ hb hp h0⟩
theorem word_rd (b p:Nat) (W:Ws) (w:World) (h:WdS w b p W):Calls Tryz.prog 27 #[.pointer (some ⟨b,0,none⟩)] w (RdQ b p w (fun _ v x=>v=.string x) (wordP W)):=by
 cases W with
 | nil=>exact (word_no b p w h).mono fun e w' ⟨he,hw⟩=>⟨hw▸Kw.refl b w,he⟩
 | cons s W=>exact (word_yes b p s W w h).mono fun e w' ⟨he,d,k⟩=>⟨k,.string s,he,rfl,d⟩
theorem word_cases {b p:Nat} {W:Ws} {w:World} {e:Ending} {w':World} (h:RdQ b p w (fun _ v x=>v=.string x) (wordP W) e w') :
  (wordP W=none∧e=.panicked [{ v:=.iface 74 (.agg #[]),recovered:=false }]∧Kw b w w')∨∃ s W',W=s::W'∧e=.returned (.string s)∧WdS w' b p W'∧Kw b w w':=by
 obtain ⟨k,h2⟩:=h
 cases W with
 | nil=>exact .inl ⟨rfl,h2,k⟩
 | cons s W =>
  obtain ⟨v,rfl,rfl,h3⟩:=h2
  exact .inr ⟨s,W,rfl,rfl,h3,k⟩
theorem number_cases {b p:Nat} {W:Ws} {w:World} {e:Ending} {w':World} (h:RdQ b p w (fun _ v x=>v=.int .i64 x) (numP W) e w') :
  (numP W=none∧e=.panicked [{ v:=.iface 74 (.agg #[]),recovered:=false }]∧Kw b w w')∨∃ n W',numP W=some (n,W')∧e=.returned (.int .i64 n)∧WdS w' b p W'∧Kw b w w':=by
 obtain ⟨k,h2⟩:=h
 cases hq:numP W with
 | none=>rw [hq] at h2;exact .inl ⟨rfl,h2,k⟩
 | some y =>
  obtain ⟨s,W'⟩:=y
  rw [hq] at h2
  obtain ⟨v,rfl,rfl,h4⟩:=h2
  exact .inr ⟨s,W',rfl,rfl,h4,k⟩
def rgtL (W:Ws):Option (List (Nat × Value) × Ws):=(oneP rightO W).bind fun (r,W)=>(nameP W).map fun (t,W)=>([(15,Value.int .i64 r),(5,Value.string t)],W)
theorem right_rd (b p x:Nat) (W:Ws) (w:World) (cs:List Value) (h:WdS w b p W) (hx:RowAt w x cs) (hl:cs.length=17) (hb:¬ x=b) (hp:¬ x=p) (h0:¬ x=0) :
  Calls Tryz.prog 52 #[.pointer (some ⟨b,0,none⟩),.pointer (some ⟨x,0,none⟩)] w (RdX b p x w cs (rgtL W)):=by
 have HN:=gH (fun w1 W (h:WdS w1 b p W)=>name_rd b p W w1 h)
 have HW:=gH (word_rd b p W w h)
 have HX:=gH hx
 have hb':¬ b=x:=fun e=>hb e.symm
 clear h hx
 go_enter Tryz.func52,Tryz.ntmps52
 go_wp2_with (first
  | (go_at_call 27;with_reducible refine HW.out.mono ?_;rintro e w1 q1;rcases word_cases q1 with ⟨n1,rfl,k1⟩ | ⟨s,W1,n1,rfl,d1,k1⟩;(rotate_left;obtain ⟨q3,e3⟩:∃ q,eqS s b_read=q:=⟨_,rfl⟩;obtain ⟨q4,e4⟩:∃ q,eqS s b_write=q:=⟨_,rfl⟩;have e3':=eqS_as e3;have e4':=eqS_as e4;unfold b_read at e3';unfold b_write at e4';simp only at e3' e4';have E3:=gH e3;have E4:=gH e4;clear e3 e4;cases q3<;>cases q4);all_goals (have N1:=gH n1;have K1:=gH k1;clear n1 k1 q1;try (have X1:=gH (HX.out.kw K1.out hb);have D1:=gH (d1.set (x:=x) 15 (.int .i64 1) hb hp h0);have D1':=gH (d1.set (x:=x) 15 (.int .i64 2) hb hp h0);have xz:=X1.out.ltD;obtain ⟨c1,f1⟩:=rowC X1.out 15 (by omega))))
  | (go_at_call 18;refine (dis_no _).mono ?_;rintro e w' ⟨he,rfl⟩;unfold NoL at he;subst he)
  | (go_at_call 48;(first | (with_reducible refine (HN.out _ _ D1.out).mono ?_) | (with_reducible refine (HN.out _ _ D1'.out).mono ?_));rintro e w2 q2;rcases name_cases q2 with ⟨n2,rfl,k2⟩ | ⟨t,W2,n2,rfl,-,d2,k2⟩;all_goals (have X2:=gH ((X1.out.set 15 _ (by omega)).kw k2 hb);have xz2:=X2.out.ltD;obtain ⟨c2,f2⟩:=rowC X2.out 5 (by rw [List.length_set];omega);have N2:=gH n2;have K2:=gH k2;clear n2 k2 q2;try (have D2:=gH d2;clear d2))))
 all_goals first
  | (
   refine ⟨rfl,K1.out.kx x,?_⟩
   have:rgtL W=none:=by
    have n1:=N1.out
    first
     | (simp only [rgtL,n1,oneP,rightO,E3.out,E4.out,Option.map_none,Option.bind_none,Bool.false_eq_true,if_false];done)
     | (
       cases W with
       | nil=>rfl
       | cons a W=>cases n1)
   rw [this];rfl)
  | (
   refine ⟨rfl,((K1.out.kx x).set 15 _).trans (K2.out.kx x),?_⟩
   have:rgtL W=none:=by simp only [rgtL,N1.out,oneP,rightO,E3.out,E4.out,Option.map_some,Option.bind_some,Bool.false_eq_true,if_true,if_false,N2.out,Option.map_none]
   rw [this];rfl)
  | (
   go_end0
   refine ⟨(((K1.out.kx x).set 15 _).trans (K2.out.kx x)).set 5 _,?_⟩
   have:rgtL W=some ([(15,Value.int .i64 1),(5,Value.string t)],W2):=by simp only [rgtL,N1.out,oneP,rightO,E3.out,E4.out,Option.map_some,Option.bind_some,Bool.false_eq_true,if_true,if_false,N2.out]
   rw [this]
   exact ⟨rfl,X2.out.set 5 _ (by rw [List.length_set];omega),D2.out.set 5 _ hb hp h0⟩)
  | (
   go_end0
   refine ⟨(((K1.out.kx x).set 15 _).trans (K2.out.kx x)).set 5 _,?_⟩
   have:rgtL W=some ([(15,Value.int .i64 2),(5,Value.string t)],W2):=by simp only [rgtL,N1.out,oneP,rightO,E3.out,E4.out,Option.map_some,Option.bind_some,Bool.false_eq_true,if_true,if_false,N2.out]
   rw [this]
   exact ⟨rfl,X2.out.set 5 _ (by rw [List.length_set];omega),D2.out.set 5 _ hb hp h0⟩)
theorem lv_row {T:TypeId} {fs:Array Field} {k:Nat} (hu:Tryz.prog.underlying T=some (.struct fs)) (hi:(Tryz.prog.info? T).map (·.size)=some k) {V:World} {x:Nat} {cs:List Value} (h:RowAt V x cs) (hk:cs.length=k) :
  (loadVar T ⟨x,0,none⟩).run Tryz.prog V=.ok (.agg cs.toArray) V:=by
 rw [run_lv V T _ k x 0 hu rfl hi (fun j hj=>by rw [Nat.zero_add,h.2.1 j (by omega),List.getElem?_eq_getElem (by omega)];rfl)]
 congr 2
 congr 1
 apply List.ext_getElem
 ·simp [hk]
 ·intro j h1 h2
  simp only [List.getElem_map,List.getElem_range,Nat.zero_add]
  rw [h.2.1 j h2,List.getElem?_eq_getElem h2];rfl
theorem row_setCells {x:Nat}:∀ (vs:List Value) (V:World) (pre cs:List Value),RowAt V x (pre++cs)→cs.length=vs.length→RowAt (V.setCells x pre.length vs) x (pre++vs)
 | [],V,pre,cs,h,hl=>by
  have:cs=[]:=List.eq_nil_of_length_eq_zero hl
  subst this;exact h
 | v::vs,V,pre,[],h,hl=>by simp at hl
 | v::vs,V,pre,c::cs,h,hl=>by
  have h1:=h.set pre.length v (by simp)
  have e:(pre++c::cs).set pre.length v=(pre++[v])++cs:=by simp
  rw [e] at h1
  have h2:=row_setCells vs _ (pre++[v]) cs h1 (by simpa using hl)
  rw [show (pre++[v]).length=pre.length+1 by simp,List.append_assoc] at h2
  exact h2
theorem kb_setCellsD (g:Nat):∀ (vs:List Value) (w:World) (o:Nat),Kb (fun k=>k=g) w (w.setCells g o vs)
 | [],w,o=>Kb.refl _ w
 | v::vs,w,o=>(Kb.set w g o v).trans (kb_setCellsD g vs _ (o+1))
theorem sv_row {T:TypeId} {k:Nat} (hi:(Tryz.prog.info? T).map (·.size)=some k) {V:World} {r:Nat} {zs vs:List Value} (h:RowAt V r zs) (hz:zs.length=k) (hv:vs.length=k) (h1:∀ v∈vs,v.oneCell'=true) :
  (storeVar T ⟨r,0,none⟩ (.agg vs.toArray)).run Tryz.prog V=.ok () (V.setCells r 0 vs):=by
 refine run_sv V T r 0 vs (by rw [hv];exact hi) fun j hj=>⟨?_,?_,?_⟩
 ·rw [Nat.zero_add,h.2.1 j (by omega),List.getElem?_eq_getElem (by omega)];rfl
 ·rw [Nat.zero_add];exact h.2.2 j (by omega)
 ·rw [List.getD,List.getElem?_eq_getElem hj];exact h1 _ (List.getElem_mem hj)
theorem lvRul_row {V:World} {x:Nat} {cs:List Value} (h:RowAt V x cs) (hk:cs.length=8):(lvRul ⟨x,0,none⟩).run Tryz.prog V=.ok (.agg cs.toArray) V :=
 lv_row (T:=28) Tryz.underlying28 (by kernel_rfl) h hk
theorem svRul_row {V:World} {r:Nat} {zs vs:List Value} (h:RowAt V r zs) (hz:zs.length=8) (hv:vs.length=8) (h1:∀ v∈vs,v.oneCell'=true):(svRul ⟨r,0,none⟩ (.agg vs.toArray)).run Tryz.prog V=.ok () (V.setCells r 0 vs) :=
 sv_row (T:=28) (by kernel_rfl) h hz hv h1
theorem lvCmd_row {V:World} {x:Nat} {cs:List Value} (h:RowAt V x cs) (hk:cs.length=17):(lvCmd ⟨x,0,none⟩).run Tryz.prog V=.ok (.agg cs.toArray) V :=
 lv_row (T:=31) Tryz.underlying31 (by kernel_rfl) h hk
theorem svCmd_row {V:World} {r:Nat} {zs vs:List Value} (h:RowAt V r zs) (hz:zs.length=17) (hv:vs.length=17) (h1:∀ v∈vs,v.oneCell'=true):(svCmd ⟨r,0,none⟩ (.agg vs.toArray)).run Tryz.prog V=.ok () (V.setCells r 0 vs) :=
 sv_row (T:=31) (by kernel_rfl) h hz hv h1
theorem lvRop_row {V:World} {x:Nat} {cs:List Value} (h:RowAt V x cs) (hk:cs.length=9):(lvRop ⟨x,0,none⟩).run Tryz.prog V=.ok (.agg cs.toArray) V :=
 lv_row (T:=41) Tryz.underlying41 (by kernel_rfl) h hk
theorem svRop_row {V:World} {r:Nat} {zs vs:List Value} (h:RowAt V r zs) (hz:zs.length=9) (hv:vs.length=9) (h1:∀ v∈vs,v.oneCell'=true):(svRop ⟨r,0,none⟩ (.agg vs.toArray)).run Tryz.prog V=.ok () (V.setCells r 0 vs) :=
 sv_row (T:=41) (by kernel_rfl) h hz hv h1
theorem lvAct_row {V:World} {x:Nat} {cs:List Value} (h:RowAt V x cs) (hk:cs.length=33):(lvAct ⟨x,0,none⟩).run Tryz.prog V=.ok (.agg cs.toArray) V :=
 lv_row (T:=43) Tryz.underlying43 (by kernel_rfl) h hk
theorem svAct_row {V:World} {r:Nat} {zs vs:List Value} (h:RowAt V r zs) (hz:zs.length=33) (hv:vs.length=33) (h1:∀ v∈vs,v.oneCell'=true):(svAct ⟨r,0,none⟩ (.agg vs.toArray)).run Tryz.prog V=.ok () (V.setCells r 0 vs) :=
 sv_row (T:=43) (by kernel_rfl) h hz hv h1
structure Bs (b p r x:Nat) (w:World):Prop where
 fb:b < w.heap.size
 fp:p < w.heap.size
 fl:0 < b
 fr:w.heap.size≤r
 fx:w.heap.size≤x
 fn:¬ r=x
theorem Bs.xb {b p r x:Nat} {w:World} (S:Bs b p r x w):¬ x=b:=by have:=S.fb;have:=S.fx;omega
theorem Bs.xp {b p r x:Nat} {w:World} (S:Bs b p r x w):¬ x=p:=by have:=S.fp;have:=S.fx;omega
theorem Bs.x0 {b p r x:Nat} {w:World} (S:Bs b p r x w):¬ x=0:=by have:=S.fl;have:=S.fb;have:=S.fx;omega
structure Bx (b p r x:Nat) (w V:World) (W:Ws) (zs cs:List Value):Prop where
 ds:WdS V b p W
 row:RowAt V x cs
 res:RowAt V r zs
 kw:Kw b w V
section
variable {b p r x : Nat} {w V V1 : World} {W W1 : Ws} {zs cs : List Value}
theorem Bx.call (X:Bx b p r x w V W zs cs) (S:Bs b p r x w) (k:Kw b V V1) (d:WdS V1 b p W1):Bx b p r x w V1 W1 zs cs :=
 ⟨d,X.row.kw k (by have:=S.fb;have:=S.fx;omega),X.res.kw k (by have:=S.fb;have:=S.fr;omega),X.kw.trans k⟩
theorem Bx.set (X:Bx b p r x w V W zs cs) (S:Bs b p r x w) (j:Nat) (v:Value) (hj:j < cs.length):Bx b p r x w (V.setCell ⟨x,j,none⟩ v) W zs (cs.set j v) :=
 ⟨X.ds.set j v (by have:=S.fb;have:=S.fx;omega) (by have:=S.fp;have:=S.fx;omega) (by have:=S.fb;have:=S.fl;have:=S.fx;omega),X.row.set j v hj,Kb.row (Kb.set V x j v) X.res S.fn,X.kw.set x j v (.inr S.fx)⟩
theorem Bx.alloc (X:Bx b p r x w V W zs cs) (o:Obj):Bx b p r x w (V.alloc o) W zs cs :=
 ⟨X.ds.aft ((Aft.refl _).alloc o),X.row.aft ((Aft.refl _).alloc o),X.res.aft ((Aft.refl _).alloc o),X.kw.alloc o⟩
theorem Bx.kx (X:Bx b p r x w V W zs cs) (S:Bs b p r x w) (k:Kx b x V V1) (d:WdS V1 b p W1) {cs1:List Value} (hr:RowAt V1 x cs1):Bx b p r x w V1 W1 zs cs1 :=
 ⟨d,hr,X.res.kx k (by have:=S.fb;have:=S.fr;omega) S.fn,Kx.kw X.kw k S.fx⟩
theorem Bx.cf (X:Bx b p r x w V W zs cs) (j:Nat) (hj:j < cs.length):V.cell? ⟨x,j,none⟩=some cs[j]∧V.frozen? ⟨x,j,none⟩=false:=rowC X.row j hj
theorem Bx.fin (X:Bx b p r x w V W zs cs) (S:Bs b p r x w) (hz:zs.length=cs.length) :
  RowAt (V.setCells r 0 cs) r cs∧Kw b w (V.setCells r 0 cs)∧WdS (V.setCells r 0 cs) b p W∧Kb (fun k=>k=r) V (V.setCells r 0 cs):=by
 have kb:=kb_setCellsD r cs V 0
 refine ⟨by simpa using row_setCells cs V [] zs X.res hz,?_,X.ds.kb kb (by have:=S.fb;have:=S.fr;omega) (by have:=S.fp;have:=S.fr;omega) (by have:=S.fb;have:=S.fl;have:=S.fr;omega),kb⟩
 exact ⟨kb.os.trans X.kw.os,kb.tape.trans X.kw.tape,kb.output.trans X.kw.output,Nat.le_trans X.kw.size kb.size,fun j hj hne=>(kb.block j (Nat.lt_of_lt_of_le hj X.kw.size) (by have:=S.fr;omega)).trans (X.kw.block j hj hne)⟩
end
theorem endsRul {b p r x:Nat} {w V:World} {W:Ws} {zs cs:List Value} (X:Bx b p r x w V W zs cs) (hz:zs.length=8) (hk:cs.length=8) (h1:∀ v∈cs,v.oneCell'=true) :
  (lvRul ⟨x,0,none⟩).run Tryz.prog V=.ok (.agg cs.toArray) V∧(svRul ⟨r,0,none⟩ (.agg cs.toArray)).run Tryz.prog V=.ok () (V.setCells r 0 cs):=⟨lvRul_row X.row hk,svRul_row X.res hz hk h1⟩
theorem endsCmd {b p r x:Nat} {w V:World} {W:Ws} {zs cs:List Value} (X:Bx b p r x w V W zs cs) (hz:zs.length=17) (hk:cs.length=17) (h1:∀ v∈cs,v.oneCell'=true) :
  (lvCmd ⟨x,0,none⟩).run Tryz.prog V=.ok (.agg cs.toArray) V∧(svCmd ⟨r,0,none⟩ (.agg cs.toArray)).run Tryz.prog V=.ok () (V.setCells r 0 cs):=⟨lvCmd_row X.row hk,svCmd_row X.res hz hk h1⟩
theorem endsRop {b p r x:Nat} {w V:World} {W:Ws} {zs cs:List Value} (X:Bx b p r x w V W zs cs) (hz:zs.length=9) (hk:cs.length=9) (h1:∀ v∈cs,v.oneCell'=true) :
  (lvRop ⟨x,0,none⟩).run Tryz.prog V=.ok (.agg cs.toArray) V∧(svRop ⟨r,0,none⟩ (.agg cs.toArray)).run Tryz.prog V=.ok () (V.setCells r 0 cs):=⟨lvRop_row X.row hk,svRop_row X.res hz hk h1⟩
theorem endsAct {b p r x:Nat} {w V:World} {W:Ws} {zs cs:List Value} (X:Bx b p r x w V W zs cs) (hz:zs.length=33) (hk:cs.length=33) (h1:∀ v∈cs,v.oneCell'=true) :
  (lvAct ⟨x,0,none⟩).run Tryz.prog V=.ok (.agg cs.toArray) V∧(svAct ⟨r,0,none⟩ (.agg cs.toArray)).run Tryz.prog V=.ok () (V.setCells r 0 cs):=⟨lvAct_row X.row hk,svAct_row X.res hz hk h1⟩
theorem OwnR.kb {α:Type} {ty:TypeId} {size:Nat} {cells:α→List Value} {b B:Nat} {w w':World} {v:Value} {l:List α} {P:Nat→Prop} (h:OwnR ty size cells b B w v l) (k:Kb P w w') (hp:∀ g,v.ownBlock=some g→B≤g→¬ P g):OwnR ty size cells b B w' v l:=by
 obtain ⟨hd,h1,h2,h3⟩:=h
 exact ⟨hd,h1,own_kb h2 k (fun g hg=>hp g (by rw [h1];exact hg) (h2.lt g hg).1),h3⟩
theorem OwnR.hi {α:Type} {ty:TypeId} {size:Nat} {cells:α→List Value} {b B:Nat} {w w':World} {v:Value} {l:List α} {P:Nat→Prop} (h:OwnR ty size cells b B w v l) (k:Kb P w w') (hp:∀ g,P g→g < B):OwnR ty size cells b B w' v l :=
 h.kb k fun g _ hg hP=>by have:=hp g hP;omega
theorem OwnR.down {α:Type} {ty:TypeId} {size:Nat} {cells:α→List Value} {b B B0:Nat} {w:World} {v:Value} {l:List α} (h:OwnR ty size cells b B w v l) (hB:B0≤B) (hb:b < B0):OwnR ty size cells b B0 w v l:=by
 obtain ⟨hd,h1,h2,h3⟩:=h
 exact ⟨hd,h1,own_down h2 hB,hb⟩
theorem NamesV.hi {b B:Nat} {w w':World} {v:Value} {l:List ByteArray} {P:Nat→Prop} (h:NamesV b B w v l) (k:Kb P w w') (hp:∀ g,P g→g < B):NamesV b B w' v l:=⟨h.1.hi k hp,h.2⟩
theorem NamesV.down {b B B0:Nat} {w:World} {v:Value} {l:List ByteArray} (h:NamesV b B w v l) (hB:B0≤B) (hb:b < B0):NamesV b B0 w v l:=⟨h.1.down hB hb,h.2⟩
theorem NamesV.kw {b B:Nat} {w w':World} {v:Value} {l:List ByteArray} (h:NamesV b B w v l) (k:Kw b w w'):NamesV b B w' v l:=⟨h.1.kw k,h.2⟩
theorem names_one (V:World) (x j:Nat) (u:Value) (b:Nat) (s:ByteArray) (hb:b < V.heap.size) (hs:nameB s=true):NamesV b V.heap.size ((V.setCell ⟨x,j,none⟩ u).alloc (.cells #[.string s] 9)) (.slice (some ⟨V.heap.size,0,none⟩) 1 1) [s]:=by
 have hz:(V.setCell ⟨x,j,none⟩ u).heap.size=V.heap.size:=by simp
 have h:=own_one (V.setCell ⟨x,j,none⟩ u) V.heap.size 9 1 [.string s] rfl (by omega)
 rw [hz] at h
 exact ⟨⟨⟨some ⟨V.heap.size,0,none⟩,1,1⟩,rfl,h,hb⟩,by simp,by simpa using hs⟩
def RulV (b B:Nat) (w':World) (v:Value) (r:Rul):Prop :=
 ∃ u,v=.agg #[.string r.name,.int .i64 r.kind,u,.int .i64 r.low,.int .i64 r.high,.string r.schema,.string r.table,.string r.key]∧NamesV b B w' u r.cols∧nameB r.name=true∧(r.schema=zBy∨nameB r.schema=true)∧(r.table=zBy∨nameB r.table=true)∧(r.key=zBy∨nameB r.key=true)
theorem names_cases {b p B:Nat} {W:Ws} {w:World} {e:Ending} {w':World} (h:RdQ b p w (NamesV b B) (namesP W) e w') :
  (namesP W=none∧e=.panicked [{ v:=.iface 74 (.agg #[]),recovered:=false }]∧Kw b w w')∨∃ A c l W',namesP W=some (l,W')∧e=.returned (.slice A l.length c)∧NamesV b B w' (.slice A l.length c) l∧WdS w' b p W'∧Kw b w w':=by
 obtain ⟨k,h2⟩:=h
 cases hq:namesP W with
 | none=>rw [hq] at h2;exact .inl ⟨rfl,h2,k⟩
 | some y =>
  obtain ⟨l,W'⟩:=y
  rw [hq] at h2
  obtain ⟨v,rfl,h3,h4⟩:=h2
  obtain ⟨⟨hd,rfl,h5⟩,h6⟩:=h3
  exact .inr ⟨hd.a,hd.c,l,W',rfl,rfl,⟨⟨hd,rfl,h5⟩,h6⟩,h4,k⟩
theorem bx_start {b p:Nat} {w w1:World} {W:Ws} {zs:List Value} {t t2:TypeId} (hb:b < w.heap.size) (hp:p < w.heap.size) (hl:0 < b) (k:Kw b (w.alloc (.cells zs.toArray t)) w1) (d:WdS w1 b p W) (cs:List Value) :
  Bs b p w.heap.size w1.heap.size w∧Bx b p w.heap.size w1.heap.size w (w1.alloc (.cells cs.toArray t2)) W zs cs:=by
 have hz:(w.alloc (.cells zs.toArray t)).heap.size=w.heap.size+1:=by simp
 have kz:=k.size
 rw [hz] at kz
 exact ⟨⟨hb,hp,hl,Nat.le_refl _,by omega,by omega⟩,d.aft ((Aft.refl _).alloc _),rowAt_newD _ _ _,((rowAt_newD w zs t).kw k (by omega)).aft ((Aft.refl _).alloc _),(((Kw.refl b w).alloc _).trans k).alloc _⟩
theorem rule_check (b p:Nat) (W:Ws) (w:World) (h:WdS w b p W):Calls Tryz.prog 51 #[.pointer (some ⟨b,0,none⟩),.int .i64 3] w (RdQ b p w (RulV b w.heap.size) (ruleP 3 W)):=by
 have HN:=gH (fun w1 W (h:WdS w1 b p W)=>name_rd b p W w1 h)
 have HI:=gH (fun w1 W (h:WdS w1 b p W)=>number_rd b p W w1 h)
 have HL:=gH (fun w1 W (h:WdS w1 b p W)=>names_rd b p W w1 h)
 have HH:=gH (h.aft ((Aft.refl w).alloc (.cells #[.string ⟨#[]⟩,.int .i64 0,.slice none 0 0,.int .i64 0,.int .i64 0,.string ⟨#[]⟩,.string ⟨#[]⟩,.string ⟨#[]⟩] 28)))
 have hb:=h.lt
 have HPL:=gH h.plt
 have HLO:=gH h.low
 clear h
 go_enter Tryz.func51,Tryz.ntmps51
 go_wp2_with (first
  | (go_at_call 48;with_reducible refine (HN.out _ _ HH.out).mono ?_;rintro e w1 q;rcases name_cases q with ⟨n,rfl,k⟩ | ⟨s1,W1,n,rfl,g1,d,k⟩;all_goals (have N1:=gH n;have K1:=gH (((Kw.refl b w).alloc _).trans k);clear n q;try (have ST:=bx_start (t2:=28) (zs:=[.string ⟨#[]⟩,.int .i64 0,.slice none 0 0,.int .i64 0,.int .i64 0,.string ⟨#[]⟩,.string ⟨#[]⟩,.string ⟨#[]⟩]) hb HPL.out HLO.out k d [.string s1,.int .i64 3,.slice none 0 0,.int .i64 0,.int .i64 0,.string ⟨#[]⟩,.string ⟨#[]⟩,.string ⟨#[]⟩];have S:=gH ST.1;have X1:=gH ST.2;clear d ST)))
  | (go_at_call 48;with_reducible refine (HN.out _ _ X1.out.ds).mono ?_;rintro e w2 q;rcases name_cases q with ⟨n,rfl,k⟩ | ⟨s2,W2,n,rfl,g2,d,k⟩;all_goals (have N2:=gH n;have K2:=gH (X1.out.kw.trans k);clear n q;try (have X2:=gH (X1.out.call S.out k d);have xz2:=X2.out.row.ltD;have rz2:=X2.out.res.ltD;obtain ⟨c2_2,f2_2⟩:=X2.out.cf 2 (by simp);have X2s:=gH ((X2.out.set S.out 2 (.slice (some ⟨w2.heap.size,0,none⟩) 1 1) (by simp)).alloc (.cells #[.string s2] 9));have O2:=gH (names_one w2 w1.heap.size 2 (.slice (some ⟨w2.heap.size,0,none⟩) 1 1) b s2 X2.out.ds.lt g2);clear d)))
  | (go_at_call 28;with_reducible refine (HI.out _ _ X2s.out.ds).mono ?_;rintro e w3 q;rcases number_cases q with ⟨n,rfl,k⟩ | ⟨s3,W3,n,rfl,d,k⟩;all_goals (have N3:=gH n;have K3:=gH (X2s.out.kw.trans k);clear n q;try (have X3:=gH (X2s.out.call S.out k d);have xz3:=X3.out.row.ltD;have rz3:=X3.out.res.ltD;have O3:=gH (O2.out.kw k);clear d)))
  | (go_at_call 28;with_reducible refine (HI.out _ _ X3.out.ds).mono ?_;rintro e w4 q;rcases number_cases q with ⟨n,rfl,k⟩ | ⟨s4,W4,n,rfl,d,k⟩;all_goals (have N4:=gH n;have K4:=gH (X3.out.kw.trans k);clear n q;try (have X4:=gH (X3.out.call S.out k d);have xz4:=X4.out.row.ltD;have rz4:=X4.out.res.ltD;obtain ⟨c4_3,f4_3⟩:=X4.out.cf 3 (by simp);obtain ⟨c4_4,f4_4⟩:=X4.out.cf 4 (by simp);have O4:=gH (O3.out.kw k);have XF:=(X4.out.set S.out 3 (.int .i64 s3) (by simp)).set S.out 4 (.int .i64 s4) (by simp);simp only [List.set_cons_succ,List.set_cons_zero] at XF;have XF:=gH XF;obtain ⟨e1,e2⟩:=endsRul XF.out rfl rfl (by simp [Value.oneCell']);clear d))))
 ·exact ⟨rfl,K1.out,by rw [show ruleP 3 W=none by simp only [ruleP,N1.out,Option.bind_some,Option.bind_none,if_true]];rfl⟩
 ·exact ⟨rfl,K2.out,by rw [show ruleP 3 W=none by simp only [ruleP,N1.out,N2.out,Option.bind_some,Option.bind_none,if_true]];rfl⟩
 ·exact ⟨rfl,K3.out,by rw [show ruleP 3 W=none by simp only [ruleP,N1.out,N2.out,N3.out,Option.bind_some,Option.bind_none,if_true]];rfl⟩
 ·exact ⟨rfl,K4.out,by rw [show ruleP 3 W=none by simp only [ruleP,N1.out,N2.out,N3.out,N4.out,Option.bind_some,Option.bind_none,if_true]];rfl⟩
 ·obtain ⟨rf,kwf,wdf,kbf⟩:=XF.out.fin S.out rfl
  refine bodyPost_ret (results_cell rfl _ rfl (lv_row (T:=28) Tryz.underlying28 (by kernel_rfl) rf rfl)) rfl ?_
  have S:=S.out
  have sb:=S.fb
  have sr:=S.fr
  have sx:=S.fx
  have z2:=X2.out.row.ltD
  have z3:=X2.out.res.ltD
  have z4:=X2.out.ds.lt
  have z5:=X2.out.kw.size
  refine ⟨kwf,?_⟩
  rw [show ruleP 3 W=some (⟨s1,3,[s2],s3,s4,zBy,zBy,zBy⟩,W4) by simp only [ruleP,N1.out,N2.out,N3.out,N4.out,Option.bind_some,if_true]]
  exact ⟨_,rfl,⟨_,rfl,((((O4.out.hi (Kb.set _ _ _ _) (fun g e=>by have e':g=_:=e;omega)).hi (Kb.set _ _ _ _) (fun g e=>by have e':g=_:=e;omega)).hi kbf (fun g e=>by have e':g=_:=e;omega)).down (by omega) (by omega)),g1,.inl rfl,.inl rfl,.inl rfl⟩,wdf⟩
theorem rule_foreign (b p:Nat) (W:Ws) (w:World) (h:WdS w b p W):Calls Tryz.prog 51 #[.pointer (some ⟨b,0,none⟩),.int .i64 4] w (RdQ b p w (RulV b w.heap.size) (ruleP 4 W)):=by
 have HN:=gH (fun w1 W (h:WdS w1 b p W)=>name_rd b p W w1 h)
 have HI:=gH (fun w1 W (h:WdS w1 b p W)=>number_rd b p W w1 h)
 have HL:=gH (fun w1 W (h:WdS w1 b p W)=>names_rd b p W w1 h)
 have HH:=gH (h.aft ((Aft.refl w).alloc (.cells #[.string ⟨#[]⟩,.int .i64 0,.slice none 0 0,.int .i64 0,.int .i64 0,.string ⟨#[]⟩,.string ⟨#[]⟩,.string ⟨#[]⟩] 28)))
 have hb:=h.lt
 have HPL:=gH h.plt
 have HLO:=gH h.low
 clear h
 go_enter Tryz.func51,Tryz.ntmps51
 go_wp2_with (first
  | (go_at_call 48;with_reducible refine (HN.out _ _ HH.out).mono ?_;rintro e w1 q;rcases name_cases q with ⟨n,rfl,k⟩ | ⟨s1,W1,n,rfl,g1,d,k⟩;all_goals (have N1:=gH n;have K1:=gH (((Kw.refl b w).alloc _).trans k);clear n q;try (have ST:=bx_start (t2:=28) (zs:=[.string ⟨#[]⟩,.int .i64 0,.slice none 0 0,.int .i64 0,.int .i64 0,.string ⟨#[]⟩,.string ⟨#[]⟩,.string ⟨#[]⟩]) hb HPL.out HLO.out k d [.string s1,.int .i64 4,.slice none 0 0,.int .i64 0,.int .i64 0,.string ⟨#[]⟩,.string ⟨#[]⟩,.string ⟨#[]⟩];have S:=gH ST.1;have X1:=gH ST.2;clear d ST)))
  | (go_at_call 48;with_reducible refine (HN.out _ _ X1.out.ds).mono ?_;rintro e w2 q;rcases name_cases q with ⟨n,rfl,k⟩ | ⟨s2,W2,n,rfl,g2,d,k⟩;all_goals (have N2:=gH n;have K2:=gH (X1.out.kw.trans k);clear n q;try (have X2:=gH (X1.out.call S.out k d);have xz2:=X2.out.row.ltD;have rz2:=X2.out.res.ltD;clear d)))
  | (go_at_call 48;with_reducible refine (HN.out _ _ X2.out.ds).mono ?_;rintro e w3 q;rcases name_cases q with ⟨n,rfl,k⟩ | ⟨s3,W3,n,rfl,g3,d,k⟩;all_goals (have N3:=gH n;have K3:=gH (X2.out.kw.trans k);clear n q;try (have X3:=gH (X2.out.call S.out k d);have xz3:=X3.out.row.ltD;have rz3:=X3.out.res.ltD;clear d)))
  | (go_at_call 48;with_reducible refine (HN.out _ _ X3.out.ds).mono ?_;rintro e w4 q;rcases name_cases q with ⟨n,rfl,k⟩ | ⟨s4,W4,n,rfl,g4,d,k⟩;all_goals (have N4:=gH n;have K4:=gH (X3.out.kw.trans k);clear n q;try (have X4:=gH (X3.out.call S.out k d);have xz4:=X4.out.row.ltD;have rz4:=X4.out.res.ltD;obtain ⟨c4_5,f4_5⟩:=X4.out.cf 5 (by simp);obtain ⟨c4_6,f4_6⟩:=X4.out.cf 6 (by simp);obtain ⟨c4_7,f4_7⟩:=X4.out.cf 7 (by simp);have X4s:=gH (((X4.out.set S.out 5 (.string s2) (by simp)).set S.out 6 (.string s3) (by simp)).set S.out 7 (.string s4) (by simp));clear d)))
  | (go_at_call 84;with_reducible refine (HL.out _ _ X4s.out.ds).mono ?_;rintro e w5 q;rcases names_cases q with ⟨n,rfl,k⟩ | ⟨A5,q5,l5,W5,n,rfl,g5,d,k⟩;all_goals (have N5:=gH n;have K5:=gH (X4s.out.kw.trans k);clear n q;try (have X5:=gH (X4s.out.call S.out k d);have xz5:=X5.out.row.ltD;have rz5:=X5.out.res.ltD;obtain ⟨c5_2,f5_2⟩:=X5.out.cf 2 (by simp);have XF:=X5.out.set S.out 2 (.slice A5 l5.length q5) (by simp);simp only [List.set_cons_succ,List.set_cons_zero] at XF;have XF:=gH XF;obtain ⟨e1,e2⟩:=endsRul XF.out rfl rfl (by simp [Value.oneCell']);clear d))))
 ·exact ⟨rfl,K1.out,by rw [show ruleP 4 W=none by simp only [ruleP,N1.out,Option.bind_some,Option.bind_none,if_true,show ¬ (4:Int)=3 by decide,if_false]];rfl⟩
 ·exact ⟨rfl,K2.out,by rw [show ruleP 4 W=none by simp only [ruleP,N1.out,N2.out,Option.bind_some,Option.bind_none,if_true,show ¬ (4:Int)=3 by decide,if_false]];rfl⟩
 ·exact ⟨rfl,K3.out,by rw [show ruleP 4 W=none by simp only [ruleP,N1.out,N2.out,N3.out,Option.bind_some,Option.bind_none,if_true,show ¬ (4:Int)=3 by decide,if_false]];rfl⟩
 ·exact ⟨rfl,K4.out,by rw [show ruleP 4 W=none by simp only [ruleP,N1.out,N2.out,N3.out,N4.out,Option.bind_some,Option.bind_none,if_true,show ¬ (4:Int)=3 by decide,if_false]];rfl⟩
 ·exact ⟨rfl,K5.out,by rw [show ruleP 4 W=none by simp only [ruleP,N1.out,N2.out,N3.out,N4.out,N5.out,Option.bind_some,Option.bind_none,if_true,show ¬ (4:Int)=3 by decide,if_false]];rfl⟩
 ·obtain ⟨rf,kwf,wdf,kbf⟩:=XF.out.fin S.out rfl
  refine bodyPost_ret (results_cell rfl _ rfl (lv_row (T:=28) Tryz.underlying28 (by kernel_rfl) rf rfl)) rfl ?_
  have S:=S.out
  have sb:=S.fb
  have sr:=S.fr
  have sx:=S.fx
  have z2:=X4s.out.row.ltD
  have z3:=X4s.out.res.ltD
  have z4:=X4s.out.ds.lt
  have z5:=X4s.out.kw.size
  refine ⟨kwf,?_⟩
  rw [show ruleP 4 W=some (⟨s1,4,l5,0,0,s2,s3,s4⟩,W5) by simp only [ruleP,N1.out,N2.out,N3.out,N4.out,N5.out,Option.bind_some,if_true,show ¬ (4:Int)=3 by decide,if_false]]
  exact ⟨_,rfl,⟨_,rfl,(((g5.hi (Kb.set _ _ _ _) (fun g e=>by have e':g=_:=e;omega)).hi kbf (fun g e=>by have e':g=_:=e;omega)).down (by omega) (by omega)),g1,.inr g2,.inr g3,.inr g4⟩,wdf⟩
theorem rule_index (b p:Nat) (W:Ws) (w:World) (h:WdS w b p W):Calls Tryz.prog 51 #[.pointer (some ⟨b,0,none⟩),.int .i64 1] w (RdQ b p w (RulV b w.heap.size) (ruleP 1 W)):=by
 have HN:=gH (fun w1 W (h:WdS w1 b p W)=>name_rd b p W w1 h)
 have HI:=gH (fun w1 W (h:WdS w1 b p W)=>number_rd b p W w1 h)
 have HL:=gH (fun w1 W (h:WdS w1 b p W)=>names_rd b p W w1 h)
 have HH:=gH (h.aft ((Aft.refl w).alloc (.cells #[.string ⟨#[]⟩,.int .i64 0,.slice none 0 0,.int .i64 0,.int .i64 0,.string ⟨#[]⟩,.string ⟨#[]⟩,.string ⟨#[]⟩] 28)))
 have hb:=h.lt
 have HPL:=gH h.plt
 have HLO:=gH h.low
 clear h
 go_enter Tryz.func51,Tryz.ntmps51
 go_wp2_with (first
  | (go_at_call 48;with_reducible refine (HN.out _ _ HH.out).mono ?_;rintro e w1 q;rcases name_cases q with ⟨n,rfl,k⟩ | ⟨s1,W1,n,rfl,g1,d,k⟩;all_goals (have N1:=gH n;have K1:=gH (((Kw.refl b w).alloc _).trans k);clear n q;try (have ST:=bx_start (t2:=28) (zs:=[.string ⟨#[]⟩,.int .i64 0,.slice none 0 0,.int .i64 0,.int .i64 0,.string ⟨#[]⟩,.string ⟨#[]⟩,.string ⟨#[]⟩]) hb HPL.out HLO.out k d [.string s1,.int .i64 1,.slice none 0 0,.int .i64 0,.int .i64 0,.string ⟨#[]⟩,.string ⟨#[]⟩,.string ⟨#[]⟩];have S:=gH ST.1;have X1:=gH ST.2;clear d ST)))
  | (go_at_call 84;with_reducible refine (HL.out _ _ X1.out.ds).mono ?_;rintro e w2 q;rcases names_cases q with ⟨n,rfl,k⟩ | ⟨A2,q2,l2,W2,n,rfl,g2,d,k⟩;all_goals (have N2:=gH n;have K2:=gH (X1.out.kw.trans k);clear n q;try (have X2:=gH (X1.out.call S.out k d);have xz2:=X2.out.row.ltD;have rz2:=X2.out.res.ltD;obtain ⟨c2_2,f2_2⟩:=X2.out.cf 2 (by simp);have XF:=X2.out.set S.out 2 (.slice A2 l2.length q2) (by simp);simp only [List.set_cons_succ,List.set_cons_zero] at XF;have XF:=gH XF;obtain ⟨e1,e2⟩:=endsRul XF.out rfl rfl (by simp [Value.oneCell']);clear d))))
 ·exact ⟨rfl,K1.out,by rw [show ruleP 1 W=none by simp only [ruleP,N1.out,Option.bind_some,Option.bind_none,show ¬ (1:Int)=3 by decide,show ¬ (1:Int)=4 by decide,if_false]];rfl⟩
 ·exact ⟨rfl,K2.out,by rw [show ruleP 1 W=none by simp only [ruleP,N1.out,N2.out,Option.bind_some,Option.bind_none,show ¬ (1:Int)=3 by decide,show ¬ (1:Int)=4 by decide,if_false]];rfl⟩
 ·obtain ⟨rf,kwf,wdf,kbf⟩:=XF.out.fin S.out rfl
  refine bodyPost_ret (results_cell rfl _ rfl (lv_row (T:=28) Tryz.underlying28 (by kernel_rfl) rf rfl)) rfl ?_
  have S:=S.out
  have sb:=S.fb
  have sr:=S.fr
  have sx:=S.fx
  have z2:=X1.out.row.ltD
  have z3:=X1.out.res.ltD
  have z4:=X1.out.ds.lt
  have z5:=X1.out.kw.size
  refine ⟨kwf,?_⟩
  rw [show ruleP 1 W=some (⟨s1,1,l2,0,0,zBy,zBy,zBy⟩,W2) by simp only [ruleP,N1.out,N2.out,Option.bind_some,show ¬ (1:Int)=3 by decide,show ¬ (1:Int)=4 by decide,if_false]]
  exact ⟨_,rfl,⟨_,rfl,(((g2.hi (Kb.set _ _ _ _) (fun g e=>by have e':g=_:=e;omega)).hi kbf (fun g e=>by have e':g=_:=e;omega)).down (by omega) (by omega)),g1,.inl rfl,.inl rfl,.inl rfl⟩,wdf⟩
theorem rule_key (b p:Nat) (W:Ws) (w:World) (h:WdS w b p W):Calls Tryz.prog 51 #[.pointer (some ⟨b,0,none⟩),.int .i64 2] w (RdQ b p w (RulV b w.heap.size) (ruleP 2 W)):=by
 have HN:=gH (fun w1 W (h:WdS w1 b p W)=>name_rd b p W w1 h)
 have HI:=gH (fun w1 W (h:WdS w1 b p W)=>number_rd b p W w1 h)
 have HL:=gH (fun w1 W (h:WdS w1 b p W)=>names_rd b p W w1 h)
 have HH:=gH (h.aft ((Aft.refl w).alloc (.cells #[.string ⟨#[]⟩,.int .i64 0,.slice none 0 0,.int .i64 0,.int .i64 0,.string ⟨#[]⟩,.string ⟨#[]⟩,.string ⟨#[]⟩] 28)))
 have hb:=h.lt
 have HPL:=gH h.plt
 have HLO:=gH h.low
 clear h
 go_enter Tryz.func51,Tryz.ntmps51
 go_wp2_with (first
  | (go_at_call 48;with_reducible refine (HN.out _ _ HH.out).mono ?_;rintro e w1 q;rcases name_cases q with ⟨n,rfl,k⟩ | ⟨s1,W1,n,rfl,g1,d,k⟩;all_goals (have N1:=gH n;have K1:=gH (((Kw.refl b w).alloc _).trans k);clear n q;try (have ST:=bx_start (t2:=28) (zs:=[.string ⟨#[]⟩,.int .i64 0,.slice none 0 0,.int .i64 0,.int .i64 0,.string ⟨#[]⟩,.string ⟨#[]⟩,.string ⟨#[]⟩]) hb HPL.out HLO.out k d [.string s1,.int .i64 2,.slice none 0 0,.int .i64 0,.int .i64 0,.string ⟨#[]⟩,.string ⟨#[]⟩,.string ⟨#[]⟩];have S:=gH ST.1;have X1:=gH ST.2;clear d ST)))
  | (go_at_call 84;with_reducible refine (HL.out _ _ X1.out.ds).mono ?_;rintro e w2 q;rcases names_cases q with ⟨n,rfl,k⟩ | ⟨A2,q2,l2,W2,n,rfl,g2,d,k⟩;all_goals (have N2:=gH n;have K2:=gH (X1.out.kw.trans k);clear n q;try (have X2:=gH (X1.out.call S.out k d);have xz2:=X2.out.row.ltD;have rz2:=X2.out.res.ltD;obtain ⟨c2_2,f2_2⟩:=X2.out.cf 2 (by simp);have XF:=X2.out.set S.out 2 (.slice A2 l2.length q2) (by simp);simp only [List.set_cons_succ,List.set_cons_zero] at XF;have XF:=gH XF;obtain ⟨e1,e2⟩:=endsRul XF.out rfl rfl (by simp [Value.oneCell']);clear d))))
 ·exact ⟨rfl,K1.out,by rw [show ruleP 2 W=none by simp only [ruleP,N1.out,Option.bind_some,Option.bind_none,show ¬ (2:Int)=3 by decide,show ¬ (2:Int)=4 by decide,if_false]];rfl⟩
 ·exact ⟨rfl,K2.out,by rw [show ruleP 2 W=none by simp only [ruleP,N1.out,N2.out,Option.bind_some,Option.bind_none,show ¬ (2:Int)=3 by decide,show ¬ (2:Int)=4 by decide,if_false]];rfl⟩
 ·obtain ⟨rf,kwf,wdf,kbf⟩:=XF.out.fin S.out rfl
  refine bodyPost_ret (results_cell rfl _ rfl (lv_row (T:=28) Tryz.underlying28 (by kernel_rfl) rf rfl)) rfl ?_
  have S:=S.out
  have sb:=S.fb
  have sr:=S.fr
  have sx:=S.fx
  have z2:=X1.out.row.ltD
  have z3:=X1.out.res.ltD
  have z4:=X1.out.ds.lt
  have z5:=X1.out.kw.size
  refine ⟨kwf,?_⟩
  rw [show ruleP 2 W=some (⟨s1,2,l2,0,0,zBy,zBy,zBy⟩,W2) by simp only [ruleP,N1.out,N2.out,Option.bind_some,show ¬ (2:Int)=3 by decide,show ¬ (2:Int)=4 by decide,if_false]]
  exact ⟨_,rfl,⟨_,rfl,(((g2.hi (Kb.set _ _ _ _) (fun g e=>by have e':g=_:=e;omega)).hi kbf (fun g e=>by have e':g=_:=e;omega)).down (by omega) (by omega)),g1,.inl rfl,.inl rfl,.inl rfl⟩,wdf⟩
end Go.Proofs.YtbdanlipghhgpaaGreatDoor
