import Derived.Test.YtakddkhipelmjaaGreatPartH7
set_option maxRecDepth 100000
set_option linter.unusedVariables false
set_option maxHeartbeats 64000000
namespace Go.Proofs.YtakddkhipelmjaaGreat
open Go.Deep Go.RowKit
def Zg (w:World) (l:Bt) (e:Ending) (w':World):Prop:=∃ q g,e=.returned (.pointer (some ⟨q,0,none⟩))∧ag w w'∧w.heap.size≤q∧w.heap.size≤g∧oJ w' q g l
theorem N0 (w0:World) (Q:Nat→Prop) (b:Nat) (l:Bt) (w:World) (h:gj w0 Q b l w) :
  Calls Tryz.prog 242 #[.pointer (some ⟨b,0,none⟩)] w (jn w0 Q b w (fun n:Bool=>.bool n) (Fz l)):=by
 obtain ⟨q,g,A,c,all,r,ha,hc,⟨pre,hp⟩,n1,n2,n3,n4,l1,l2,hl⟩:=h.ex;have y0:=r.cell (j:=0) rfl;have y1:=r.cell (j:=1) rfl;have yf:=r.2.2 0 (by simp);have yb:=r.1;have aw:=h.aA;have HR:=gH (And.intro h r);have HL:=gH (show ∀ x:iM w,Calls Tryz.prog 99 #[.pointer (some ⟨q,0,none⟩)] (bV w x) fun e w'=>e=.returned (.int .i64 l.length)∧bV w x=w' from fun x=>xa q g l _ (hc.kb (P:=fun _=>False) (Kb.aO ((ag.refl w).bV x)) (fun h=>h) (fun h=>h)));obtain ⟨n,hn⟩:∃ n,all.length=n:=⟨_,rfl⟩;rw [hn] at y1 hl
 cases l with
 | nil =>
  have QD:pre.length=n:=by rw [← hn,hp];simp
  clear h r hc ha hp hn
  go_in
  go_wp2_with fail;refine ay (by kernel_rfl) (by kernel_rfl) ?_
  repeat (go_big_quiet_step ((go_at_call 99;exact Calls.nG (HL.out _))))
  refine wpQuiet_nil ?_;intro _ hw';obtain ⟨x9,hw''⟩:=hw';subst hw'';obtain ⟨W,hW⟩:∃ W,W=bV w x9:=⟨_,rfl⟩
  have aW:ag w W:=by rw [hW];exact (ag.refl w).bV x9
  rw [← hW];clear hW;have y0:=aW.cell_kept y0;have y1:=aW.cell_kept y1
  replace yf:W.frozen? ⟨b,0,none⟩=false:=(Below.frozen aW (p:=⟨b,0,none⟩) yb).trans yf
  replace yb:=Nat.lt_of_lt_of_le yb aW.size
  have cu:=gH aW;clear aW
  go_wp2_with (first
   | (go_at_call 98;(with_reducible refine (fW _).mono ?_);rintro e w2 ⟨he,rfl⟩;unfold dM at he;subst he))
  exact ⟨rfl,Kb.aO cu.out,rfl⟩
 | cons x rest =>
  obtain ⟨p,jY⟩:∃ p,pre.length=p:=⟨_,rfl⟩;obtain ⟨k,oY⟩:∃ k,rest.length=k:=⟨_,rfl⟩
  have QD:n=p+k+1:=by rw [← hn,hp,← jY,← oY];simp;omega
  have hgx:∃ ga oa,A=some ⟨ga,oa,none⟩∧ga < w.heap.size∧w.cell? ⟨ga,oa+p,none⟩=some (.int .u8 x.toNat):=by
   obtain ⟨ga,oa,cs,hA,hgb,_,hR,hcs⟩:=ha.2.2 pre.length (by omega);refine ⟨ga,oa,hA,Nat.lt_of_lt_of_le hgb aw.size,?_⟩;have:=hcs 0 (by omega);rw [hR] at this
   have e:all[pre.length]'(by omega)=x:=by simp [hp]
   rw [e,jY] at this;exact aw.cell_kept (by simpa [Ei] using this)
  obtain ⟨ga,oa,rfl,hgb,hx0⟩:=hgx
  have hca:n≤c:=by rw [← hn];exact ha.1
  have NP:=x.toNat_lt;have HX:=gH (show x≤1↔x.toNat≤1 from Iff.rfl);have HP:=gH (And.intro QD (And.intro hp (And.intro jY (And.intro oY hn))))
  have hat:(n:Int) - ((k:Int)+1)=(p:Int):=by omega
  have Ra:p < n:=by omega
  have hpi:(p:Int) < (n:Int):=by omega
  simp only [List.length_cons,oY] at HL;by_cases h1:x.toNat≤1
  ·have xh:(x.toNat:Int)≤1:=by omega
   have HB:=gH (show decide ((x.toNat:Int)≤1)=true from decide_eq_true xh);have HD:=gH (show Fz (x::rest)=some (x==1,rest) from by show (if x≤1 then _ else none)=_;rw [if_pos (HX.out.2 h1)])
   have HE:=gH (show (x==1)=((x.toNat:Int)==1) from by
    rw [Bool.eq_iff_iff,beq_iff_eq,beq_iff_eq]
    constructor
    ·intro e;rw [e];rfl
    ·intro e
     have:x.toNat=(1:UInt8).toNat:=by
      have:(1:UInt8).toNat=1:=rfl;omega
     exact UInt8.toNat_inj.1 this)
   have hdr:all.drop (p+1)=rest:=by rw [hp,← jY];simp
   have hrl:rest.length=n - (p+1):=by omega
   have aar:ga≠b:=by
    have:=ha.2.2 p (by omega);obtain ⟨g5,_,_,e5,l5,_⟩:=this
    injection e5 with e5
    injection e5 with e5 _ _
    have:=h.lb;omega
   have HN1:=gH (show ∀ W,ag w W→Calls Tryz.prog 97 #[.slice (some ⟨ga,oa+(p+1),none⟩) (n - (p+1)) (c - (p+1))] W (Zg W rest) from fun W a=>by
    have h2:=(ha.aA (aw.trans a) fun _ _ h=>h).drop (p+1) (by omega);rw [hdr] at h2;have:=vu rest _ _ (by omega) W h2;rw [hrl] at this
    exact this)
   have HN0:=gH (show ∀ W,c=p+1→Calls Tryz.prog 97 #[.slice (some ⟨ga,oa,none⟩) 0 0] W (Zg W rest) from fun W hc=>by
    have e:rest=[]:=List.eq_nil_of_length_eq_zero (by omega);subst e;have:=vu [] (some ⟨ga,oa,none⟩) 0 (by decide) W ⟨Nat.le_refl _,Nat.zero_le _,fun i h=>absurd h (by simp)⟩
    exact this)
   clear hdr hrl;by_cases hc0:c=p+1
   ·subst hc0
    have HN2:=gH (show ∀ W,Calls Tryz.prog 97 #[.slice (some ⟨ga,oa,none⟩) 0 0] W (Zg W rest) from fun W=>HN0.out W rfl);clear HN0 HN1;have HA:=gH ha;clear h r hc ha hp hn jY oY QD
    go_in
    go_wp2_with fail;refine ay (by kernel_rfl) (by kernel_rfl) ?_
    repeat (go_big_quiet_step ((go_at_call 99;exact Calls.nG (HL.out _))))
    refine wpQuiet_nil ?_;intro _ hw';obtain ⟨x9,hw''⟩:=hw';subst hw'';obtain ⟨W,hW⟩:∃ W,W=bV w x9:=⟨_,rfl⟩
    have aW:ag w W:=by rw [hW];exact (ag.refl w).bV x9
    rw [← hW];clear hW;have y0:=aW.cell_kept y0;have y1:=aW.cell_kept y1
    replace yf:W.frozen? ⟨b,0,none⟩=false:=(Below.frozen aW (p:=⟨b,0,none⟩) yb).trans yf
    replace yb:=Nat.lt_of_lt_of_le yb aW.size
    have hx0:=aW.cell_kept hx0;have hgb:=Nat.lt_of_lt_of_le hgb aW.size;have cu:=gH aW;clear aW
    go_wp2_with (first
     | (go_at_call 98;(try rw [HB.out]);(with_reducible refine (fX _).mono ?_);rintro e w2 ⟨rfl,rfl⟩)
     | (go_at_call 97;(with_reducible refine (HN2.out _).mono ?_);rintro e w2 ⟨q2,g2,rfl,a2,k1,k2,c2⟩;have z0:=a2.cell_kept y0;have z1:=a2.cell_kept y1;have zx:=a2.cell_kept hx0;have zf:w2.frozen? ⟨b,0,none⟩=false:=(Below.frozen a2 (p:=⟨b,0,none⟩) yb).trans yf;have zb:=Nat.lt_of_lt_of_le yb a2.size;have H2:=gH (And.intro a2 (And.intro k1 (And.intro k2 c2)));clear a2 k1 k2 c2))
    go_ret
    all_goals
     obtain ⟨a2,k1,k2,c2⟩:=H2.out;obtain ⟨hr,row⟩:=HR.out;have XO:=row.1;have MC:=cu.out.trans a2;have ks:=Kb.set w2 b 0 (.pointer (some ⟨q2,0,none⟩));have hz:=cu.out.size;obtain ⟨QD,hp,jY,oY,hn⟩:=HP.out
     have O8:∀ j,W.heap.size≤j→¬ Q j:=fun j hj e=>by have:=hr.qz j e;omega
     have hwz:=hr.aA.size;rw [HD.out];refine ⟨((Kb.aO MC).trans (ks.mono fun j _ e=>by rw [e];exact hr.qb)),by rw [HE.out];rfl,⟨⟨q2,g2,_,_,all,(row.aA MC).set 0 _ (by simp),HA.out,c2.kb ks (by omega) (by omega),⟨pre++[x],by rw [hp];simp⟩,by omega,by omega,O8 q2 k1,O8 g2 k2,by omega,by omega,by omega⟩,hr.qb,ks.aJ (hr.aA.trans MC) fun j hj e=>by have:=hr.lb;omega,hr.lb,fun j e=>by have:=hr.qz j e;have:=ks.size;have:=MC.size;omega⟩⟩
   ·have hc1:¬ (c - (p+1)=0):=by omega
    have HA:=gH ha;clear h r hc ha hp hn jY oY QD
    go_in
    go_wp2_with fail;refine ay (by kernel_rfl) (by kernel_rfl) ?_
    repeat (go_big_quiet_step ((go_at_call 99;exact Calls.nG (HL.out _))))
    refine wpQuiet_nil ?_;intro _ hw';obtain ⟨x9,hw''⟩:=hw';subst hw'';obtain ⟨W,hW⟩:∃ W,W=bV w x9:=⟨_,rfl⟩
    have aW:ag w W:=by rw [hW];exact (ag.refl w).bV x9
    rw [← hW];clear hW;have y0:=aW.cell_kept y0;have y1:=aW.cell_kept y1
    replace yf:W.frozen? ⟨b,0,none⟩=false:=(Below.frozen aW (p:=⟨b,0,none⟩) yb).trans yf
    replace yb:=Nat.lt_of_lt_of_le yb aW.size
    have hx0:=aW.cell_kept hx0;have hgb:=Nat.lt_of_lt_of_le hgb aW.size;have cu:=gH aW;clear aW
    go_wp2_with (first
     | (go_at_call 98;(try rw [HB.out]);(with_reducible refine (fX _).mono ?_);rintro e w2 ⟨rfl,rfl⟩)
     | (go_at_call 97;(with_reducible refine (HN1.out _ cu.out).mono ?_);rintro e w2 ⟨q2,g2,rfl,a2,k1,k2,c2⟩;have z0:=a2.cell_kept y0;have z1:=a2.cell_kept y1;have zx:=a2.cell_kept hx0;have zf:w2.frozen? ⟨b,0,none⟩=false:=(Below.frozen a2 (p:=⟨b,0,none⟩) yb).trans yf;have zb:=Nat.lt_of_lt_of_le yb a2.size;have H2:=gH (And.intro a2 (And.intro k1 (And.intro k2 c2)));clear a2 k1 k2 c2))
    go_ret
    all_goals
     obtain ⟨a2,k1,k2,c2⟩:=H2.out;obtain ⟨hr,row⟩:=HR.out;have XO:=row.1;have MC:=cu.out.trans a2;have ks:=Kb.set w2 b 0 (.pointer (some ⟨q2,0,none⟩));have hz:=cu.out.size;obtain ⟨QD,hp,jY,oY,hn⟩:=HP.out
     have O8:∀ j,W.heap.size≤j→¬ Q j:=fun j hj e=>by have:=hr.qz j e;omega
     have hwz:=hr.aA.size;rw [HD.out];refine ⟨((Kb.aO MC).trans (ks.mono fun j _ e=>by rw [e];exact hr.qb)),by rw [HE.out];rfl,⟨⟨q2,g2,_,_,all,(row.aA MC).set 0 _ (by simp),HA.out,c2.kb ks (by omega) (by omega),⟨pre++[x],by rw [hp];simp⟩,by omega,by omega,O8 q2 k1,O8 g2 k2,by omega,by omega,by omega⟩,hr.qb,ks.aJ (hr.aA.trans MC) fun j hj e=>by have:=hr.lb;omega,hr.lb,fun j e=>by have:=hr.qz j e;have:=ks.size;have:=MC.size;omega⟩⟩
  ·have xh:¬ (x.toNat:Int)≤1:=by omega
   have HB:=gH (show decide ((x.toNat:Int)≤1)=false from decide_eq_false xh);have HD:=gH (show Fz (x::rest)=none from by show (if x≤1 then _ else none)=_;rw [if_neg (fun e=>h1 (HX.out.1 e))]);clear h r hc ha hp hn jY oY QD
   go_in
   go_wp2_with fail;refine ay (by kernel_rfl) (by kernel_rfl) ?_
   repeat (go_big_quiet_step ((go_at_call 99;exact Calls.nG (HL.out _))))
   refine wpQuiet_nil ?_;intro _ hw';obtain ⟨x9,hw''⟩:=hw';subst hw'';obtain ⟨W,hW⟩:∃ W,W=bV w x9:=⟨_,rfl⟩
   have aW:ag w W:=by rw [hW];exact (ag.refl w).bV x9
   rw [← hW];clear hW;have y0:=aW.cell_kept y0;have y1:=aW.cell_kept y1
   replace yf:W.frozen? ⟨b,0,none⟩=false:=(Below.frozen aW (p:=⟨b,0,none⟩) yb).trans yf
   replace yb:=Nat.lt_of_lt_of_le yb aW.size
   have hx0:=aW.cell_kept hx0;have hgb:=Nat.lt_of_lt_of_le hgb aW.size;have cu:=gH aW;clear aW
   go_wp2_with (first
    | (go_at_call 98;(try rw [HB.out]);(with_reducible refine (fW _).mono ?_);rintro e w2 ⟨he,rfl⟩;unfold dM at he;subst he))
   rw [HD.out];exact ⟨rfl,Kb.aO cu.out,rfl⟩
def fN {α:Type} (S:Nat→Prop) (R:World→List Value→α→Prop) (w:World) (cs:List Value) (x:α):Prop:=∀ V,Kb (fun j=>¬ S j) w V→R V cs x
theorem fN.kb {α:Type} {S S':Nat→Prop} {R:World→List Value→α→Prop} {w w':World} {cs:List Value} {x:α} (h:fN S R w cs x) (k:Kb (fun j=>¬ S j) w w') (hs:∀ j,S j→S' j):fN S' R w' cs x :=
 fun V kv=>h V (k.trans (kv.mono fun j _ e e'=>e (hs j e')))
def dZ {α:Type} (size:Nat) (R:World→List Value→α→Prop) (w0:World) (Q:Nat→Prop) (b:Nat) (w:World) (o:Option (α × Bt)) (e:Ending) (w':World):Prop:=Kb (fun j=>¬ Q j) w w'∧match o with
 | some (x,r)=>∃ (S:Nat→Prop) (cs:List Value),(∀ j,S j→w.heap.size≤j)∧gj w0 (fun j=>Q j∨S j) b r w'∧e=.returned (.agg cs.toArray)∧cs.length=size∧(∀ u∈cs,u.oneCell'=true)∧fN S R w' cs x
 | none=>e=dM
def FW {α:Type} (size:Nat) (R:World→List Value→α→Prop) (w0:World) (Q:Nat→Prop) (b:Nat) (w:World) (o:Option (List α × Bt)) (e:Ending) (w':World):Prop:=Kb (fun j=>¬ Q j) w w'∧match o with
 | some (xs,r)=>∃ (S:Nat→Prop) (h:Hd),(∀ j,S j→w.heap.size≤j)∧gj w0 (fun j=>Q j∨S j) b r w'∧e=.returned (.slice h.a xs.length h.c)∧∀ V,Kb (fun j=>¬ S j) w' V→az V size R h.a h.c xs
 | none=>e=dM
structure px {α:Type} (tid:TypeId) (size:Nat) (R:World→List Value→α→Prop) (w0 w:World) (Q:Nat→Prop) (b:Nat) (d:Bt→Option (α × Bt)) (n:Nat) (l0:Bt) (k:Nat) (v:Value) (xs:List α) (bw:List (List Value)) (S:Nat→Prop) (rest:Bt) (wr:World):Prop where
 len:xs.length=k
 own:wr.ownsRow w.heap.size tid size v k bw.flatten
 sn:∀ j,S j→w.heap.size≤j
 so:∀ g,v.ownBlock=some g→¬ S g
 qw:∀ j,Q j→j < w.heap.size
 wz:w0.heap.size≤w.heap.size
 rd:gj w0 (fun j=>(Q j∨S j)∨v.ownBlock=some j) b rest wr
 kb:Kb (fun j=>¬ Q j) w wr
 ch:bL wr size (fN S R) bw xs
 dr:gi d n l0=(gi d (n - k) rest).map (fun p=>(xs++p.1,p.2))
theorem px.start {α:Type} {tid:TypeId} {size:Nat} {R:World→List Value→α→Prop} {w0 w wr:World} {Q:Nat→Prop} {b:Nat} {d:Bt→Option (α × Bt)} {n:Nat} {l0:Bt} (h:gj w0 Q b l0 wr) (k:Kb (fun j=>¬ Q j) w wr) (qw:∀ j,Q j→j < w.heap.size) (wz:w0.heap.size≤w.heap.size) :
  px tid size R w0 w Q b d n l0 0 (.slice none 0 0) [] [] (fun _=>False) l0 wr :=
 ⟨rfl,World.ownsRow_nil _ _ _ _,fun _ h=>h.elim,fun _ _ h=>h,qw,wz,h.step (Kb.refl _ _) fun j e=>e.elim (fun e=>e.elim .inl fun e=>e.elim) fun e=>(by simp [Value.ownBlock] at e),k,⟨rfl,fun i h=>absurd h (by simp)⟩,by cases gi d n l0<;>simp [*]⟩
theorem px.step {α:Type} {tid:TypeId} {size:Nat} {R:World→List Value→α→Prop} {w0 w wr w2 w5:World} {Q:Nat→Prop} {b:Nat} {d:Bt→Option (α × Bt)} {n:Nat} {l0:Bt} {k:Nat} {v:Value} {xs:List α} {bw:List (List Value)} {S S2:Nat→Prop} {rest r:Bt} {x:α} {cs:List Value} {o:Obj} {g cap:Nat}
  (h:px tid size R w0 w Q b d n l0 k v xs bw S rest wr) (hk:k < n) (hd:d rest=some (x,r)) (k2:Kb (fun j=>¬ ((Q j∨S j)∨v.ownBlock=some j)) wr w2) (s2:∀ j,S2 j→wr.heap.size≤j) (r2:gj w0 (fun j=>((Q j∨S j)∨v.ownBlock=some j)∨S2 j) b r w2) (hl:cs.length=size) (h2:fN S2 R w2 cs x)
  (hg:(w2.alloc o).grownBy w5 v.ownBlock) (hat:v.ownBlock=some g∨g=(w2.alloc o).heap.size) (ho:w5.ownsRow w.heap.size tid size (.slice (some ⟨g,0,none⟩) (k+1) cap) (k+1) (bw.flatten++cs)) (hgz:g < w5.heap.size) :
  px tid size R w0 w Q b d n l0 (k+1) (.slice (some ⟨g,0,none⟩) (k+1) cap) (xs++[x]) (bw++[cs]) (fun j=>S j∨S2 j) r w5:=by
 have hz:(w2.alloc o).heap.size=w2.heap.size+1:=by simp
 have z2:=k2.size;have z5:=hg.size;have zw:=h.kb.size;have K5:Kb (fun j=>v.ownBlock=some j) w2 w5:=(Kb.aO ((ag.refl w2).alloc o)).trans (Kb.cZ hg)
 have Wp:∀ j,v.ownBlock=some j→w.heap.size≤j∧j < wr.heap.size:=fun j e=>⟨(h.own.lt j e).1,(h.own.lt j e).2⟩
 have hgo:∀ j,(Value.slice (some ⟨g,0,none⟩) (k+1) cap).ownBlock=some j→g=j:=fun j e=>by simpa [Value.ownBlock] using e
 have Uo:∀ j,S2 j→j < w2.heap.size:=fun j e=>r2.qz j (.inr e)
 have hS:∀ j,S j→j < wr.heap.size:=fun j e=>h.rd.qz j (.inl (.inr e))
 refine ⟨by simp [h.len],by simpa using ho,fun j e=>e.elim (h.sn j) fun e=>by have:=s2 j e;omega,fun j e e'=>?_,h.qw,h.wz,?_,?_,?_,?_⟩
 ·have:=hgo j e
  subst this
  rcases e' with e' | e'<;>rcases hat with hat | hat
  ·exact h.so g hat e'
  ·have:=hS g e';omega
  ·have:=s2 g e';have:=Wp g hat;omega
  ·have:=Uo g e';omega
 ·refine r2.step (K5.mono fun j _ e=>⟨.inl (.inr e),by have:=Wp j e;have:=h.wz;omega⟩) fun j e=>?_
  rcases e with (e | e | e) | e
  ·exact .inl (.inl (.inl (.inl e)))
  ·exact .inl (.inl (.inl (.inr e)))
  ·exact .inl (.inr e)
  ·have:=hgo j e
   subst this
   rcases hat with hat | hat
   ·exact .inl (.inl (.inr hat))
   ·exact .inr ⟨by omega,hgz⟩
 ·refine (h.kb.trans (k2.mono fun j _ e e'=>e (.inl (.inl e')))).trans (K5.mono fun j _ e e'=>?_)
  have:=h.qw j e';have:=Wp j e;omega
 ·refine ⟨by simp [h.ch.1],fun i h1 h3=>?_⟩
  by_cases hi:i < bw.length
  ·have hi':i < xs.length:=by rw [← h.ch.1];exact hi
   rw [List.getElem_append_left hi,List.getElem_append_left hi'];refine ⟨(h.ch.2 i hi hi').1,(h.ch.2 i hi hi').2.kb ((k2.mono fun j _ e e'=>e (.inl (.inr e'))).trans (K5.mono fun j _ e e'=>h.so j e e')) fun j e=>.inl e⟩
  ·have e1:i=bw.length:=by simp at h1;omega
   have e2:i=xs.length:=by rw [← h.ch.1];exact e1
   rw [List.getElem_append_right (by omega),List.getElem_append_right (by omega)];simp only [List.getElem_singleton];exact ⟨hl,h2.kb (K5.mono fun j _ e e'=>by have:=s2 j e';have:=Wp j e;omega) fun j e=>.inr e⟩
 ·rw [h.dr,show n - k=(n - (k+1))+1 by omega,gi,hd]
  simp only [Option.bind_some,Option.map_map]
  congr 1
  funext p
  simp
theorem px.fails {α:Type} {tid:TypeId} {size:Nat} {R:World→List Value→α→Prop} {w0 w wr:World} {Q:Nat→Prop} {b:Nat} {d:Bt→Option (α × Bt)} {n:Nat} {l0:Bt} {k:Nat} {v:Value} {xs:List α} {bw:List (List Value)} {S:Nat→Prop} {rest:Bt}
  (h:px tid size R w0 w Q b d n l0 k v xs bw S rest wr) (hk:k < n) (hd:d rest=none):gi d n l0=none:=by
 rw [h.dr,show n - k=(n - (k+1))+1 by omega,gi,hd];rfl
theorem px.done {α:Type} {tid:TypeId} {size:Nat} {R:World→List Value→α→Prop} {w0 w wr:World} {Q:Nat→Prop} {b:Nat} {d:Bt→Option (α × Bt)} {n:Nat} {l0:Bt} {v:Value} {xs:List α} {bw:List (List Value)} {S:Nat→Prop} {rest:Bt} {hd:Hd}
  (h:px tid size R w0 w Q b d n l0 n v xs bw S rest wr) (hv:v=.slice hd.a n hd.c) (hn:n≤4096):FW size R w0 Q b w (gi d n l0) (.returned v) wr:=by
 refine ⟨h.kb,?_⟩
 have e:gi d n l0=some (xs,rest):=by
  rw [h.dr,Nat.sub_self,gi];simp
 rw [e];refine ⟨fun j=>S j∨v.ownBlock=some j,hd,fun j e=>e.elim (h.sn j) fun e=>(h.own.lt j e).1,?_,by rw [hv,h.len],fun V kv=>?_⟩
 ·refine h.rd.step (Kb.refl _ _) fun j e=>.inl ?_
  rcases e with e | e | e
  ·exact .inl (.inl e)
  ·exact .inl (.inr e)
  ·exact .inr e
 ·have o:=br h.own kv fun g hg e=>e (.inr hg)
  have c:bL V size R bw xs:=⟨h.ch.1,fun i h1 h2=>⟨(h.ch.2 i h1 h2).1,(h.ch.2 i h1 h2).2 V (kv.mono fun j _ e e'=>e (.inl e'))⟩⟩;rw [hv,← h.len] at o;exact zq (h:=⟨hd.a,xs.length,hd.c⟩) o c (by have:=h.len;unfold Small;omega)
theorem JD:(Tryz.prog.info? 9).map (fun i=>(i.zero,i.size,i.bytes))=some (some (.string ⟨#[]⟩),1,16):=by kernel_rfl
theorem FD:∃ i,Tryz.prog.info? 9=some i∧i.zero=some (.string ⟨#[]⟩)∧i.size=1∧i.bytes=16:=by
 have h:=JD
 cases hi:Tryz.prog.info? 9 with
 | none=>rw [hi] at h;cases h
 | some i =>
  rw [hi] at h;simp only [Option.map_some,Option.some.injEq,Prod.mk.injEq] at h;exact ⟨i,rfl,h.1,h.2.1,h.2.2⟩
theorem MD {ops:Array Oper} {rest:List Oper} {o:Oper} {a:Act} {w:World} {Q:Exit→Act→World→Prop} (hgd:o.guard=none) (s x:Operand)
  (ho:o.op=.call { callee:=.builtin .append,args:=#[s,x],argTypes:=#[26,26] }) (base:Nat) (v:Value) (n:Nat) (xs:List Value) (hs:a.eval s=v) (hown:w.ownsRow base 9 1 v n xs)
  (b:Nat) (y:Value) (hx:a.eval x=.slice (some ⟨b,0,none⟩) 1 1) (hb:w.heap[b]? = some (.cells #[y] 9)) (hy:y.oneCell'=true) (hn:n≤100000000) (hbase:base≤w.heap.size)
  (h:∀ g cap w',w'.ownsRow base 9 1 (.slice (some ⟨g,0,none⟩) (n+1) cap) (n+1) (xs++[y])→w.grownBy w' v.ownBlock→(v.ownBlock=some g∨g=w.heap.size)→g < w'.heap.size→wpList Tryz.prog ops Q rest (a.put o.dst (.slice (some ⟨g,0,none⟩) (n+1) cap)) w'):wpList Tryz.prog ops Q (o::rest) a w:=by
 obtain ⟨i,hi,hz,hs1,hb1⟩:=FD
 exact wpList_append_lies w hgd s x 26 ho base 9 i (.string ⟨#[]⟩) 1 16 Tryz.underlying26 hi hz hs1 hb1 rfl (by decide) v n xs hs hown ⟨b,0,none⟩ 1 1 [y] hx rfl (World.news_of_block (cs:=#[y]) (t:=9) (fr:=(0,0)) hb) (by simpa using hy) (by omega) (by unfold maxLen;omega)
  (by omega) hbase _ rfl fun g cap w' h1 h2 h3 h4=>h g cap w' h1 h2 h3 h4
theorem N9 (w0:World) (Q:Nat→Prop) (b:Nat) (l:Bt) (w:World) (h:gj w0 Q b l w) :
  Calls Tryz.prog 169 #[.pointer (some ⟨b,0,none⟩),.func (.func 170) #[] #[]] w (FW 1 dC w0 Q b w (bT dR l)):=by
 have HN:=gH (fd w0 Q b l w h);have HZ:=gH h.qz;have hb0:=h.lb;have yX:=gH h.aA.size;clear h
 cases hd:cH l with
 | none =>
  have HN:=gH (HN.out.mono fun e w' (h:jn w0 Q b w (fun n:Int=>.int .i64 n) (cH l) e w')=>(show e=dM∧Kb (fun j=>¬ Q j) w w' from by unfold jn at h;rw [hd] at h;exact ⟨h.2,h.1⟩));have HD:=gH (show bT dR l=none from by unfold bT;rw [hd];rfl);clear hd
  go_in
  go_wp2_with (first
   | (go_at_call 105;(with_reducible refine HN.out.mono ?_);rintro e w1 ⟨he,k1⟩;unfold dM at he;subst he;have K1:=gH k1;clear k1))
  rw [HD.out];exact ⟨rfl,K1.out,rfl⟩
 | some p =>
  obtain ⟨n,r⟩:=p
  have vO:0≤n∧n≤1000000000:=by
   unfold cH at hd
   split at hd
   ·rename_i h;cases hd;exact ⟨by omega,by omega⟩
   ·cases hd
  have HN:=gH (HN.out.mono fun e w' (h:jn w0 Q b w (fun n:Int=>.int .i64 n) (cH l) e w')=>(show e=.returned (.int .i64 n)∧Kb (fun j=>¬ Q j) w w'∧gj w0 Q b r w' from by unfold jn at h;rw [hd] at h;exact ⟨h.2.1,h.1,h.2.2⟩));by_cases hm:n≤4096
  ·have HB:=gH (show decide (n≤4096)=true from decide_eq_true hm)
   have HD:=gH (show bT dR l=gi dR n.toNat r from by unfold bT;rw [hd];simp only [Option.bind_some];rw [if_pos hm]);obtain ⟨m,rfl⟩:∃ m:Nat,n=m:=⟨n.toNat,by omega⟩
   have qj:m≤4096:=by omega
   have HD:=gH (show bT dR l=gi dR m r from HD.out);clear hd
   go_in
   go_wp2_with (first
    | (go_at_call 105;(with_reducible refine HN.out.mono ?_);rintro e w1 ⟨rfl,k1,d1⟩;have K1:=gH (And.intro k1 d1);clear k1 d1)
    | (go_at_call 98;(try rw [HB.out]);(with_reducible refine (fX _).mono ?_);rintro e w2 ⟨rfl,rfl⟩))
   have wl:=gH (px.start (tid:=9) (size:=1) (R:=dC) (d:=dR) (n:=m) K1.out.2 K1.out.1 HZ.out yX.out)
   go_loopw [6,13] (fun v i wr=>∃ k:Nat,k≤m∧i=.int .i64 k∧Hid (∃ h:Hd,v=.slice h.a k h.c)∧Hid (∃ xs bw S rest,px 9 1 dC w0 w Q b dR m r k v xs bw S rest wr)) (fun v i _=>m - (intOf i).toNat)
   case atStart=>exact ⟨0,Nat.zero_le _,rfl,gH ⟨⟨none,0,0⟩,rfl⟩,gH ⟨_,_,_,_,wl.out⟩⟩
   case round =>
    obtain ⟨k,hk,rfl,HV,HF⟩:=hrel;by_cases hlt:k < m
    ·have eH:(k:Int) < (m:Int):=by omega
     obtain ⟨xs,bw,S,rest,F⟩:=HF.out;have hsz:=F.kb.size;have HC:=gH (iA w0 _ b rest wr F.rd)
     cases hx:dR rest with
     | none =>
      have HC:=gH (HC.out.mono fun e w' (h:jn w0 _ b wr (fun n:ByteArray=>.string n) (dR rest) e w')=>(show e=dM∧Kb (fun j=>¬ Q j) wr w' from by unfold jn at h;rw [hx] at h;exact ⟨h.2,h.1.mono fun j _ e e'=>e (.inl (.inl e'))⟩));have HE:=gH (F.fails hlt hx);have HF:=gH F.kb;clear F hx
      go_wp2_with (first
       | (go_at_call 170;(with_reducible refine HC.out.mono ?_);rintro e w2 ⟨he,k2⟩;unfold dM at he;subst he;have K2:=gH k2;clear k2))
      rw [HD.out,HE.out];exact ⟨rfl,HF.out.trans K2.out,rfl⟩
     | some p =>
      obtain ⟨x,r2⟩:=p;have HC:=gH (HC.out.mono fun e w' (h:jn w0 _ b wr (fun n:ByteArray=>.string n) (dR rest) e w')=>(show e=.returned (.string x)∧Kb (fun j=>¬ ((Q j∨S j)∨u6.ownBlock=some j)) wr w'∧gj w0 (fun j=>(Q j∨S j)∨u6.ownBlock=some j) b r2 w' from by unfold jn at h;rw [hx] at h;exact ⟨h.2.1,h.1,h.2.2⟩));have HX:=gH hx;have HF:=gH F
      have hxz:x.size≤65536:=by
       have:=HX.out;unfold dR at this
       split at this
       ·rename_i h
        cases this
        have:(List.take (mO (rest.take 4)) (rest.drop 4)).length≤mO (rest.take 4):=by rw [List.length_take];omega
        show (List.take (mO (rest.take 4)) (rest.drop 4)).toArray.size≤_
        rw [List.size_toArray];omega
       ·cases this
      clear F hx
      go_wp2_with (first
       | (go_at_call 170;(with_reducible refine HC.out.mono ?_);rintro e w2 ⟨rfl,k2,d2⟩;have hz2:=k2.size;have K2:=gH (And.intro k2 d2);have O2:=gH (fun o:Obj=>br (P:=fun _=>False) (br HF.out.own k2 fun g hg e=>e (.inr hg)) (Kb.aO ((ag.refl w2).alloc o)) (fun _ _=>id));clear k2 d2)
       | (at_builtin;go_must (refine MD rfl _ _ rfl w.heap.size u6 k bw.flatten rfl (O2.out _) w2.heap.size _ rfl (heap_alloc_new w2 _) rfl (by omega) (by simp;omega) ?_);intro g cap w5 o5 g5 t5 z5;have G5:=gH (And.intro o5 (And.intro g5 (And.intro t5 z5)));clear o5 g5 t5 z5))
      obtain ⟨k2,d2⟩:=K2.out;obtain ⟨o5,g5,t5,z5⟩:=G5.out;refine ⟨⟨k+1,by omega,by go_num,gH ⟨⟨some ⟨g,0,none⟩,0,cap⟩,rfl⟩,gH ⟨_,_,_,_,HF.out.step (S2:=fun _=>False) (cs:=[.string x]) hlt HX.out k2 (fun _ h=>h.elim) (d2.step (Kb.refl _ _) fun j e=>.inl (e.elim id False.elim)) rfl (fun V _=>⟨rfl,by unfold Small;omega⟩) g5 t5 o5 z5⟩⟩,?_⟩;simp [intOf];omega
    ·have eH:¬ (k:Int) < (m:Int):=by omega
     go_wp2;go_ret
     have e:k=m:=by omega
     subst e;obtain ⟨xs,bw,S,rest,F⟩:=HF.out;obtain ⟨hd,hv⟩:=HV.out;rw [HD.out];exact F.done hv qj
  ·have HB:=gH (show decide (n≤4096)=false from decide_eq_false hm)
   have HD:=gH (show bT dR l=none from by unfold bT;rw [hd];simp only [Option.bind_some];rw [if_neg hm]);clear hd
   go_in
   go_wp2_with (first
    | (go_at_call 105;(with_reducible refine HN.out.mono ?_);rintro e w1 ⟨rfl,k1,d1⟩;have K1:=gH (And.intro k1 d1);clear k1 d1)
    | (go_at_call 98;(try rw [HB.out]);(with_reducible refine (fW _).mono ?_);rintro e w2 ⟨he,rfl⟩;unfold dM at he;subst he))
   rw [HD.out];exact ⟨rfl,K1.out.1,rfl⟩
theorem gA {T:TypeId} {fs:Array Field} {k:Nat} (hu:Tryz.prog.underlying T=some (.struct fs)) (hi:(Tryz.prog.info? T).map (·.size)=some k) {V:World} {x:Nat} {cs:List Value} (h:ai V x cs) (hk:cs.length=k) :
  (loadVar T ⟨x,0,none⟩).run Tryz.prog V=.ok (.agg cs.toArray) V:=by
 rw [eN V T _ k x 0 hu rfl hi (fun j hj=>by rw [Nat.zero_add,h.2.1 j (by omega),List.getElem?_eq_getElem (by omega)];rfl)]
 congr 2
 congr 1
 apply List.ext_getElem
 ·simp [hk]
 ·intro j h1 h2
  simp only [List.getElem_map,List.getElem_range,Nat.zero_add];rw [h.2.1 j h2,List.getElem?_eq_getElem h2];rfl
theorem eB {x:Nat}:∀ (vs:List Value) (V:World) (pre cs:List Value),ai V x (pre++cs)→cs.length=vs.length→ai (V.setCells x pre.length vs) x (pre++vs)
 | [],V,pre,cs,h,hl=>by
  have:cs=[]:=List.eq_nil_of_length_eq_zero hl;subst this;exact h
 | v::vs,V,pre,[],h,hl=>by simp at hl
 | v::vs,V,pre,c::cs,h,hl=>by
  have h1:=h.set pre.length v (by simp)
  have e:(pre++c::cs).set pre.length v=(pre++[v])++cs:=by simp
  rw [e] at h1;have h2:=eB vs _ (pre++[v]) cs h1 (by simpa using hl);rw [show (pre++[v]).length=pre.length+1 by simp,List.append_assoc] at h2;exact h2
theorem cF (g:Nat):∀ (vs:List Value) (w:World) (o:Nat),Kb (fun k=>k=g) w (w.setCells g o vs)
 | [],w,o=>Kb.refl _ w
 | v::vs,w,o=>(Kb.set w g o v).trans (cF g vs _ (o+1))
theorem ju {T:TypeId} {k:Nat} (hi:(Tryz.prog.info? T).map (·.size)=some k) {V:World} {r:Nat} {zs vs:List Value} (h:ai V r zs) (hz:zs.length=k) (hv:vs.length=k) (h1:∀ v∈vs,v.oneCell'=true) :
  (storeVar T ⟨r,0,none⟩ (.agg vs.toArray)).run Tryz.prog V=.ok () (V.setCells r 0 vs):=by
 refine eW V T r 0 vs (by rw [hv];exact hi) fun j hj=>⟨?_,?_,?_⟩
 ·rw [Nat.zero_add,h.2.1 j (by omega),List.getElem?_eq_getElem (by omega)];rfl
 ·rw [Nat.zero_add];exact h.2.2 j (by omega)
 ·rw [List.getD,List.getElem?_eq_getElem hj];exact h1 _ (List.getElem_mem hj)
abbrev lU (s:ByteArray):Prop:=Small s.size
theorem fJ {l r:Bt} {x:ByteArray} (h:dR l=some (x,r)):lU x:=by
 unfold dR at h
 split at h
 ·rename_i h'
  cases h
  have:(List.take (mO (l.take 4)) (l.drop 4)).length≤mO (l.take 4):=by rw [List.length_take];omega
  show (List.take (mO (l.take 4)) (l.drop 4)).toArray.size≤_
  rw [List.size_toArray];omega
 ·cases h
theorem QE {l r:Bt} {n:Int} (h:cH l=some (n,r)):(Lit.int .i64 n).wf=true:=by
 unfold cH at h
 split at h
 ·rename_i h'
  cases h
  simp [Lit.wf,IntKind.min,IntKind.max,IntKind.bits,IntKind.signed];omega
 ·cases h
theorem jn.cases {α:Type} {w0:World} {Q:Nat→Prop} {b:Nat} {w:World} {v:α→Value} {d:Option (α × Bt)} {e:Ending} {w':World} (h:jn w0 Q b w v d e w'):(d=none∧e=dM∧Kb (fun j=>¬ Q j) w w')∨∃ x r,d=some (x,r)∧e=.returned (v x)∧Kb (fun j=>¬ Q j) w w'∧gj w0 Q b r w':=by
 obtain ⟨k,h⟩:=h
 cases d with
 | none=>exact .inl ⟨rfl,h,k⟩
 | some p=>exact .inr ⟨p.1,p.2,rfl,h.1,k,h.2⟩
theorem FW.cases {α:Type} {size:Nat} {R:World→List Value→α→Prop} {w0:World} {Q:Nat→Prop} {b:Nat} {w:World} {d:Option (List α × Bt)} {e:Ending} {w':World} (h:FW size R w0 Q b w d e w'):(d=none∧e=dM∧Kb (fun j=>¬ Q j) w w')∨∃ (S:Nat→Prop) (a:Option Addr) (c:Nat) (x:List α) (r:Bt),d=some (x,r)∧e=.returned (.slice a x.length c)∧(∀ j,S j→w.heap.size≤j)∧Kb (fun j=>¬ Q j) w w'∧gj w0 (fun j=>Q j∨S j) b r w'∧∀ V,Kb (fun j=>¬ S j) w' V→az V size R a c x:=by
 obtain ⟨k,h⟩:=h
 cases d with
 | none=>exact .inl ⟨rfl,h,k⟩
 | some p =>
  obtain ⟨S,hd,h1,h2,h3,h4⟩:=h;exact .inr ⟨S,hd.a,hd.c,p.1,p.2,rfl,h3,h1,k,h2,h4⟩
structure mf (w0 w:World) (Q:Nat→Prop) (b:Nat) (S:Nat→Prop) (F:World→Prop) (cs:List Value) (rest:Bt) (wr:World):Prop where
 rd:gj w0 (fun j=>(Q j∨S j)∨j=w.heap.size) b rest wr
 row:ai wr w.heap.size cs
 kb:Kb (fun j=>¬ Q j) w wr
 sn:∀ j,S j→w.heap.size < j
 qw:∀ j,Q j→j < w.heap.size
 wz:w0.heap.size≤w.heap.size
 hf:∀ V,Kb (fun j=>¬ S j) wr V→F V
theorem mf.start {w0 w:World} {Q:Nat→Prop} {b:Nat} {l:Bt} (h:gj w0 Q b l w) (cs:List Value) (t:TypeId):mf w0 w Q b (fun _=>False) (fun _=>True) cs l (w.alloc (.cells cs.toArray t)) :=
 ⟨h.step (Kb.aO ((ag.refl w).alloc _)) fun j e=>by
  rcases e with (e | e) | e
  ·exact .inl e
  ·exact e.elim
  ·exact .inr ⟨by omega,by simp;omega⟩,aN (ag.refl _),Kb.aO ((ag.refl w).alloc _),fun _ h=>h.elim,h.qz,h.aA.size,fun _ _=>trivial⟩
theorem mf.call {w0 w wr w2:World} {Q S:Nat→Prop} {F:World→Prop} {b:Nat} {cs:List Value} {rest r:Bt} (h:mf w0 w Q b S F cs rest wr) (k:Kb (fun j=>¬ ((Q j∨S j)∨j=w.heap.size)) wr w2) (d:gj w0 (fun j=>(Q j∨S j)∨j=w.heap.size) b r w2):mf w0 w Q b S F cs r w2 :=
 ⟨d,k.row h.row fun e=>e (.inr rfl),h.kb.trans (k.mono fun j _ e e'=>e (.inl (.inl e'))),h.sn,h.qw,h.wz,fun V kv=>h.hf V ((k.mono fun j _ e e'=>e (.inl (.inr e'))).trans kv)⟩
theorem mf.mP {α:Type} {size:Nat} {R:World→List Value→α→Prop} {xs:List α} {a:Option Addr} {c:Nat} {w0 w wr w2:World} {Q S S':Nat→Prop} {F:World→Prop} {b:Nat} {cs:List Value} {rest r:Bt} (h:mf w0 w Q b S F cs rest wr) (sn:∀ j,S' j→wr.heap.size≤j) (k:Kb (fun j=>¬ ((Q j∨S j)∨j=w.heap.size)) wr w2) (d:gj w0 (fun j=>((Q j∨S j)∨j=w.heap.size)∨S' j) b r w2) (hs:∀ V,Kb (fun j=>¬ S' j) w2 V→az V size R a c xs) :
  mf w0 w Q b (fun j=>S j∨S' j) (fun V=>F V∧az V size R a c xs) cs r w2:=by
 have hz:=h.row.1;refine ⟨d.step (Kb.refl _ _) fun j e=>.inl ?_,k.row h.row fun e=>e (.inr rfl),h.kb.trans (k.mono fun j _ e e'=>e (.inl (.inl e'))),fun j e=>e.elim (h.sn j) fun e=>by have:=sn j e;omega,h.qw,h.wz,fun V kv=>⟨h.hf V ((k.mono fun j _ e e'=>e (.inl (.inr e'))).trans (kv.mono fun j _ e e'=>e (.inl e'))),hs V (kv.mono fun j _ e e'=>e (.inr e'))⟩⟩
 rcases e with (e | e | e) | e
 ·exact .inl (.inl (.inl e))
 ·exact .inl (.inl (.inr e))
 ·exact .inr e
 ·exact .inl (.inr e)
theorem mf.fail {w0 w wr w2:World} {Q S:Nat→Prop} {F:World→Prop} {b:Nat} {cs:List Value} {rest:Bt} (h:mf w0 w Q b S F cs rest wr) (k:Kb (fun j=>¬ ((Q j∨S j)∨j=w.heap.size)) wr w2):Kb (fun j=>¬ Q j) w w2 :=
 h.kb.trans (k.mono fun j _ e e'=>e (.inl (.inl e')))
theorem mf.set {w0 w wr:World} {Q S:Nat→Prop} {F:World→Prop} {b:Nat} {cs:List Value} {rest:Bt} (h:mf w0 w Q b S F cs rest wr) (j:Nat) (v:Value) (hj:j < cs.length):mf w0 w Q b S F (cs.set j v) rest (wr.setCell ⟨w.heap.size,j,none⟩ v) :=
 ⟨h.rd.step ((Kb.set wr w.heap.size j v).mono fun j _ e=>⟨.inr e,by have:=h.wz;omega⟩) fun j e=>.inl e,h.row.set j v hj,h.kb.trans ((Kb.set wr w.heap.size j v).mono fun j _ e e'=>by have:=h.qw j e';omega),h.sn,h.qw,h.wz,fun V kv=>h.hf V (((Kb.set wr w.heap.size j v).mono fun j _ e e'=>by have:=h.sn j e';omega).trans kv)⟩
theorem mf.done {α:Type} {w0 w wr:World} {Q S:Nat→Prop} {F:World→Prop} {b:Nat} {cs:List Value} {rest:Bt} {R:World→List Value→α→Prop} {size:Nat} {x:α} (h:mf w0 w Q b S F cs rest wr) (hl:cs.length=size) (h1:∀ u∈cs,u.oneCell'=true) (hr:∀ V,F V→R V cs x) {o:Option (α × Bt)} (ho:o=some (x,rest)):dZ size R w0 Q b w o (.returned (.agg cs.toArray)) wr:=by
 subst ho;exact ⟨h.kb,S,cs,fun j e=>Nat.le_of_lt (h.sn j e),h.rd.step (Kb.refl _ _) fun j e=>.inl (.inl e),rfl,hl,h1,fun V kv=>hr V (h.hf V kv)⟩
theorem mf.ends {w0 w wr:World} {Q S:Nat→Prop} {F:World→Prop} {b:Nat} {cs:List Value} {rest:Bt} (h:mf w0 w Q b S F cs rest wr) (T:TypeId) {fs:Array Field} {k:Nat} (hu:Tryz.prog.underlying T=some (.struct fs)) (hi:(Tryz.prog.info? T).map (·.size)=some k) (hk:cs.length=k) (h1:∀ v∈cs,v.oneCell'=true) :
  (loadVar T ⟨w.heap.size,0,none⟩).run Tryz.prog wr=.ok (.agg cs.toArray) wr∧(storeVar T ⟨w.heap.size,0,none⟩ (.agg cs.toArray)).run Tryz.prog wr=.ok () (wr.setCells w.heap.size 0 cs)∧(loadVar T ⟨w.heap.size,0,none⟩).run Tryz.prog (wr.setCells w.heap.size 0 cs)=.ok (.agg cs.toArray) (wr.setCells w.heap.size 0 cs)∧mf w0 w Q b S F cs rest (wr.setCells w.heap.size 0 cs):=by
 have kb:=cF w.heap.size cs wr 0
 have r2:ai (wr.setCells w.heap.size 0 cs) w.heap.size cs:=by simpa using eB cs wr [] cs h.row rfl
 exact ⟨gA hu hi h.row hk,ju hi h.row hk hk h1,gA hu hi r2 hk,h.rd.step (kb.mono fun j _ e=>⟨.inr e,by have:=h.wz;omega⟩) fun j e=>.inl e,r2,h.kb.trans (kb.mono fun j _ e e'=>by have:=h.qw j e';omega),h.sn,h.qw,h.wz,fun V kv=>h.hf V ((kb.mono fun j _ e e'=>by have:=h.sn j e';omega).trans kv)⟩
theorem pR (T ST:TypeId) (sz:Nat) (hsz:0 < sz) (hu:Tryz.prog.underlying ST=some (.slice T)) (hi:(Tryz.prog.info? T).map (fun i=>(i.size,decide (i.bytes≤1000),i.zero.map (fun z=>z.cells.size)))=some (sz,true,some sz))
  {ops:Array Oper} {rest:List Oper} {o:Oper} {a:Act} {w:World} {Q:Exit→Act→World→Prop} (hgd:o.guard=none) (s x:Operand)
  (ho:o.op=.call { callee:=.builtin .append,args:=#[s,x],argTypes:=#[ST,ST] }) (base:Nat) (v:Value) (n:Nat) (xs:List Value) (hs:a.eval s=v) (hown:w.ownsRow base T sz v n xs)
  (b:Nat) (cs:List Value) (hx:a.eval x=.slice (some ⟨b,0,none⟩) 1 1) (hb:w.heap[b]? = some (.cells cs.toArray T)) (hl:cs.length=sz) (h1:∀ u∈cs,u.oneCell'=true) (hn:n≤100000000) (hbase:base≤w.heap.size)
  (h:∀ g cap w',w'.ownsRow base T sz (.slice (some ⟨g,0,none⟩) (n+1) cap) (n+1) (xs++cs)→w.grownBy w' v.ownBlock→(v.ownBlock=some g∨g=w.heap.size)→g < w'.heap.size→wpList Tryz.prog ops Q rest (a.put o.dst (.slice (some ⟨g,0,none⟩) (n+1) cap)) w'):wpList Tryz.prog ops Q (o::rest) a w:=by
 cases hj:Tryz.prog.info? T with
 | none=>rw [hj] at hi;cases hi
 | some i =>
  rw [hj] at hi;simp only [Option.map_some,Option.some.injEq,Prod.mk.injEq] at hi;obtain ⟨e1,e2,e3⟩:=hi;have e2:=of_decide_eq_true e2
  cases hz:i.zero with
  | none=>rw [hz] at e3;cases e3
  | some z =>
   rw [hz] at e3;simp only [Option.map_some,Option.some.injEq] at e3
   have hby:(n+1)*i.bytes≤140737488355328:=by
    have:(n+1)*i.bytes≤100000001*1000:=Nat.mul_le_mul (by omega) e2;omega
   exact wpList_append_lies w hgd s x ST ho base T i z sz i.bytes hu hj hz e1 rfl e3 hsz v n xs hs hown ⟨b,0,none⟩ 1 1 cs hx (by omega) (World.news_of_block (cs:=cs.toArray) (t:=T) (fr:=(0,0)) hb) h1 (by omega) (by unfold maxLen;omega)
    hby hbase _ rfl fun g cap w' h1 h2 h3 h4=>h g cap w' h1 h2 h3 h4
def jv (a:Addr):Sem Value:=loadVar 36 a
@[go_sem ↓] theorem JE (a:Addr):loadVar 36 a=jv a:=rfl
@[go_sem] theorem Eh (w:World) (b o:Nat) (h0:(w.cell? ⟨b,o,none⟩).isSome=true) (h1:(w.cell? ⟨b,o+1,none⟩).isSome=true) (h2:(w.cell? ⟨b,o+2,none⟩).isSome=true) (h3:(w.cell? ⟨b,o+3,none⟩).isSome=true) (h4:(w.cell? ⟨b,o+4,none⟩).isSome=true) (h5:(w.cell? ⟨b,o+5,none⟩).isSome=true) (h6:(w.cell? ⟨b,o+6,none⟩).isSome=true) (h7:(w.cell? ⟨b,o+7,none⟩).isSome=true) (h8:(w.cell? ⟨b,o+8,none⟩).isSome=true) (h9:(w.cell? ⟨b,o+9,none⟩).isSome=true):(jv ⟨b,o,none⟩).run Tryz.prog w=.ok (.agg #[(w.cell? ⟨b,o,none⟩).getD undef,(w.cell? ⟨b,o+1,none⟩).getD undef,(w.cell? ⟨b,o+2,none⟩).getD undef,(w.cell? ⟨b,o+3,none⟩).getD undef,(w.cell? ⟨b,o+4,none⟩).getD undef,(w.cell? ⟨b,o+5,none⟩).getD undef,(w.cell? ⟨b,o+6,none⟩).getD undef,(w.cell? ⟨b,o+7,none⟩).getD undef,(w.cell? ⟨b,o+8,none⟩).getD undef,(w.cell? ⟨b,o+9,none⟩).getD undef]) w:=eN (P:=Tryz.prog) w 36 _ 10 b o Tryz.underlying36 rfl (by kernel_rfl) (ac _ _ (ac _ _ (ac _ _ (ac _ _ (ac _ _ (ac _ _ (ac _ _ (ac _ _ (ac _ _ (ac _ _ (fun j hj=>absurd hj (Nat.not_lt_zero j)) h0) h1) h2) h3) h4) h5) h6) h7) h8) h9)
def mr (a:Addr) (v:Value):Sem Unit:=storeVar 36 a v
@[go_sem ↓] theorem JF (a:Addr) (v:Value):storeVar 36 a v=mr a v:=rfl
@[go_sem] theorem Rp (w:World) (b o:Nat) (v0 v1 v2 v3 v4 v5 v6 v7 v8 v9:Value) (h0:(w.cell? ⟨b,o,none⟩).isSome=true) (h1:(w.cell? ⟨b,o+1,none⟩).isSome=true) (h2:(w.cell? ⟨b,o+2,none⟩).isSome=true) (h3:(w.cell? ⟨b,o+3,none⟩).isSome=true) (h4:(w.cell? ⟨b,o+4,none⟩).isSome=true) (h5:(w.cell? ⟨b,o+5,none⟩).isSome=true) (h6:(w.cell? ⟨b,o+6,none⟩).isSome=true) (h7:(w.cell? ⟨b,o+7,none⟩).isSome=true) (h8:(w.cell? ⟨b,o+8,none⟩).isSome=true) (h9:(w.cell? ⟨b,o+9,none⟩).isSome=true) (f0:w.frozen? ⟨b,o,none⟩=false) (f1:w.frozen? ⟨b,o+1,none⟩=false) (f2:w.frozen? ⟨b,o+2,none⟩=false) (f3:w.frozen? ⟨b,o+3,none⟩=false) (f4:w.frozen? ⟨b,o+4,none⟩=false) (f5:w.frozen? ⟨b,o+5,none⟩=false) (f6:w.frozen? ⟨b,o+6,none⟩=false) (f7:w.frozen? ⟨b,o+7,none⟩=false) (f8:w.frozen? ⟨b,o+8,none⟩=false) (f9:w.frozen? ⟨b,o+9,none⟩=false) (o0:v0.oneCell'=true) (o1:v1.oneCell'=true) (o2:v2.oneCell'=true) (o3:v3.oneCell'=true) (o4:v4.oneCell'=true) (o5:v5.oneCell'=true) (o6:v6.oneCell'=true) (o7:v7.oneCell'=true) (o8:v8.oneCell'=true) (o9:v9.oneCell'=true):(mr ⟨b,o,none⟩ (.agg #[v0,v1,v2,v3,v4,v5,v6,v7,v8,v9])).run Tryz.prog w=.ok () ((((((((((w.setCell ⟨b,o,none⟩ v0).setCell ⟨b,o+1,none⟩ v1).setCell ⟨b,o+2,none⟩ v2).setCell ⟨b,o+3,none⟩ v3).setCell ⟨b,o+4,none⟩ v4).setCell ⟨b,o+5,none⟩ v5).setCell ⟨b,o+6,none⟩ v6).setCell ⟨b,o+7,none⟩ v7).setCell ⟨b,o+8,none⟩ v8).setCell ⟨b,o+9,none⟩ v9):=eW (P:=Tryz.prog) w 36 b o [v0,v1,v2,v3,v4,v5,v6,v7,v8,v9] (by kernel_rfl) (ac _ _ (ac _ _ (ac _ _ (ac _ _ (ac _ _ (ac _ _ (ac _ _ (ac _ _ (ac _ _ (ac _ _ (fun j hj=>absurd hj (Nat.not_lt_zero j)) ⟨h0,f0,o0⟩) ⟨h1,f1,o1⟩) ⟨h2,f2,o2⟩) ⟨h3,f3,o3⟩) ⟨h4,f4,o4⟩) ⟨h5,f5,o5⟩) ⟨h6,f6,o6⟩) ⟨h7,f7,o7⟩) ⟨h8,f8,o8⟩) ⟨h9,f9,o9⟩)
def Hj (a:Addr):Sem Value:=loadVar 60 a
@[go_sem ↓] theorem Vi (a:Addr):loadVar 60 a=Hj a:=rfl
@[go_sem] theorem EP (w:World) (b o:Nat) (h0:(w.cell? ⟨b,o,none⟩).isSome=true) (h1:(w.cell? ⟨b,o+1,none⟩).isSome=true) (h2:(w.cell? ⟨b,o+2,none⟩).isSome=true) (h3:(w.cell? ⟨b,o+3,none⟩).isSome=true) (h4:(w.cell? ⟨b,o+4,none⟩).isSome=true) (h5:(w.cell? ⟨b,o+5,none⟩).isSome=true) (h6:(w.cell? ⟨b,o+6,none⟩).isSome=true) (h7:(w.cell? ⟨b,o+7,none⟩).isSome=true) (h8:(w.cell? ⟨b,o+8,none⟩).isSome=true) (h9:(w.cell? ⟨b,o+9,none⟩).isSome=true) (h10:(w.cell? ⟨b,o+10,none⟩).isSome=true) (h11:(w.cell? ⟨b,o+11,none⟩).isSome=true) (Co:(w.cell? ⟨b,o+12,none⟩).isSome=true) (Cp:(w.cell? ⟨b,o+13,none⟩).isSome=true) (FE:(w.cell? ⟨b,o+14,none⟩).isSome=true) (FH:(w.cell? ⟨b,o+15,none⟩).isSome=true) (Oj:(w.cell? ⟨b,o+16,none⟩).isSome=true) (Zh:(w.cell? ⟨b,o+17,none⟩).isSome=true) (Zi:(w.cell? ⟨b,o+18,none⟩).isSome=true) (Zj:(w.cell? ⟨b,o+19,none⟩).isSome=true) (Zk:(w.cell? ⟨b,o+20,none⟩).isSome=true) (Zl:(w.cell? ⟨b,o+21,none⟩).isSome=true) (Zm:(w.cell? ⟨b,o+22,none⟩).isSome=true):(Hj ⟨b,o,none⟩).run Tryz.prog w=.ok (.agg #[(w.cell? ⟨b,o,none⟩).getD undef,(w.cell? ⟨b,o+1,none⟩).getD undef,(w.cell? ⟨b,o+2,none⟩).getD undef,(w.cell? ⟨b,o+3,none⟩).getD undef,(w.cell? ⟨b,o+4,none⟩).getD undef,(w.cell? ⟨b,o+5,none⟩).getD undef,(w.cell? ⟨b,o+6,none⟩).getD undef,(w.cell? ⟨b,o+7,none⟩).getD undef,(w.cell? ⟨b,o+8,none⟩).getD undef,(w.cell? ⟨b,o+9,none⟩).getD undef,(w.cell? ⟨b,o+10,none⟩).getD undef,(w.cell? ⟨b,o+11,none⟩).getD undef,(w.cell? ⟨b,o+12,none⟩).getD undef,(w.cell? ⟨b,o+13,none⟩).getD undef,(w.cell? ⟨b,o+14,none⟩).getD undef,(w.cell? ⟨b,o+15,none⟩).getD undef,(w.cell? ⟨b,o+16,none⟩).getD undef,(w.cell? ⟨b,o+17,none⟩).getD undef,(w.cell? ⟨b,o+18,none⟩).getD undef,(w.cell? ⟨b,o+19,none⟩).getD undef,(w.cell? ⟨b,o+20,none⟩).getD undef,(w.cell? ⟨b,o+21,none⟩).getD undef,(w.cell? ⟨b,o+22,none⟩).getD undef]) w:=eN (P:=Tryz.prog) w 60 _ 23 b o Tryz.underlying60 rfl (by kernel_rfl) (ac _ _ (ac _ _ (ac _ _ (ac _ _ (ac _ _ (ac _ _ (ac _ _ (ac _ _ (ac _ _ (ac _ _ (ac _ _ (ac _ _ (ac _ _ (ac _ _ (ac _ _ (ac _ _ (ac _ _ (ac _ _ (ac _ _ (ac _ _ (ac _ _ (ac _ _ (ac _ _ (fun j hj=>absurd hj (Nat.not_lt_zero j)) h0) h1) h2) h3) h4) h5) h6) h7) h8) h9) h10) h11) Co) Cp) FE) FH) Oj) Zh) Zi) Zj) Zk) Zl) Zm)
def Oa (a:Addr) (v:Value):Sem Unit:=storeVar 60 a v
@[go_sem ↓] theorem Vj (a:Addr) (v:Value):storeVar 60 a v=Oa a v:=rfl
@[go_sem] theorem Rq (w:World) (b o:Nat) (v0 v1 v2 v3 v4 v5 v6 v7 v8 v9 v10 v11 v12 v13 v14 v15 v16 v17 v18 v19 v20 v21 v22:Value) (h0:(w.cell? ⟨b,o,none⟩).isSome=true) (h1:(w.cell? ⟨b,o+1,none⟩).isSome=true) (h2:(w.cell? ⟨b,o+2,none⟩).isSome=true) (h3:(w.cell? ⟨b,o+3,none⟩).isSome=true) (h4:(w.cell? ⟨b,o+4,none⟩).isSome=true) (h5:(w.cell? ⟨b,o+5,none⟩).isSome=true) (h6:(w.cell? ⟨b,o+6,none⟩).isSome=true) (h7:(w.cell? ⟨b,o+7,none⟩).isSome=true) (h8:(w.cell? ⟨b,o+8,none⟩).isSome=true) (h9:(w.cell? ⟨b,o+9,none⟩).isSome=true) (h10:(w.cell? ⟨b,o+10,none⟩).isSome=true) (h11:(w.cell? ⟨b,o+11,none⟩).isSome=true) (Co:(w.cell? ⟨b,o+12,none⟩).isSome=true) (Cp:(w.cell? ⟨b,o+13,none⟩).isSome=true) (FE:(w.cell? ⟨b,o+14,none⟩).isSome=true) (FH:(w.cell? ⟨b,o+15,none⟩).isSome=true) (Oj:(w.cell? ⟨b,o+16,none⟩).isSome=true) (Zh:(w.cell? ⟨b,o+17,none⟩).isSome=true) (Zi:(w.cell? ⟨b,o+18,none⟩).isSome=true) (Zj:(w.cell? ⟨b,o+19,none⟩).isSome=true) (Zk:(w.cell? ⟨b,o+20,none⟩).isSome=true) (Zl:(w.cell? ⟨b,o+21,none⟩).isSome=true) (Zm:(w.cell? ⟨b,o+22,none⟩).isSome=true) (f0:w.frozen? ⟨b,o,none⟩=false) (f1:w.frozen? ⟨b,o+1,none⟩=false) (f2:w.frozen? ⟨b,o+2,none⟩=false) (f3:w.frozen? ⟨b,o+3,none⟩=false) (f4:w.frozen? ⟨b,o+4,none⟩=false) (f5:w.frozen? ⟨b,o+5,none⟩=false) (f6:w.frozen? ⟨b,o+6,none⟩=false) (f7:w.frozen? ⟨b,o+7,none⟩=false) (f8:w.frozen? ⟨b,o+8,none⟩=false) (f9:w.frozen? ⟨b,o+9,none⟩=false) (f10:w.frozen? ⟨b,o+10,none⟩=false) (f11:w.frozen? ⟨b,o+11,none⟩=false) (f12:w.frozen? ⟨b,o+12,none⟩=false) (f13:w.frozen? ⟨b,o+13,none⟩=false) (f14:w.frozen? ⟨b,o+14,none⟩=false) (f15:w.frozen? ⟨b,o+15,none⟩=false) (f16:w.frozen? ⟨b,o+16,none⟩=false) (f17:w.frozen? ⟨b,o+17,none⟩=false) (f18:w.frozen? ⟨b,o+18,none⟩=false) (f19:w.frozen? ⟨b,o+19,none⟩=false) (f20:w.frozen? ⟨b,o+20,none⟩=false) (f21:w.frozen? ⟨b,o+21,none⟩=false) (f22:w.frozen? ⟨b,o+22,none⟩=false) (o0:v0.oneCell'=true) (o1:v1.oneCell'=true) (o2:v2.oneCell'=true) (o3:v3.oneCell'=true) (o4:v4.oneCell'=true) (o5:v5.oneCell'=true) (o6:v6.oneCell'=true) (o7:v7.oneCell'=true) (o8:v8.oneCell'=true) (o9:v9.oneCell'=true) (Wu:v10.oneCell'=true) (Wv:v11.oneCell'=true) (Ww:v12.oneCell'=true) (DJ:v13.oneCell'=true) (Wx:v14.oneCell'=true) (Wy:v15.oneCell'=true) (Wz:v16.oneCell'=true) (o17:v17.oneCell'=true) (o18:v18.oneCell'=true) (o19:v19.oneCell'=true) (o20:v20.oneCell'=true) (o21:v21.oneCell'=true) (o22:v22.oneCell'=true):(Oa ⟨b,o,none⟩ (.agg #[v0,v1,v2,v3,v4,v5,v6,v7,v8,v9,v10,v11,v12,v13,v14,v15,v16,v17,v18,v19,v20,v21,v22])).run Tryz.prog w=.ok () (((((((((((((((((((((((w.setCell ⟨b,o,none⟩ v0).setCell ⟨b,o+1,none⟩ v1).setCell ⟨b,o+2,none⟩ v2).setCell ⟨b,o+3,none⟩ v3).setCell ⟨b,o+4,none⟩ v4).setCell ⟨b,o+5,none⟩ v5).setCell ⟨b,o+6,none⟩ v6).setCell ⟨b,o+7,none⟩ v7).setCell ⟨b,o+8,none⟩ v8).setCell ⟨b,o+9,none⟩ v9).setCell ⟨b,o+10,none⟩ v10).setCell ⟨b,o+11,none⟩ v11).setCell ⟨b,o+12,none⟩ v12).setCell ⟨b,o+13,none⟩ v13).setCell ⟨b,o+14,none⟩ v14).setCell ⟨b,o+15,none⟩ v15).setCell ⟨b,o+16,none⟩ v16).setCell ⟨b,o+17,none⟩ v17).setCell ⟨b,o+18,none⟩ v18).setCell ⟨b,o+19,none⟩ v19).setCell ⟨b,o+20,none⟩ v20).setCell ⟨b,o+21,none⟩ v21).setCell ⟨b,o+22,none⟩ v22):=eW (P:=Tryz.prog) w 60 b o [v0,v1,v2,v3,v4,v5,v6,v7,v8,v9,v10,v11,v12,v13,v14,v15,v16,v17,v18,v19,v20,v21,v22] (by kernel_rfl) (ac _ _ (ac _ _ (ac _ _ (ac _ _ (ac _ _ (ac _ _ (ac _ _ (ac _ _ (ac _ _ (ac _ _ (ac _ _ (ac _ _ (ac _ _ (ac _ _ (ac _ _ (ac _ _ (ac _ _ (ac _ _ (ac _ _ (ac _ _ (ac _ _ (ac _ _ (ac _ _ (fun j hj=>absurd hj (Nat.not_lt_zero j)) ⟨h0,f0,o0⟩) ⟨h1,f1,o1⟩) ⟨h2,f2,o2⟩) ⟨h3,f3,o3⟩) ⟨h4,f4,o4⟩) ⟨h5,f5,o5⟩) ⟨h6,f6,o6⟩) ⟨h7,f7,o7⟩) ⟨h8,f8,o8⟩) ⟨h9,f9,o9⟩) ⟨h10,f10,Wu⟩) ⟨h11,f11,Wv⟩) ⟨Co,f12,Ww⟩) ⟨Cp,f13,DJ⟩) ⟨FE,f14,Wx⟩) ⟨FH,f15,Wy⟩) ⟨Oj,f16,Wz⟩) ⟨Zh,f17,o17⟩) ⟨Zi,f18,o18⟩) ⟨Zj,f19,o19⟩) ⟨Zk,f20,o20⟩) ⟨Zl,f21,o21⟩) ⟨Zm,f22,o22⟩)
def uw (a:Addr):Sem Value:=loadVar 48 a
@[go_sem ↓] theorem JG (a:Addr):loadVar 48 a=uw a:=rfl
@[go_sem] theorem EB (w:World) (b o:Nat) (h0:(w.cell? ⟨b,o,none⟩).isSome=true) (h1:(w.cell? ⟨b,o+1,none⟩).isSome=true) (h2:(w.cell? ⟨b,o+2,none⟩).isSome=true) (h3:(w.cell? ⟨b,o+3,none⟩).isSome=true) (h4:(w.cell? ⟨b,o+4,none⟩).isSome=true):(uw ⟨b,o,none⟩).run Tryz.prog w=.ok (.agg #[(w.cell? ⟨b,o,none⟩).getD undef,(w.cell? ⟨b,o+1,none⟩).getD undef,(w.cell? ⟨b,o+2,none⟩).getD undef,(w.cell? ⟨b,o+3,none⟩).getD undef,(w.cell? ⟨b,o+4,none⟩).getD undef]) w:=eN (P:=Tryz.prog) w 48 _ 5 b o Tryz.underlying48 rfl (by kernel_rfl) (ac _ _ (ac _ _ (ac _ _ (ac _ _ (ac _ _ (fun j hj=>absurd hj (Nat.not_lt_zero j)) h0) h1) h2) h3) h4)
def ym (a:Addr) (v:Value):Sem Unit:=storeVar 48 a v
@[go_sem ↓] theorem JH (a:Addr) (v:Value):storeVar 48 a v=ym a v:=rfl
@[go_sem] theorem Rs (w:World) (b o:Nat) (v0 v1 v2 v3 v4:Value) (h0:(w.cell? ⟨b,o,none⟩).isSome=true) (h1:(w.cell? ⟨b,o+1,none⟩).isSome=true) (h2:(w.cell? ⟨b,o+2,none⟩).isSome=true) (h3:(w.cell? ⟨b,o+3,none⟩).isSome=true) (h4:(w.cell? ⟨b,o+4,none⟩).isSome=true) (f0:w.frozen? ⟨b,o,none⟩=false) (f1:w.frozen? ⟨b,o+1,none⟩=false) (f2:w.frozen? ⟨b,o+2,none⟩=false) (f3:w.frozen? ⟨b,o+3,none⟩=false) (f4:w.frozen? ⟨b,o+4,none⟩=false) (o0:v0.oneCell'=true) (o1:v1.oneCell'=true) (o2:v2.oneCell'=true) (o3:v3.oneCell'=true) (o4:v4.oneCell'=true):(ym ⟨b,o,none⟩ (.agg #[v0,v1,v2,v3,v4])).run Tryz.prog w=.ok () (((((w.setCell ⟨b,o,none⟩ v0).setCell ⟨b,o+1,none⟩ v1).setCell ⟨b,o+2,none⟩ v2).setCell ⟨b,o+3,none⟩ v3).setCell ⟨b,o+4,none⟩ v4):=eW (P:=Tryz.prog) w 48 b o [v0,v1,v2,v3,v4] (by kernel_rfl) (ac _ _ (ac _ _ (ac _ _ (ac _ _ (ac _ _ (fun j hj=>absurd hj (Nat.not_lt_zero j)) ⟨h0,f0,o0⟩) ⟨h1,f1,o1⟩) ⟨h2,f2,o2⟩) ⟨h3,f3,o3⟩) ⟨h4,f4,o4⟩)
def Ob (a:Addr):Sem Value:=loadVar 55 a
@[go_sem ↓] theorem JI (a:Addr):loadVar 55 a=Ob a:=rfl
@[go_sem] theorem Ru (w:World) (b o:Nat) (h0:(w.cell? ⟨b,o,none⟩).isSome=true) (h1:(w.cell? ⟨b,o+1,none⟩).isSome=true) (h2:(w.cell? ⟨b,o+2,none⟩).isSome=true) (h3:(w.cell? ⟨b,o+3,none⟩).isSome=true):(Ob ⟨b,o,none⟩).run Tryz.prog w=.ok (.agg #[(w.cell? ⟨b,o,none⟩).getD undef,(w.cell? ⟨b,o+1,none⟩).getD undef,(w.cell? ⟨b,o+2,none⟩).getD undef,(w.cell? ⟨b,o+3,none⟩).getD undef]) w:=eN (P:=Tryz.prog) w 55 _ 4 b o Tryz.underlying55 rfl (by kernel_rfl) (ac _ _ (ac _ _ (ac _ _ (ac _ _ (fun j hj=>absurd hj (Nat.not_lt_zero j)) h0) h1) h2) h3)
def Oc (a:Addr) (v:Value):Sem Unit:=storeVar 55 a v
@[go_sem ↓] theorem JJ (a:Addr) (v:Value):storeVar 55 a v=Oc a v:=rfl
@[go_sem] theorem Rv (w:World) (b o:Nat) (v0 v1 v2 v3:Value) (h0:(w.cell? ⟨b,o,none⟩).isSome=true) (h1:(w.cell? ⟨b,o+1,none⟩).isSome=true) (h2:(w.cell? ⟨b,o+2,none⟩).isSome=true) (h3:(w.cell? ⟨b,o+3,none⟩).isSome=true) (f0:w.frozen? ⟨b,o,none⟩=false) (f1:w.frozen? ⟨b,o+1,none⟩=false) (f2:w.frozen? ⟨b,o+2,none⟩=false) (f3:w.frozen? ⟨b,o+3,none⟩=false) (o0:v0.oneCell'=true) (o1:v1.oneCell'=true) (o2:v2.oneCell'=true) (o3:v3.oneCell'=true):(Oc ⟨b,o,none⟩ (.agg #[v0,v1,v2,v3])).run Tryz.prog w=.ok () ((((w.setCell ⟨b,o,none⟩ v0).setCell ⟨b,o+1,none⟩ v1).setCell ⟨b,o+2,none⟩ v2).setCell ⟨b,o+3,none⟩ v3):=eW (P:=Tryz.prog) w 55 b o [v0,v1,v2,v3] (by kernel_rfl) (ac _ _ (ac _ _ (ac _ _ (ac _ _ (fun j hj=>absurd hj (Nat.not_lt_zero j)) ⟨h0,f0,o0⟩) ⟨h1,f1,o1⟩) ⟨h2,f2,o2⟩) ⟨h3,f3,o3⟩)
theorem Vk (w0:World) (Q:Nat→Prop) (b:Nat) (l:Bt) (w:World) (h:gj w0 Q b l w) :
  Calls Tryz.prog 166 #[.pointer (some ⟨b,0,none⟩)] w (dZ 2 eE w0 Q b w (jV l)):=by
 have B0:=gH (mf.start h [.string ⟨#[]⟩,.string ⟨#[]⟩] 109);clear h
 go_in
 go_wp2_with (first
  | (go_at_call 170;(with_reducible refine (iA w0 _ b _ _ B0.out.rd).mono ?_);rintro e w1 q;rcases q.cases with ⟨n,he,k⟩ | ⟨x1,r1,n,rfl,k,d⟩;all_goals (have N1:=gH n;(try (unfold dM at he;subst he;have K1:=gH (B0.out.fail k);clear n q k));try (have B1:=B0.out.call k d;have ME:=B1.row.1;have Od:=B1.row.2.2 0 (by simp);have Oe:=B1.row.cell (j:=0) rfl;have B1:=B1.set 0 (.string x1) (by simp);simp only [List.set_cons_zero] at B1;have B1:=gH B1;clear n q k d)))
  | (go_at_call 170;(with_reducible refine (iA w0 _ b _ _ B1.out.rd).mono ?_);rintro e w2 q;rcases q.cases with ⟨n,he,k⟩ | ⟨x2,r2,n,rfl,k,d⟩;all_goals (have N2:=gH n;(try (unfold dM at he;subst he;have K2:=gH (B1.out.fail k);clear n q k));try (have B2:=B1.out.call k d;have MG:=B2.row.1;have MH:=B2.row.2.2 1 (by simp);have MI:=B2.row.cell (j:=1) rfl;have B2:=B2.set 1 (.string x2) (by simp);simp only [List.set_cons_succ,List.set_cons_zero] at B2;obtain ⟨e1,e2,e3,B2⟩:=B2.ends 109 Tryz.underlying109 (by kernel_rfl) rfl (by simp [Value.oneCell']);rw [FZ] at e1;rw [F3] at e2;have E3:=gH e3;clear e3;have B2:=gH B2;clear n q k d))))
 ·exact ⟨rfl,K1.out,by rw [show jV l=none from by simp only [jV,N1.out,Option.bind_none]];rfl⟩
 ·exact ⟨rfl,K2.out,by rw [show jV l=none from by simp only [jV,N1.out,N2.out,Option.bind_some,Option.map_none]];rfl⟩
 ·refine bodyPost_ret (bB rfl _ rfl E3.out) rfl ?_
  have h1:lU x1:=fJ N1.out;have h2:lU x2:=fJ N2.out;exact B2.out.done (R:=eE) (size:=2) (x:=⟨x1,x2⟩) rfl (by simp [Value.oneCell']) (fun V hV=>⟨rfl,h1,h2⟩) (by simp only [jV,N1.out,N2.out,Option.bind_some,Option.map_some])
theorem Vl (w0:World) (Q:Nat→Prop) (b:Nat) (l:Bt) (w:World) (h:gj w0 Q b l w) :
  Calls Tryz.prog 165 #[.pointer (some ⟨b,0,none⟩),.func (.func 166) #[] #[]] w (FW 2 eE w0 Q b w (bT jV l)):=by
 have HN:=gH (fd w0 Q b l w h);have HZ:=gH h.qz;have hb0:=h.lb;have yX:=gH h.aA.size;clear h
 cases hd:cH l with
 | none =>
  have HN:=gH (HN.out.mono fun e w' (h:jn w0 Q b w (fun n:Int=>.int .i64 n) (cH l) e w')=>(show e=dM∧Kb (fun j=>¬ Q j) w w' from by unfold jn at h;rw [hd] at h;exact ⟨h.2,h.1⟩));have HD:=gH (show bT jV l=none from by unfold bT;rw [hd];rfl);clear hd
  go_in
  go_wp2_with (first
   | (go_at_call 105;(with_reducible refine HN.out.mono ?_);rintro e w1 ⟨he,k1⟩;unfold dM at he;subst he;have K1:=gH k1;clear k1))
  rw [HD.out];exact ⟨rfl,K1.out,rfl⟩
 | some p =>
  obtain ⟨n,r⟩:=p
  have vO:0≤n∧n≤1000000000:=by
   unfold cH at hd
   split at hd
   ·rename_i h;cases hd;exact ⟨by omega,by omega⟩
   ·cases hd
  have HN:=gH (HN.out.mono fun e w' (h:jn w0 Q b w (fun n:Int=>.int .i64 n) (cH l) e w')=>(show e=.returned (.int .i64 n)∧Kb (fun j=>¬ Q j) w w'∧gj w0 Q b r w' from by unfold jn at h;rw [hd] at h;exact ⟨h.2.1,h.1,h.2.2⟩));by_cases hm:n≤4096
  ·have HB:=gH (show decide (n≤4096)=true from decide_eq_true hm)
   have HD:=gH (show bT jV l=gi jV n.toNat r from by unfold bT;rw [hd];simp only [Option.bind_some];rw [if_pos hm]);obtain ⟨m,rfl⟩:∃ m:Nat,n=m:=⟨n.toNat,by omega⟩
   have qj:m≤4096:=by omega
   have HD:=gH (show bT jV l=gi jV m r from HD.out);clear hd
   go_in
   go_wp2_with (first
    | (go_at_call 105;(with_reducible refine HN.out.mono ?_);rintro e w1 ⟨rfl,k1,d1⟩;have K1:=gH (And.intro k1 d1);clear k1 d1)
    | (go_at_call 98;(try rw [HB.out]);(with_reducible refine (fX _).mono ?_);rintro e w2 ⟨rfl,rfl⟩))
   have wl:=gH (px.start (tid:=109) (size:=2) (R:=eE) (d:=jV) (n:=m) K1.out.2 K1.out.1 HZ.out yX.out)
   go_loopw [6,13] (fun v i wr=>∃ k:Nat,k≤m∧i=.int .i64 k∧Hid (∃ h:Hd,v=.slice h.a k h.c)∧Hid (∃ xs bw S rest,px 109 2 eE w0 w Q b jV m r k v xs bw S rest wr)) (fun v i _=>m - (intOf i).toNat)
   case atStart=>exact ⟨0,Nat.zero_le _,rfl,gH ⟨⟨none,0,0⟩,rfl⟩,gH ⟨_,_,_,_,wl.out⟩⟩
   case round =>
    obtain ⟨k,hk,rfl,HV,HF⟩:=hrel;by_cases hlt:k < m
    ·have eH:(k:Int) < (m:Int):=by omega
     obtain ⟨xs,bw,S,rest,F⟩:=HF.out;have hsz:=F.kb.size;have HC:=gH (Vk w0 _ b rest wr F.rd)
     cases hx:jV rest with
     | none =>
      have HC:=gH (HC.out.mono fun e w' (h:dZ 2 eE w0 _ b wr (jV rest) e w')=>(show e=dM∧Kb (fun j=>¬ Q j) wr w' from by unfold dZ at h;rw [hx] at h;exact ⟨h.2,h.1.mono fun j _ e e'=>e (.inl (.inl e'))⟩));have HE:=gH (F.fails hlt hx);have HF:=gH F.kb;clear F hx
      go_wp2_with (first
       | (go_at_call 166;(with_reducible refine HC.out.mono ?_);rintro e w2 ⟨he,k2⟩;unfold dM at he;subst he;have K2:=gH k2;clear k2))
      rw [HD.out,HE.out];exact ⟨rfl,HF.out.trans K2.out,rfl⟩
     | some p =>
      obtain ⟨x,r2⟩:=p;have HC:=gH (HC.out.mono fun e w' (h:dZ 2 eE w0 _ b wr (jV rest) e w')=>(show Kb (fun j=>¬ ((Q j∨S j)∨u6.ownBlock=some j)) wr w'∧∃ (S2:Nat→Prop) (cs:List Value),(∀ j,S2 j→wr.heap.size≤j)∧gj w0 (fun j=>((Q j∨S j)∨u6.ownBlock=some j)∨S2 j) b r2 w'∧e=.returned (.agg cs.toArray)∧cs.length=2∧(∀ u∈cs,u.oneCell'=true)∧fN S2 eE w' cs x from by unfold dZ at h;rw [hx] at h;exact h));have HX:=gH hx;have HF:=gH F;clear F hx
      go_wp2_with (first
       | (go_at_call 166;(with_reducible refine HC.out.mono ?_);rintro e w2 ⟨k2,S2,cs,sn,d2,rfl,hl,h1,hr⟩;obtain ⟨hcs,-⟩:=hr w2 (Kb.refl _ _);subst hcs;have hz2:=k2.size;have K2:=gH (And.intro k2 (And.intro sn (And.intro d2 (And.intro h1 hr))));have O2:=gH (fun o:Obj=>br (P:=fun _=>False) (br HF.out.own k2 fun g hg e=>e (.inr hg)) (Kb.aO ((ag.refl w2).alloc o)) (fun _ _=>id));clear k2 d2 sn h1 hr hl)
       | (at_builtin;go_must (refine pR 109 22 2 (by decide) Tryz.underlying22 (by kernel_rfl) rfl _ _ rfl w.heap.size u6 k bw.flatten rfl (O2.out _) w2.heap.size [.string x.name,.string x.owner] rfl (heap_alloc_new w2 _) rfl (by simp [Value.oneCell']) (by omega) (by simp;omega) ?_);intro g cap w5 o5 g5 t5 z5;have G5:=gH (And.intro o5 (And.intro g5 (And.intro t5 z5)));clear o5 g5 t5 z5))
      obtain ⟨k2,sn,d2,h1,hr⟩:=K2.out;obtain ⟨o5,g5,t5,z5⟩:=G5.out;refine ⟨⟨k+1,by omega,by go_num,gH ⟨⟨some ⟨g,0,none⟩,0,cap⟩,rfl⟩,gH ⟨_,_,_,_,HF.out.step (S2:=S2) hlt HX.out k2 sn d2 rfl hr g5 t5 o5 z5⟩⟩,?_⟩;simp [intOf];omega
    ·have eH:¬ (k:Int) < (m:Int):=by omega
     go_wp2;go_ret
     have e:k=m:=by omega
     subst e;obtain ⟨xs,bw,S,rest,F⟩:=HF.out;obtain ⟨hd,hv⟩:=HV.out;rw [HD.out];exact F.done hv qj
  ·have HB:=gH (show decide (n≤4096)=false from decide_eq_false hm)
   have HD:=gH (show bT jV l=none from by unfold bT;rw [hd];simp only [Option.bind_some];rw [if_neg hm]);clear hd
   go_in
   go_wp2_with (first
    | (go_at_call 105;(with_reducible refine HN.out.mono ?_);rintro e w1 ⟨rfl,k1,d1⟩;have K1:=gH (And.intro k1 d1);clear k1 d1)
    | (go_at_call 98;(try rw [HB.out]);(with_reducible refine (fW _).mono ?_);rintro e w2 ⟨he,rfl⟩;unfold dM at he;subst he))
   rw [HD.out];exact ⟨rfl,K1.out.1,rfl⟩
theorem Vm (w0:World) (Q:Nat→Prop) (b:Nat) (l:Bt) (w:World) (h:gj w0 Q b l w) :
  Calls Tryz.prog 238 #[.pointer (some ⟨b,0,none⟩)] w (dZ 3 fL w0 Q b w (jm l)):=by
 have B0:=gH (mf.start h [.string ⟨#[]⟩,.int .i64 0,.bool false] 169);clear h
 go_in
 go_wp2_with (first
  | (go_at_call 170;(with_reducible refine (iA w0 _ b _ _ B0.out.rd).mono ?_);rintro e w1 q;rcases q.cases with ⟨n,he,k⟩ | ⟨x1,r1,n,rfl,k,d⟩;all_goals (have N1:=gH n;(try (unfold dM at he;subst he;have K1:=gH (B0.out.fail k);clear n q k));try (have B1:=B0.out.call k d;have ME:=B1.row.1;have Od:=B1.row.2.2 0 (by simp);have Oe:=B1.row.cell (j:=0) rfl;have B1:=B1.set 0 (.string x1) (by simp);simp only [List.set_cons_zero] at B1;have B1:=gH B1;clear n q k d)))
  | (go_at_call 105;(with_reducible refine (fd w0 _ b _ _ B1.out.rd).mono ?_);rintro e w2 q;rcases q.cases with ⟨n,he,k⟩ | ⟨x2,r2,n,rfl,k,d⟩;all_goals (have N2:=gH n;(try (unfold dM at he;subst he;have K2:=gH (B1.out.fail k);clear n q k));try (have B2:=B1.out.call k d;have MG:=B2.row.1;have MH:=B2.row.2.2 1 (by simp);have MI:=B2.row.cell (j:=1) rfl;have B2:=B2.set 1 (.int .i64 x2) (by simp);simp only [List.set_cons_succ,List.set_cons_zero] at B2;have B2:=gH B2;clear n q k d)))
  | (go_at_call 242;(with_reducible refine (N0 w0 _ b _ _ B2.out.rd).mono ?_);rintro e w3 q;rcases q.cases with ⟨n,he,k⟩ | ⟨x3,r3,n,rfl,k,d⟩;all_goals (have N3:=gH n;(try (unfold dM at he;subst he;have K3:=gH (B2.out.fail k);clear n q k));try (have B3:=B2.out.call k d;have QF:=B3.row.1;have QG:=B3.row.2.2 2 (by simp);have QH:=B3.row.cell (j:=2) rfl;have B3:=B3.set 2 (.bool x3) (by simp);simp only [List.set_cons_succ,List.set_cons_zero] at B3;obtain ⟨e1,e2,e3,B3⟩:=B3.ends 169 Tryz.underlying169 (by kernel_rfl) rfl (by simp [Value.oneCell']);rw [F4] at e1;rw [F5] at e2;have E3:=gH e3;clear e3;have B3:=gH B3;clear n q k d))))
 ·exact ⟨rfl,K1.out,by rw [show jm l=none from by simp only [jm,N1.out,Option.bind_none]];rfl⟩
 ·exact ⟨rfl,K2.out,by rw [show jm l=none from by simp only [jm,N1.out,N2.out,Option.bind_some,Option.bind_none]];rfl⟩
 ·exact ⟨rfl,K3.out,by rw [show jm l=none from by simp only [jm,N1.out,N2.out,N3.out,Option.bind_some,Option.map_none]];rfl⟩
 ·refine bodyPost_ret (bB rfl _ rfl E3.out) rfl ?_
  have h1:lU x1:=fJ N1.out;exact B3.out.done (R:=fL) (size:=3) (x:=⟨x1,x2,x3⟩) rfl (by simp [Value.oneCell']) (fun V hV=>⟨rfl,h1⟩) (by simp only [jm,N1.out,N2.out,N3.out,Option.bind_some,Option.map_some])
theorem Vn (w0:World) (Q:Nat→Prop) (b:Nat) (l:Bt) (w:World) (h:gj w0 Q b l w) :
  Calls Tryz.prog 237 #[.pointer (some ⟨b,0,none⟩),.func (.func 238) #[] #[]] w (FW 3 fL w0 Q b w (bT jm l)):=by
 have HN:=gH (fd w0 Q b l w h);have HZ:=gH h.qz;have hb0:=h.lb;have yX:=gH h.aA.size;clear h
 cases hd:cH l with
 | none =>
  have HN:=gH (HN.out.mono fun e w' (h:jn w0 Q b w (fun n:Int=>.int .i64 n) (cH l) e w')=>(show e=dM∧Kb (fun j=>¬ Q j) w w' from by unfold jn at h;rw [hd] at h;exact ⟨h.2,h.1⟩));have HD:=gH (show bT jm l=none from by unfold bT;rw [hd];rfl);clear hd
  go_in
  go_wp2_with (first
   | (go_at_call 105;(with_reducible refine HN.out.mono ?_);rintro e w1 ⟨he,k1⟩;unfold dM at he;subst he;have K1:=gH k1;clear k1))
  rw [HD.out];exact ⟨rfl,K1.out,rfl⟩
 | some p =>
  obtain ⟨n,r⟩:=p
  have vO:0≤n∧n≤1000000000:=by
   unfold cH at hd
   split at hd
   ·rename_i h;cases hd;exact ⟨by omega,by omega⟩
   ·cases hd
  have HN:=gH (HN.out.mono fun e w' (h:jn w0 Q b w (fun n:Int=>.int .i64 n) (cH l) e w')=>(show e=.returned (.int .i64 n)∧Kb (fun j=>¬ Q j) w w'∧gj w0 Q b r w' from by unfold jn at h;rw [hd] at h;exact ⟨h.2.1,h.1,h.2.2⟩));by_cases hm:n≤4096
  ·have HB:=gH (show decide (n≤4096)=true from decide_eq_true hm)
   have HD:=gH (show bT jm l=gi jm n.toNat r from by unfold bT;rw [hd];simp only [Option.bind_some];rw [if_pos hm]);obtain ⟨m,rfl⟩:∃ m:Nat,n=m:=⟨n.toNat,by omega⟩
   have qj:m≤4096:=by omega
   have HD:=gH (show bT jm l=gi jm m r from HD.out);clear hd
   go_in
   go_wp2_with (first
    | (go_at_call 105;(with_reducible refine HN.out.mono ?_);rintro e w1 ⟨rfl,k1,d1⟩;have K1:=gH (And.intro k1 d1);clear k1 d1)
    | (go_at_call 98;(try rw [HB.out]);(with_reducible refine (fX _).mono ?_);rintro e w2 ⟨rfl,rfl⟩))
   have wl:=gH (px.start (tid:=169) (size:=3) (R:=fL) (d:=jm) (n:=m) K1.out.2 K1.out.1 HZ.out yX.out)
   go_loopw [6,13] (fun v i wr=>∃ k:Nat,k≤m∧i=.int .i64 k∧Hid (∃ h:Hd,v=.slice h.a k h.c)∧Hid (∃ xs bw S rest,px 169 3 fL w0 w Q b jm m r k v xs bw S rest wr)) (fun v i _=>m - (intOf i).toNat)
   case atStart=>exact ⟨0,Nat.zero_le _,rfl,gH ⟨⟨none,0,0⟩,rfl⟩,gH ⟨_,_,_,_,wl.out⟩⟩
   case round =>
    obtain ⟨k,hk,rfl,HV,HF⟩:=hrel;by_cases hlt:k < m
    ·have eH:(k:Int) < (m:Int):=by omega
     obtain ⟨xs,bw,S,rest,F⟩:=HF.out;have hsz:=F.kb.size;have HC:=gH (Vm w0 _ b rest wr F.rd)
     cases hx:jm rest with
     | none =>
      have HC:=gH (HC.out.mono fun e w' (h:dZ 3 fL w0 _ b wr (jm rest) e w')=>(show e=dM∧Kb (fun j=>¬ Q j) wr w' from by unfold dZ at h;rw [hx] at h;exact ⟨h.2,h.1.mono fun j _ e e'=>e (.inl (.inl e'))⟩));have HE:=gH (F.fails hlt hx);have HF:=gH F.kb;clear F hx
      go_wp2_with (first
       | (go_at_call 238;(with_reducible refine HC.out.mono ?_);rintro e w2 ⟨he,k2⟩;unfold dM at he;subst he;have K2:=gH k2;clear k2))
      rw [HD.out,HE.out];exact ⟨rfl,HF.out.trans K2.out,rfl⟩
     | some p =>
      obtain ⟨x,r2⟩:=p;have HC:=gH (HC.out.mono fun e w' (h:dZ 3 fL w0 _ b wr (jm rest) e w')=>(show Kb (fun j=>¬ ((Q j∨S j)∨u6.ownBlock=some j)) wr w'∧∃ (S2:Nat→Prop) (cs:List Value),(∀ j,S2 j→wr.heap.size≤j)∧gj w0 (fun j=>((Q j∨S j)∨u6.ownBlock=some j)∨S2 j) b r2 w'∧e=.returned (.agg cs.toArray)∧cs.length=3∧(∀ u∈cs,u.oneCell'=true)∧fN S2 fL w' cs x from by unfold dZ at h;rw [hx] at h;exact h));have HX:=gH hx;have HF:=gH F;clear F hx
      go_wp2_with (first
       | (go_at_call 238;(with_reducible refine HC.out.mono ?_);rintro e w2 ⟨k2,S2,cs,sn,d2,rfl,hl,h1,hr⟩;obtain ⟨hcs,-⟩:=hr w2 (Kb.refl _ _);subst hcs;have hz2:=k2.size;have K2:=gH (And.intro k2 (And.intro sn (And.intro d2 (And.intro h1 hr))));have O2:=gH (fun o:Obj=>br (P:=fun _=>False) (br HF.out.own k2 fun g hg e=>e (.inr hg)) (Kb.aO ((ag.refl w2).alloc o)) (fun _ _=>id));clear k2 d2 sn h1 hr hl)
       | (at_builtin;go_must (refine pR 169 39 3 (by decide) Tryz.underlying39 (by kernel_rfl) rfl _ _ rfl w.heap.size u6 k bw.flatten rfl (O2.out _) w2.heap.size [.string x.name,.int .i64 x.kind,.bool x.null] rfl (heap_alloc_new w2 _) rfl (by simp [Value.oneCell']) (by omega) (by simp;omega) ?_);intro g cap w5 o5 g5 t5 z5;have G5:=gH (And.intro o5 (And.intro g5 (And.intro t5 z5)));clear o5 g5 t5 z5))
      obtain ⟨k2,sn,d2,h1,hr⟩:=K2.out;obtain ⟨o5,g5,t5,z5⟩:=G5.out;refine ⟨⟨k+1,by omega,by go_num,gH ⟨⟨some ⟨g,0,none⟩,0,cap⟩,rfl⟩,gH ⟨_,_,_,_,HF.out.step (S2:=S2) hlt HX.out k2 sn d2 rfl hr g5 t5 o5 z5⟩⟩,?_⟩;simp [intOf];omega
    ·have eH:¬ (k:Int) < (m:Int):=by omega
     go_wp2;go_ret
     have e:k=m:=by omega
     subst e;obtain ⟨xs,bw,S,rest,F⟩:=HF.out;obtain ⟨hd,hv⟩:=HV.out;rw [HD.out];exact F.done hv qj
  ·have HB:=gH (show decide (n≤4096)=false from decide_eq_false hm)
   have HD:=gH (show bT jm l=none from by unfold bT;rw [hd];simp only [Option.bind_some];rw [if_neg hm]);clear hd
   go_in
   go_wp2_with (first
    | (go_at_call 105;(with_reducible refine HN.out.mono ?_);rintro e w1 ⟨rfl,k1,d1⟩;have K1:=gH (And.intro k1 d1);clear k1 d1)
    | (go_at_call 98;(try rw [HB.out]);(with_reducible refine (fW _).mono ?_);rintro e w2 ⟨he,rfl⟩;unfold dM at he;subst he))
   rw [HD.out];exact ⟨rfl,K1.out.1,rfl⟩
theorem Vo (w0:World) (Q:Nat→Prop) (b:Nat) (l:Bt) (w:World) (h:gj w0 Q b l w) :
  Calls Tryz.prog 240 #[.pointer (some ⟨b,0,none⟩)] w (dZ 8 eG w0 Q b w (fI l)):=by
 have B0:=gH (mf.start h [.string ⟨#[]⟩,.int .i64 0,.slice none 0 0,.int .i64 0,.int .i64 0,.string ⟨#[]⟩,.string ⟨#[]⟩,.string ⟨#[]⟩] 42);clear h
 go_in
 go_wp2_with (first
  | (go_at_call 170;(with_reducible refine (iA w0 _ b _ _ B0.out.rd).mono ?_);rintro e w1 q;rcases q.cases with ⟨n,he,k⟩ | ⟨x1,r1,n,rfl,k,d⟩;all_goals (have N1:=gH n;(try (unfold dM at he;subst he;have K1:=gH (B0.out.fail k);clear n q k));try (have B1:=B0.out.call k d;have ME:=B1.row.1;have Od:=B1.row.2.2 0 (by simp);have Oe:=B1.row.cell (j:=0) rfl;have B1:=B1.set 0 (.string x1) (by simp);simp only [List.set_cons_zero] at B1;have B1:=gH B1;clear n q k d)))
  | (go_at_call 105;(with_reducible refine (fd w0 _ b _ _ B1.out.rd).mono ?_);rintro e w2 q;rcases q.cases with ⟨n,he,k⟩ | ⟨x2,r2,n,rfl,k,d⟩;all_goals (have N2:=gH n;(try (unfold dM at he;subst he;have K2:=gH (B1.out.fail k);clear n q k));try (have B2:=B1.out.call k d;have MG:=B2.row.1;have MH:=B2.row.2.2 1 (by simp);have MI:=B2.row.cell (j:=1) rfl;have B2:=B2.set 1 (.int .i64 x2) (by simp);simp only [List.set_cons_succ,List.set_cons_zero] at B2;have B2:=gH B2;clear n q k d)))
  | (go_at_call 169;(with_reducible refine (N9 w0 _ b _ _ B2.out.rd).mono ?_);rintro e w3 q;rcases q.cases with ⟨n,he,k⟩ | ⟨S3,a3,c3,x3,r3,n,rfl,sn,k,d,hs⟩;all_goals (have N3:=gH n;(try (unfold dM at he;subst he;have K3:=gH (B2.out.fail k);clear n q k));try (have B3:=B2.out.mP sn k d hs;clear sn hs;have QF:=B3.row.1;have QG:=B3.row.2.2 2 (by simp);have QH:=B3.row.cell (j:=2) rfl;have B3:=B3.set 2 (.slice a3 x3.length c3) (by simp);simp only [List.set_cons_succ,List.set_cons_zero] at B3;have B3:=gH B3;clear n q k d)))
  | (go_at_call 323;(with_reducible refine (NZ w0 _ b _ _ B3.out.rd).mono ?_);rintro e w4 q;rcases q.cases with ⟨n,he,k⟩ | ⟨x4,r4,n,rfl,k,d⟩;all_goals (have N4:=gH n;(try (unfold dM at he;subst he;have K4:=gH (B3.out.fail k);clear n q k));try (have B4:=B3.out.call k d;have Rw:=B4.row.1;have Rx:=B4.row.2.2 3 (by simp);have Ry:=B4.row.cell (j:=3) rfl;have B4:=B4.set 3 (.int .i64 x4) (by simp);simp only [List.set_cons_succ,List.set_cons_zero] at B4;have B4:=gH B4;clear n q k d)))
  | (go_at_call 323;(with_reducible refine (NZ w0 _ b _ _ B4.out.rd).mono ?_);rintro e w5 q;rcases q.cases with ⟨n,he,k⟩ | ⟨x5,r5,n,rfl,k,d⟩;all_goals (have N5:=gH n;(try (unfold dM at he;subst he;have K5:=gH (B4.out.fail k);clear n q k));try (have B5:=B4.out.call k d;have Wq:=B5.row.1;have Ws:=B5.row.2.2 4 (by simp);have Wt:=B5.row.cell (j:=4) rfl;have B5:=B5.set 4 (.int .i64 x5) (by simp);simp only [List.set_cons_succ,List.set_cons_zero] at B5;have B5:=gH B5;clear n q k d)))
  | (go_at_call 170;(with_reducible refine (iA w0 _ b _ _ B5.out.rd).mono ?_);rintro e w6 q;rcases q.cases with ⟨n,he,k⟩ | ⟨x6,r6,n,rfl,k,d⟩;all_goals (have N6:=gH n;(try (unfold dM at he;subst he;have K6:=gH (B5.out.fail k);clear n q k));try (have B6:=B5.out.call k d;have b6y:=B6.row.1;have b6f:=B6.row.2.2 5 (by simp);have b6c:=B6.row.cell (j:=5) rfl;have B6:=B6.set 5 (.string x6) (by simp);simp only [List.set_cons_succ,List.set_cons_zero] at B6;have B6:=gH B6;clear n q k d)))
  | (go_at_call 170;(with_reducible refine (iA w0 _ b _ _ B6.out.rd).mono ?_);rintro e w7 q;rcases q.cases with ⟨n,he,k⟩ | ⟨x7,r7,n,rfl,k,d⟩;all_goals (have N7:=gH n;(try (unfold dM at he;subst he;have K7:=gH (B6.out.fail k);clear n q k));try (have B7:=B6.out.call k d;have b7y:=B7.row.1;have b7f:=B7.row.2.2 6 (by simp);have b7c:=B7.row.cell (j:=6) rfl;have B7:=B7.set 6 (.string x7) (by simp);simp only [List.set_cons_succ,List.set_cons_zero] at B7;have B7:=gH B7;clear n q k d)))
  | (go_at_call 170;(with_reducible refine (iA w0 _ b _ _ B7.out.rd).mono ?_);rintro e w8 q;rcases q.cases with ⟨n,he,k⟩ | ⟨x8,r8,n,rfl,k,d⟩;all_goals (have N8:=gH n;(try (unfold dM at he;subst he;have K8:=gH (B7.out.fail k);clear n q k));try (have B8:=B7.out.call k d;have b8y:=B8.row.1;have b8f:=B8.row.2.2 7 (by simp);have b8c:=B8.row.cell (j:=7) rfl;have B8:=B8.set 7 (.string x8) (by simp);simp only [List.set_cons_succ,List.set_cons_zero] at B8;obtain ⟨e1,e2,e3,B8⟩:=B8.ends 42 Tryz.underlying42 (by kernel_rfl) rfl (by simp [Value.oneCell']);rw [Ga] at e1;rw [Gb] at e2;have E3:=gH e3;clear e3;have B8:=gH B8;clear n q k d))))
 ·exact ⟨rfl,K1.out,by rw [show fI l=none from by simp only [fI,N1.out,Option.bind_none]];rfl⟩
 ·exact ⟨rfl,K2.out,by rw [show fI l=none from by simp only [fI,N1.out,N2.out,Option.bind_some,Option.bind_none]];rfl⟩
 ·exact ⟨rfl,K3.out,by rw [show fI l=none from by simp only [fI,N1.out,N2.out,N3.out,Option.bind_some,Option.bind_none]];rfl⟩
 ·exact ⟨rfl,K4.out,by rw [show fI l=none from by simp only [fI,N1.out,N2.out,N3.out,N4.out,Option.bind_some,Option.bind_none]];rfl⟩
 ·exact ⟨rfl,K5.out,by rw [show fI l=none from by simp only [fI,N1.out,N2.out,N3.out,N4.out,N5.out,Option.bind_some,Option.bind_none]];rfl⟩
 ·exact ⟨rfl,K6.out,by rw [show fI l=none from by simp only [fI,N1.out,N2.out,N3.out,N4.out,N5.out,N6.out,Option.bind_some,Option.bind_none]];rfl⟩
 ·exact ⟨rfl,K7.out,by rw [show fI l=none from by simp only [fI,N1.out,N2.out,N3.out,N4.out,N5.out,N6.out,N7.out,Option.bind_some,Option.bind_none]];rfl⟩
 ·exact ⟨rfl,K8.out,by rw [show fI l=none from by simp only [fI,N1.out,N2.out,N3.out,N4.out,N5.out,N6.out,N7.out,N8.out,Option.bind_some,Option.map_none]];rfl⟩
 ·refine bodyPost_ret (bB rfl _ rfl E3.out) rfl ?_
  have h1:lU x1:=fJ N1.out;have h6:lU x6:=fJ N6.out;have h7:lU x7:=fJ N7.out;have h8:lU x8:=fJ N8.out;exact B8.out.done (R:=eG) (size:=8) (x:=⟨x1,x2,x3,x4,x5,x6,x7,x8⟩) rfl (by simp [Value.oneCell']) (fun V hV=>⟨a3,c3,rfl,hV.2,h1,h6,h7,h8⟩) (by simp only [fI,N1.out,N2.out,N3.out,N4.out,N5.out,N6.out,N7.out,N8.out,Option.bind_some,Option.map_some])
theorem Vp (w0:World) (Q:Nat→Prop) (b:Nat) (l:Bt) (w:World) (h:gj w0 Q b l w) :
  Calls Tryz.prog 239 #[.pointer (some ⟨b,0,none⟩),.func (.func 240) #[] #[]] w (FW 8 eG w0 Q b w (bT fI l)):=by
 have HN:=gH (fd w0 Q b l w h);have HZ:=gH h.qz;have hb0:=h.lb;have yX:=gH h.aA.size;clear h
 cases hd:cH l with
 | none =>
  have HN:=gH (HN.out.mono fun e w' (h:jn w0 Q b w (fun n:Int=>.int .i64 n) (cH l) e w')=>(show e=dM∧Kb (fun j=>¬ Q j) w w' from by unfold jn at h;rw [hd] at h;exact ⟨h.2,h.1⟩));have HD:=gH (show bT fI l=none from by unfold bT;rw [hd];rfl);clear hd
  go_in
  go_wp2_with (first
   | (go_at_call 105;(with_reducible refine HN.out.mono ?_);rintro e w1 ⟨he,k1⟩;unfold dM at he;subst he;have K1:=gH k1;clear k1))
  rw [HD.out];exact ⟨rfl,K1.out,rfl⟩
 | some p =>
  obtain ⟨n,r⟩:=p
  have vO:0≤n∧n≤1000000000:=by
   unfold cH at hd
   split at hd
   ·rename_i h;cases hd;exact ⟨by omega,by omega⟩
   ·cases hd
  have HN:=gH (HN.out.mono fun e w' (h:jn w0 Q b w (fun n:Int=>.int .i64 n) (cH l) e w')=>(show e=.returned (.int .i64 n)∧Kb (fun j=>¬ Q j) w w'∧gj w0 Q b r w' from by unfold jn at h;rw [hd] at h;exact ⟨h.2.1,h.1,h.2.2⟩));by_cases hm:n≤4096
  ·have HB:=gH (show decide (n≤4096)=true from decide_eq_true hm)
   have HD:=gH (show bT fI l=gi fI n.toNat r from by unfold bT;rw [hd];simp only [Option.bind_some];rw [if_pos hm]);obtain ⟨m,rfl⟩:∃ m:Nat,n=m:=⟨n.toNat,by omega⟩
   have qj:m≤4096:=by omega
   have HD:=gH (show bT fI l=gi fI m r from HD.out);clear hd
   go_in
   go_wp2_with (first
    | (go_at_call 105;(with_reducible refine HN.out.mono ?_);rintro e w1 ⟨rfl,k1,d1⟩;have K1:=gH (And.intro k1 d1);clear k1 d1)
    | (go_at_call 98;(try rw [HB.out]);(with_reducible refine (fX _).mono ?_);rintro e w2 ⟨rfl,rfl⟩))
   have wl:=gH (px.start (tid:=42) (size:=8) (R:=eG) (d:=fI) (n:=m) K1.out.2 K1.out.1 HZ.out yX.out)
   go_loopw [6,13] (fun v i wr=>∃ k:Nat,k≤m∧i=.int .i64 k∧Hid (∃ h:Hd,v=.slice h.a k h.c)∧Hid (∃ xs bw S rest,px 42 8 eG w0 w Q b fI m r k v xs bw S rest wr)) (fun v i _=>m - (intOf i).toNat)
   case atStart=>exact ⟨0,Nat.zero_le _,rfl,gH ⟨⟨none,0,0⟩,rfl⟩,gH ⟨_,_,_,_,wl.out⟩⟩
   case round =>
    obtain ⟨k,hk,rfl,HV,HF⟩:=hrel;by_cases hlt:k < m
    ·have eH:(k:Int) < (m:Int):=by omega
     obtain ⟨xs,bw,S,rest,F⟩:=HF.out;have hsz:=F.kb.size;have HC:=gH (Vo w0 _ b rest wr F.rd)
     cases hx:fI rest with
     | none =>
      have HC:=gH (HC.out.mono fun e w' (h:dZ 8 eG w0 _ b wr (fI rest) e w')=>(show e=dM∧Kb (fun j=>¬ Q j) wr w' from by unfold dZ at h;rw [hx] at h;exact ⟨h.2,h.1.mono fun j _ e e'=>e (.inl (.inl e'))⟩));have HE:=gH (F.fails hlt hx);have HF:=gH F.kb;clear F hx
      go_wp2_with (first
       | (go_at_call 240;(with_reducible refine HC.out.mono ?_);rintro e w2 ⟨he,k2⟩;unfold dM at he;subst he;have K2:=gH k2;clear k2))
      rw [HD.out,HE.out];exact ⟨rfl,HF.out.trans K2.out,rfl⟩
     | some p =>
      obtain ⟨x,r2⟩:=p;have HC:=gH (HC.out.mono fun e w' (h:dZ 8 eG w0 _ b wr (fI rest) e w')=>(show Kb (fun j=>¬ ((Q j∨S j)∨u6.ownBlock=some j)) wr w'∧∃ (S2:Nat→Prop) (cs:List Value),(∀ j,S2 j→wr.heap.size≤j)∧gj w0 (fun j=>((Q j∨S j)∨u6.ownBlock=some j)∨S2 j) b r2 w'∧e=.returned (.agg cs.toArray)∧cs.length=8∧(∀ u∈cs,u.oneCell'=true)∧fN S2 eG w' cs x from by unfold dZ at h;rw [hx] at h;exact h));have HX:=gH hx;have HF:=gH F;clear F hx
      go_wp2_with (first
       | (go_at_call 240;(with_reducible refine HC.out.mono ?_);rintro e w2 ⟨k2,S2,cs,sn,d2,rfl,hl,h1,hr⟩;obtain ⟨A9,c9,hcs,-⟩:=hr w2 (Kb.refl _ _);subst hcs;have hz2:=k2.size;have K2:=gH (And.intro k2 (And.intro sn (And.intro d2 (And.intro h1 hr))));have O2:=gH (fun o:Obj=>br (P:=fun _=>False) (br HF.out.own k2 fun g hg e=>e (.inr hg)) (Kb.aO ((ag.refl w2).alloc o)) (fun _ _=>id));clear k2 d2 sn h1 hr hl)
       | (at_builtin;go_must (refine pR 42 78 8 (by decide) Tryz.underlying78 (by kernel_rfl) rfl _ _ rfl w.heap.size u6 k bw.flatten rfl (O2.out _) w2.heap.size [.string x.name,.int .i64 x.kind,.slice A9 x.au.length c9,.int .i64 x.low,.int .i64 x.high,.string x.af,.string x.table,.string x.key] rfl (heap_alloc_new w2 _) rfl (by simp [Value.oneCell']) (by omega) (by simp;omega) ?_);intro g cap w5 o5 g5 t5 z5;have G5:=gH (And.intro o5 (And.intro g5 (And.intro t5 z5)));clear o5 g5 t5 z5))
      obtain ⟨k2,sn,d2,h1,hr⟩:=K2.out;obtain ⟨o5,g5,t5,z5⟩:=G5.out;refine ⟨⟨k+1,by omega,by go_num,gH ⟨⟨some ⟨g,0,none⟩,0,cap⟩,rfl⟩,gH ⟨_,_,_,_,HF.out.step (S2:=S2) hlt HX.out k2 sn d2 rfl hr g5 t5 o5 z5⟩⟩,?_⟩;simp [intOf];omega
    ·have eH:¬ (k:Int) < (m:Int):=by omega
     go_wp2;go_ret
     have e:k=m:=by omega
     subst e;obtain ⟨xs,bw,S,rest,F⟩:=HF.out;obtain ⟨hd,hv⟩:=HV.out;rw [HD.out];exact F.done hv qj
  ·have HB:=gH (show decide (n≤4096)=false from decide_eq_false hm)
   have HD:=gH (show bT fI l=none from by unfold bT;rw [hd];simp only [Option.bind_some];rw [if_neg hm]);clear hd
   go_in
   go_wp2_with (first
    | (go_at_call 105;(with_reducible refine HN.out.mono ?_);rintro e w1 ⟨rfl,k1,d1⟩;have K1:=gH (And.intro k1 d1);clear k1 d1)
    | (go_at_call 98;(try rw [HB.out]);(with_reducible refine (fW _).mono ?_);rintro e w2 ⟨he,rfl⟩;unfold dM at he;subst he))
   rw [HD.out];exact ⟨rfl,K1.out.1,rfl⟩
theorem Vq (w0:World) (Q:Nat→Prop) (b:Nat) (l:Bt) (w:World) (h:gj w0 Q b l w) :
  Calls Tryz.prog 168 #[.pointer (some ⟨b,0,none⟩)] w (dZ 5 dE w0 Q b w (ia l)):=by
 have B0:=gH (mf.start h [.string ⟨#[]⟩,.string ⟨#[]⟩,.string ⟨#[]⟩,.slice none 0 0,.slice none 0 0] 80);clear h
 go_in
 go_wp2_with (first
  | (go_at_call 170;(with_reducible refine (iA w0 _ b _ _ B0.out.rd).mono ?_);rintro e w1 q;rcases q.cases with ⟨n,he,k⟩ | ⟨x1,r1,n,rfl,k,d⟩;all_goals (have N1:=gH n;(try (unfold dM at he;subst he;have K1:=gH (B0.out.fail k);clear n q k));try (have B1:=B0.out.call k d;have ME:=B1.row.1;have Od:=B1.row.2.2 0 (by simp);have Oe:=B1.row.cell (j:=0) rfl;have B1:=B1.set 0 (.string x1) (by simp);simp only [List.set_cons_zero] at B1;have B1:=gH B1;clear n q k d)))
  | (go_at_call 170;(with_reducible refine (iA w0 _ b _ _ B1.out.rd).mono ?_);rintro e w2 q;rcases q.cases with ⟨n,he,k⟩ | ⟨x2,r2,n,rfl,k,d⟩;all_goals (have N2:=gH n;(try (unfold dM at he;subst he;have K2:=gH (B1.out.fail k);clear n q k));try (have B2:=B1.out.call k d;have MG:=B2.row.1;have MH:=B2.row.2.2 1 (by simp);have MI:=B2.row.cell (j:=1) rfl;have B2:=B2.set 1 (.string x2) (by simp);simp only [List.set_cons_succ,List.set_cons_zero] at B2;have B2:=gH B2;clear n q k d)))
  | (go_at_call 170;(with_reducible refine (iA w0 _ b _ _ B2.out.rd).mono ?_);rintro e w3 q;rcases q.cases with ⟨n,he,k⟩ | ⟨x3,r3,n,rfl,k,d⟩;all_goals (have N3:=gH n;(try (unfold dM at he;subst he;have K3:=gH (B2.out.fail k);clear n q k));try (have B3:=B2.out.call k d;have QF:=B3.row.1;have QG:=B3.row.2.2 2 (by simp);have QH:=B3.row.cell (j:=2) rfl;have B3:=B3.set 2 (.string x3) (by simp);simp only [List.set_cons_succ,List.set_cons_zero] at B3;have B3:=gH B3;clear n q k d)))
  | (go_at_call 237;(with_reducible refine (Vn w0 _ b _ _ B3.out.rd).mono ?_);rintro e w4 q;rcases q.cases with ⟨n,he,k⟩ | ⟨S4,a4,c4,x4,r4,n,rfl,sn,k,d,hs⟩;all_goals (have N4:=gH n;(try (unfold dM at he;subst he;have K4:=gH (B3.out.fail k);clear n q k));try (have B4:=B3.out.mP sn k d hs;clear sn hs;have Rw:=B4.row.1;have Rx:=B4.row.2.2 3 (by simp);have Ry:=B4.row.cell (j:=3) rfl;have B4:=B4.set 3 (.slice a4 x4.length c4) (by simp);simp only [List.set_cons_succ,List.set_cons_zero] at B4;have B4:=gH B4;clear n q k d)))
  | (go_at_call 239;(with_reducible refine (Vp w0 _ b _ _ B4.out.rd).mono ?_);rintro e w5 q;rcases q.cases with ⟨n,he,k⟩ | ⟨S5,a5,c5,x5,r5,n,rfl,sn,k,d,hs⟩;all_goals (have N5:=gH n;(try (unfold dM at he;subst he;have K5:=gH (B4.out.fail k);clear n q k));try (have B5:=B4.out.mP sn k d hs;clear sn hs;have Wq:=B5.row.1;have Ws:=B5.row.2.2 4 (by simp);have Wt:=B5.row.cell (j:=4) rfl;have B5:=B5.set 4 (.slice a5 x5.length c5) (by simp);simp only [List.set_cons_succ,List.set_cons_zero] at B5;obtain ⟨e1,e2,e3,B5⟩:=B5.ends 80 Tryz.underlying80 (by kernel_rfl) rfl (by simp [Value.oneCell']);rw [F8] at e1;rw [F9] at e2;have E3:=gH e3;clear e3;have B5:=gH B5;clear n q k d))))
 ·exact ⟨rfl,K1.out,by rw [show ia l=none from by simp only [ia,N1.out,Option.bind_none]];rfl⟩
 ·exact ⟨rfl,K2.out,by rw [show ia l=none from by simp only [ia,N1.out,N2.out,Option.bind_some,Option.bind_none]];rfl⟩
 ·exact ⟨rfl,K3.out,by rw [show ia l=none from by simp only [ia,N1.out,N2.out,N3.out,Option.bind_some,Option.bind_none]];rfl⟩
 ·exact ⟨rfl,K4.out,by rw [show ia l=none from by simp only [ia,N1.out,N2.out,N3.out,N4.out,Option.bind_some,Option.bind_none]];rfl⟩
 ·exact ⟨rfl,K5.out,by rw [show ia l=none from by simp only [ia,N1.out,N2.out,N3.out,N4.out,N5.out,Option.bind_some,Option.map_none]];rfl⟩
 ·refine bodyPost_ret (bB rfl _ rfl E3.out) rfl ?_
  have h1:lU x1:=fJ N1.out;have h2:lU x2:=fJ N2.out;have h3:lU x3:=fJ N3.out;exact B5.out.done (R:=dE) (size:=5) (x:=⟨x1,x2,x3,x4,x5⟩) rfl (by simp [Value.oneCell']) (fun V hV=>⟨a4,c4,a5,c5,rfl,hV.1.2,hV.2,h1,h2,h3⟩) (by simp only [ia,N1.out,N2.out,N3.out,N4.out,N5.out,Option.bind_some,Option.map_some])
theorem Vr (w0:World) (Q:Nat→Prop) (b:Nat) (l:Bt) (w:World) (h:gj w0 Q b l w) :
  Calls Tryz.prog 167 #[.pointer (some ⟨b,0,none⟩),.func (.func 168) #[] #[]] w (FW 5 dE w0 Q b w (bT ia l)):=by
 have HN:=gH (fd w0 Q b l w h);have HZ:=gH h.qz;have hb0:=h.lb;have yX:=gH h.aA.size;clear h
 cases hd:cH l with
 | none =>
  have HN:=gH (HN.out.mono fun e w' (h:jn w0 Q b w (fun n:Int=>.int .i64 n) (cH l) e w')=>(show e=dM∧Kb (fun j=>¬ Q j) w w' from by unfold jn at h;rw [hd] at h;exact ⟨h.2,h.1⟩));have HD:=gH (show bT ia l=none from by unfold bT;rw [hd];rfl);clear hd
  go_in
  go_wp2_with (first
   | (go_at_call 105;(with_reducible refine HN.out.mono ?_);rintro e w1 ⟨he,k1⟩;unfold dM at he;subst he;have K1:=gH k1;clear k1))
  rw [HD.out];exact ⟨rfl,K1.out,rfl⟩
 | some p =>
  obtain ⟨n,r⟩:=p
  have vO:0≤n∧n≤1000000000:=by
   unfold cH at hd
   split at hd
   ·rename_i h;cases hd;exact ⟨by omega,by omega⟩
   ·cases hd
  have HN:=gH (HN.out.mono fun e w' (h:jn w0 Q b w (fun n:Int=>.int .i64 n) (cH l) e w')=>(show e=.returned (.int .i64 n)∧Kb (fun j=>¬ Q j) w w'∧gj w0 Q b r w' from by unfold jn at h;rw [hd] at h;exact ⟨h.2.1,h.1,h.2.2⟩));by_cases hm:n≤4096
  ·have HB:=gH (show decide (n≤4096)=true from decide_eq_true hm)
   have HD:=gH (show bT ia l=gi ia n.toNat r from by unfold bT;rw [hd];simp only [Option.bind_some];rw [if_pos hm]);obtain ⟨m,rfl⟩:∃ m:Nat,n=m:=⟨n.toNat,by omega⟩
   have qj:m≤4096:=by omega
   have HD:=gH (show bT ia l=gi ia m r from HD.out);clear hd
   go_in
   go_wp2_with (first
    | (go_at_call 105;(with_reducible refine HN.out.mono ?_);rintro e w1 ⟨rfl,k1,d1⟩;have K1:=gH (And.intro k1 d1);clear k1 d1)
    | (go_at_call 98;(try rw [HB.out]);(with_reducible refine (fX _).mono ?_);rintro e w2 ⟨rfl,rfl⟩))
   have wl:=gH (px.start (tid:=80) (size:=5) (R:=dE) (d:=ia) (n:=m) K1.out.2 K1.out.1 HZ.out yX.out)
   go_loopw [6,13] (fun v i wr=>∃ k:Nat,k≤m∧i=.int .i64 k∧Hid (∃ h:Hd,v=.slice h.a k h.c)∧Hid (∃ xs bw S rest,px 80 5 dE w0 w Q b ia m r k v xs bw S rest wr)) (fun v i _=>m - (intOf i).toNat)
   case atStart=>exact ⟨0,Nat.zero_le _,rfl,gH ⟨⟨none,0,0⟩,rfl⟩,gH ⟨_,_,_,_,wl.out⟩⟩
   case round =>
    obtain ⟨k,hk,rfl,HV,HF⟩:=hrel;by_cases hlt:k < m
    ·have eH:(k:Int) < (m:Int):=by omega
     obtain ⟨xs,bw,S,rest,F⟩:=HF.out;have hsz:=F.kb.size;have HC:=gH (Vq w0 _ b rest wr F.rd)
     cases hx:ia rest with
     | none =>
      have HC:=gH (HC.out.mono fun e w' (h:dZ 5 dE w0 _ b wr (ia rest) e w')=>(show e=dM∧Kb (fun j=>¬ Q j) wr w' from by unfold dZ at h;rw [hx] at h;exact ⟨h.2,h.1.mono fun j _ e e'=>e (.inl (.inl e'))⟩));have HE:=gH (F.fails hlt hx);have HF:=gH F.kb;clear F hx
      go_wp2_with (first
       | (go_at_call 168;(with_reducible refine HC.out.mono ?_);rintro e w2 ⟨he,k2⟩;unfold dM at he;subst he;have K2:=gH k2;clear k2))
      rw [HD.out,HE.out];exact ⟨rfl,HF.out.trans K2.out,rfl⟩
     | some p =>
      obtain ⟨x,r2⟩:=p;have HC:=gH (HC.out.mono fun e w' (h:dZ 5 dE w0 _ b wr (ia rest) e w')=>(show Kb (fun j=>¬ ((Q j∨S j)∨u6.ownBlock=some j)) wr w'∧∃ (S2:Nat→Prop) (cs:List Value),(∀ j,S2 j→wr.heap.size≤j)∧gj w0 (fun j=>((Q j∨S j)∨u6.ownBlock=some j)∨S2 j) b r2 w'∧e=.returned (.agg cs.toArray)∧cs.length=5∧(∀ u∈cs,u.oneCell'=true)∧fN S2 dE w' cs x from by unfold dZ at h;rw [hx] at h;exact h));have HX:=gH hx;have HF:=gH F;clear F hx
      go_wp2_with (first
       | (go_at_call 168;(with_reducible refine HC.out.mono ?_);rintro e w2 ⟨k2,S2,cs,sn,d2,rfl,hl,h1,hr⟩;obtain ⟨A9,c9,A8,c8,hcs,-⟩:=hr w2 (Kb.refl _ _);subst hcs;have hz2:=k2.size;have K2:=gH (And.intro k2 (And.intro sn (And.intro d2 (And.intro h1 hr))));have O2:=gH (fun o:Obj=>br (P:=fun _=>False) (br HF.out.own k2 fun g hg e=>e (.inr hg)) (Kb.aO ((ag.refl w2).alloc o)) (fun _ _=>id));clear k2 d2 sn h1 hr hl)
       | (at_builtin;go_must (refine pR 80 23 5 (by decide) Tryz.underlying23 (by kernel_rfl) rfl _ _ rfl w.heap.size u6 k bw.flatten rfl (O2.out _) w2.heap.size [.string x.af,.string x.name,.string x.owner,.slice A9 x.au.length c9,.slice A8 x.rules.length c8] rfl (heap_alloc_new w2 _) rfl (by simp [Value.oneCell']) (by omega) (by simp;omega) ?_);intro g cap w5 o5 g5 t5 z5;have G5:=gH (And.intro o5 (And.intro g5 (And.intro t5 z5)));clear o5 g5 t5 z5))
      obtain ⟨k2,sn,d2,h1,hr⟩:=K2.out;obtain ⟨o5,g5,t5,z5⟩:=G5.out;refine ⟨⟨k+1,by omega,by go_num,gH ⟨⟨some ⟨g,0,none⟩,0,cap⟩,rfl⟩,gH ⟨_,_,_,_,HF.out.step (S2:=S2) hlt HX.out k2 sn d2 rfl hr g5 t5 o5 z5⟩⟩,?_⟩;simp [intOf];omega
    ·have eH:¬ (k:Int) < (m:Int):=by omega
     go_wp2;go_ret
     have e:k=m:=by omega
     subst e;obtain ⟨xs,bw,S,rest,F⟩:=HF.out;obtain ⟨hd,hv⟩:=HV.out;rw [HD.out];exact F.done hv qj
  ·have HB:=gH (show decide (n≤4096)=false from decide_eq_false hm)
   have HD:=gH (show bT ia l=none from by unfold bT;rw [hd];simp only [Option.bind_some];rw [if_neg hm]);clear hd
   go_in
   go_wp2_with (first
    | (go_at_call 105;(with_reducible refine HN.out.mono ?_);rintro e w1 ⟨rfl,k1,d1⟩;have K1:=gH (And.intro k1 d1);clear k1 d1)
    | (go_at_call 98;(try rw [HB.out]);(with_reducible refine (fW _).mono ?_);rintro e w2 ⟨he,rfl⟩;unfold dM at he;subst he))
   rw [HD.out];exact ⟨rfl,K1.out.1,rfl⟩
end Go.Proofs.YtakddkhipelmjaaGreat
