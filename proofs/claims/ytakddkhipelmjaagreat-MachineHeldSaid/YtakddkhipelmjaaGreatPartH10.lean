import Derived.Recover
import Derived.Defers
import Derived.Deep.Cut
import Derived.Test.YtakddkhipelmjaaGreatPartH9
set_option maxRecDepth 100000
set_option linter.unusedVariables false
set_option maxHeartbeats 64000000
namespace Go.Proofs.YtakddkhipelmjaaGreat
open Go.Deep Go.RowKit
theorem tj {w0 w:World} {Q:List (Nat × Obj)} {b:Nat} {l:Bt} (h:gO w0 Q b l w) (cs:List Value) (t:TypeId):gO w0 ((w.heap.size,.cells cs.toArray t)::Q) b l (w.alloc (.cells cs.toArray t))∧(∀ l' V,gO w0 ((w.heap.size,.cells cs.toArray t)::Q) b l' V→ai V w.heap.size cs)∧True :=
 ⟨h.push _,fun l' V h=>h.same List.mem_cons_self,trivial⟩
theorem iP {α:Type} (e:α→Bt) (L:List α) (k:Nat) (hk:k < L.length):((L.take k).flatMap e).length+(e L[k]).length≤(L.flatMap e).length:=by
 have h:L.flatMap e=(L.take k).flatMap e++(e L[k]++(L.drop (k+1)).flatMap e):=by
  conv=>lhs;rw [← List.take_append_drop k L,List.flatMap_append,List.drop_eq_getElem_cons hk,List.flatMap_cons]
 rw [h,List.length_append,List.length_append];omega
theorem J1 {w:World} {A:Option Addr} {cap:Nat} {l:List dO} (h:az w 2 fg A cap l) {k:Nat} (hk:k < l.length) :
  ∃ b off,A=some ⟨b,off,none⟩∧b < w.heap.size∧w.cell? ⟨b,off+k*2,none⟩=some (.string l[k].role)∧w.cell? ⟨b,off+k*2+1,none⟩=some (.string l[k].of)∧True:=by
 obtain ⟨b,off,cs,hA,hb,hl,⟨rfl,_⟩,hc⟩:=h.2.2 k hk;exact ⟨b,off,hA,hb,by simpa using hc 0 (by omega),by simpa [Nat.add_assoc] using hc 1 (by omega),trivial⟩
theorem Nc (w0:World) (Q:List (Nat × Obj)) (b:Nat) (l:Bt) (L:List ByteArray) (A:Option Addr) (cap:Nat) (w:World) (h:gO w0 Q b l w) (hx:az w0 1 dC A cap L) (ok:sR oF L) (hl:l.length+(bN bR L).length≤90000000) :
  Calls Tryz.prog 158 #[.pointer (some ⟨b,0,none⟩),.slice A L.length cap,.func (.func 159) #[] #[]] w (qo w0 Q b (l++bN bR L)):=by
 have hlen:=ok.1
 have g1:¬ (4096:Int) < (L.length:Int):=by omega
 have hz:∀ k (hk:k < L.length),l.length+(bF (L.length:Int)).length+((L.take k).flatMap bR).length+(bR L[k]).length≤90000000:=fun k hk=>by
  have:=iP bR L k hk;unfold bN at hl;rw [List.length_append] at hl;omega
 have HN:=gH (w_num w0 Q b l L.length w h ⟨by omega,by omega⟩ (by omega));have HE:=gH (show bN bR L=bF (L.length:Int)++L.flatMap bR from rfl);clear h
 go_in
 go_wp2_with (first
  | (go_at_call 95;(with_reducible refine HN.out.mono ?_);rintro e w1 ⟨rfl,h⟩;have H1:=gH h;clear h))
 go_loopw [19] (fun i wr=>∃ k:Nat,k≤L.length∧i=.int .i64 k∧Hid (gO w0 Q b (l++bF (L.length:Int)++(L.take k).flatMap bR) wr)) (fun i _=>L.length - (intOf i).toNat)
 case atStart=>exact ⟨0,Nat.zero_le _,rfl,gH (by simpa using H1.out)⟩
 case round =>
  obtain ⟨k,hk,rfl,HR⟩:=hrel;by_cases hlt:k < L.length
  ·have eH:(k:Int) < (L.length:Int):=by omega
   have a0:=HR.out.aA;have hz':=hz k hlt;obtain ⟨g,off,rfl,hb,c0,hsm⟩:=fB hx hlt;have c0:=a0.cell_kept c0;have hb:=Nat.lt_of_lt_of_le hb a0.size;have HC:=gH (io w0 Q b _ L[k] _ HR.out (ok.2 _ (List.getElem_mem hlt)) (by (try simp only [List.length_append]);omega));have HX:=gH (show l++bF (L.length:Int)++(L.take k).flatMap bR++bR L[k]=l++bF (L.length:Int)++(L.take (k+1)).flatMap bR from by rw [List.take_succ_eq_append_getElem hlt,List.flatMap_append,← List.append_assoc];simp);generalize L[k]=x at c0 HC HX;clear hz' a0 hsm
   go_wp2_with (first
    | (go_at_call 159;(with_reducible refine HC.out.mono ?_);rintro e w2 ⟨rfl,h⟩;have H2:=gH h;clear h))
   refine ⟨⟨k+1,by omega,by go_num,gH (by rw [← HX.out];exact H2.out)⟩,?_⟩;simp [intOf];omega
  ·have eH:¬ (k:Int) < (L.length:Int):=by omega
   go_wp2
   go_end0
   have e:k=L.length:=by omega
   have H:=HR.out;rw [e,List.take_length,List.append_assoc] at H;exact ⟨rfl,H⟩
theorem Sc (w0:World) (Q:List (Nat × Obj)) (b:Nat) (l:Bt) (x:dY) (w:World) (h:gO w0 Q b l w) (ok:wR x) (hl:l.length+(jo x).length≤90000000) :
  Calls Tryz.prog 231 #[.pointer (some ⟨b,0,none⟩),.agg #[.string x.name,.int .i64 x.kind,.bool x.null]] w (qo w0 Q b (l++jo x)):=by
 simp only [jo,List.length_append] at hl;obtain ⟨h0,hm,he⟩:=tj h [.string x.name,.int .i64 x.kind,.bool x.null] 169;have H0:=gH h0;have HM:=gH hm;have fV:=gH ok;have jG:=gH (show (l).length≤90000000 from by (try simp only [List.length_append]);omega);have jt:=gH (show (l++bR x.name).length≤90000000 from by (try simp only [List.length_append]);omega);have jX:=gH (show (l++bR x.name++bF x.kind).length≤90000000 from by (try simp only [List.length_append]);omega);clear h h0 hm he ok
 go_in
 go_wp2_with (first
  | (go_at_call 159;(with_reducible refine (io w0 _ b _ x.name _ H0.out fV.out.n jG.out).mono ?_);rintro e w1 ⟨rfl,h⟩;have r:=HM.out _ _ h;have yb:=r.1;have wS:=r.cell (j:=1) rfl;clear r;have H1:=gH h;clear h)
  | (go_at_call 95;(with_reducible refine (w_num w0 _ b _ x.kind _ H1.out fV.out.k jt.out).mono ?_);rintro e w2 ⟨rfl,h⟩;have r:=HM.out _ _ h;have yb:=r.1;have DT:=r.cell (j:=2) rfl;clear r;have H2:=gH h;clear h)
  | (go_at_call 235;(with_reducible refine (Nd w0 _ b _ x.null _ H2.out jX.out).mono ?_);rintro e w3 ⟨rfl,h⟩;have H3:=gH h;clear h))
 go_end0
 have H:=H3.out.pop;simp only [List.append_assoc] at H;exact ⟨rfl,H⟩
theorem Sd (w0:World) (Q:List (Nat × Obj)) (b:Nat) (l:Bt) (L:List dY) (A:Option Addr) (cap:Nat) (w:World) (h:gO w0 Q b l w) (hx:az w0 3 fL A cap L) (ok:sR wR L) (hl:l.length+(bN jo L).length≤90000000) :
  Calls Tryz.prog 230 #[.pointer (some ⟨b,0,none⟩),.slice A L.length cap,.func (.func 231) #[] #[]] w (qo w0 Q b (l++bN jo L)):=by
 have hlen:=ok.1
 have g1:¬ (4096:Int) < (L.length:Int):=by omega
 have hz:∀ k (hk:k < L.length),l.length+(bF (L.length:Int)).length+((L.take k).flatMap jo).length+(jo L[k]).length≤90000000:=fun k hk=>by
  have:=iP jo L k hk;unfold bN at hl;rw [List.length_append] at hl;omega
 have HN:=gH (w_num w0 Q b l L.length w h ⟨by omega,by omega⟩ (by omega));have HE:=gH (show bN jo L=bF (L.length:Int)++L.flatMap jo from rfl);clear h
 go_in
 go_wp2_with (first
  | (go_at_call 95;(with_reducible refine HN.out.mono ?_);rintro e w1 ⟨rfl,h⟩;have H1:=gH h;clear h))
 go_loopw [19] (fun i wr=>∃ k:Nat,k≤L.length∧i=.int .i64 k∧Hid (gO w0 Q b (l++bF (L.length:Int)++(L.take k).flatMap jo) wr)) (fun i _=>L.length - (intOf i).toNat)
 case atStart=>exact ⟨0,Nat.zero_le _,rfl,gH (by simpa using H1.out)⟩
 case round =>
  obtain ⟨k,hk,rfl,HR⟩:=hrel;by_cases hlt:k < L.length
  ·have eH:(k:Int) < (L.length:Int):=by omega
   have a0:=HR.out.aA;have hz':=hz k hlt;obtain ⟨g,off,rfl,hb,c0,c1,c2,hsm⟩:=qK hx hlt;have c0:=a0.cell_kept c0;have c1:=a0.cell_kept c1;have c2:=a0.cell_kept c2;have hb:=Nat.lt_of_lt_of_le hb a0.size;have HC:=gH (Sc w0 Q b _ L[k] _ (HR.out.trans ((ag.refl wr).alloc (.cells #[.string L[k].name,.int .i64 L[k].kind,.bool L[k].null] 169))) (ok.2 _ (List.getElem_mem hlt)) (by (try simp only [List.length_append]);omega));have HX:=gH (show l++bF (L.length:Int)++(L.take k).flatMap jo++jo L[k]=l++bF (L.length:Int)++(L.take (k+1)).flatMap jo from by rw [List.take_succ_eq_append_getElem hlt,List.flatMap_append,← List.append_assoc];simp);generalize L[k]=x at c0 c1 c2 HC HX;clear hz' a0 hsm
   go_wp2_with (first
    | (go_at_call 231;(with_reducible refine HC.out.mono ?_);rintro e w2 ⟨rfl,h⟩;have H2:=gH h;clear h))
   refine ⟨⟨k+1,by omega,by go_num,gH (by rw [← HX.out];exact H2.out)⟩,?_⟩;simp [intOf];omega
  ·have eH:¬ (k:Int) < (L.length:Int):=by omega
   go_wp2
   go_end0
   have e:k=L.length:=by omega
   have H:=HR.out;rw [e,List.take_length,List.append_assoc] at H;exact ⟨rfl,H⟩
theorem Sg (w0:World) (Q:List (Nat × Obj)) (b:Nat) (l:Bt) (x:fh) (A:Option Addr) (c:Nat) (w:World) (h:gO w0 Q b l w) (ok:wT x) (hc:az w0 1 dC A c x.au) (hl:l.length+(jH x).length≤90000000) :
  Calls Tryz.prog 233 #[.pointer (some ⟨b,0,none⟩),.agg #[.string x.name,.int .i64 x.kind,.slice A x.au.length c,.int .i64 x.low,.int .i64 x.high,.string x.af,.string x.table,.string x.key]] w (qo w0 Q b (l++jH x)):=by
 simp only [jH,List.length_append] at hl;obtain ⟨h0,hm,he⟩:=tj h [.string x.name,.int .i64 x.kind,.slice A x.au.length c,.int .i64 x.low,.int .i64 x.high,.string x.af,.string x.table,.string x.key] 42;have H0:=gH h0;have HM:=gH hm;have fV:=gH ok;have WD:=gH hc;have jG:=gH (show (l).length≤90000000 from by (try simp only [List.length_append]);omega);have jt:=gH (show (l++bR x.name).length≤90000000 from by (try simp only [List.length_append]);omega);have jX:=gH (show (l++bR x.name++bF x.kind).length+(bN bR x.au).length≤90000000 from by (try simp only [List.length_append]);omega);have zv:=gH (show (l++bR x.name++bF x.kind++bN bR x.au).length≤90000000 from by (try simp only [List.length_append]);omega);have Gj:=gH (show (l++bR x.name++bF x.kind++bN bR x.au++ky x.low).length≤90000000 from by (try simp only [List.length_append]);omega);have Sh:=gH (show (l++bR x.name++bF x.kind++bN bR x.au++ky x.low++ky x.high).length≤90000000 from by (try simp only [List.length_append]);omega);have WE:=gH (show (l++bR x.name++bF x.kind++bN bR x.au++ky x.low++ky x.high++bR x.af).length≤90000000 from by (try simp only [List.length_append]);omega);have HZ7:=gH (show (l++bR x.name++bF x.kind++bN bR x.au++ky x.low++ky x.high++bR x.af++bR x.table).length≤90000000 from by (try simp only [List.length_append]);omega);clear h h0 hm he ok hc
 go_in
 go_wp2_with (first
  | (go_at_call 159;(with_reducible refine (io w0 _ b _ x.name _ H0.out fV.out.n jG.out).mono ?_);rintro e w1 ⟨rfl,h⟩;have r:=HM.out _ _ h;have yb:=r.1;have wS:=r.cell (j:=1) rfl;clear r;have H1:=gH h;clear h)
  | (go_at_call 95;(with_reducible refine (w_num w0 _ b _ x.kind _ H1.out fV.out.k jt.out).mono ?_);rintro e w2 ⟨rfl,h⟩;have r:=HM.out _ _ h;have yb:=r.1;have DT:=r.cell (j:=2) rfl;clear r;have H2:=gH h;clear h)
  | (go_at_call 158;(with_reducible refine (Nc w0 _ b _ x.au A c _ H2.out WD.out fV.out.c jX.out).mono ?_);rintro e w3 ⟨rfl,h⟩;have r:=HM.out _ _ h;have yb:=r.1;have Gk:=r.cell (j:=3) rfl;clear r;have H3:=gH h;clear h)
  | (go_at_call 322;(with_reducible refine (Nf w0 _ b _ x.low _ H3.out fV.out.a zv.out).mono ?_);rintro e w4 ⟨rfl,h⟩;have r:=HM.out _ _ h;have yb:=r.1;have J2:=r.cell (j:=4) rfl;clear r;have H4:=gH h;clear h)
  | (go_at_call 322;(with_reducible refine (Nf w0 _ b _ x.high _ H4.out fV.out.b Gj.out).mono ?_);rintro e w5 ⟨rfl,h⟩;have r:=HM.out _ _ h;have yb:=r.1;have Si:=r.cell (j:=5) rfl;clear r;have H5:=gH h;clear h)
  | (go_at_call 159;(with_reducible refine (io w0 _ b _ x.af _ H5.out fV.out.s Sh.out).mono ?_);rintro e w6 ⟨rfl,h⟩;have r:=HM.out _ _ h;have yb:=r.1;have WF:=r.cell (j:=6) rfl;clear r;have H6:=gH h;clear h)
  | (go_at_call 159;(with_reducible refine (io w0 _ b _ x.table _ H6.out fV.out.t WE.out).mono ?_);rintro e w7 ⟨rfl,h⟩;have r:=HM.out _ _ h;have yb:=r.1;have aab:=r.cell (j:=7) rfl;clear r;have H7:=gH h;clear h)
  | (go_at_call 159;(with_reducible refine (io w0 _ b _ x.key _ H7.out fV.out.q HZ7.out).mono ?_);rintro e w8 ⟨rfl,h⟩;have H8:=gH h;clear h))
 go_end0
 have H:=H8.out.pop;simp only [List.append_assoc] at H;exact ⟨rfl,H⟩
theorem Sj (w0:World) (Q:List (Nat × Obj)) (b:Nat) (l:Bt) (L:List fh) (A:Option Addr) (cap:Nat) (w:World) (h:gO w0 Q b l w) (hx:az w0 8 eG A cap L) (ok:sR wT L) (hl:l.length+(bN jH L).length≤90000000) :
  Calls Tryz.prog 232 #[.pointer (some ⟨b,0,none⟩),.slice A L.length cap,.func (.func 233) #[] #[]] w (qo w0 Q b (l++bN jH L)):=by
 have hlen:=ok.1
 have g1:¬ (4096:Int) < (L.length:Int):=by omega
 have hz:∀ k (hk:k < L.length),l.length+(bF (L.length:Int)).length+((L.take k).flatMap jH).length+(jH L[k]).length≤90000000:=fun k hk=>by
  have:=iP jH L k hk;unfold bN at hl;rw [List.length_append] at hl;omega
 have HN:=gH (w_num w0 Q b l L.length w h ⟨by omega,by omega⟩ (by omega));have HE:=gH (show bN jH L=bF (L.length:Int)++L.flatMap jH from rfl);clear h
 go_in
 go_wp2_with (first
  | (go_at_call 95;(with_reducible refine HN.out.mono ?_);rintro e w1 ⟨rfl,h⟩;have H1:=gH h;clear h))
 go_loopw [19] (fun i wr=>∃ k:Nat,k≤L.length∧i=.int .i64 k∧Hid (gO w0 Q b (l++bF (L.length:Int)++(L.take k).flatMap jH) wr)) (fun i _=>L.length - (intOf i).toNat)
 case atStart=>exact ⟨0,Nat.zero_le _,rfl,gH (by simpa using H1.out)⟩
 case round =>
  obtain ⟨k,hk,rfl,HR⟩:=hrel;by_cases hlt:k < L.length
  ·have eH:(k:Int) < (L.length:Int):=by omega
   have a0:=HR.out.aA;have hz':=hz k hlt;obtain ⟨g,off,A0,Sk,rfl,hb,c0,c1,c2,c3,c4,c5,c6,c7,hc,hsm⟩:=mQ hx hlt;have c0:=a0.cell_kept c0;have c1:=a0.cell_kept c1;have c2:=a0.cell_kept c2;have c3:=a0.cell_kept c3;have c4:=a0.cell_kept c4;have c5:=a0.cell_kept c5;have c6:=a0.cell_kept c6;have c7:=a0.cell_kept c7;have hb:=Nat.lt_of_lt_of_le hb a0.size;have HC:=gH (Sg w0 Q b _ L[k] A0 Sk _ (HR.out.trans ((ag.refl wr).alloc (.cells #[.string L[k].name,.int .i64 L[k].kind,.slice A0 L[k].au.length Sk,.int .i64 L[k].low,.int .i64 L[k].high,.string L[k].af,.string L[k].table,.string L[k].key] 42))) (ok.2 _ (List.getElem_mem hlt)) hc (by (try simp only [List.length_append]);omega));have HX:=gH (show l++bF (L.length:Int)++(L.take k).flatMap jH++jH L[k]=l++bF (L.length:Int)++(L.take (k+1)).flatMap jH from by rw [List.take_succ_eq_append_getElem hlt,List.flatMap_append,← List.append_assoc];simp);generalize L[k]=x at c0 c1 c2 c3 c4 c5 c6 c7 HC HX;clear hz' hc a0 hsm
   go_wp2_with (first
    | (go_at_call 233;(with_reducible refine HC.out.mono ?_);rintro e w2 ⟨rfl,h⟩;have H2:=gH h;clear h))
   refine ⟨⟨k+1,by omega,by go_num,gH (by rw [← HX.out];exact H2.out)⟩,?_⟩;simp [intOf];omega
  ·have eH:¬ (k:Int) < (L.length:Int):=by omega
   go_wp2
   go_end0
   have e:k=L.length:=by omega
   have H:=HR.out;rw [e,List.take_length,List.append_assoc] at H;exact ⟨rfl,H⟩
theorem Sl (w0:World) (Q:List (Nat × Obj)) (b:Nat) (l:Bt) (x:bW) (A:Option Addr) (c:Nat) (A2:Option Addr) (c2:Nat) (w:World) (h:gO w0 Q b l w) (ok:wU x) (hc:az w0 3 fL A c x.au) (hr:az w0 8 eG A2 c2 x.rules) (hl:l.length+(iQ x).length≤90000000) :
  Calls Tryz.prog 157 #[.pointer (some ⟨b,0,none⟩),.agg #[.string x.af,.string x.name,.string x.owner,.slice A x.au.length c,.slice A2 x.rules.length c2]] w (qo w0 Q b (l++iQ x)):=by
 simp only [iQ,List.length_append] at hl;obtain ⟨h0,hm,he⟩:=tj h [.string x.af,.string x.name,.string x.owner,.slice A x.au.length c,.slice A2 x.rules.length c2] 80;have H0:=gH h0;have HM:=gH hm;have fV:=gH ok;have WD:=gH hc;have Shr:=gH hr;have jG:=gH (show (l).length≤90000000 from by (try simp only [List.length_append]);omega);have jt:=gH (show (l++bR x.af).length≤90000000 from by (try simp only [List.length_append]);omega);have jX:=gH (show (l++bR x.af++bR x.name).length≤90000000 from by (try simp only [List.length_append]);omega);have zv:=gH (show (l++bR x.af++bR x.name++bR x.owner).length+(bN jo x.au).length≤90000000 from by (try simp only [List.length_append]);omega);have Gj:=gH (show (l++bR x.af++bR x.name++bR x.owner++bN jo x.au).length+(bN jH x.rules).length≤90000000 from by (try simp only [List.length_append]);omega);clear h h0 hm he ok hc hr
 go_in
 go_wp2_with (first
  | (go_at_call 159;(with_reducible refine (io w0 _ b _ x.af _ H0.out fV.out.s jG.out).mono ?_);rintro e w1 ⟨rfl,h⟩;have r:=HM.out _ _ h;have yb:=r.1;have wS:=r.cell (j:=1) rfl;clear r;have H1:=gH h;clear h)
  | (go_at_call 159;(with_reducible refine (io w0 _ b _ x.name _ H1.out fV.out.n jt.out).mono ?_);rintro e w2 ⟨rfl,h⟩;have r:=HM.out _ _ h;have yb:=r.1;have DT:=r.cell (j:=2) rfl;clear r;have H2:=gH h;clear h)
  | (go_at_call 159;(with_reducible refine (io w0 _ b _ x.owner _ H2.out fV.out.o jX.out).mono ?_);rintro e w3 ⟨rfl,h⟩;have r:=HM.out _ _ h;have yb:=r.1;have Gk:=r.cell (j:=3) rfl;clear r;have H3:=gH h;clear h)
  | (go_at_call 230;(with_reducible refine (Sd w0 _ b _ x.au A c _ H3.out WD.out fV.out.c zv.out).mono ?_);rintro e w4 ⟨rfl,h⟩;have r:=HM.out _ _ h;have yb:=r.1;have J2:=r.cell (j:=4) rfl;clear r;have H4:=gH h;clear h)
  | (go_at_call 232;(with_reducible refine (Sj w0 _ b _ x.rules A2 c2 _ H4.out Shr.out fV.out.r Gj.out).mono ?_);rintro e w5 ⟨rfl,h⟩;have H5:=gH h;clear h))
 go_end0
 have H:=H5.out.pop;simp only [List.append_assoc] at H;exact ⟨rfl,H⟩
theorem Sm (w0:World) (Q:List (Nat × Obj)) (b:Nat) (l:Bt) (L:List bW) (A:Option Addr) (cap:Nat) (w:World) (h:gO w0 Q b l w) (hx:az w0 5 dE A cap L) (ok:sR wU L) (hl:l.length+(bN iQ L).length≤90000000) :
  Calls Tryz.prog 156 #[.pointer (some ⟨b,0,none⟩),.slice A L.length cap,.func (.func 157) #[] #[]] w (qo w0 Q b (l++bN iQ L)):=by
 have hlen:=ok.1
 have g1:¬ (4096:Int) < (L.length:Int):=by omega
 have hz:∀ k (hk:k < L.length),l.length+(bF (L.length:Int)).length+((L.take k).flatMap iQ).length+(iQ L[k]).length≤90000000:=fun k hk=>by
  have:=iP iQ L k hk;unfold bN at hl;rw [List.length_append] at hl;omega
 have HN:=gH (w_num w0 Q b l L.length w h ⟨by omega,by omega⟩ (by omega));have HE:=gH (show bN iQ L=bF (L.length:Int)++L.flatMap iQ from rfl);clear h
 go_in
 go_wp2_with (first
  | (go_at_call 95;(with_reducible refine HN.out.mono ?_);rintro e w1 ⟨rfl,h⟩;have H1:=gH h;clear h))
 go_loopw [19] (fun i wr=>∃ k:Nat,k≤L.length∧i=.int .i64 k∧Hid (gO w0 Q b (l++bF (L.length:Int)++(L.take k).flatMap iQ) wr)) (fun i _=>L.length - (intOf i).toNat)
 case atStart=>exact ⟨0,Nat.zero_le _,rfl,gH (by simpa using H1.out)⟩
 case round =>
  obtain ⟨k,hk,rfl,HR⟩:=hrel;by_cases hlt:k < L.length
  ·have eH:(k:Int) < (L.length:Int):=by omega
   have a0:=HR.out.aA;have hz':=hz k hlt;obtain ⟨g,off,A0,Sk,A1,Zt,rfl,hb,c0,c1,c2,c3,c4,hc,hr,hsm⟩:=iB hx hlt;have c0:=a0.cell_kept c0;have c1:=a0.cell_kept c1;have c2:=a0.cell_kept c2;have c3:=a0.cell_kept c3;have c4:=a0.cell_kept c4;have hb:=Nat.lt_of_lt_of_le hb a0.size;have HC:=gH (Sl w0 Q b _ L[k] A0 Sk A1 Zt _ (HR.out.trans ((ag.refl wr).alloc (.cells #[.string L[k].af,.string L[k].name,.string L[k].owner,.slice A0 L[k].au.length Sk,.slice A1 L[k].rules.length Zt] 80))) (ok.2 _ (List.getElem_mem hlt)) hc hr (by (try simp only [List.length_append]);omega));have HX:=gH (show l++bF (L.length:Int)++(L.take k).flatMap iQ++iQ L[k]=l++bF (L.length:Int)++(L.take (k+1)).flatMap iQ from by rw [List.take_succ_eq_append_getElem hlt,List.flatMap_append,← List.append_assoc];simp);generalize L[k]=x at c0 c1 c2 c3 c4 HC HX;clear hz' hc hr a0 hsm
   go_wp2_with (first
    | (go_at_call 157;(with_reducible refine HC.out.mono ?_);rintro e w2 ⟨rfl,h⟩;have H2:=gH h;clear h))
   refine ⟨⟨k+1,by omega,by go_num,gH (by rw [← HX.out];exact H2.out)⟩,?_⟩;simp [intOf];omega
  ·have eH:¬ (k:Int) < (L.length:Int):=by omega
   go_wp2
   go_end0
   have e:k=L.length:=by omega
   have H:=HR.out;rw [e,List.take_length,List.append_assoc] at H;exact ⟨rfl,H⟩
theorem Sn (w0:World) (Q:List (Nat × Obj)) (b:Nat) (l:Bt) (x:fK) (w:World) (h:gO w0 Q b l w) (ok:wV x) (hl:l.length+(iC x).length≤90000000) :
  Calls Tryz.prog 155 #[.pointer (some ⟨b,0,none⟩),.agg #[.string x.name,.string x.owner]] w (qo w0 Q b (l++iC x)):=by
 simp only [iC,List.length_append] at hl;obtain ⟨h0,hm,he⟩:=tj h [.string x.name,.string x.owner] 109;have H0:=gH h0;have HM:=gH hm;have fV:=gH ok;have jG:=gH (show (l).length≤90000000 from by (try simp only [List.length_append]);omega);have jt:=gH (show (l++bR x.name).length≤90000000 from by (try simp only [List.length_append]);omega);clear h h0 hm he ok
 go_in
 go_wp2_with (first
  | (go_at_call 159;(with_reducible refine (io w0 _ b _ x.name _ H0.out fV.out.n jG.out).mono ?_);rintro e w1 ⟨rfl,h⟩;have r:=HM.out _ _ h;have yb:=r.1;have wS:=r.cell (j:=1) rfl;clear r;have H1:=gH h;clear h)
  | (go_at_call 159;(with_reducible refine (io w0 _ b _ x.owner _ H1.out fV.out.o jt.out).mono ?_);rintro e w2 ⟨rfl,h⟩;have H2:=gH h;clear h))
 go_end0
 have H:=H2.out.pop;simp only [List.append_assoc] at H;exact ⟨rfl,H⟩
theorem Sp (w0:World) (Q:List (Nat × Obj)) (b:Nat) (l:Bt) (L:List fK) (A:Option Addr) (cap:Nat) (w:World) (h:gO w0 Q b l w) (hx:az w0 2 eE A cap L) (ok:sR wV L) (hl:l.length+(bN iC L).length≤90000000) :
  Calls Tryz.prog 154 #[.pointer (some ⟨b,0,none⟩),.slice A L.length cap,.func (.func 155) #[] #[]] w (qo w0 Q b (l++bN iC L)):=by
 have hlen:=ok.1
 have g1:¬ (4096:Int) < (L.length:Int):=by omega
 have hz:∀ k (hk:k < L.length),l.length+(bF (L.length:Int)).length+((L.take k).flatMap iC).length+(iC L[k]).length≤90000000:=fun k hk=>by
  have:=iP iC L k hk;unfold bN at hl;rw [List.length_append] at hl;omega
 have HN:=gH (w_num w0 Q b l L.length w h ⟨by omega,by omega⟩ (by omega));have HE:=gH (show bN iC L=bF (L.length:Int)++L.flatMap iC from rfl);clear h
 go_in
 go_wp2_with (first
  | (go_at_call 95;(with_reducible refine HN.out.mono ?_);rintro e w1 ⟨rfl,h⟩;have H1:=gH h;clear h))
 go_loopw [19] (fun i wr=>∃ k:Nat,k≤L.length∧i=.int .i64 k∧Hid (gO w0 Q b (l++bF (L.length:Int)++(L.take k).flatMap iC) wr)) (fun i _=>L.length - (intOf i).toNat)
 case atStart=>exact ⟨0,Nat.zero_le _,rfl,gH (by simpa using H1.out)⟩
 case round =>
  obtain ⟨k,hk,rfl,HR⟩:=hrel;by_cases hlt:k < L.length
  ·have eH:(k:Int) < (L.length:Int):=by omega
   have a0:=HR.out.aA;have hz':=hz k hlt;obtain ⟨g,off,rfl,hb,c0,c1,hsm⟩:=lh hx hlt;have c0:=a0.cell_kept c0;have c1:=a0.cell_kept c1;have hb:=Nat.lt_of_lt_of_le hb a0.size;have HC:=gH (Sn w0 Q b _ L[k] _ (HR.out.trans ((ag.refl wr).alloc (.cells #[.string L[k].name,.string L[k].owner] 109))) (ok.2 _ (List.getElem_mem hlt)) (by (try simp only [List.length_append]);omega));have HX:=gH (show l++bF (L.length:Int)++(L.take k).flatMap iC++iC L[k]=l++bF (L.length:Int)++(L.take (k+1)).flatMap iC from by rw [List.take_succ_eq_append_getElem hlt,List.flatMap_append,← List.append_assoc];simp);generalize L[k]=x at c0 c1 HC HX;clear hz' a0 hsm
   go_wp2_with (first
    | (go_at_call 155;(with_reducible refine HC.out.mono ?_);rintro e w2 ⟨rfl,h⟩;have H2:=gH h;clear h))
   refine ⟨⟨k+1,by omega,by go_num,gH (by rw [← HX.out];exact H2.out)⟩,?_⟩;simp [intOf];omega
  ·have eH:¬ (k:Int) < (L.length:Int):=by omega
   go_wp2
   go_end0
   have e:k=L.length:=by omega
   have H:=HR.out;rw [e,List.take_length,List.append_assoc] at H;exact ⟨rfl,H⟩
theorem Sq (w0:World) (Q:List (Nat × Obj)) (b:Nat) (l:Bt) (x:dO) (w:World) (h:gO w0 Q b l w) (ok:wW x) (hl:l.length+(jp x).length≤90000000) :
  Calls Tryz.prog 161 #[.pointer (some ⟨b,0,none⟩),.agg #[.string x.role,.string x.of]] w (qo w0 Q b (l++jp x)):=by
 simp only [jp,List.length_append] at hl;obtain ⟨h0,hm,he⟩:=tj h [.string x.role,.string x.of] 174;have H0:=gH h0;have HM:=gH hm;have fV:=gH ok;have jG:=gH (show (l).length≤90000000 from by (try simp only [List.length_append]);omega);have jt:=gH (show (l++bR x.role).length≤90000000 from by (try simp only [List.length_append]);omega);clear h h0 hm he ok
 go_in
 go_wp2_with (first
  | (go_at_call 159;(with_reducible refine (io w0 _ b _ x.role _ H0.out fV.out.n jG.out).mono ?_);rintro e w1 ⟨rfl,h⟩;have r:=HM.out _ _ h;have yb:=r.1;have wS:=r.cell (j:=1) rfl;clear r;have H1:=gH h;clear h)
  | (go_at_call 159;(with_reducible refine (io w0 _ b _ x.of _ H1.out fV.out.o jt.out).mono ?_);rintro e w2 ⟨rfl,h⟩;have H2:=gH h;clear h))
 go_end0
 have H:=H2.out.pop;simp only [List.append_assoc] at H;exact ⟨rfl,H⟩
theorem Sr (w0:World) (Q:List (Nat × Obj)) (b:Nat) (l:Bt) (L:List dO) (A:Option Addr) (cap:Nat) (w:World) (h:gO w0 Q b l w) (hx:az w0 2 fg A cap L) (ok:sR wW L) (hl:l.length+(bN jp L).length≤90000000) :
  Calls Tryz.prog 160 #[.pointer (some ⟨b,0,none⟩),.slice A L.length cap,.func (.func 161) #[] #[]] w (qo w0 Q b (l++bN jp L)):=by
 have hlen:=ok.1
 have g1:¬ (4096:Int) < (L.length:Int):=by omega
 have hz:∀ k (hk:k < L.length),l.length+(bF (L.length:Int)).length+((L.take k).flatMap jp).length+(jp L[k]).length≤90000000:=fun k hk=>by
  have:=iP jp L k hk;unfold bN at hl;rw [List.length_append] at hl;omega
 have HN:=gH (w_num w0 Q b l L.length w h ⟨by omega,by omega⟩ (by omega));have HE:=gH (show bN jp L=bF (L.length:Int)++L.flatMap jp from rfl);clear h
 go_in
 go_wp2_with (first
  | (go_at_call 95;(with_reducible refine HN.out.mono ?_);rintro e w1 ⟨rfl,h⟩;have H1:=gH h;clear h))
 go_loopw [19] (fun i wr=>∃ k:Nat,k≤L.length∧i=.int .i64 k∧Hid (gO w0 Q b (l++bF (L.length:Int)++(L.take k).flatMap jp) wr)) (fun i _=>L.length - (intOf i).toNat)
 case atStart=>exact ⟨0,Nat.zero_le _,rfl,gH (by simpa using H1.out)⟩
 case round =>
  obtain ⟨k,hk,rfl,HR⟩:=hrel;by_cases hlt:k < L.length
  ·have eH:(k:Int) < (L.length:Int):=by omega
   have a0:=HR.out.aA;have hz':=hz k hlt;obtain ⟨g,off,rfl,hb,c0,c1,hsm⟩:=J1 hx hlt;have c0:=a0.cell_kept c0;have c1:=a0.cell_kept c1;have hb:=Nat.lt_of_lt_of_le hb a0.size;have HC:=gH (Sq w0 Q b _ L[k] _ (HR.out.trans ((ag.refl wr).alloc (.cells #[.string L[k].role,.string L[k].of] 174))) (ok.2 _ (List.getElem_mem hlt)) (by (try simp only [List.length_append]);omega));have HX:=gH (show l++bF (L.length:Int)++(L.take k).flatMap jp++jp L[k]=l++bF (L.length:Int)++(L.take (k+1)).flatMap jp from by rw [List.take_succ_eq_append_getElem hlt,List.flatMap_append,← List.append_assoc];simp);generalize L[k]=x at c0 c1 HC HX;clear hz' a0 hsm
   go_wp2_with (first
    | (go_at_call 161;(with_reducible refine HC.out.mono ?_);rintro e w2 ⟨rfl,h⟩;have H2:=gH h;clear h))
   refine ⟨⟨k+1,by omega,by go_num,gH (by rw [← HX.out];exact H2.out)⟩,?_⟩;simp [intOf];omega
  ·have eH:¬ (k:Int) < (L.length:Int):=by omega
   go_wp2
   go_end0
   have e:k=L.length:=by omega
   have H:=HR.out;rw [e,List.take_length,List.append_assoc] at H;exact ⟨rfl,H⟩
theorem J3 {w:World} {A:Option Addr} {cap:Nat} {l:List cD} (h:az w 6 gy A cap l) {k:Nat} (hk:k < l.length) :
  ∃ b off,A=some ⟨b,off,none⟩∧b < w.heap.size∧w.cell? ⟨b,off+k*6,none⟩=some (.string l[k].af)∧w.cell? ⟨b,off+k*6+1,none⟩=some (.string l[k].table)∧w.cell? ⟨b,off+k*6+2,none⟩=some (.int .i64 l[k].right)∧w.cell? ⟨b,off+k*6+3,none⟩=some (.string l[k].aI)∧w.cell? ⟨b,off+k*6+4,none⟩=some (.string l[k].to)∧w.cell? ⟨b,off+k*6+5,none⟩=some (.bool l[k].opt)∧True:=by
 obtain ⟨b,off,cs,hA,hb,hl,⟨rfl,_⟩,hc⟩:=h.2.2 k hk;exact ⟨b,off,hA,hb,by simpa [eR] using hc 0 (by omega),by simpa [Nat.add_assoc,eR] using hc 1 (by omega),by simpa [Nat.add_assoc,eR] using hc 2 (by omega),by simpa [Nat.add_assoc,eR] using hc 3 (by omega),by simpa [Nat.add_assoc,eR] using hc 4 (by omega),by simpa [Nat.add_assoc,eR] using hc 5 (by omega),trivial⟩
theorem J4 {w:World} {A:Option Addr} {cap:Nat} {l:List iF} (h:az w 5 fj A cap l) {k:Nat} (hk:k < l.length) :
  ∃ b off,A=some ⟨b,off,none⟩∧b < w.heap.size∧w.cell? ⟨b,off+k*5,none⟩=some (.int .i64 l[k].aC)∧w.cell? ⟨b,off+k*5+1,none⟩=some (.int .i64 l[k].number)∧w.cell? ⟨b,off+k*5+2,none⟩=some (.int .i64 l[k].code)∧w.cell? ⟨b,off+k*5+3,none⟩=some (.int .i64 l[k].fence)∧w.cell? ⟨b,off+k*5+4,none⟩=some (.int .i64 l[k].version)∧True:=by
 obtain ⟨b,off,cs,hA,hb,hl,rfl,hc⟩:=h.2.2 k hk;exact ⟨b,off,hA,hb,by simpa [cj] using hc 0 (by omega),by simpa [Nat.add_assoc,cj] using hc 1 (by omega),by simpa [Nat.add_assoc,cj] using hc 2 (by omega),by simpa [Nat.add_assoc,cj] using hc 3 (by omega),by simpa [Nat.add_assoc,cj] using hc 4 (by omega),trivial⟩
theorem J5 {w:World} {A:Option Addr} {cap:Nat} {l:List eZ} (h:az w 4 fq A cap l) {k:Nat} (hk:k < l.length) :
  ∃ b off,A=some ⟨b,off,none⟩∧b < w.heap.size∧w.cell? ⟨b,off+k*4,none⟩=some (.int .i64 l[k].seq)∧w.cell? ⟨b,off+k*4+1,none⟩=some (.int .i64 l[k].node)∧w.cell? ⟨b,off+k*4+2,none⟩=some (.int .i64 l[k].ask)∧w.cell? ⟨b,off+k*4+3,none⟩=some (.int .i64 l[k].av)∧True:=by
 obtain ⟨b,off,cs,hA,hb,hl,rfl,hc⟩:=h.2.2 k hk;exact ⟨b,off,hA,hb,by simpa [eA] using hc 0 (by omega),by simpa [Nat.add_assoc,eA] using hc 1 (by omega),by simpa [Nat.add_assoc,eA] using hc 2 (by omega),by simpa [Nat.add_assoc,eA] using hc 3 (by omega),trivial⟩
theorem Ss (w0:World) (Q:List (Nat × Obj)) (b:Nat) (l:Bt) (x:cD) (w:World) (h:gO w0 Q b l w) (ok:wX x) (hl:l.length+(jI x).length≤90000000) :
  Calls Tryz.prog 163 #[.pointer (some ⟨b,0,none⟩),.agg #[.string x.af,.string x.table,.int .i64 x.right,.string x.aI,.string x.to,.bool x.opt]] w (qo w0 Q b (l++jI x)):=by
 simp only [jI,List.length_append] at hl;obtain ⟨h0,hm,he⟩:=tj h [.string x.af,.string x.table,.int .i64 x.right,.string x.aI,.string x.to,.bool x.opt] 177;have H0:=gH h0;have HM:=gH hm;have fV:=gH ok;have jG:=gH (show (l).length≤90000000 from by (try simp only [List.length_append]);omega);have jt:=gH (show (l++bR x.af).length≤90000000 from by (try simp only [List.length_append]);omega);have jX:=gH (show (l++bR x.af++bR x.table).length≤90000000 from by (try simp only [List.length_append]);omega);have zv:=gH (show (l++bR x.af++bR x.table++bF x.right).length≤90000000 from by (try simp only [List.length_append]);omega);have Gj:=gH (show (l++bR x.af++bR x.table++bF x.right++bR x.aI).length≤90000000 from by (try simp only [List.length_append]);omega);have Sh:=gH (show (l++bR x.af++bR x.table++bF x.right++bR x.aI++bR x.to).length≤90000000 from by (try simp only [List.length_append]);omega);clear h h0 hm he ok
 go_in
 go_wp2_with (first
  | (go_at_call 159;(with_reducible refine (io w0 _ b _ x.af _ H0.out fV.out.s jG.out).mono ?_);rintro e w1 ⟨rfl,h⟩;have r:=HM.out _ _ h;have yb:=r.1;have wS:=r.cell (j:=1) rfl;clear r;have H1:=gH h;clear h)
  | (go_at_call 159;(with_reducible refine (io w0 _ b _ x.table _ H1.out fV.out.t jt.out).mono ?_);rintro e w2 ⟨rfl,h⟩;have r:=HM.out _ _ h;have yb:=r.1;have DT:=r.cell (j:=2) rfl;clear r;have H2:=gH h;clear h)
  | (go_at_call 95;(with_reducible refine (w_num w0 _ b _ x.right _ H2.out fV.out.r jX.out).mono ?_);rintro e w3 ⟨rfl,h⟩;have r:=HM.out _ _ h;have yb:=r.1;have Gk:=r.cell (j:=3) rfl;clear r;have H3:=gH h;clear h)
  | (go_at_call 159;(with_reducible refine (io w0 _ b _ x.aI _ H3.out fV.out.b zv.out).mono ?_);rintro e w4 ⟨rfl,h⟩;have r:=HM.out _ _ h;have yb:=r.1;have J2:=r.cell (j:=4) rfl;clear r;have H4:=gH h;clear h)
  | (go_at_call 159;(with_reducible refine (io w0 _ b _ x.to _ H4.out fV.out.o Gj.out).mono ?_);rintro e w5 ⟨rfl,h⟩;have r:=HM.out _ _ h;have yb:=r.1;have Si:=r.cell (j:=5) rfl;clear r;have H5:=gH h;clear h)
  | (go_at_call 235;(with_reducible refine (Nd w0 _ b _ x.opt _ H5.out Sh.out).mono ?_);rintro e w6 ⟨rfl,h⟩;have H6:=gH h;clear h))
 go_end0
 have H:=H6.out.pop;simp only [List.append_assoc] at H;exact ⟨rfl,H⟩
theorem Su (w0:World) (Q:List (Nat × Obj)) (b:Nat) (l:Bt) (L:List cD) (A:Option Addr) (cap:Nat) (w:World) (h:gO w0 Q b l w) (hx:az w0 6 gy A cap L) (ok:sR wX L) (hl:l.length+(bN jI L).length≤90000000) :
  Calls Tryz.prog 162 #[.pointer (some ⟨b,0,none⟩),.slice A L.length cap,.func (.func 163) #[] #[]] w (qo w0 Q b (l++bN jI L)):=by
 have hlen:=ok.1
 have g1:¬ (4096:Int) < (L.length:Int):=by omega
 have hz:∀ k (hk:k < L.length),l.length+(bF (L.length:Int)).length+((L.take k).flatMap jI).length+(jI L[k]).length≤90000000:=fun k hk=>by
  have:=iP jI L k hk;unfold bN at hl;rw [List.length_append] at hl;omega
 have HN:=gH (w_num w0 Q b l L.length w h ⟨by omega,by omega⟩ (by omega));have HE:=gH (show bN jI L=bF (L.length:Int)++L.flatMap jI from rfl);clear h
 go_in
 go_wp2_with (first
  | (go_at_call 95;(with_reducible refine HN.out.mono ?_);rintro e w1 ⟨rfl,h⟩;have H1:=gH h;clear h))
 go_loopw [19] (fun i wr=>∃ k:Nat,k≤L.length∧i=.int .i64 k∧Hid (gO w0 Q b (l++bF (L.length:Int)++(L.take k).flatMap jI) wr)) (fun i _=>L.length - (intOf i).toNat)
 case atStart=>exact ⟨0,Nat.zero_le _,rfl,gH (by simpa using H1.out)⟩
 case round =>
  obtain ⟨k,hk,rfl,HR⟩:=hrel;by_cases hlt:k < L.length
  ·have eH:(k:Int) < (L.length:Int):=by omega
   have a0:=HR.out.aA;have hz':=hz k hlt;obtain ⟨g,off,rfl,hb,c0,c1,c2,c3,c4,c5,hsm⟩:=J3 hx hlt;have c0:=a0.cell_kept c0;have c1:=a0.cell_kept c1;have c2:=a0.cell_kept c2;have c3:=a0.cell_kept c3;have c4:=a0.cell_kept c4;have c5:=a0.cell_kept c5;have hb:=Nat.lt_of_lt_of_le hb a0.size;have HC:=gH (Ss w0 Q b _ L[k] _ (HR.out.trans ((ag.refl wr).alloc (.cells #[.string L[k].af,.string L[k].table,.int .i64 L[k].right,.string L[k].aI,.string L[k].to,.bool L[k].opt] 177))) (ok.2 _ (List.getElem_mem hlt)) (by (try simp only [List.length_append]);omega));have HX:=gH (show l++bF (L.length:Int)++(L.take k).flatMap jI++jI L[k]=l++bF (L.length:Int)++(L.take (k+1)).flatMap jI from by rw [List.take_succ_eq_append_getElem hlt,List.flatMap_append,← List.append_assoc];simp);generalize L[k]=x at c0 c1 c2 c3 c4 c5 HC HX;clear hz' a0 hsm
   go_wp2_with (first
    | (go_at_call 163;(with_reducible refine HC.out.mono ?_);rintro e w2 ⟨rfl,h⟩;have H2:=gH h;clear h))
   refine ⟨⟨k+1,by omega,by go_num,gH (by rw [← HX.out];exact H2.out)⟩,?_⟩;simp [intOf];omega
  ·have eH:¬ (k:Int) < (L.length:Int):=by omega
   go_wp2
   go_end0
   have e:k=L.length:=by omega
   have H:=HR.out;rw [e,List.take_length,List.append_assoc] at H;exact ⟨rfl,H⟩
theorem Sv (w0:World) (Q:List (Nat × Obj)) (b:Nat) (l:Bt) (x:bS) (As:Option Addr) (cs:Nat) (At:Option Addr) (ct:Nat) (An:Option Addr) (cn:Nat) (Am:Option Addr) (cm:Nat) (Ag:Option Addr) (cg:Nat) (w:World) (h:gO w0 Q b l w) (ok:tQ x) (h1:az w0 2 eE As cs x.aj.ae) (h2:az w0 5 dE At ct x.aj.tables) (h3:az w0 1 dC An cn x.ar.names) (h4:az w0 2 fg Am cm x.ar.members) (h5:az w0 6 gy Ag cg x.ah) (hl:l.length+(oI x).length≤90000000) :
  Calls Tryz.prog 90 #[.pointer (some ⟨b,0,none⟩),.agg #[.int .i64 x.av,.int .i64 x.version,.slice As x.aj.ae.length cs,.slice At x.aj.tables.length ct,.slice An x.ar.names.length cn,.slice Am x.ar.members.length cm,.slice Ag x.ah.length cg]] w (qo w0 Q b (l++oI x)):=by
 simp only [oI,List.length_append] at hl;obtain ⟨h0,hm,he⟩:=tj h [.int .i64 x.av,.int .i64 x.version,.slice As x.aj.ae.length cs,.slice At x.aj.tables.length ct,.slice An x.ar.names.length cn,.slice Am x.ar.members.length cm,.slice Ag x.ah.length cg] 32;have H0:=gH h0;have HM:=gH hm;have fV:=gH ok;have WG:=gH h1;have WH:=gH h2;have WI:=gH h3;have WJ:=gH h4;have WK:=gH h5;have jG:=gH (show (l).length≤90000000 from by (try simp only [List.length_append]);omega);have jt:=gH (show (l++bF x.av).length≤90000000 from by (try simp only [List.length_append]);omega);have jX:=gH (show (l++bF x.av++bF x.version).length+(bN iC x.aj.ae).length≤90000000 from by (try simp only [List.length_append]);omega);have zv:=gH (show (l++bF x.av++bF x.version++bN iC x.aj.ae).length+(bN iQ x.aj.tables).length≤90000000 from by (try simp only [List.length_append]);omega);have Gj:=gH (show (l++bF x.av++bF x.version++bN iC x.aj.ae++bN iQ x.aj.tables).length+(bN bR x.ar.names).length≤90000000 from by (try simp only [List.length_append]);omega);have Sh:=gH (show (l++bF x.av++bF x.version++bN iC x.aj.ae++bN iQ x.aj.tables++bN bR x.ar.names).length+(bN jp x.ar.members).length≤90000000 from by (try simp only [List.length_append]);omega);have WE:=gH (show (l++bF x.av++bF x.version++bN iC x.aj.ae++bN iQ x.aj.tables++bN bR x.ar.names++bN jp x.ar.members).length+(bN jI x.ah).length≤90000000 from by (try simp only [List.length_append]);omega)
 clear h h0 hm he ok h1 h2 h3 h4 h5
 go_in
 go_wp2_with (first
  | (go_at_call 95;(with_reducible refine (w_num w0 _ b _ x.av _ H0.out fV.out.e jG.out).mono ?_);rintro e w1 ⟨rfl,h⟩;have r:=HM.out _ _ h;have yb:=r.1;have wS:=r.cell (j:=1) rfl;clear r;have H1:=gH h;clear h)
  | (go_at_call 95;(with_reducible refine (w_num w0 _ b _ x.version _ H1.out fV.out.v jt.out).mono ?_);rintro e w2 ⟨rfl,h⟩;have r:=HM.out _ _ h;have yb:=r.1;have DT:=r.cell (j:=2) rfl;clear r;have H2:=gH h;clear h)
  | (go_at_call 154;(with_reducible refine (Sp w0 _ b _ x.aj.ae As cs _ H2.out WG.out fV.out.s jX.out).mono ?_);rintro e w3 ⟨rfl,h⟩;have r:=HM.out _ _ h;have yb:=r.1;have Gk:=r.cell (j:=3) rfl;clear r;have H3:=gH h;clear h)
  | (go_at_call 156;(with_reducible refine (Sm w0 _ b _ x.aj.tables At ct _ H3.out WH.out fV.out.t zv.out).mono ?_);rintro e w4 ⟨rfl,h⟩;have r:=HM.out _ _ h;have yb:=r.1;have J2:=r.cell (j:=4) rfl;clear r;have H4:=gH h;clear h)
  | (go_at_call 158;(with_reducible refine (Nc w0 _ b _ x.ar.names An cn _ H4.out WI.out fV.out.n Gj.out).mono ?_);rintro e w5 ⟨rfl,h⟩;have r:=HM.out _ _ h;have yb:=r.1;have Si:=r.cell (j:=5) rfl;clear r;have H5:=gH h;clear h)
  | (go_at_call 160;(with_reducible refine (Sr w0 _ b _ x.ar.members Am cm _ H5.out WJ.out fV.out.m Sh.out).mono ?_);rintro e w6 ⟨rfl,h⟩;have r:=HM.out _ _ h;have yb:=r.1;have WF:=r.cell (j:=6) rfl;clear r;have H6:=gH h;clear h)
  | (go_at_call 162;(with_reducible refine (Su w0 _ b _ x.ah Ag cg _ H6.out WK.out fV.out.g WE.out).mono ?_);rintro e w7 ⟨rfl,h⟩;have H7:=gH h;clear h))
 go_end0
 have H:=H7.out.pop;simp only [List.append_assoc] at H;exact ⟨rfl,H⟩
theorem Sw (w0:World) (Q:List (Nat × Obj)) (b:Nat) (l:Bt) (x:iF) (w:World) (h:gO w0 Q b l w) (ok:wY x) (hl:l.length+(jq x).length≤90000000) :
  Calls Tryz.prog 92 #[.pointer (some ⟨b,0,none⟩),.agg #[.int .i64 x.aC,.int .i64 x.number,.int .i64 x.code,.int .i64 x.fence,.int .i64 x.version]] w (qo w0 Q b (l++jq x)):=by
 simp only [jq,List.length_append] at hl;obtain ⟨h0,hm,he⟩:=tj h [.int .i64 x.aC,.int .i64 x.number,.int .i64 x.code,.int .i64 x.fence,.int .i64 x.version] 48;have H0:=gH h0;have HM:=gH hm;have fV:=gH ok;have jG:=gH (show (l).length≤90000000 from by (try simp only [List.length_append]);omega);have jt:=gH (show (l++bF x.aC).length≤90000000 from by (try simp only [List.length_append]);omega);have jX:=gH (show (l++bF x.aC++bF x.number).length≤90000000 from by (try simp only [List.length_append]);omega);have zv:=gH (show (l++bF x.aC++bF x.number++bF x.code).length≤90000000 from by (try simp only [List.length_append]);omega);have Gj:=gH (show (l++bF x.aC++bF x.number++bF x.code++bF x.fence).length≤90000000 from by (try simp only [List.length_append]);omega);clear h h0 hm he ok
 go_in
 go_wp2_with (first
  | (go_at_call 95;(with_reducible refine (w_num w0 _ b _ x.aC _ H0.out fV.out.a jG.out).mono ?_);rintro e w1 ⟨rfl,h⟩;have r:=HM.out _ _ h;have yb:=r.1;have wS:=r.cell (j:=1) rfl;clear r;have H1:=gH h;clear h)
  | (go_at_call 95;(with_reducible refine (w_num w0 _ b _ x.number _ H1.out fV.out.b jt.out).mono ?_);rintro e w2 ⟨rfl,h⟩;have r:=HM.out _ _ h;have yb:=r.1;have DT:=r.cell (j:=2) rfl;clear r;have H2:=gH h;clear h)
  | (go_at_call 95;(with_reducible refine (w_num w0 _ b _ x.code _ H2.out fV.out.c jX.out).mono ?_);rintro e w3 ⟨rfl,h⟩;have r:=HM.out _ _ h;have yb:=r.1;have Gk:=r.cell (j:=3) rfl;clear r;have H3:=gH h;clear h)
  | (go_at_call 95;(with_reducible refine (w_num w0 _ b _ x.fence _ H3.out fV.out.d zv.out).mono ?_);rintro e w4 ⟨rfl,h⟩;have r:=HM.out _ _ h;have yb:=r.1;have J2:=r.cell (j:=4) rfl;clear r;have H4:=gH h;clear h)
  | (go_at_call 95;(with_reducible refine (w_num w0 _ b _ x.version _ H4.out fV.out.e Gj.out).mono ?_);rintro e w5 ⟨rfl,h⟩;have H5:=gH h;clear h))
 go_end0
 have H:=H5.out.pop;simp only [List.append_assoc] at H;exact ⟨rfl,H⟩
theorem Sx (w0:World) (Q:List (Nat × Obj)) (b:Nat) (l:Bt) (L:List iF) (A:Option Addr) (cap:Nat) (w:World) (h:gO w0 Q b l w) (hx:az w0 5 fj A cap L) (ok:sR wY L) (hl:l.length+(bN jq L).length≤90000000) :
  Calls Tryz.prog 91 #[.pointer (some ⟨b,0,none⟩),.slice A L.length cap,.func (.func 92) #[] #[]] w (qo w0 Q b (l++bN jq L)):=by
 have hlen:=ok.1
 have g1:¬ (4096:Int) < (L.length:Int):=by omega
 have hz:∀ k (hk:k < L.length),l.length+(bF (L.length:Int)).length+((L.take k).flatMap jq).length+(jq L[k]).length≤90000000:=fun k hk=>by
  have:=iP jq L k hk;unfold bN at hl;rw [List.length_append] at hl;omega
 have HN:=gH (w_num w0 Q b l L.length w h ⟨by omega,by omega⟩ (by omega));have HE:=gH (show bN jq L=bF (L.length:Int)++L.flatMap jq from rfl);clear h
 go_in
 go_wp2_with (first
  | (go_at_call 95;(with_reducible refine HN.out.mono ?_);rintro e w1 ⟨rfl,h⟩;have H1:=gH h;clear h))
 go_loopw [19] (fun i wr=>∃ k:Nat,k≤L.length∧i=.int .i64 k∧Hid (gO w0 Q b (l++bF (L.length:Int)++(L.take k).flatMap jq) wr)) (fun i _=>L.length - (intOf i).toNat)
 case atStart=>exact ⟨0,Nat.zero_le _,rfl,gH (by simpa using H1.out)⟩
 case round =>
  obtain ⟨k,hk,rfl,HR⟩:=hrel;by_cases hlt:k < L.length
  ·have eH:(k:Int) < (L.length:Int):=by omega
   have a0:=HR.out.aA;have hz':=hz k hlt;obtain ⟨g,off,rfl,hb,c0,c1,c2,c3,c4,hsm⟩:=J4 hx hlt;have c0:=a0.cell_kept c0;have c1:=a0.cell_kept c1;have c2:=a0.cell_kept c2;have c3:=a0.cell_kept c3;have c4:=a0.cell_kept c4;have hb:=Nat.lt_of_lt_of_le hb a0.size;have HC:=gH (Sw w0 Q b _ L[k] _ (HR.out.trans ((ag.refl wr).alloc (.cells #[.int .i64 L[k].aC,.int .i64 L[k].number,.int .i64 L[k].code,.int .i64 L[k].fence,.int .i64 L[k].version] 48))) (ok.2 _ (List.getElem_mem hlt)) (by (try simp only [List.length_append]);omega));have HX:=gH (show l++bF (L.length:Int)++(L.take k).flatMap jq++jq L[k]=l++bF (L.length:Int)++(L.take (k+1)).flatMap jq from by rw [List.take_succ_eq_append_getElem hlt,List.flatMap_append,← List.append_assoc];simp);generalize L[k]=x at c0 c1 c2 c3 c4 HC HX;clear hz' a0 hsm
   go_wp2_with (first
    | (go_at_call 92;(with_reducible refine HC.out.mono ?_);rintro e w2 ⟨rfl,h⟩;have H2:=gH h;clear h))
   refine ⟨⟨k+1,by omega,by go_num,gH (by rw [← HX.out];exact H2.out)⟩,?_⟩;simp [intOf];omega
  ·have eH:¬ (k:Int) < (L.length:Int):=by omega
   go_wp2
   go_end0
   have e:k=L.length:=by omega
   have H:=HR.out;rw [e,List.take_length,List.append_assoc] at H;exact ⟨rfl,H⟩
theorem Sy (w0:World) (Q:List (Nat × Obj)) (b:Nat) (l:Bt) (x:eZ) (w:World) (h:gO w0 Q b l w) (ok:wZ x) (hl:l.length+(jJ x).length≤90000000) :
  Calls Tryz.prog 94 #[.pointer (some ⟨b,0,none⟩),.agg #[.int .i64 x.seq,.int .i64 x.node,.int .i64 x.ask,.int .i64 x.av]] w (qo w0 Q b (l++jJ x)):=by
 simp only [jJ,List.length_append] at hl;obtain ⟨h0,hm,he⟩:=tj h [.int .i64 x.seq,.int .i64 x.node,.int .i64 x.ask,.int .i64 x.av] 55;have H0:=gH h0;have HM:=gH hm;have fV:=gH ok;have jG:=gH (show (l).length≤90000000 from by (try simp only [List.length_append]);omega);have jt:=gH (show (l++bF x.seq).length≤90000000 from by (try simp only [List.length_append]);omega);have jX:=gH (show (l++bF x.seq++bF x.node).length≤90000000 from by (try simp only [List.length_append]);omega);have zv:=gH (show (l++bF x.seq++bF x.node++bF x.ask).length≤90000000 from by (try simp only [List.length_append]);omega);clear h h0 hm he ok
 go_in
 go_wp2_with (first
  | (go_at_call 95;(with_reducible refine (w_num w0 _ b _ x.seq _ H0.out fV.out.a jG.out).mono ?_);rintro e w1 ⟨rfl,h⟩;have r:=HM.out _ _ h;have yb:=r.1;have wS:=r.cell (j:=1) rfl;clear r;have H1:=gH h;clear h)
  | (go_at_call 95;(with_reducible refine (w_num w0 _ b _ x.node _ H1.out fV.out.b jt.out).mono ?_);rintro e w2 ⟨rfl,h⟩;have r:=HM.out _ _ h;have yb:=r.1;have DT:=r.cell (j:=2) rfl;clear r;have H2:=gH h;clear h)
  | (go_at_call 95;(with_reducible refine (w_num w0 _ b _ x.ask _ H2.out fV.out.c jX.out).mono ?_);rintro e w3 ⟨rfl,h⟩;have r:=HM.out _ _ h;have yb:=r.1;have Gk:=r.cell (j:=3) rfl;clear r;have H3:=gH h;clear h)
  | (go_at_call 95;(with_reducible refine (w_num w0 _ b _ x.av _ H3.out fV.out.d zv.out).mono ?_);rintro e w4 ⟨rfl,h⟩;have H4:=gH h;clear h))
 go_end0
 have H:=H4.out.pop;simp only [List.append_assoc] at H;exact ⟨rfl,H⟩
theorem Sz (w0:World) (Q:List (Nat × Obj)) (b:Nat) (l:Bt) (L:List eZ) (A:Option Addr) (cap:Nat) (w:World) (h:gO w0 Q b l w) (hx:az w0 4 fq A cap L) (ok:sR wZ L) (hl:l.length+(bN jJ L).length≤90000000) :
  Calls Tryz.prog 93 #[.pointer (some ⟨b,0,none⟩),.slice A L.length cap,.func (.func 94) #[] #[]] w (qo w0 Q b (l++bN jJ L)):=by
 have hlen:=ok.1
 have g1:¬ (4096:Int) < (L.length:Int):=by omega
 have hz:∀ k (hk:k < L.length),l.length+(bF (L.length:Int)).length+((L.take k).flatMap jJ).length+(jJ L[k]).length≤90000000:=fun k hk=>by
  have:=iP jJ L k hk;unfold bN at hl;rw [List.length_append] at hl;omega
 have HN:=gH (w_num w0 Q b l L.length w h ⟨by omega,by omega⟩ (by omega));have HE:=gH (show bN jJ L=bF (L.length:Int)++L.flatMap jJ from rfl);clear h
 go_in
 go_wp2_with (first
  | (go_at_call 95;(with_reducible refine HN.out.mono ?_);rintro e w1 ⟨rfl,h⟩;have H1:=gH h;clear h))
 go_loopw [19] (fun i wr=>∃ k:Nat,k≤L.length∧i=.int .i64 k∧Hid (gO w0 Q b (l++bF (L.length:Int)++(L.take k).flatMap jJ) wr)) (fun i _=>L.length - (intOf i).toNat)
 case atStart=>exact ⟨0,Nat.zero_le _,rfl,gH (by simpa using H1.out)⟩
 case round =>
  obtain ⟨k,hk,rfl,HR⟩:=hrel;by_cases hlt:k < L.length
  ·have eH:(k:Int) < (L.length:Int):=by omega
   have a0:=HR.out.aA;have hz':=hz k hlt;obtain ⟨g,off,rfl,hb,c0,c1,c2,c3,hsm⟩:=J5 hx hlt;have c0:=a0.cell_kept c0;have c1:=a0.cell_kept c1;have c2:=a0.cell_kept c2;have c3:=a0.cell_kept c3;have hb:=Nat.lt_of_lt_of_le hb a0.size;have HC:=gH (Sy w0 Q b _ L[k] _ (HR.out.trans ((ag.refl wr).alloc (.cells #[.int .i64 L[k].seq,.int .i64 L[k].node,.int .i64 L[k].ask,.int .i64 L[k].av] 55))) (ok.2 _ (List.getElem_mem hlt)) (by (try simp only [List.length_append]);omega));have HX:=gH (show l++bF (L.length:Int)++(L.take k).flatMap jJ++jJ L[k]=l++bF (L.length:Int)++(L.take (k+1)).flatMap jJ from by rw [List.take_succ_eq_append_getElem hlt,List.flatMap_append,← List.append_assoc];simp);generalize L[k]=x at c0 c1 c2 c3 HC HX;clear hz' a0 hsm
   go_wp2_with (first
    | (go_at_call 94;(with_reducible refine HC.out.mono ?_);rintro e w2 ⟨rfl,h⟩;have H2:=gH h;clear h))
   refine ⟨⟨k+1,by omega,by go_num,gH (by rw [← HX.out];exact H2.out)⟩,?_⟩;simp [intOf];omega
  ·have eH:¬ (k:Int) < (L.length:Int):=by omega
   go_wp2
   go_end0
   have e:k=L.length:=by omega
   have H:=HR.out;rw [e,List.take_length,List.append_assoc] at H;exact ⟨rfl,H⟩
theorem SA (w0:World) (Q:List (Nat × Obj)) (b:Nat) (l:Bt) (x:fo) (As:Option Addr) (cs:Nat) (At:Option Addr) (ct:Nat) (An:Option Addr) (cn:Nat) (Am:Option Addr) (cm:Nat) (Ag:Option Addr) (cg:Nat) (Ad:Option Addr) (cd:Nat) (Al:Option Addr) (cl:Nat) (w:World) (h:gO w0 Q b l w) (ok:j5 x) (h1:az w0 2 eE As cs x.cat.aj.ae) (h2:az w0 5 dE At ct x.cat.aj.tables) (h3:az w0 1 dC An cn x.cat.ar.names) (h4:az w0 2 fg Am cm x.cat.ar.members) (h5:az w0 6 gy Ag cg x.cat.ah) (h6:az w0 5 fj Ad cd x.aQ) (h7:az w0 4 fq Al cl x.bp) (hl:l.length+(gP x).length≤90000000) :
  Calls Tryz.prog 62 #[.pointer (some ⟨b,0,none⟩),.agg #[.int .i64 x.cat.av,.int .i64 x.cat.version,.slice As x.cat.aj.ae.length cs,.slice At x.cat.aj.tables.length ct,.slice An x.cat.ar.names.length cn,.slice Am x.cat.ar.members.length cm,.slice Ag x.cat.ah.length cg,.slice Ad x.aQ.length cd,.slice Al x.bp.length cl,.int .i64 x.last]] w (qo w0 Q b (l++gP x)):=by
 simp only [gP,List.length_append] at hl;obtain ⟨h0,hm,he⟩:=tj h [.int .i64 x.cat.av,.int .i64 x.cat.version,.slice As x.cat.aj.ae.length cs,.slice At x.cat.aj.tables.length ct,.slice An x.cat.ar.names.length cn,.slice Am x.cat.ar.members.length cm,.slice Ag x.cat.ah.length cg,.slice Ad x.aQ.length cd,.slice Al x.bp.length cl,.int .i64 x.last] 36;have H0:=gH h0;have HM:=gH hm;have fV:=gH ok;have WG:=gH h1;have WH:=gH h2;have WI:=gH h3;have WJ:=gH h4;have WK:=gH h5;have Sh6:=gH h6;have Sh7:=gH h7;have jG:=gH (show (l).length+(oI x.cat).length≤90000000 from by (try simp only [List.length_append]);omega);have jt:=gH (show (l++oI x.cat).length+(bN jq x.aQ).length≤90000000 from by (try simp only [List.length_append]);omega);have jX:=gH (show (l++oI x.cat++bN jq x.aQ).length+(bN jJ x.bp).length≤90000000 from by (try simp only [List.length_append]);omega);have zv:=gH (show (l++oI x.cat++bN jq x.aQ++bN jJ x.bp).length≤90000000 from by (try simp only [List.length_append]);omega);clear h h0 hm he ok h1 h2 h3 h4 h5 h6 h7
 go_in
 go_wp2_with (first
  | (go_at_call 90;(with_reducible refine (Sv w0 _ b _ x.cat As cs At ct An cn Am cm Ag cg _ H0.out fV.out.c WG.out WH.out WI.out WJ.out WK.out jG.out).mono ?_);rintro e w1 ⟨rfl,h⟩;have r:=HM.out _ _ h;have yb:=r.1;have aac:=r.cell (j:=7) rfl;clear r;have H1:=gH h;clear h)
  | (go_at_call 91;(with_reducible refine (Sx w0 _ b _ x.aQ Ad cd _ H1.out Sh6.out fV.out.d jt.out).mono ?_);rintro e w2 ⟨rfl,h⟩;have r:=HM.out _ _ h;have yb:=r.1;have aad:=r.cell (j:=8) rfl;clear r;have H2:=gH h;clear h)
  | (go_at_call 93;(with_reducible refine (Sz w0 _ b _ x.bp Al cl _ H2.out Sh7.out fV.out.l jX.out).mono ?_);rintro e w3 ⟨rfl,h⟩;have r:=HM.out _ _ h;have yb:=r.1;have aae:=r.cell (j:=9) rfl;clear r;have H3:=gH h;clear h)
  | (go_at_call 95;(with_reducible refine (w_num w0 _ b _ x.last _ H3.out fV.out.n zv.out).mono ?_);rintro e w4 ⟨rfl,h⟩;have H4:=gH h;clear h))
 go_end0
 have H:=H4.out.pop;simp only [List.append_assoc] at H;exact ⟨rfl,H⟩
theorem nJ (q:Addr) (w:World) :
  CallsD Tryz.prog 89 #[.pointer (some q)] .returning w fun e u' w'=>e=.returned (.tuple #[])∧u'=.returning∧w'=w:=by
 refine callsD_of_wpS Tryz.func89 rfl fun Gl cs hu=>?_
 apply wpS_seq;apply wpS_region;simp [wpOpsS,go_sem,recoverD,hu,Tryz.ntmps89,Exit.thenS];have e:(#[Value.pointer (some q)]++((Array.replicate 10 undef).setIfInBounds 2 Value.nilIface).setIfInBounds 1 Value.nilIface)=#[Value.pointer (some q),undef,Value.nilIface,Value.nilIface,undef,undef,undef,undef,undef,undef,undef]:=rfl;rw [e];clear e;refine wpS_of_wp ?_;go_wp2_with fail
 cases Gl
 refine ⟨rfl,_,?_,.tuple #[],?_,rfl,rfl,rfl⟩
 ·simp only at hu
  subst hu;rfl
 ·exact results_none rfl _ _ _
theorem gO.own {w0 w:World} {Q:List (Nat × Obj)} {b n c:Nat} {A:Option Addr} {l:Bt} (h:gO w0 Q b l w) (hy:w.cell? ⟨b,0,none⟩=some (.slice A n c)):w.ownsRow w0.heap.size 5 1 (.slice A l.length c) l.length (i7 l):=by
 obtain ⟨A',c',r,o,_⟩:=h.ex;have e:=r.cell (j:=0) rfl;rw [hy] at e
 injection e with e
 injection e with e1 _ e2
 subst e1;subst e2;exact o
theorem i9 {fn:Func} {a u:Tmp} {t s:TypeId} (h:fn.results=#[.cell a t,.cell u s]) (tmps:Array Value) {P:Program} {w:World} {p q:Addr} {v x:Value} (ha:tmps.getD a undef=.pointer (some p)) (hu:tmps.getD u undef=.pointer (some q)) (hl:(loadVar t p).run P w=.ok v w) (hm:(loadVar s q).run P w=.ok x w) :
  (results fn tmps).run P w=.ok (.tuple #[v,x]) w:=by
 rw [Array.getD_eq_getD_getElem?] at ha hu;simp [results,h,ha,hu,asAddr,hl,hm]
theorem iY {V:World} {q:Nat} {k:Int} (h:ai V q [.int .i64 k]):(loadVar 46 ⟨q,0,none⟩).run Tryz.prog V=.ok (.int .i64 k) V:=by
 have y0:=h.cell (j:=0) rfl;simp [go_sem,y0]
theorem DU {V:World} {q:Nat} {A:Option Addr} {n c:Nat} (h:ai V q [.slice A n c]):(loadVar 84 ⟨q,0,none⟩).run Tryz.prog V=.ok (.slice A n c) V:=by
 have y0:=h.cell (j:=0) rfl;simp [go_sem,y0]
theorem Gm (p q:Nat) (u:FrameMode) (w:World) (rq:ai w q [.int .i64 0]) :
  CallsD Tryz.prog 88 #[.pointer (some ⟨q,0,none⟩),.pointer (some ⟨p,0,none⟩)] u w fun e u' w'=>u'=u∧e=.returned (.tuple #[])∧w'=w:=by
 have y0:=rq.cell (j:=0) rfl;clear rq
 go_enter_d Tryz.func88,Tryz.ntmps88
 go_wp2
 go_end0
 exact ⟨rfl,rfl⟩
theorem Gn {tmps:Array Value} {R:Ending→World→Prop} {p q:Nat} {A:Option Addr} {n c:Nat} {V:World} (h4:tmps.getD 4 undef=.pointer (some ⟨p,0,none⟩)) (h5:tmps.getD 5 undef=.pointer (some ⟨q,0,none⟩)) (rp:ai V p [.slice A n c]) (rq:ai V q [.int .i64 0])
  (hR:R (.returned (.tuple #[.slice A n c,.int .i64 0])) V) :
  Leaves Tryz.prog Tryz.f61 tmps R [{ target:=Target.fn (Fn.func 89) #[],args:=#[.pointer (some ⟨q,0,none⟩)] },{ target:=Target.fn (Fn.func 88) #[.pointer (some ⟨q,0,none⟩),.pointer (some ⟨p,0,none⟩)],args:=#[] }] .returning V:=by
 refine leaves_cons (f:=89) (args:=#[.pointer (some ⟨q,0,none⟩)]) (by simp) (by simp [go_sem]) ?_;refine (nJ ⟨q,0,none⟩ V).mono ?_;rintro e u' w1 ⟨rfl,rfl,rfl⟩;refine leaves_cons (f:=88) (args:=#[.pointer (some ⟨q,0,none⟩),.pointer (some ⟨p,0,none⟩)]) (by simp [settle]) (by simp [go_sem]) ?_;refine (Gm p q _ w1 rq).mono ?_;rintro e u' w2 ⟨rfl,rfl,rfl⟩;exact ⟨_,i9 rfl tmps h4 h5 (DU rp) (iY rq),hR⟩
theorem J6 (x:fo) (As:Option Addr) (cs:Nat) (At:Option Addr) (ct:Nat) (An:Option Addr) (cn:Nat) (Am:Option Addr) (cm:Nat) (Ag:Option Addr) (cg:Nat) (Ad:Option Addr) (cd:Nat) (Al:Option Addr) (cl:Nat) (w:World) (ok:j5 x) (h1:az w 2 eE As cs x.cat.aj.ae) (h2:az w 5 dE At ct x.cat.aj.tables) (h3:az w 1 dC An cn x.cat.ar.names) (h4:az w 2 fg Am cm x.cat.ar.members) (h5:az w 6 gy Ag cg x.cat.ah) (h6:az w 5 fj Ad cd x.aQ) (h7:az w 4 fq Al cl x.bp) (hl:(gP x).length≤90000000) :
  Calls Tryz.prog 61 #[.agg #[.int .i64 x.cat.av,.int .i64 x.cat.version,.slice As x.cat.aj.ae.length cs,.slice At x.cat.aj.tables.length ct,.slice An x.cat.ar.names.length cn,.slice Am x.cat.ar.members.length cm,.slice Ag x.cat.ah.length cg,.slice Ad x.aQ.length cd,.slice Al x.bp.length cl,.int .i64 x.last],.func (.func 62) #[] #[]] w (tk w (gP x)):=by
 have Ng:∀ (fn:Fn) (first cap:Array Value) (w:World),(Instr.makeFunc fn first cap).run Tryz.prog w=.ok (.func fn first cap) w:=fun _ _ _ _=>rfl
 obtain ⟨W,hW⟩:∃ W,W=((w.alloc (.cells #[.int .i64 x.cat.av,.int .i64 x.cat.version,.slice As x.cat.aj.ae.length cs,.slice At x.cat.aj.tables.length ct,.slice An x.cat.ar.names.length cn,.slice Am x.cat.ar.members.length cm,.slice Ag x.cat.ah.length cg,.slice Ad x.aQ.length cd,.slice Al x.bp.length cl,.int .i64 x.last] 36)).alloc (.cells #[.slice none 0 0] 84)).alloc (.cells #[.int .i64 0] 46):=⟨_,rfl⟩
 have aW:ag w W:=by rw [hW];exact (((ag.refl w).alloc _).alloc _).alloc _
 have zW:W.heap.size=w.heap.size+3:=by rw [hW];simp
 have r0:ai W w.heap.size [.int .i64 x.cat.av,.int .i64 x.cat.version,.slice As x.cat.aj.ae.length cs,.slice At x.cat.aj.tables.length ct,.slice An x.cat.ar.names.length cn,.slice Am x.cat.ar.members.length cm,.slice Ag x.cat.ah.length cg,.slice Ad x.aQ.length cd,.slice Al x.bp.length cl,.int .i64 x.last]:=by
  rw [hW];exact (aN (c:=[.int .i64 x.cat.av,.int .i64 x.cat.version,.slice As x.cat.aj.ae.length cs,.slice At x.cat.aj.tables.length ct,.slice An x.cat.ar.names.length cn,.slice Am x.cat.ar.members.length cm,.slice Ag x.cat.ah.length cg,.slice Ad x.aQ.length cd,.slice Al x.bp.length cl,.int .i64 x.last]) (t:=36) (((ag.refl _).alloc _).alloc _))
 have r1:ai W (w.heap.size+1) [.slice none 0 0]:=by
  rw [hW];have:=aN (w:=w.alloc (.cells #[.int .i64 x.cat.av,.int .i64 x.cat.version,.slice As x.cat.aj.ae.length cs,.slice At x.cat.aj.tables.length ct,.slice An x.cat.ar.names.length cn,.slice Am x.cat.ar.members.length cm,.slice Ag x.cat.ah.length cg,.slice Ad x.aQ.length cd,.slice Al x.bp.length cl,.int .i64 x.last] 36)) (c:=[.slice none 0 0]) (t:=84) ((ag.refl _).alloc (.cells #[.int .i64 0] 46))
  rwa [show (w.alloc (.cells #[.int .i64 x.cat.av,.int .i64 x.cat.version,.slice As x.cat.aj.ae.length cs,.slice At x.cat.aj.tables.length ct,.slice An x.cat.ar.names.length cn,.slice Am x.cat.ar.members.length cm,.slice Ag x.cat.ah.length cg,.slice Ad x.aQ.length cd,.slice Al x.bp.length cl,.int .i64 x.last] 36)).heap.size=w.heap.size+1 by simp] at this
 have r2:ai W (w.heap.size+1+1) [.int .i64 0]:=by
  rw [hW];have:=aN (w:=(w.alloc (.cells #[.int .i64 x.cat.av,.int .i64 x.cat.version,.slice As x.cat.aj.ae.length cs,.slice At x.cat.aj.tables.length ct,.slice An x.cat.ar.names.length cn,.slice Am x.cat.ar.members.length cm,.slice Ag x.cat.ah.length cg,.slice Ad x.aQ.length cd,.slice Al x.bp.length cl,.int .i64 x.last] 36)).alloc (.cells #[.slice none 0 0] 84)) (c:=[.int .i64 0]) (t:=46) (ag.refl _)
  rwa [show ((w.alloc (.cells #[.int .i64 x.cat.av,.int .i64 x.cat.version,.slice As x.cat.aj.ae.length cs,.slice At x.cat.aj.tables.length ct,.slice An x.cat.ar.names.length cn,.slice Am x.cat.ar.members.length cm,.slice Ag x.cat.ah.length cg,.slice Ad x.aQ.length cd,.slice Al x.bp.length cl,.int .i64 x.last] 36)).alloc (.cells #[.slice none 0 0] 84)).heap.size=w.heap.size+1+1 by simp] at this
 obtain ⟨V,hV⟩:∃ V,V=W.alloc (.cells #[.slice none 0 0] 129):=⟨_,rfl⟩
 have aV:ag W V:=by rw [hV];exact (ag.refl W).alloc _
 have hs0:gO W [] (w.heap.size+3) [] V:=by
  rw [hV,← zW];exact ⟨⟨none,0,aN (ag.refl _),World.ownsRow_nil _ _ _ _,by simp [Value.ownBlock],fun x hx=>by cases hx⟩,(ag.refl W).alloc _,Nat.le_refl _,fun x hx=>by cases hx⟩
 have HC:=gH (show Calls Tryz.prog 62 #[.pointer (some ⟨w.heap.size+3,0,none⟩),.agg #[.int .i64 x.cat.av,.int .i64 x.cat.version,.slice As x.cat.aj.ae.length cs,.slice At x.cat.aj.tables.length ct,.slice An x.cat.ar.names.length cn,.slice Am x.cat.ar.members.length cm,.slice Ag x.cat.ah.length cg,.slice Ad x.aQ.length cd,.slice Al x.bp.length cl,.int .i64 x.last]] V (qo W [] (w.heap.size+3) (gP x)) from SA W [] _ [] x As cs At ct An cn Am cm Ag cg Ad cd Al cl V hs0 ok (h1.aA aW fun _ _ h=>h) (h2.aA aW fun _ _ h=>dE.aA aW h) (h3.aA aW fun _ _ h=>h) (h4.aA aW fun _ _ h=>h) (h5.aA aW fun _ _ h=>h) (h6.aA aW fun _ _ h=>h) (h7.aA aW fun _ _ h=>h) (by simpa using hl));have R0:=r0.aA aV;obtain ⟨c0,c1,c2,c3,c4,c5,c6,c7,c8,c9⟩:=Cq R0;have cb:=R0.1;have HR:=gH (And.intro r1 (And.intro r2 (And.intro aW zW)));clear aV hs0 r0 r1 r2 R0 aW ok h1 h2 h3 h4 h5 h6 h7
 go_enter_defers Tryz.func61,Tryz.ntmps61
 go_upto_region 1 with fail
 rw [← hW];clear hW
 go_upto_region 4 with fail
 rw [← hV];clear hV
 go_wp2_with (first
  | (go_at_call 62;(with_reducible refine HC.out.mono ?_);rintro e w1 ⟨rfl,h⟩;obtain ⟨A,c,y0,-,yb,-⟩:=h.read (by omega);have a1:=h.aA;have p1:=HR.out.1.aA a1;have p2:=HR.out.2.1.aA a1;have f1:=p1.2.2 0 (by simp);have f2:=p2.2.2 0 (by simp);have b1:=p1.1;have b2:=p2.1;have q1:=p1.cell (j:=0) rfl;have q2:=p2.cell (j:=0) rfl;have H1:=gH (And.intro (h.own y0) (And.intro a1 (And.intro p1 p2)));clear h a1 p1 p2))
 obtain ⟨o,a1,p1,p2⟩:=H1.out;obtain ⟨-,-,aW,zW⟩:=HR.out;have k1:=Kb.set w1 (w.heap.size+1) 0 (.slice A (gP x).length c);have k2:=Kb.set (w1.setCell ⟨w.heap.size+1,0,none⟩ (.slice A (gP x).length c)) (w.heap.size+1+1) 0 (.int .i64 0);refine Gn rfl rfl (k2.row (p1.set 0 _ (by simp)) (by omega)) ((k1.row p2 (by omega)).set 0 _ (by simp)) ?_;obtain ⟨g,c',e,hg,_,_⟩:=bU o (by simp only [gP,oI,bF,List.length_append,fk];omega)
 injection e with e _ e'
 subst e;subst e';have og:=o.lt g rfl
 exact ⟨k2.aJ (k1.aJ (aW.trans a1) (fun j hj e=>by omega)) (fun j hj e=>by omega),g,c,rfl,bM (br (br o k1 (fun j hj e=>by
  have:g=j:=by simpa [Value.ownBlock] using hj
  omega)) k2 (fun j hj e=>by
  have:g=j:=by simpa [Value.ownBlock] using hj
  omega)) (by omega)⟩
theorem tq (q:Nat) (x:Value) (w:World) (rq:ai w q [x]) :
  CallsD Tryz.prog 89 #[.pointer (some ⟨q,0,none⟩)] (.panicking [{ v:=.iface 209 (.agg #[.int .i64 11]),recovered:=false }]) w fun e u' w' =>
   e=.returned (.tuple #[])∧u'=.panicking [{ v:=.iface 209 (.agg #[.int .i64 11]),recovered:=true }]∧Kb (fun g=>g=q) w w'∧ai w' q [.int .i64 11]:=by
 refine callsD_of_wpS Tryz.func89 rfl fun Gl cs hu=>?_
 apply wpS_seq;apply wpS_region;simp [wpOpsS,go_sem,recoverD,hu,Tryz.ntmps89,Exit.thenS];have e:(#[Value.pointer (some ⟨q,0,none⟩)]++((Array.replicate 10 undef).setIfInBounds 2 (Value.iface 209 (Value.agg #[.int .i64 11]))).setIfInBounds 1 (Value.iface 209 (Value.agg #[.int .i64 11])))=#[Value.pointer (some ⟨q,0,none⟩),undef,Value.iface 209 (Value.agg #[.int .i64 11]),Value.iface 209 (Value.agg #[.int .i64 11]),undef,undef,undef,undef,undef,undef,undef]:=rfl;rw [e];clear e;have HQ:=gH rq;have y0:=rq.cell (j:=0) rfl;have g0:=rq.2.2 0 (by simp);have yz:=rq.1;clear rq
 have Q1:∀ V:World,(Instr.field 209 (.agg #[.int .i64 11]) 0).run Tryz.prog V=.ok (.int .i64 11) V:=fun _=>by kernel_rfl
 have hta:∀ V:World,(Instr.typeAssert (Value.iface 209 (Value.agg #[.int .i64 11])) 20 209 false).run Tryz.prog V=.ok (.agg #[.int .i64 11]) V:=fun V=>by first | rfl | kernel_rfl
 refine wpS_of_wp ?_;go_wp2_with fail;refine ⟨rfl,_,rfl,.tuple #[],?_,rfl,rfl,Kb.set _ _ _ _ |>.mono (fun g _ e=>e),?_⟩
 ·exact results_none rfl _ _ _
 ·exact HQ.out.set 0 _ (by simp)
def WL {α:Type} (R:World→List Value→α→Prop) (zs:List Value) (w:World) (o:Option (α × Bt)) (e:Ending) (w':World):Prop:=ag w w'∧match o with
 | some (x,[])=>∃ (S:Nat→Prop) (cs:List Value),(∀ j,S j→w.heap.size≤j)∧e=.returned (.tuple #[.agg cs.toArray,.int .i64 0])∧fN S R w' cs x
 | _=>e=.returned (.tuple #[.agg zs.toArray,.int .i64 11])
theorem SB (c:Bool) (hc:c=false) (w:World):Calls Tryz.prog 98 #[.bool c] w fun e w'=>e=dM∧w=w':=by
 subst hc;exact fW w
theorem Oq {w W w1:World} {q2 g2:Nat} {l:Bt} {A:Option Addr} {c:Nat} (aW:ag w W) (hx:az w 1 vt A c l) (a2:ag W w1) (k1:W.heap.size≤q2) (k2:W.heap.size≤g2) (c2:oJ w1 q2 g2 l) (t:TypeId) :
  gj w (fun j=>j < W.heap.size) w1.heap.size l (w1.alloc (.cells #[.pointer (some ⟨q2,0,none⟩),.slice A l.length c] t)):=by
 have a3:=(ag.refl w1).alloc (.cells #[.pointer (some ⟨q2,0,none⟩),.slice A l.length c] t);obtain ⟨_,_,rq,_,_,hg⟩:=c2.ex;have hq:=rq.1;have z1:=aW.size;have z2:=a2.size;exact ⟨⟨q2,g2,A,c,l,aN (c:=[.pointer (some ⟨q2,0,none⟩),.slice A l.length c]) (ag.refl _),hx,c2.kb (P:=fun _=>False) (Kb.aO a3) id id,⟨[],rfl⟩,by omega,by omega,by omega,by omega,by omega,by omega,c2.len⟩,by omega,(aW.trans a2).trans a3,by omega,fun j e=>by have:=a3.size;omega⟩
def cY:List Value:=[.int .i64 0,.int .i64 0,.slice none 0 0,.slice none 0 0,.slice none 0 0,.slice none 0 0,.slice none 0 0,.slice none 0 0,.slice none 0 0,.int .i64 0]
theorem DV (p q:Nat) (k:Int) (xs:List Value) (hk:k≠0) (u:FrameMode) (w:World) (rp:ai w p xs) (hl:xs.length=10) (rq:ai w q [.int .i64 k]) (Nh:p≠q) :
  CallsD Tryz.prog 96 #[.pointer (some ⟨q,0,none⟩),.pointer (some ⟨p,0,none⟩)] u w fun e u' w' =>
   u'=u∧e=.returned (.tuple #[])∧w'=(w.alloc (.cells cY.toArray 36)).setCells p 0 cY:=by
 have y0:=rq.cell (j:=0) rfl;have hst:(mr ⟨p,0,none⟩ (.agg cY.toArray)).run Tryz.prog (w.alloc (.cells cY.toArray 36))=.ok () ((w.alloc (.cells cY.toArray 36)).setCells p 0 cY):=ju (T:=36) (k:=10) (vs:=cY) (by kernel_rfl) (rp.aA ((ag.refl w).alloc _)) hl rfl (by simp [cY,Value.oneCell'])
 have hne:(k != 0)=true:=by simpa using hk
 unfold cY at hst;clear rq rp
 go_enter_d Tryz.func96,Tryz.ntmps96
 go_wp2
 go_end0
 exact ⟨rfl,rfl⟩
theorem DW (p q:Nat) (u:FrameMode) (w:World) (rq:ai w q [.int .i64 0]) :
  CallsD Tryz.prog 96 #[.pointer (some ⟨q,0,none⟩),.pointer (some ⟨p,0,none⟩)] u w fun e u' w'=>u'=u∧e=.returned (.tuple #[])∧w'=w:=by
 have y0:=rq.cell (j:=0) rfl;clear rq
 go_enter_d Tryz.func96,Tryz.ntmps96
 go_wp2
 go_end0
 exact ⟨rfl,rfl⟩
theorem DX {tmps:Array Value} {R:Ending→World→Prop} {p q:Nat} {cs:List Value} {V:World} (h4:tmps.getD 4 undef=.pointer (some ⟨p,0,none⟩)) (h5:tmps.getD 5 undef=.pointer (some ⟨q,0,none⟩)) (rp:ai V p cs) (hl:cs.length=10) (rq:ai V q [.int .i64 0])
  (hR:R (.returned (.tuple #[.agg cs.toArray,.int .i64 0])) V) :
  Leaves Tryz.prog Tryz.f63 tmps R [{ target:=Target.fn (Fn.func 89) #[],args:=#[.pointer (some ⟨q,0,none⟩)] },{ target:=Target.fn (Fn.func 96) #[.pointer (some ⟨q,0,none⟩),.pointer (some ⟨p,0,none⟩)],args:=#[] }] .returning V:=by
 refine leaves_cons (f:=89) (args:=#[.pointer (some ⟨q,0,none⟩)]) (by simp) (by simp [go_sem]) ?_;refine (nJ ⟨q,0,none⟩ V).mono ?_;rintro e u' w1 ⟨rfl,rfl,rfl⟩;refine leaves_cons (f:=96) (args:=#[.pointer (some ⟨q,0,none⟩),.pointer (some ⟨p,0,none⟩)]) (by simp [settle]) (by simp [go_sem]) ?_;refine (DW p q _ w1 rq).mono ?_;rintro e u' w2 ⟨rfl,rfl,rfl⟩;exact ⟨_,i9 rfl tmps h4 h5 (gA Tryz.underlying36 (by kernel_rfl) rp hl) (iY rq),hR⟩
theorem tR {tmps:Array Value} {R:Ending→World→Prop} {p q:Nat} {xs:List Value} {x:Value} {V:World} (h4:tmps.getD 4 undef=.pointer (some ⟨p,0,none⟩)) (h5:tmps.getD 5 undef=.pointer (some ⟨q,0,none⟩)) (rp:ai V p xs) (hl:xs.length=10) (rq:ai V q [x]) (Nh:p≠q)
  (hR:∀ w',Kb (fun g=>g=p∨g=q) V w'→R (.returned (.tuple #[.agg cY.toArray,.int .i64 11])) w') :
  Leaves Tryz.prog Tryz.f63 tmps R [{ target:=Target.fn (Fn.func 89) #[],args:=#[.pointer (some ⟨q,0,none⟩)] },{ target:=Target.fn (Fn.func 96) #[.pointer (some ⟨q,0,none⟩),.pointer (some ⟨p,0,none⟩)],args:=#[] }] (.panicking [{ v:=.iface 209 (.agg #[.int .i64 11]),recovered:=false }]) V:=by
 refine leaves_cons (f:=89) (args:=#[.pointer (some ⟨q,0,none⟩)]) (by simp) (by simp [go_sem]) ?_;refine (tq q x V rq).mono ?_;rintro e u' w1 ⟨rfl,rfl,kb,r1⟩;have Zu:=kb.row rp Nh;refine leaves_cons (f:=96) (args:=#[.pointer (some ⟨q,0,none⟩),.pointer (some ⟨p,0,none⟩)]) (by simp [settle]) (by simp [go_sem]) ?_;refine (DV p q 11 xs (by decide) _ w1 Zu hl r1 Nh).mono ?_;rintro e u' w2 ⟨rfl,rfl,rfl⟩;have a1:=(ag.refl w1).alloc (.cells cY.toArray 36);have k2:=cF p cY (w1.alloc (.cells cY.toArray 36)) 0
 have r2:ai ((w1.alloc (.cells cY.toArray 36)).setCells p 0 cY) p cY:=by simpa using eB cY _ [] xs (Zu.aA a1) hl
 have r3:=k2.row (r1.aA a1) (fun e=>Nh e.symm);exact ⟨_,i9 rfl tmps h4 h5 (gA Tryz.underlying36 (by kernel_rfl) r2 rfl) (iY r3),hR _ (((kb.mono fun g _ e=>.inr e).trans (Kb.aO a1)).trans (k2.mono fun g _ e=>.inl e))⟩
theorem Ct {w W w1 w2:World} {b:Nat} {o:Obj} {A:Option Addr} {c:Nat} {l r:Bt} {x:fo} {d:Option (fo × Bt)} {e:Ending}
  (hb:ag w W∧W.heap.size=w.heap.size+2∧ai W w.heap.size cY∧ai W (w.heap.size+1) [.int .i64 0]∧az w 1 vt A c l) (a1:ag W w1) (q:dZ 10 dD w (fun j=>j < W.heap.size) b (w1.alloc o) d e w2) (hd:d=some (x,r)) :
  ∃ (S:Nat→Prop) (cs:List Value),e=.returned (.agg cs.toArray)∧(mr ⟨w.heap.size,0,none⟩ (.agg cs.toArray)).run Tryz.prog w2=.ok () (w2.setCells w.heap.size 0 cs)∧∃ q2,(w2.setCells w.heap.size 0 cs).cell? ⟨b,0,none⟩=some (.pointer (some ⟨q2,0,none⟩))∧b < (w2.setCells w.heap.size 0 cs).heap.size ∧
   (jv ⟨w.heap.size,0,none⟩).run Tryz.prog (w2.setCells w.heap.size 0 cs)=.ok (.agg cs.toArray) (w2.setCells w.heap.size 0 cs)∧(mr ⟨w.heap.size,0,none⟩ (.agg cs.toArray)).run Tryz.prog (w2.setCells w.heap.size 0 cs)=.ok () ((w2.setCells w.heap.size 0 cs).setCells w.heap.size 0 cs) ∧
   Calls Tryz.prog 99 #[.pointer (some ⟨q2,0,none⟩)] (w2.setCells w.heap.size 0 cs) (fun e w'=>e=.returned (.int .i64 r.length)∧(w2.setCells w.heap.size 0 cs)=w') ∧
   ag w (w2.setCells w.heap.size 0 cs)∧ai (w2.setCells w.heap.size 0 cs) w.heap.size cs∧ai (w2.setCells w.heap.size 0 cs) (w.heap.size+1) [.int .i64 0]∧ag w ((w2.setCells w.heap.size 0 cs).setCells w.heap.size 0 cs)∧ai ((w2.setCells w.heap.size 0 cs).setCells w.heap.size 0 cs) w.heap.size cs∧cs.length=10∧ai ((w2.setCells w.heap.size 0 cs).setCells w.heap.size 0 cs) (w.heap.size+1) [.int .i64 0]∧(∀ j,S j→W.heap.size≤j)∧fN S dD ((w2.setCells w.heap.size 0 cs).setCells w.heap.size 0 cs) cs x:=by
 obtain ⟨aW,zW,rp,rq,-⟩:=hb;subst hd;obtain ⟨k,S,cs,sn,d2,rfl,hl,h1,hs⟩:=q
 have a2:ag W w2:=k.aJ (a1.alloc o) fun k hk e=>e hk
 have k3:=cF w.heap.size cs w2 0;have k4:=cF w.heap.size cs (w2.setCells w.heap.size 0 cs) 0;have r2:=rp.aA a2
 have r3:ai (w2.setCells w.heap.size 0 cs) w.heap.size cs:=by simpa using eB cs w2 [] cY r2 (by rw [hl];rfl)
 have r4:ai ((w2.setCells w.heap.size 0 cs).setCells w.heap.size 0 cs) w.heap.size cs:=by simpa using eB cs _ [] cs r3 rfl
 have d3:=d2.step (Q':=fun j=>j < W.heap.size∨S j) (k3.mono fun j _ e=>⟨.inl (by omega),by omega⟩) fun j e=>.inl e
 obtain ⟨q2,g2,y0,yb,c3,-⟩:=d3.opn
 have hS:∀ j,S j→W.heap.size≤j:=by
  intro j e;have:=sn j e;have:=a1.size
  have:(w1.alloc o).heap.size=w1.heap.size+1:=by simp
  omega
 have VJ:ag w (w2.setCells w.heap.size 0 cs):=k3.aJ (aW.trans a2) fun j hj e=>by omega
 have q3:ai (w2.setCells w.heap.size 0 cs) (w.heap.size+1) [.int .i64 0]:=k3.row (rq.aA a2) (by omega)
 exact ⟨S,cs,rfl,ju (T:=36) (k:=10) (by kernel_rfl) r2 rfl hl h1,q2,y0,yb,gA (T:=36) Tryz.underlying36 (by kernel_rfl) r3 hl,ju (T:=36) (k:=10) (by kernel_rfl) r3 hl hl h1,xa q2 g2 r _ c3,
  VJ,r3,q3,k4.aJ VJ fun j hj e=>by omega,r4,hl,k4.row q3 (by omega),hS,hs.kb ((k3.mono fun j _ e e'=>by have:=hS j e';omega).trans (k4.mono fun j _ e e'=>by have:=hS j e';omega)) fun _ e=>e⟩
theorem J7 (l:Bt) (A:Option Addr) (c:Nat) (hl:l.length≤1000000000) (w:World) (hx:az w 1 vt A c l) :
  Calls Tryz.prog 63 #[.slice A l.length c,.func (.func 64) #[] #[]] w (WL dD cY w (mj l)):=by
 obtain ⟨W,hW⟩:∃ W,W=(w.alloc (.cells cY.toArray 36)).alloc (.cells #[.int .i64 0] 46):=⟨_,rfl⟩
 have aW:ag w W:=by rw [hW];exact ((ag.refl w).alloc _).alloc _
 have zW:W.heap.size=w.heap.size+2:=by rw [hW];simp
 have rp:ai W w.heap.size cY:=by rw [hW];exact aN ((ag.refl _).alloc _)
 have rq:ai W (w.heap.size+1) [.int .i64 0]:=by
  rw [hW];have:=aN (w:=w.alloc (.cells cY.toArray 36)) (c:=[.int .i64 0]) (t:=46) (ag.refl _)
  rwa [show (w.alloc (.cells cY.toArray 36)).heap.size=w.heap.size+1 by simp] at this
 have HN:=gH (vu l A c hl W (hx.aA aW fun _ _ h=>h));have HB:=gH (And.intro aW (And.intro zW (And.intro rp (And.intro rq hx))));have WM:=gH (show ∀ w1 q2 g2,ag W w1→W.heap.size≤q2→W.heap.size≤g2→oJ w1 q2 g2 l→Calls Tryz.prog 64 #[.pointer (some ⟨w1.heap.size,0,none⟩)] (w1.alloc (.cells #[.pointer (some ⟨q2,0,none⟩),.slice A l.length c] 141)) (dZ 10 dD w (fun j=>j < W.heap.size) w1.heap.size (w1.alloc (.cells #[.pointer (some ⟨q2,0,none⟩),.slice A l.length c] 141)) (mj l)) from fun w1 q2 g2 a2 k1 k2 c2=>SC w _ _ l _ (Oq aW hx a2 k1 k2 c2 _));clear aW zW rp rq hx
 delta cY at hW
 cases hd:mj l with
 | none =>
  have HD:=gH hd;clear hd
  go_enter_defers Tryz.func63,Tryz.ntmps63
  go_upto_region 1 with fail
  rw [← hW];clear hW
  go_wp2_with (first
   | (go_at_call 97;(with_reducible refine HN.out.mono ?_);rintro e w1 ⟨q2,g2,rfl,a2,k1,k2,c2⟩;have C1:=gH (WM.out w1 q2 g2 a2 k1 k2 c2);have A1:=gH a2;clear a2 k1 k2 c2)
   | (go_at_call 64;(with_reducible refine C1.out.mono ?_);rintro e w2 q;rcases q.cases with ⟨n,he,k⟩ | ⟨S1,cs1,x1,r1,n,-⟩;rotate_left;(exfalso;have:=HD.out;rw [this] at n;cases n);unfold dM at he;subst he;have K1:=gH k;clear q n k))
  obtain ⟨aW,zW,rp,rq,-⟩:=HB.out
  have a2:ag W w2:=K1.out.aJ (A1.out.alloc _) fun k hk e=>e hk
  refine tR rfl rfl (rp.aA a2) rfl (rq.aA a2) (by omega) fun w' kb=>?_
  exact ⟨kb.aJ (aW.trans a2) fun j hj e=>by omega,rfl⟩
 | some p =>
  obtain ⟨x,r⟩:=p;have HD:=gH hd;clear hd
  cases r with
  | nil =>
   go_enter_defers Tryz.func63,Tryz.ntmps63
   go_upto_region 1 with fail
   rw [← hW];clear hW
   go_wp2_with (first
    | (go_at_call 97;(with_reducible refine HN.out.mono ?_);rintro e w1 ⟨q2,g2,rfl,a2,k1,k2,c2⟩;have C1:=gH (WM.out w1 q2 g2 a2 k1 k2 c2);have A1:=gH a2;clear a2 k1 k2 c2)
    | (go_at_call 64;(with_reducible refine C1.out.mono ?_);rintro e w2 q;obtain ⟨S1,cs1,rfl,t1⟩:=Ct HB.out A1.out q HD.out;obtain ⟨s1,q3,y0,yb,y1,s2,t2⟩:=t1;have q4:=t2.2.2.2.2.2.2.2.1;have z0:=q4.cell (j:=0) rfl;have z1:=q4.2.2 0 (by simp);have z2:=q4.1;clear q4;have T2:=gH t2;clear t2 q)
    | (go_at_call 99;(with_reducible refine T2.out.1.mono ?_);rintro e w3 ⟨rfl,rfl⟩)
    | (go_at_call 98;(with_reducible refine (fX _).mono ?_);rintro e w3 ⟨rfl,rfl⟩))
   obtain ⟨-,-,-,-,VK,r4,hl4,q4,hS,hh⟩:=T2.out;obtain ⟨aW,zW,-⟩:=HB.out;have k5:=Kb.set ((w2.setCells w.heap.size 0 cs1).setCells w.heap.size 0 cs1) (w.heap.size+1) 0 (.int .i64 0);refine DX (p:=w.heap.size) (q:=w.heap.size+1) (by rfl) (by rfl) (k5.row r4 (by omega)) hl4 (q4.set 0 _ (by simp)) ?_;exact ⟨k5.aJ VK fun j hj e=>by omega,S1,cs1,fun j e=>by have:=hS j e;omega,rfl,hh.kb (k5.mono fun j _ e e'=>by have:=hS j e';omega) fun _ e=>e⟩
  | cons x9 r9 =>
   go_enter_defers Tryz.func63,Tryz.ntmps63
   go_upto_region 1 with fail
   rw [← hW];clear hW
   go_wp2_with (first
    | (go_at_call 97;(with_reducible refine HN.out.mono ?_);rintro e w1 ⟨q2,g2,rfl,a2,k1,k2,c2⟩;have C1:=gH (WM.out w1 q2 g2 a2 k1 k2 c2);have A1:=gH a2;clear a2 k1 k2 c2)
    | (go_at_call 64;(with_reducible refine C1.out.mono ?_);rintro e w2 q;obtain ⟨S1,cs1,rfl,t1⟩:=Ct HB.out A1.out q HD.out;obtain ⟨s1,q3,y0,yb,y1,s2,t2⟩:=t1;have T2:=gH t2;clear t2 q)
    | (go_at_call 99;(with_reducible refine T2.out.1.mono ?_);rintro e w3 ⟨rfl,rfl⟩)
    | (go_at_call 98;(with_reducible refine (SB _ (by first | rfl | (simp;done) | (simp;omega)) _).mono ?_);rintro e w3 ⟨he,rfl⟩;unfold dM at he;subst he))
   obtain ⟨-,VJ,r3,q3,-,-,hl4,-⟩:=T2.out
   refine tR (p:=w.heap.size) (q:=w.heap.size+1) (by rfl) (by rfl) r3 hl4 q3 (by omega) fun w' kb=>?_
   exact ⟨kb.aJ VJ fun j hj e=>by omega,rfl⟩
end Go.Proofs.YtakddkhipelmjaaGreat
