import Derived.Recover
import Derived.Defers
import Derived.Deep.Cut
import Derived.Test.YtakddkhipelmjaaGreatPartF10
set_option maxRecDepth 100000
set_option linter.unusedVariables false
set_option maxHeartbeats 64000000
namespace Go.Proofs.YtakddkhipelmjaaGreat
open Go.Deep Go.RowKit
theorem ut {w0 w:World} {Q:List (Nat × Obj)} {b:Nat} {l:Bt} (h:iu w0 Q b l w) (cs:List Value) (t:TypeId):iu w0 ((w.heap.size,.cells cs.toArray t)::Q) b l (w.alloc (.cells cs.toArray t))∧(∀ l' V,iu w0 ((w.heap.size,.cells cs.toArray t)::Q) b l' V→au V w.heap.size cs)∧True :=
 ⟨h.push _,fun l' V h=>h.same List.mem_cons_self,trivial⟩
theorem jp {α:Type} (e:α→Bt) (L:List α) (k:Nat) (hk:k < L.length):((L.take k).flatMap e).length+(e L[k]).length≤(L.flatMap e).length:=by
 have h:L.flatMap e=(L.take k).flatMap e++(e L[k]++(L.drop (k+1)).flatMap e):=by
  conv=>lhs;rw [← List.take_append_drop k L,List.flatMap_append,List.drop_eq_getElem_cons hk,List.flatMap_cons]
 rw [h,List.length_append,List.length_append];omega
theorem LM {w:World} {A:Option Addr} {cap:Nat} {l:List dP} (h:aA w 2 fw A cap l) {k:Nat} (hk:k < l.length) :
  ∃ b off,A=some ⟨b,off,none⟩∧b < w.heap.size∧w.cell? ⟨b,off+k*2,none⟩=some (.string l[k].role)∧w.cell? ⟨b,off+k*2+1,none⟩=some (.string l[k].of)∧True:=by
 obtain ⟨b,off,cs,hA,hb,hl,⟨rfl,_⟩,hc⟩:=h.2.2 k hk;exact ⟨b,off,hA,hb,by simpa using hc 0 (by omega),by simpa [Nat.add_assoc] using hc 1 (by omega),trivial⟩
theorem OV (w0:World) (Q:List (Nat × Obj)) (b:Nat) (l:Bt) (L:List ByteArray) (A:Option Addr) (cap:Nat) (w:World) (h:iu w0 Q b l w) (hx:aA w0 1 dg A cap L) (ok:uk qM L) (hl:l.length+(cG cC L).length≤90000000) :
  Calls Tryz.prog 158 #[.pointer (some ⟨b,0,none⟩),.slice A L.length cap,.func (.func 159) #[] #[]] w (rT w0 Q b (l++cG cC L)):=by
 have hlen:=ok.1
 have g1:¬ (4096:Int) < (L.length:Int):=by omega
 have hz:∀ k (hk:k < L.length),l.length+(bO (L.length:Int)).length+((L.take k).flatMap cC).length+(cC L[k]).length≤90000000:=fun k hk=>by
  have:=jp cC L k hk;unfold cG at hl;rw [List.length_append] at hl;omega
 have HN:=gH (w_num w0 Q b l L.length w h ⟨by omega,by omega⟩ (by omega));have HE:=gH (show cG cC L=bO (L.length:Int)++L.flatMap cC from rfl);clear h
 go_in
 go_wp2_with (first
  | (go_at_call 95;(with_reducible refine HN.out.mono ?_);rintro e w1 ⟨rfl,h⟩;have H1:=gH h;clear h))
 go_loopw [19] (fun i wr=>∃ k:Nat,k≤L.length∧i=.int .i64 k∧Hid (iu w0 Q b (l++bO (L.length:Int)++(L.take k).flatMap cC) wr)) (fun i _=>L.length - (intOf i).toNat)
 case atStart=>exact ⟨0,Nat.zero_le _,rfl,gH (by simpa using H1.out)⟩
 case round =>
  obtain ⟨k,hk,rfl,HR⟩:=hrel;by_cases hlt:k < L.length
  ·have fj:(k:Int) < (L.length:Int):=by omega
   have a0:=HR.out.aH;have hz':=hz k hlt;obtain ⟨g,off,rfl,hb,c0,hsm⟩:=er hx hlt;have c0:=a0.cell_kept c0;have hb:=Nat.lt_of_lt_of_le hb a0.size;have HC:=gH (iU w0 Q b _ L[k] _ HR.out (ok.2 _ (List.getElem_mem hlt)) (by (try simp only [List.length_append]);omega));have HX:=gH (show l++bO (L.length:Int)++(L.take k).flatMap cC++cC L[k]=l++bO (L.length:Int)++(L.take (k+1)).flatMap cC from by rw [List.take_succ_eq_append_getElem hlt,List.flatMap_append,← List.append_assoc];simp);generalize L[k]=x at c0 HC HX;clear hz' a0 hsm
   go_wp2_with (first
    | (go_at_call 159;(with_reducible refine HC.out.mono ?_);rintro e w2 ⟨rfl,h⟩;have H2:=gH h;clear h))
   refine ⟨⟨k+1,by omega,by go_num,gH (by rw [← HX.out];exact H2.out)⟩,?_⟩;simp [intOf];omega
  ·have fj:¬ (k:Int) < (L.length:Int):=by omega
   go_wp2
   go_end0
   have e:k=L.length:=by omega
   have H:=HR.out;rw [e,List.take_length,List.append_assoc] at H;exact ⟨rfl,H⟩
theorem UC (w0:World) (Q:List (Nat × Obj)) (b:Nat) (l:Bt) (x:eB) (w:World) (h:iu w0 Q b l w) (ok:D8 x) (hl:l.length+(lD x).length≤90000000) :
  Calls Tryz.prog 231 #[.pointer (some ⟨b,0,none⟩),.agg #[.string x.name,.int .i64 x.kind,.bool x.null]] w (rT w0 Q b (l++lD x)):=by
 simp only [lD,List.length_append] at hl;obtain ⟨h0,hm,he⟩:=ut h [.string x.name,.int .i64 x.kind,.bool x.null] 169;have H0:=gH h0;have HM:=gH hm;have gl:=gH ok;have kU:=gH (show (l).length≤90000000 from by (try simp only [List.length_append]);omega);have ki:=gH (show (l++cC x.name).length≤90000000 from by (try simp only [List.length_append]);omega);have kP:=gH (show (l++cC x.name++bO x.kind).length≤90000000 from by (try simp only [List.length_append]);omega);clear h h0 hm he ok
 go_in
 go_wp2_with (first
  | (go_at_call 159;(with_reducible refine (iU w0 _ b _ x.name _ H0.out gl.out.n kU.out).mono ?_);rintro e w1 ⟨rfl,h⟩;have r:=HM.out _ _ h;have yb:=r.1;have yu:=r.cell (j:=1) rfl;clear r;have H1:=gH h;clear h)
  | (go_at_call 95;(with_reducible refine (w_num w0 _ b _ x.kind _ H1.out gl.out.k ki.out).mono ?_);rintro e w2 ⟨rfl,h⟩;have r:=HM.out _ _ h;have yb:=r.1;have Fp:=r.cell (j:=2) rfl;clear r;have H2:=gH h;clear h)
  | (go_at_call 235;(with_reducible refine (OU w0 _ b _ x.null _ H2.out kP.out).mono ?_);rintro e w3 ⟨rfl,h⟩;have H3:=gH h;clear h))
 go_end0
 have H:=H3.out.pop;simp only [List.append_assoc] at H;exact ⟨rfl,H⟩
theorem UD (w0:World) (Q:List (Nat × Obj)) (b:Nat) (l:Bt) (L:List eB) (A:Option Addr) (cap:Nat) (w:World) (h:iu w0 Q b l w) (hx:aA w0 3 fG A cap L) (ok:uk D8 L) (hl:l.length+(cG lD L).length≤90000000) :
  Calls Tryz.prog 230 #[.pointer (some ⟨b,0,none⟩),.slice A L.length cap,.func (.func 231) #[] #[]] w (rT w0 Q b (l++cG lD L)):=by
 have hlen:=ok.1
 have g1:¬ (4096:Int) < (L.length:Int):=by omega
 have hz:∀ k (hk:k < L.length),l.length+(bO (L.length:Int)).length+((L.take k).flatMap lD).length+(lD L[k]).length≤90000000:=fun k hk=>by
  have:=jp lD L k hk;unfold cG at hl;rw [List.length_append] at hl;omega
 have HN:=gH (w_num w0 Q b l L.length w h ⟨by omega,by omega⟩ (by omega));have HE:=gH (show cG lD L=bO (L.length:Int)++L.flatMap lD from rfl);clear h
 go_in
 go_wp2_with (first
  | (go_at_call 95;(with_reducible refine HN.out.mono ?_);rintro e w1 ⟨rfl,h⟩;have H1:=gH h;clear h))
 go_loopw [19] (fun i wr=>∃ k:Nat,k≤L.length∧i=.int .i64 k∧Hid (iu w0 Q b (l++bO (L.length:Int)++(L.take k).flatMap lD) wr)) (fun i _=>L.length - (intOf i).toNat)
 case atStart=>exact ⟨0,Nat.zero_le _,rfl,gH (by simpa using H1.out)⟩
 case round =>
  obtain ⟨k,hk,rfl,HR⟩:=hrel;by_cases hlt:k < L.length
  ·have fj:(k:Int) < (L.length:Int):=by omega
   have a0:=HR.out.aH;have hz':=hz k hlt;obtain ⟨g,off,rfl,hb,c0,c1,c2,hsm⟩:=ky hx hlt;have c0:=a0.cell_kept c0;have c1:=a0.cell_kept c1;have c2:=a0.cell_kept c2;have hb:=Nat.lt_of_lt_of_le hb a0.size;have HC:=gH (UC w0 Q b _ L[k] _ (HR.out.trans ((ag.refl wr).alloc (.cells #[.string L[k].name,.int .i64 L[k].kind,.bool L[k].null] 169))) (ok.2 _ (List.getElem_mem hlt)) (by (try simp only [List.length_append]);omega));have HX:=gH (show l++bO (L.length:Int)++(L.take k).flatMap lD++lD L[k]=l++bO (L.length:Int)++(L.take (k+1)).flatMap lD from by rw [List.take_succ_eq_append_getElem hlt,List.flatMap_append,← List.append_assoc];simp);generalize L[k]=x at c0 c1 c2 HC HX;clear hz' a0 hsm
   go_wp2_with (first
    | (go_at_call 231;(with_reducible refine HC.out.mono ?_);rintro e w2 ⟨rfl,h⟩;have H2:=gH h;clear h))
   refine ⟨⟨k+1,by omega,by go_num,gH (by rw [← HX.out];exact H2.out)⟩,?_⟩;simp [intOf];omega
  ·have fj:¬ (k:Int) < (L.length:Int):=by omega
   go_wp2
   go_end0
   have e:k=L.length:=by omega
   have H:=HR.out;rw [e,List.take_length,List.append_assoc] at H;exact ⟨rfl,H⟩
theorem UE (w0:World) (Q:List (Nat × Obj)) (b:Nat) (l:Bt) (x:fF) (A:Option Addr) (c:Nat) (w:World) (h:iu w0 Q b l w) (ok:D9 x) (hc:aA w0 1 dg A c x.av) (hl:l.length+(ml x).length≤90000000) :
  Calls Tryz.prog 233 #[.pointer (some ⟨b,0,none⟩),.agg #[.string x.name,.int .i64 x.kind,.slice A x.av.length c,.int .i64 x.low,.int .i64 x.high,.string x.ac,.string x.table,.string x.key]] w (rT w0 Q b (l++ml x)):=by
 simp only [ml,List.length_append] at hl;obtain ⟨h0,hm,he⟩:=ut h [.string x.name,.int .i64 x.kind,.slice A x.av.length c,.int .i64 x.low,.int .i64 x.high,.string x.ac,.string x.table,.string x.key] 42;have H0:=gH h0;have HM:=gH hm;have gl:=gH ok;have YI:=gH hc;have kU:=gH (show (l).length≤90000000 from by (try simp only [List.length_append]);omega);have ki:=gH (show (l++cC x.name).length≤90000000 from by (try simp only [List.length_append]);omega);have kP:=gH (show (l++cC x.name++bO x.kind).length+(cG cC x.av).length≤90000000 from by (try simp only [List.length_append]);omega);have Bp:=gH (show (l++cC x.name++bO x.kind++cG cC x.av).length≤90000000 from by (try simp only [List.length_append]);omega);have Io:=gH (show (l++cC x.name++bO x.kind++cG cC x.av++mj x.low).length≤90000000 from by (try simp only [List.length_append]);omega);have UF:=gH (show (l++cC x.name++bO x.kind++cG cC x.av++mj x.low++mj x.high).length≤90000000 from by (try simp only [List.length_append]);omega);have YJ:=gH (show (l++cC x.name++bO x.kind++cG cC x.av++mj x.low++mj x.high++cC x.ac).length≤90000000 from by (try simp only [List.length_append]);omega);have HZ7:=gH (show (l++cC x.name++bO x.kind++cG cC x.av++mj x.low++mj x.high++cC x.ac++cC x.table).length≤90000000 from by (try simp only [List.length_append]);omega);clear h h0 hm he ok hc
 go_in
 go_wp2_with (first
  | (go_at_call 159;(with_reducible refine (iU w0 _ b _ x.name _ H0.out gl.out.n kU.out).mono ?_);rintro e w1 ⟨rfl,h⟩;have r:=HM.out _ _ h;have yb:=r.1;have yu:=r.cell (j:=1) rfl;clear r;have H1:=gH h;clear h)
  | (go_at_call 95;(with_reducible refine (w_num w0 _ b _ x.kind _ H1.out gl.out.k ki.out).mono ?_);rintro e w2 ⟨rfl,h⟩;have r:=HM.out _ _ h;have yb:=r.1;have Fp:=r.cell (j:=2) rfl;clear r;have H2:=gH h;clear h)
  | (go_at_call 158;(with_reducible refine (OV w0 _ b _ x.av A c _ H2.out YI.out gl.out.c kP.out).mono ?_);rintro e w3 ⟨rfl,h⟩;have r:=HM.out _ _ h;have yb:=r.1;have Ip:=r.cell (j:=3) rfl;clear r;have H3:=gH h;clear h)
  | (go_at_call 322;(with_reducible refine (OQ w0 _ b _ x.low _ H3.out gl.out.a Bp.out).mono ?_);rintro e w4 ⟨rfl,h⟩;have r:=HM.out _ _ h;have yb:=r.1;have LN:=r.cell (j:=4) rfl;clear r;have H4:=gH h;clear h)
  | (go_at_call 322;(with_reducible refine (OQ w0 _ b _ x.high _ H4.out gl.out.b Io.out).mono ?_);rintro e w5 ⟨rfl,h⟩;have r:=HM.out _ _ h;have yb:=r.1;have UG:=r.cell (j:=5) rfl;clear r;have H5:=gH h;clear h)
  | (go_at_call 159;(with_reducible refine (iU w0 _ b _ x.ac _ H5.out gl.out.s UF.out).mono ?_);rintro e w6 ⟨rfl,h⟩;have r:=HM.out _ _ h;have yb:=r.1;have YK:=r.cell (j:=6) rfl;clear r;have H6:=gH h;clear h)
  | (go_at_call 159;(with_reducible refine (iU w0 _ b _ x.table _ H6.out gl.out.t YJ.out).mono ?_);rintro e w7 ⟨rfl,h⟩;have r:=HM.out _ _ h;have yb:=r.1;have aaN:=r.cell (j:=7) rfl;clear r;have H7:=gH h;clear h)
  | (go_at_call 159;(with_reducible refine (iU w0 _ b _ x.key _ H7.out gl.out.q HZ7.out).mono ?_);rintro e w8 ⟨rfl,h⟩;have H8:=gH h;clear h))
 go_end0
 have H:=H8.out.pop;simp only [List.append_assoc] at H;exact ⟨rfl,H⟩
theorem UH (w0:World) (Q:List (Nat × Obj)) (b:Nat) (l:Bt) (L:List fF) (A:Option Addr) (cap:Nat) (w:World) (h:iu w0 Q b l w) (hx:aA w0 8 fc A cap L) (ok:uk D9 L) (hl:l.length+(cG ml L).length≤90000000) :
  Calls Tryz.prog 232 #[.pointer (some ⟨b,0,none⟩),.slice A L.length cap,.func (.func 233) #[] #[]] w (rT w0 Q b (l++cG ml L)):=by
 have hlen:=ok.1
 have g1:¬ (4096:Int) < (L.length:Int):=by omega
 have hz:∀ k (hk:k < L.length),l.length+(bO (L.length:Int)).length+((L.take k).flatMap ml).length+(ml L[k]).length≤90000000:=fun k hk=>by
  have:=jp ml L k hk;unfold cG at hl;rw [List.length_append] at hl;omega
 have HN:=gH (w_num w0 Q b l L.length w h ⟨by omega,by omega⟩ (by omega));have HE:=gH (show cG ml L=bO (L.length:Int)++L.flatMap ml from rfl);clear h
 go_in
 go_wp2_with (first
  | (go_at_call 95;(with_reducible refine HN.out.mono ?_);rintro e w1 ⟨rfl,h⟩;have H1:=gH h;clear h))
 go_loopw [19] (fun i wr=>∃ k:Nat,k≤L.length∧i=.int .i64 k∧Hid (iu w0 Q b (l++bO (L.length:Int)++(L.take k).flatMap ml) wr)) (fun i _=>L.length - (intOf i).toNat)
 case atStart=>exact ⟨0,Nat.zero_le _,rfl,gH (by simpa using H1.out)⟩
 case round =>
  obtain ⟨k,hk,rfl,HR⟩:=hrel;by_cases hlt:k < L.length
  ·have fj:(k:Int) < (L.length:Int):=by omega
   have a0:=HR.out.aH;have hz':=hz k hlt;obtain ⟨g,off,A0,UI,rfl,hb,c0,c1,c2,c3,c4,c5,c6,c7,hc,hsm⟩:=jC hx hlt;have c0:=a0.cell_kept c0;have c1:=a0.cell_kept c1;have c2:=a0.cell_kept c2;have c3:=a0.cell_kept c3;have c4:=a0.cell_kept c4;have c5:=a0.cell_kept c5;have c6:=a0.cell_kept c6;have c7:=a0.cell_kept c7;have hb:=Nat.lt_of_lt_of_le hb a0.size;have HC:=gH (UE w0 Q b _ L[k] A0 UI _ (HR.out.trans ((ag.refl wr).alloc (.cells #[.string L[k].name,.int .i64 L[k].kind,.slice A0 L[k].av.length UI,.int .i64 L[k].low,.int .i64 L[k].high,.string L[k].ac,.string L[k].table,.string L[k].key] 42))) (ok.2 _ (List.getElem_mem hlt)) hc (by (try simp only [List.length_append]);omega));have HX:=gH (show l++bO (L.length:Int)++(L.take k).flatMap ml++ml L[k]=l++bO (L.length:Int)++(L.take (k+1)).flatMap ml from by rw [List.take_succ_eq_append_getElem hlt,List.flatMap_append,← List.append_assoc];simp);generalize L[k]=x at c0 c1 c2 c3 c4 c5 c6 c7 HC HX;clear hz' hc a0 hsm
   go_wp2_with (first
    | (go_at_call 233;(with_reducible refine HC.out.mono ?_);rintro e w2 ⟨rfl,h⟩;have H2:=gH h;clear h))
   refine ⟨⟨k+1,by omega,by go_num,gH (by rw [← HX.out];exact H2.out)⟩,?_⟩;simp [intOf];omega
  ·have fj:¬ (k:Int) < (L.length:Int):=by omega
   go_wp2
   go_end0
   have e:k=L.length:=by omega
   have H:=HR.out;rw [e,List.take_length,List.append_assoc] at H;exact ⟨rfl,H⟩
theorem UJ (w0:World) (Q:List (Nat × Obj)) (b:Nat) (l:Bt) (x:cp) (A:Option Addr) (c:Nat) (A2:Option Addr) (c2:Nat) (w:World) (h:iu w0 Q b l w) (ok:Ea x) (hc:aA w0 3 fG A c x.av) (hr:aA w0 8 fc A2 c2 x.rules) (hl:l.length+(kA x).length≤90000000) :
  Calls Tryz.prog 157 #[.pointer (some ⟨b,0,none⟩),.agg #[.string x.ac,.string x.name,.string x.owner,.slice A x.av.length c,.slice A2 x.rules.length c2]] w (rT w0 Q b (l++kA x)):=by
 simp only [kA,List.length_append] at hl;obtain ⟨h0,hm,he⟩:=ut h [.string x.ac,.string x.name,.string x.owner,.slice A x.av.length c,.slice A2 x.rules.length c2] 80;have H0:=gH h0;have HM:=gH hm;have gl:=gH ok;have YI:=gH hc;have Shr:=gH hr;have kU:=gH (show (l).length≤90000000 from by (try simp only [List.length_append]);omega);have ki:=gH (show (l++cC x.ac).length≤90000000 from by (try simp only [List.length_append]);omega);have kP:=gH (show (l++cC x.ac++cC x.name).length≤90000000 from by (try simp only [List.length_append]);omega);have Bp:=gH (show (l++cC x.ac++cC x.name++cC x.owner).length+(cG lD x.av).length≤90000000 from by (try simp only [List.length_append]);omega);have Io:=gH (show (l++cC x.ac++cC x.name++cC x.owner++cG lD x.av).length+(cG ml x.rules).length≤90000000 from by (try simp only [List.length_append]);omega);clear h h0 hm he ok hc hr
 go_in
 go_wp2_with (first
  | (go_at_call 159;(with_reducible refine (iU w0 _ b _ x.ac _ H0.out gl.out.s kU.out).mono ?_);rintro e w1 ⟨rfl,h⟩;have r:=HM.out _ _ h;have yb:=r.1;have yu:=r.cell (j:=1) rfl;clear r;have H1:=gH h;clear h)
  | (go_at_call 159;(with_reducible refine (iU w0 _ b _ x.name _ H1.out gl.out.n ki.out).mono ?_);rintro e w2 ⟨rfl,h⟩;have r:=HM.out _ _ h;have yb:=r.1;have Fp:=r.cell (j:=2) rfl;clear r;have H2:=gH h;clear h)
  | (go_at_call 159;(with_reducible refine (iU w0 _ b _ x.owner _ H2.out gl.out.o kP.out).mono ?_);rintro e w3 ⟨rfl,h⟩;have r:=HM.out _ _ h;have yb:=r.1;have Ip:=r.cell (j:=3) rfl;clear r;have H3:=gH h;clear h)
  | (go_at_call 230;(with_reducible refine (UD w0 _ b _ x.av A c _ H3.out YI.out gl.out.c Bp.out).mono ?_);rintro e w4 ⟨rfl,h⟩;have r:=HM.out _ _ h;have yb:=r.1;have LN:=r.cell (j:=4) rfl;clear r;have H4:=gH h;clear h)
  | (go_at_call 232;(with_reducible refine (UH w0 _ b _ x.rules A2 c2 _ H4.out Shr.out gl.out.r Io.out).mono ?_);rintro e w5 ⟨rfl,h⟩;have H5:=gH h;clear h))
 go_end0
 have H:=H5.out.pop;simp only [List.append_assoc] at H;exact ⟨rfl,H⟩
theorem UK (w0:World) (Q:List (Nat × Obj)) (b:Nat) (l:Bt) (L:List cp) (A:Option Addr) (cap:Nat) (w:World) (h:iu w0 Q b l w) (hx:aA w0 5 dE A cap L) (ok:uk Ea L) (hl:l.length+(cG kA L).length≤90000000) :
  Calls Tryz.prog 156 #[.pointer (some ⟨b,0,none⟩),.slice A L.length cap,.func (.func 157) #[] #[]] w (rT w0 Q b (l++cG kA L)):=by
 have hlen:=ok.1
 have g1:¬ (4096:Int) < (L.length:Int):=by omega
 have hz:∀ k (hk:k < L.length),l.length+(bO (L.length:Int)).length+((L.take k).flatMap kA).length+(kA L[k]).length≤90000000:=fun k hk=>by
  have:=jp kA L k hk;unfold cG at hl;rw [List.length_append] at hl;omega
 have HN:=gH (w_num w0 Q b l L.length w h ⟨by omega,by omega⟩ (by omega));have HE:=gH (show cG kA L=bO (L.length:Int)++L.flatMap kA from rfl);clear h
 go_in
 go_wp2_with (first
  | (go_at_call 95;(with_reducible refine HN.out.mono ?_);rintro e w1 ⟨rfl,h⟩;have H1:=gH h;clear h))
 go_loopw [19] (fun i wr=>∃ k:Nat,k≤L.length∧i=.int .i64 k∧Hid (iu w0 Q b (l++bO (L.length:Int)++(L.take k).flatMap kA) wr)) (fun i _=>L.length - (intOf i).toNat)
 case atStart=>exact ⟨0,Nat.zero_le _,rfl,gH (by simpa using H1.out)⟩
 case round =>
  obtain ⟨k,hk,rfl,HR⟩:=hrel;by_cases hlt:k < L.length
  ·have fj:(k:Int) < (L.length:Int):=by omega
   have a0:=HR.out.aH;have hz':=hz k hlt;obtain ⟨g,off,A0,UI,A1,cc1,rfl,hb,c0,c1,c2,c3,c4,hc,hr,hsm⟩:=fh hx hlt;have c0:=a0.cell_kept c0;have c1:=a0.cell_kept c1;have c2:=a0.cell_kept c2;have c3:=a0.cell_kept c3;have c4:=a0.cell_kept c4;have hb:=Nat.lt_of_lt_of_le hb a0.size;have HC:=gH (UJ w0 Q b _ L[k] A0 UI A1 cc1 _ (HR.out.trans ((ag.refl wr).alloc (.cells #[.string L[k].ac,.string L[k].name,.string L[k].owner,.slice A0 L[k].av.length UI,.slice A1 L[k].rules.length cc1] 80))) (ok.2 _ (List.getElem_mem hlt)) hc hr (by (try simp only [List.length_append]);omega));have HX:=gH (show l++bO (L.length:Int)++(L.take k).flatMap kA++kA L[k]=l++bO (L.length:Int)++(L.take (k+1)).flatMap kA from by rw [List.take_succ_eq_append_getElem hlt,List.flatMap_append,← List.append_assoc];simp);generalize L[k]=x at c0 c1 c2 c3 c4 HC HX;clear hz' hc hr a0 hsm
   go_wp2_with (first
    | (go_at_call 157;(with_reducible refine HC.out.mono ?_);rintro e w2 ⟨rfl,h⟩;have H2:=gH h;clear h))
   refine ⟨⟨k+1,by omega,by go_num,gH (by rw [← HX.out];exact H2.out)⟩,?_⟩;simp [intOf];omega
  ·have fj:¬ (k:Int) < (L.length:Int):=by omega
   go_wp2
   go_end0
   have e:k=L.length:=by omega
   have H:=HR.out;rw [e,List.take_length,List.append_assoc] at H;exact ⟨rfl,H⟩
theorem UL (w0:World) (Q:List (Nat × Obj)) (b:Nat) (l:Bt) (x:fJ) (w:World) (h:iu w0 Q b l w) (ok:Eb x) (hl:l.length+(j6 x).length≤90000000) :
  Calls Tryz.prog 155 #[.pointer (some ⟨b,0,none⟩),.agg #[.string x.name,.string x.owner]] w (rT w0 Q b (l++j6 x)):=by
 simp only [j6,List.length_append] at hl;obtain ⟨h0,hm,he⟩:=ut h [.string x.name,.string x.owner] 109;have H0:=gH h0;have HM:=gH hm;have gl:=gH ok;have kU:=gH (show (l).length≤90000000 from by (try simp only [List.length_append]);omega);have ki:=gH (show (l++cC x.name).length≤90000000 from by (try simp only [List.length_append]);omega);clear h h0 hm he ok
 go_in
 go_wp2_with (first
  | (go_at_call 159;(with_reducible refine (iU w0 _ b _ x.name _ H0.out gl.out.n kU.out).mono ?_);rintro e w1 ⟨rfl,h⟩;have r:=HM.out _ _ h;have yb:=r.1;have yu:=r.cell (j:=1) rfl;clear r;have H1:=gH h;clear h)
  | (go_at_call 159;(with_reducible refine (iU w0 _ b _ x.owner _ H1.out gl.out.o ki.out).mono ?_);rintro e w2 ⟨rfl,h⟩;have H2:=gH h;clear h))
 go_end0
 have H:=H2.out.pop;simp only [List.append_assoc] at H;exact ⟨rfl,H⟩
theorem UM (w0:World) (Q:List (Nat × Obj)) (b:Nat) (l:Bt) (L:List fJ) (A:Option Addr) (cap:Nat) (w:World) (h:iu w0 Q b l w) (hx:aA w0 2 eL A cap L) (ok:uk Eb L) (hl:l.length+(cG j6 L).length≤90000000) :
  Calls Tryz.prog 154 #[.pointer (some ⟨b,0,none⟩),.slice A L.length cap,.func (.func 155) #[] #[]] w (rT w0 Q b (l++cG j6 L)):=by
 have hlen:=ok.1
 have g1:¬ (4096:Int) < (L.length:Int):=by omega
 have hz:∀ k (hk:k < L.length),l.length+(bO (L.length:Int)).length+((L.take k).flatMap j6).length+(j6 L[k]).length≤90000000:=fun k hk=>by
  have:=jp j6 L k hk;unfold cG at hl;rw [List.length_append] at hl;omega
 have HN:=gH (w_num w0 Q b l L.length w h ⟨by omega,by omega⟩ (by omega));have HE:=gH (show cG j6 L=bO (L.length:Int)++L.flatMap j6 from rfl);clear h
 go_in
 go_wp2_with (first
  | (go_at_call 95;(with_reducible refine HN.out.mono ?_);rintro e w1 ⟨rfl,h⟩;have H1:=gH h;clear h))
 go_loopw [19] (fun i wr=>∃ k:Nat,k≤L.length∧i=.int .i64 k∧Hid (iu w0 Q b (l++bO (L.length:Int)++(L.take k).flatMap j6) wr)) (fun i _=>L.length - (intOf i).toNat)
 case atStart=>exact ⟨0,Nat.zero_le _,rfl,gH (by simpa using H1.out)⟩
 case round =>
  obtain ⟨k,hk,rfl,HR⟩:=hrel;by_cases hlt:k < L.length
  ·have fj:(k:Int) < (L.length:Int):=by omega
   have a0:=HR.out.aH;have hz':=hz k hlt;obtain ⟨g,off,rfl,hb,c0,c1,hsm⟩:=iC hx hlt;have c0:=a0.cell_kept c0;have c1:=a0.cell_kept c1;have hb:=Nat.lt_of_lt_of_le hb a0.size;have HC:=gH (UL w0 Q b _ L[k] _ (HR.out.trans ((ag.refl wr).alloc (.cells #[.string L[k].name,.string L[k].owner] 109))) (ok.2 _ (List.getElem_mem hlt)) (by (try simp only [List.length_append]);omega));have HX:=gH (show l++bO (L.length:Int)++(L.take k).flatMap j6++j6 L[k]=l++bO (L.length:Int)++(L.take (k+1)).flatMap j6 from by rw [List.take_succ_eq_append_getElem hlt,List.flatMap_append,← List.append_assoc];simp);generalize L[k]=x at c0 c1 HC HX;clear hz' a0 hsm
   go_wp2_with (first
    | (go_at_call 155;(with_reducible refine HC.out.mono ?_);rintro e w2 ⟨rfl,h⟩;have H2:=gH h;clear h))
   refine ⟨⟨k+1,by omega,by go_num,gH (by rw [← HX.out];exact H2.out)⟩,?_⟩;simp [intOf];omega
  ·have fj:¬ (k:Int) < (L.length:Int):=by omega
   go_wp2
   go_end0
   have e:k=L.length:=by omega
   have H:=HR.out;rw [e,List.take_length,List.append_assoc] at H;exact ⟨rfl,H⟩
theorem UN (w0:World) (Q:List (Nat × Obj)) (b:Nat) (l:Bt) (x:dP) (w:World) (h:iu w0 Q b l w) (ok:Ec x) (hl:l.length+(lF x).length≤90000000) :
  Calls Tryz.prog 161 #[.pointer (some ⟨b,0,none⟩),.agg #[.string x.role,.string x.of]] w (rT w0 Q b (l++lF x)):=by
 simp only [lF,List.length_append] at hl;obtain ⟨h0,hm,he⟩:=ut h [.string x.role,.string x.of] 174;have H0:=gH h0;have HM:=gH hm;have gl:=gH ok;have kU:=gH (show (l).length≤90000000 from by (try simp only [List.length_append]);omega);have ki:=gH (show (l++cC x.role).length≤90000000 from by (try simp only [List.length_append]);omega);clear h h0 hm he ok
 go_in
 go_wp2_with (first
  | (go_at_call 159;(with_reducible refine (iU w0 _ b _ x.role _ H0.out gl.out.n kU.out).mono ?_);rintro e w1 ⟨rfl,h⟩;have r:=HM.out _ _ h;have yb:=r.1;have yu:=r.cell (j:=1) rfl;clear r;have H1:=gH h;clear h)
  | (go_at_call 159;(with_reducible refine (iU w0 _ b _ x.of _ H1.out gl.out.o ki.out).mono ?_);rintro e w2 ⟨rfl,h⟩;have H2:=gH h;clear h))
 go_end0
 have H:=H2.out.pop;simp only [List.append_assoc] at H;exact ⟨rfl,H⟩
theorem UO (w0:World) (Q:List (Nat × Obj)) (b:Nat) (l:Bt) (L:List dP) (A:Option Addr) (cap:Nat) (w:World) (h:iu w0 Q b l w) (hx:aA w0 2 fw A cap L) (ok:uk Ec L) (hl:l.length+(cG lF L).length≤90000000) :
  Calls Tryz.prog 160 #[.pointer (some ⟨b,0,none⟩),.slice A L.length cap,.func (.func 161) #[] #[]] w (rT w0 Q b (l++cG lF L)):=by
 have hlen:=ok.1
 have g1:¬ (4096:Int) < (L.length:Int):=by omega
 have hz:∀ k (hk:k < L.length),l.length+(bO (L.length:Int)).length+((L.take k).flatMap lF).length+(lF L[k]).length≤90000000:=fun k hk=>by
  have:=jp lF L k hk;unfold cG at hl;rw [List.length_append] at hl;omega
 have HN:=gH (w_num w0 Q b l L.length w h ⟨by omega,by omega⟩ (by omega));have HE:=gH (show cG lF L=bO (L.length:Int)++L.flatMap lF from rfl);clear h
 go_in
 go_wp2_with (first
  | (go_at_call 95;(with_reducible refine HN.out.mono ?_);rintro e w1 ⟨rfl,h⟩;have H1:=gH h;clear h))
 go_loopw [19] (fun i wr=>∃ k:Nat,k≤L.length∧i=.int .i64 k∧Hid (iu w0 Q b (l++bO (L.length:Int)++(L.take k).flatMap lF) wr)) (fun i _=>L.length - (intOf i).toNat)
 case atStart=>exact ⟨0,Nat.zero_le _,rfl,gH (by simpa using H1.out)⟩
 case round =>
  obtain ⟨k,hk,rfl,HR⟩:=hrel;by_cases hlt:k < L.length
  ·have fj:(k:Int) < (L.length:Int):=by omega
   have a0:=HR.out.aH;have hz':=hz k hlt;obtain ⟨g,off,rfl,hb,c0,c1,hsm⟩:=LM hx hlt;have c0:=a0.cell_kept c0;have c1:=a0.cell_kept c1;have hb:=Nat.lt_of_lt_of_le hb a0.size;have HC:=gH (UN w0 Q b _ L[k] _ (HR.out.trans ((ag.refl wr).alloc (.cells #[.string L[k].role,.string L[k].of] 174))) (ok.2 _ (List.getElem_mem hlt)) (by (try simp only [List.length_append]);omega));have HX:=gH (show l++bO (L.length:Int)++(L.take k).flatMap lF++lF L[k]=l++bO (L.length:Int)++(L.take (k+1)).flatMap lF from by rw [List.take_succ_eq_append_getElem hlt,List.flatMap_append,← List.append_assoc];simp);generalize L[k]=x at c0 c1 HC HX;clear hz' a0 hsm
   go_wp2_with (first
    | (go_at_call 161;(with_reducible refine HC.out.mono ?_);rintro e w2 ⟨rfl,h⟩;have H2:=gH h;clear h))
   refine ⟨⟨k+1,by omega,by go_num,gH (by rw [← HX.out];exact H2.out)⟩,?_⟩;simp [intOf];omega
  ·have fj:¬ (k:Int) < (L.length:Int):=by omega
   go_wp2
   go_end0
   have e:k=L.length:=by omega
   have H:=HR.out;rw [e,List.take_length,List.append_assoc] at H;exact ⟨rfl,H⟩
theorem LO {w:World} {A:Option Addr} {cap:Nat} {l:List cF} (h:aA w 6 gC A cap l) {k:Nat} (hk:k < l.length) :
  ∃ b off,A=some ⟨b,off,none⟩∧b < w.heap.size∧w.cell? ⟨b,off+k*6,none⟩=some (.string l[k].ac)∧w.cell? ⟨b,off+k*6+1,none⟩=some (.string l[k].table)∧w.cell? ⟨b,off+k*6+2,none⟩=some (.int .i64 l[k].right)∧w.cell? ⟨b,off+k*6+3,none⟩=some (.string l[k].aI)∧w.cell? ⟨b,off+k*6+4,none⟩=some (.string l[k].to)∧w.cell? ⟨b,off+k*6+5,none⟩=some (.bool l[k].opt)∧True:=by
 obtain ⟨b,off,cs,hA,hb,hl,⟨rfl,_⟩,hc⟩:=h.2.2 k hk;exact ⟨b,off,hA,hb,by simpa [eM] using hc 0 (by omega),by simpa [Nat.add_assoc,eM] using hc 1 (by omega),by simpa [Nat.add_assoc,eM] using hc 2 (by omega),by simpa [Nat.add_assoc,eM] using hc 3 (by omega),by simpa [Nat.add_assoc,eM] using hc 4 (by omega),by simpa [Nat.add_assoc,eM] using hc 5 (by omega),trivial⟩
theorem LP {w:World} {A:Option Addr} {cap:Nat} {l:List iw} (h:aA w 5 fQ A cap l) {k:Nat} (hk:k < l.length) :
  ∃ b off,A=some ⟨b,off,none⟩∧b < w.heap.size∧w.cell? ⟨b,off+k*5,none⟩=some (.int .i64 l[k].aD)∧w.cell? ⟨b,off+k*5+1,none⟩=some (.int .i64 l[k].number)∧w.cell? ⟨b,off+k*5+2,none⟩=some (.int .i64 l[k].code)∧w.cell? ⟨b,off+k*5+3,none⟩=some (.int .i64 l[k].fence)∧w.cell? ⟨b,off+k*5+4,none⟩=some (.int .i64 l[k].version)∧True:=by
 obtain ⟨b,off,cs,hA,hb,hl,rfl,hc⟩:=h.2.2 k hk;exact ⟨b,off,hA,hb,by simpa [cv] using hc 0 (by omega),by simpa [Nat.add_assoc,cv] using hc 1 (by omega),by simpa [Nat.add_assoc,cv] using hc 2 (by omega),by simpa [Nat.add_assoc,cv] using hc 3 (by omega),by simpa [Nat.add_assoc,cv] using hc 4 (by omega),trivial⟩
theorem LQ {w:World} {A:Option Addr} {cap:Nat} {l:List gS} (h:aA w 4 fY A cap l) {k:Nat} (hk:k < l.length) :
  ∃ b off,A=some ⟨b,off,none⟩∧b < w.heap.size∧w.cell? ⟨b,off+k*4,none⟩=some (.int .i64 l[k].seq)∧w.cell? ⟨b,off+k*4+1,none⟩=some (.int .i64 l[k].node)∧w.cell? ⟨b,off+k*4+2,none⟩=some (.int .i64 l[k].ask)∧w.cell? ⟨b,off+k*4+3,none⟩=some (.int .i64 l[k].ax)∧True:=by
 obtain ⟨b,off,cs,hA,hb,hl,rfl,hc⟩:=h.2.2 k hk;exact ⟨b,off,hA,hb,by simpa [eV] using hc 0 (by omega),by simpa [Nat.add_assoc,eV] using hc 1 (by omega),by simpa [Nat.add_assoc,eV] using hc 2 (by omega),by simpa [Nat.add_assoc,eV] using hc 3 (by omega),trivial⟩
theorem UQ (w0:World) (Q:List (Nat × Obj)) (b:Nat) (l:Bt) (x:cF) (w:World) (h:iu w0 Q b l w) (ok:Ed x) (hl:l.length+(mm x).length≤90000000) :
  Calls Tryz.prog 163 #[.pointer (some ⟨b,0,none⟩),.agg #[.string x.ac,.string x.table,.int .i64 x.right,.string x.aI,.string x.to,.bool x.opt]] w (rT w0 Q b (l++mm x)):=by
 simp only [mm,List.length_append] at hl;obtain ⟨h0,hm,he⟩:=ut h [.string x.ac,.string x.table,.int .i64 x.right,.string x.aI,.string x.to,.bool x.opt] 177;have H0:=gH h0;have HM:=gH hm;have gl:=gH ok;have kU:=gH (show (l).length≤90000000 from by (try simp only [List.length_append]);omega);have ki:=gH (show (l++cC x.ac).length≤90000000 from by (try simp only [List.length_append]);omega);have kP:=gH (show (l++cC x.ac++cC x.table).length≤90000000 from by (try simp only [List.length_append]);omega);have Bp:=gH (show (l++cC x.ac++cC x.table++bO x.right).length≤90000000 from by (try simp only [List.length_append]);omega);have Io:=gH (show (l++cC x.ac++cC x.table++bO x.right++cC x.aI).length≤90000000 from by (try simp only [List.length_append]);omega);have UF:=gH (show (l++cC x.ac++cC x.table++bO x.right++cC x.aI++cC x.to).length≤90000000 from by (try simp only [List.length_append]);omega);clear h h0 hm he ok
 go_in
 go_wp2_with (first
  | (go_at_call 159;(with_reducible refine (iU w0 _ b _ x.ac _ H0.out gl.out.s kU.out).mono ?_);rintro e w1 ⟨rfl,h⟩;have r:=HM.out _ _ h;have yb:=r.1;have yu:=r.cell (j:=1) rfl;clear r;have H1:=gH h;clear h)
  | (go_at_call 159;(with_reducible refine (iU w0 _ b _ x.table _ H1.out gl.out.t ki.out).mono ?_);rintro e w2 ⟨rfl,h⟩;have r:=HM.out _ _ h;have yb:=r.1;have Fp:=r.cell (j:=2) rfl;clear r;have H2:=gH h;clear h)
  | (go_at_call 95;(with_reducible refine (w_num w0 _ b _ x.right _ H2.out gl.out.r kP.out).mono ?_);rintro e w3 ⟨rfl,h⟩;have r:=HM.out _ _ h;have yb:=r.1;have Ip:=r.cell (j:=3) rfl;clear r;have H3:=gH h;clear h)
  | (go_at_call 159;(with_reducible refine (iU w0 _ b _ x.aI _ H3.out gl.out.b Bp.out).mono ?_);rintro e w4 ⟨rfl,h⟩;have r:=HM.out _ _ h;have yb:=r.1;have LN:=r.cell (j:=4) rfl;clear r;have H4:=gH h;clear h)
  | (go_at_call 159;(with_reducible refine (iU w0 _ b _ x.to _ H4.out gl.out.o Io.out).mono ?_);rintro e w5 ⟨rfl,h⟩;have r:=HM.out _ _ h;have yb:=r.1;have UG:=r.cell (j:=5) rfl;clear r;have H5:=gH h;clear h)
  | (go_at_call 235;(with_reducible refine (OU w0 _ b _ x.opt _ H5.out UF.out).mono ?_);rintro e w6 ⟨rfl,h⟩;have H6:=gH h;clear h))
 go_end0
 have H:=H6.out.pop;simp only [List.append_assoc] at H;exact ⟨rfl,H⟩
theorem UR (w0:World) (Q:List (Nat × Obj)) (b:Nat) (l:Bt) (L:List cF) (A:Option Addr) (cap:Nat) (w:World) (h:iu w0 Q b l w) (hx:aA w0 6 gC A cap L) (ok:uk Ed L) (hl:l.length+(cG mm L).length≤90000000) :
  Calls Tryz.prog 162 #[.pointer (some ⟨b,0,none⟩),.slice A L.length cap,.func (.func 163) #[] #[]] w (rT w0 Q b (l++cG mm L)):=by
 have hlen:=ok.1
 have g1:¬ (4096:Int) < (L.length:Int):=by omega
 have hz:∀ k (hk:k < L.length),l.length+(bO (L.length:Int)).length+((L.take k).flatMap mm).length+(mm L[k]).length≤90000000:=fun k hk=>by
  have:=jp mm L k hk;unfold cG at hl;rw [List.length_append] at hl;omega
 have HN:=gH (w_num w0 Q b l L.length w h ⟨by omega,by omega⟩ (by omega));have HE:=gH (show cG mm L=bO (L.length:Int)++L.flatMap mm from rfl);clear h
 go_in
 go_wp2_with (first
  | (go_at_call 95;(with_reducible refine HN.out.mono ?_);rintro e w1 ⟨rfl,h⟩;have H1:=gH h;clear h))
 go_loopw [19] (fun i wr=>∃ k:Nat,k≤L.length∧i=.int .i64 k∧Hid (iu w0 Q b (l++bO (L.length:Int)++(L.take k).flatMap mm) wr)) (fun i _=>L.length - (intOf i).toNat)
 case atStart=>exact ⟨0,Nat.zero_le _,rfl,gH (by simpa using H1.out)⟩
 case round =>
  obtain ⟨k,hk,rfl,HR⟩:=hrel;by_cases hlt:k < L.length
  ·have fj:(k:Int) < (L.length:Int):=by omega
   have a0:=HR.out.aH;have hz':=hz k hlt;obtain ⟨g,off,rfl,hb,c0,c1,c2,c3,c4,c5,hsm⟩:=LO hx hlt;have c0:=a0.cell_kept c0;have c1:=a0.cell_kept c1;have c2:=a0.cell_kept c2;have c3:=a0.cell_kept c3;have c4:=a0.cell_kept c4;have c5:=a0.cell_kept c5;have hb:=Nat.lt_of_lt_of_le hb a0.size;have HC:=gH (UQ w0 Q b _ L[k] _ (HR.out.trans ((ag.refl wr).alloc (.cells #[.string L[k].ac,.string L[k].table,.int .i64 L[k].right,.string L[k].aI,.string L[k].to,.bool L[k].opt] 177))) (ok.2 _ (List.getElem_mem hlt)) (by (try simp only [List.length_append]);omega));have HX:=gH (show l++bO (L.length:Int)++(L.take k).flatMap mm++mm L[k]=l++bO (L.length:Int)++(L.take (k+1)).flatMap mm from by rw [List.take_succ_eq_append_getElem hlt,List.flatMap_append,← List.append_assoc];simp);generalize L[k]=x at c0 c1 c2 c3 c4 c5 HC HX;clear hz' a0 hsm
   go_wp2_with (first
    | (go_at_call 163;(with_reducible refine HC.out.mono ?_);rintro e w2 ⟨rfl,h⟩;have H2:=gH h;clear h))
   refine ⟨⟨k+1,by omega,by go_num,gH (by rw [← HX.out];exact H2.out)⟩,?_⟩;simp [intOf];omega
  ·have fj:¬ (k:Int) < (L.length:Int):=by omega
   go_wp2
   go_end0
   have e:k=L.length:=by omega
   have H:=HR.out;rw [e,List.take_length,List.append_assoc] at H;exact ⟨rfl,H⟩
theorem UT (w0:World) (Q:List (Nat × Obj)) (b:Nat) (l:Bt) (x:bX) (As:Option Addr) (cs:Nat) (At:Option Addr) (ct:Nat) (An:Option Addr) (cn:Nat) (Am:Option Addr) (cm:Nat) (Ag:Option Addr) (cg:Nat) (w:World) (h:iu w0 Q b l w) (ok:yv x) (h1:aA w0 2 eL As cs x.ah.aa) (h2:aA w0 5 dE At ct x.ah.tables) (h3:aA w0 1 dg An cn x.ai.names) (h4:aA w0 2 fw Am cm x.ai.members) (h5:aA w0 6 gC Ag cg x.af) (hl:l.length+(sG x).length≤90000000) :
  Calls Tryz.prog 90 #[.pointer (some ⟨b,0,none⟩),.agg #[.int .i64 x.ax,.int .i64 x.version,.slice As x.ah.aa.length cs,.slice At x.ah.tables.length ct,.slice An x.ai.names.length cn,.slice Am x.ai.members.length cm,.slice Ag x.af.length cg]] w (rT w0 Q b (l++sG x)):=by
 simp only [sG,List.length_append] at hl;obtain ⟨h0,hm,he⟩:=ut h [.int .i64 x.ax,.int .i64 x.version,.slice As x.ah.aa.length cs,.slice At x.ah.tables.length ct,.slice An x.ai.names.length cn,.slice Am x.ai.members.length cm,.slice Ag x.af.length cg] 32;have H0:=gH h0;have HM:=gH hm;have gl:=gH ok;have YL:=gH h1;have YM:=gH h2;have YN:=gH h3;have YO:=gH h4;have YP:=gH h5;have kU:=gH (show (l).length≤90000000 from by (try simp only [List.length_append]);omega);have ki:=gH (show (l++bO x.ax).length≤90000000 from by (try simp only [List.length_append]);omega);have kP:=gH (show (l++bO x.ax++bO x.version).length+(cG j6 x.ah.aa).length≤90000000 from by (try simp only [List.length_append]);omega);have Bp:=gH (show (l++bO x.ax++bO x.version++cG j6 x.ah.aa).length+(cG kA x.ah.tables).length≤90000000 from by (try simp only [List.length_append]);omega);have Io:=gH (show (l++bO x.ax++bO x.version++cG j6 x.ah.aa++cG kA x.ah.tables).length+(cG cC x.ai.names).length≤90000000 from by (try simp only [List.length_append]);omega);have UF:=gH (show (l++bO x.ax++bO x.version++cG j6 x.ah.aa++cG kA x.ah.tables++cG cC x.ai.names).length+(cG lF x.ai.members).length≤90000000 from by (try simp only [List.length_append]);omega);have YJ:=gH (show (l++bO x.ax++bO x.version++cG j6 x.ah.aa++cG kA x.ah.tables++cG cC x.ai.names++cG lF x.ai.members).length+(cG mm x.af).length≤90000000 from by (try simp only [List.length_append]);omega)
 clear h h0 hm he ok h1 h2 h3 h4 h5
 go_in
 go_wp2_with (first
  | (go_at_call 95;(with_reducible refine (w_num w0 _ b _ x.ax _ H0.out gl.out.e kU.out).mono ?_);rintro e w1 ⟨rfl,h⟩;have r:=HM.out _ _ h;have yb:=r.1;have yu:=r.cell (j:=1) rfl;clear r;have H1:=gH h;clear h)
  | (go_at_call 95;(with_reducible refine (w_num w0 _ b _ x.version _ H1.out gl.out.v ki.out).mono ?_);rintro e w2 ⟨rfl,h⟩;have r:=HM.out _ _ h;have yb:=r.1;have Fp:=r.cell (j:=2) rfl;clear r;have H2:=gH h;clear h)
  | (go_at_call 154;(with_reducible refine (UM w0 _ b _ x.ah.aa As cs _ H2.out YL.out gl.out.s kP.out).mono ?_);rintro e w3 ⟨rfl,h⟩;have r:=HM.out _ _ h;have yb:=r.1;have Ip:=r.cell (j:=3) rfl;clear r;have H3:=gH h;clear h)
  | (go_at_call 156;(with_reducible refine (UK w0 _ b _ x.ah.tables At ct _ H3.out YM.out gl.out.t Bp.out).mono ?_);rintro e w4 ⟨rfl,h⟩;have r:=HM.out _ _ h;have yb:=r.1;have LN:=r.cell (j:=4) rfl;clear r;have H4:=gH h;clear h)
  | (go_at_call 158;(with_reducible refine (OV w0 _ b _ x.ai.names An cn _ H4.out YN.out gl.out.n Io.out).mono ?_);rintro e w5 ⟨rfl,h⟩;have r:=HM.out _ _ h;have yb:=r.1;have UG:=r.cell (j:=5) rfl;clear r;have H5:=gH h;clear h)
  | (go_at_call 160;(with_reducible refine (UO w0 _ b _ x.ai.members Am cm _ H5.out YO.out gl.out.m UF.out).mono ?_);rintro e w6 ⟨rfl,h⟩;have r:=HM.out _ _ h;have yb:=r.1;have YK:=r.cell (j:=6) rfl;clear r;have H6:=gH h;clear h)
  | (go_at_call 162;(with_reducible refine (UR w0 _ b _ x.af Ag cg _ H6.out YP.out gl.out.g YJ.out).mono ?_);rintro e w7 ⟨rfl,h⟩;have H7:=gH h;clear h))
 go_end0
 have H:=H7.out.pop;simp only [List.append_assoc] at H;exact ⟨rfl,H⟩
theorem UU (w0:World) (Q:List (Nat × Obj)) (b:Nat) (l:Bt) (x:iw) (w:World) (h:iu w0 Q b l w) (ok:Ee x) (hl:l.length+(lc x).length≤90000000) :
  Calls Tryz.prog 92 #[.pointer (some ⟨b,0,none⟩),.agg #[.int .i64 x.aD,.int .i64 x.number,.int .i64 x.code,.int .i64 x.fence,.int .i64 x.version]] w (rT w0 Q b (l++lc x)):=by
 simp only [lc,List.length_append] at hl;obtain ⟨h0,hm,he⟩:=ut h [.int .i64 x.aD,.int .i64 x.number,.int .i64 x.code,.int .i64 x.fence,.int .i64 x.version] 48;have H0:=gH h0;have HM:=gH hm;have gl:=gH ok;have kU:=gH (show (l).length≤90000000 from by (try simp only [List.length_append]);omega);have ki:=gH (show (l++bO x.aD).length≤90000000 from by (try simp only [List.length_append]);omega);have kP:=gH (show (l++bO x.aD++bO x.number).length≤90000000 from by (try simp only [List.length_append]);omega);have Bp:=gH (show (l++bO x.aD++bO x.number++bO x.code).length≤90000000 from by (try simp only [List.length_append]);omega);have Io:=gH (show (l++bO x.aD++bO x.number++bO x.code++bO x.fence).length≤90000000 from by (try simp only [List.length_append]);omega);clear h h0 hm he ok
 go_in
 go_wp2_with (first
  | (go_at_call 95;(with_reducible refine (w_num w0 _ b _ x.aD _ H0.out gl.out.a kU.out).mono ?_);rintro e w1 ⟨rfl,h⟩;have r:=HM.out _ _ h;have yb:=r.1;have yu:=r.cell (j:=1) rfl;clear r;have H1:=gH h;clear h)
  | (go_at_call 95;(with_reducible refine (w_num w0 _ b _ x.number _ H1.out gl.out.b ki.out).mono ?_);rintro e w2 ⟨rfl,h⟩;have r:=HM.out _ _ h;have yb:=r.1;have Fp:=r.cell (j:=2) rfl;clear r;have H2:=gH h;clear h)
  | (go_at_call 95;(with_reducible refine (w_num w0 _ b _ x.code _ H2.out gl.out.c kP.out).mono ?_);rintro e w3 ⟨rfl,h⟩;have r:=HM.out _ _ h;have yb:=r.1;have Ip:=r.cell (j:=3) rfl;clear r;have H3:=gH h;clear h)
  | (go_at_call 95;(with_reducible refine (w_num w0 _ b _ x.fence _ H3.out gl.out.d Bp.out).mono ?_);rintro e w4 ⟨rfl,h⟩;have r:=HM.out _ _ h;have yb:=r.1;have LN:=r.cell (j:=4) rfl;clear r;have H4:=gH h;clear h)
  | (go_at_call 95;(with_reducible refine (w_num w0 _ b _ x.version _ H4.out gl.out.e Io.out).mono ?_);rintro e w5 ⟨rfl,h⟩;have H5:=gH h;clear h))
 go_end0
 have H:=H5.out.pop;simp only [List.append_assoc] at H;exact ⟨rfl,H⟩
theorem UV (w0:World) (Q:List (Nat × Obj)) (b:Nat) (l:Bt) (L:List iw) (A:Option Addr) (cap:Nat) (w:World) (h:iu w0 Q b l w) (hx:aA w0 5 fQ A cap L) (ok:uk Ee L) (hl:l.length+(cG lc L).length≤90000000) :
  Calls Tryz.prog 91 #[.pointer (some ⟨b,0,none⟩),.slice A L.length cap,.func (.func 92) #[] #[]] w (rT w0 Q b (l++cG lc L)):=by
 have hlen:=ok.1
 have g1:¬ (4096:Int) < (L.length:Int):=by omega
 have hz:∀ k (hk:k < L.length),l.length+(bO (L.length:Int)).length+((L.take k).flatMap lc).length+(lc L[k]).length≤90000000:=fun k hk=>by
  have:=jp lc L k hk;unfold cG at hl;rw [List.length_append] at hl;omega
 have HN:=gH (w_num w0 Q b l L.length w h ⟨by omega,by omega⟩ (by omega));have HE:=gH (show cG lc L=bO (L.length:Int)++L.flatMap lc from rfl);clear h
 go_in
 go_wp2_with (first
  | (go_at_call 95;(with_reducible refine HN.out.mono ?_);rintro e w1 ⟨rfl,h⟩;have H1:=gH h;clear h))
 go_loopw [19] (fun i wr=>∃ k:Nat,k≤L.length∧i=.int .i64 k∧Hid (iu w0 Q b (l++bO (L.length:Int)++(L.take k).flatMap lc) wr)) (fun i _=>L.length - (intOf i).toNat)
 case atStart=>exact ⟨0,Nat.zero_le _,rfl,gH (by simpa using H1.out)⟩
 case round =>
  obtain ⟨k,hk,rfl,HR⟩:=hrel;by_cases hlt:k < L.length
  ·have fj:(k:Int) < (L.length:Int):=by omega
   have a0:=HR.out.aH;have hz':=hz k hlt;obtain ⟨g,off,rfl,hb,c0,c1,c2,c3,c4,hsm⟩:=LP hx hlt;have c0:=a0.cell_kept c0;have c1:=a0.cell_kept c1;have c2:=a0.cell_kept c2;have c3:=a0.cell_kept c3;have c4:=a0.cell_kept c4;have hb:=Nat.lt_of_lt_of_le hb a0.size;have HC:=gH (UU w0 Q b _ L[k] _ (HR.out.trans ((ag.refl wr).alloc (.cells #[.int .i64 L[k].aD,.int .i64 L[k].number,.int .i64 L[k].code,.int .i64 L[k].fence,.int .i64 L[k].version] 48))) (ok.2 _ (List.getElem_mem hlt)) (by (try simp only [List.length_append]);omega));have HX:=gH (show l++bO (L.length:Int)++(L.take k).flatMap lc++lc L[k]=l++bO (L.length:Int)++(L.take (k+1)).flatMap lc from by rw [List.take_succ_eq_append_getElem hlt,List.flatMap_append,← List.append_assoc];simp);generalize L[k]=x at c0 c1 c2 c3 c4 HC HX;clear hz' a0 hsm
   go_wp2_with (first
    | (go_at_call 92;(with_reducible refine HC.out.mono ?_);rintro e w2 ⟨rfl,h⟩;have H2:=gH h;clear h))
   refine ⟨⟨k+1,by omega,by go_num,gH (by rw [← HX.out];exact H2.out)⟩,?_⟩;simp [intOf];omega
  ·have fj:¬ (k:Int) < (L.length:Int):=by omega
   go_wp2
   go_end0
   have e:k=L.length:=by omega
   have H:=HR.out;rw [e,List.take_length,List.append_assoc] at H;exact ⟨rfl,H⟩
theorem UW (w0:World) (Q:List (Nat × Obj)) (b:Nat) (l:Bt) (x:gS) (w:World) (h:iu w0 Q b l w) (ok:Ef x) (hl:l.length+(lG x).length≤90000000) :
  Calls Tryz.prog 94 #[.pointer (some ⟨b,0,none⟩),.agg #[.int .i64 x.seq,.int .i64 x.node,.int .i64 x.ask,.int .i64 x.ax]] w (rT w0 Q b (l++lG x)):=by
 simp only [lG,List.length_append] at hl;obtain ⟨h0,hm,he⟩:=ut h [.int .i64 x.seq,.int .i64 x.node,.int .i64 x.ask,.int .i64 x.ax] 55;have H0:=gH h0;have HM:=gH hm;have gl:=gH ok;have kU:=gH (show (l).length≤90000000 from by (try simp only [List.length_append]);omega);have ki:=gH (show (l++bO x.seq).length≤90000000 from by (try simp only [List.length_append]);omega);have kP:=gH (show (l++bO x.seq++bO x.node).length≤90000000 from by (try simp only [List.length_append]);omega);have Bp:=gH (show (l++bO x.seq++bO x.node++bO x.ask).length≤90000000 from by (try simp only [List.length_append]);omega);clear h h0 hm he ok
 go_in
 go_wp2_with (first
  | (go_at_call 95;(with_reducible refine (w_num w0 _ b _ x.seq _ H0.out gl.out.a kU.out).mono ?_);rintro e w1 ⟨rfl,h⟩;have r:=HM.out _ _ h;have yb:=r.1;have yu:=r.cell (j:=1) rfl;clear r;have H1:=gH h;clear h)
  | (go_at_call 95;(with_reducible refine (w_num w0 _ b _ x.node _ H1.out gl.out.b ki.out).mono ?_);rintro e w2 ⟨rfl,h⟩;have r:=HM.out _ _ h;have yb:=r.1;have Fp:=r.cell (j:=2) rfl;clear r;have H2:=gH h;clear h)
  | (go_at_call 95;(with_reducible refine (w_num w0 _ b _ x.ask _ H2.out gl.out.c kP.out).mono ?_);rintro e w3 ⟨rfl,h⟩;have r:=HM.out _ _ h;have yb:=r.1;have Ip:=r.cell (j:=3) rfl;clear r;have H3:=gH h;clear h)
  | (go_at_call 95;(with_reducible refine (w_num w0 _ b _ x.ax _ H3.out gl.out.d Bp.out).mono ?_);rintro e w4 ⟨rfl,h⟩;have H4:=gH h;clear h))
 go_end0
 have H:=H4.out.pop;simp only [List.append_assoc] at H;exact ⟨rfl,H⟩
theorem UX (w0:World) (Q:List (Nat × Obj)) (b:Nat) (l:Bt) (L:List gS) (A:Option Addr) (cap:Nat) (w:World) (h:iu w0 Q b l w) (hx:aA w0 4 fY A cap L) (ok:uk Ef L) (hl:l.length+(cG lG L).length≤90000000) :
  Calls Tryz.prog 93 #[.pointer (some ⟨b,0,none⟩),.slice A L.length cap,.func (.func 94) #[] #[]] w (rT w0 Q b (l++cG lG L)):=by
 have hlen:=ok.1
 have g1:¬ (4096:Int) < (L.length:Int):=by omega
 have hz:∀ k (hk:k < L.length),l.length+(bO (L.length:Int)).length+((L.take k).flatMap lG).length+(lG L[k]).length≤90000000:=fun k hk=>by
  have:=jp lG L k hk;unfold cG at hl;rw [List.length_append] at hl;omega
 have HN:=gH (w_num w0 Q b l L.length w h ⟨by omega,by omega⟩ (by omega));have HE:=gH (show cG lG L=bO (L.length:Int)++L.flatMap lG from rfl);clear h
 go_in
 go_wp2_with (first
  | (go_at_call 95;(with_reducible refine HN.out.mono ?_);rintro e w1 ⟨rfl,h⟩;have H1:=gH h;clear h))
 go_loopw [19] (fun i wr=>∃ k:Nat,k≤L.length∧i=.int .i64 k∧Hid (iu w0 Q b (l++bO (L.length:Int)++(L.take k).flatMap lG) wr)) (fun i _=>L.length - (intOf i).toNat)
 case atStart=>exact ⟨0,Nat.zero_le _,rfl,gH (by simpa using H1.out)⟩
 case round =>
  obtain ⟨k,hk,rfl,HR⟩:=hrel;by_cases hlt:k < L.length
  ·have fj:(k:Int) < (L.length:Int):=by omega
   have a0:=HR.out.aH;have hz':=hz k hlt;obtain ⟨g,off,rfl,hb,c0,c1,c2,c3,hsm⟩:=LQ hx hlt;have c0:=a0.cell_kept c0;have c1:=a0.cell_kept c1;have c2:=a0.cell_kept c2;have c3:=a0.cell_kept c3;have hb:=Nat.lt_of_lt_of_le hb a0.size;have HC:=gH (UW w0 Q b _ L[k] _ (HR.out.trans ((ag.refl wr).alloc (.cells #[.int .i64 L[k].seq,.int .i64 L[k].node,.int .i64 L[k].ask,.int .i64 L[k].ax] 55))) (ok.2 _ (List.getElem_mem hlt)) (by (try simp only [List.length_append]);omega));have HX:=gH (show l++bO (L.length:Int)++(L.take k).flatMap lG++lG L[k]=l++bO (L.length:Int)++(L.take (k+1)).flatMap lG from by rw [List.take_succ_eq_append_getElem hlt,List.flatMap_append,← List.append_assoc];simp);generalize L[k]=x at c0 c1 c2 c3 HC HX;clear hz' a0 hsm
   go_wp2_with (first
    | (go_at_call 94;(with_reducible refine HC.out.mono ?_);rintro e w2 ⟨rfl,h⟩;have H2:=gH h;clear h))
   refine ⟨⟨k+1,by omega,by go_num,gH (by rw [← HX.out];exact H2.out)⟩,?_⟩;simp [intOf];omega
  ·have fj:¬ (k:Int) < (L.length:Int):=by omega
   go_wp2
   go_end0
   have e:k=L.length:=by omega
   have H:=HR.out;rw [e,List.take_length,List.append_assoc] at H;exact ⟨rfl,H⟩
theorem UY (w0:World) (Q:List (Nat × Obj)) (b:Nat) (l:Bt) (x:gD) (As:Option Addr) (cs:Nat) (At:Option Addr) (ct:Nat) (An:Option Addr) (cn:Nat) (Am:Option Addr) (cm:Nat) (Ag:Option Addr) (cg:Nat) (Ad:Option Addr) (cd:Nat) (Al:Option Addr) (cl:Nat) (w:World) (h:iu w0 Q b l w) (ok:nZ x) (h1:aA w0 2 eL As cs x.cat.ah.aa) (h2:aA w0 5 dE At ct x.cat.ah.tables) (h3:aA w0 1 dg An cn x.cat.ai.names) (h4:aA w0 2 fw Am cm x.cat.ai.members) (h5:aA w0 6 gC Ag cg x.cat.af) (h6:aA w0 5 fQ Ad cd x.aR) (h7:aA w0 4 fY Al cl x.bN) (hl:l.length+(jq x).length≤90000000) :
  Calls Tryz.prog 62 #[.pointer (some ⟨b,0,none⟩),.agg #[.int .i64 x.cat.ax,.int .i64 x.cat.version,.slice As x.cat.ah.aa.length cs,.slice At x.cat.ah.tables.length ct,.slice An x.cat.ai.names.length cn,.slice Am x.cat.ai.members.length cm,.slice Ag x.cat.af.length cg,.slice Ad x.aR.length cd,.slice Al x.bN.length cl,.int .i64 x.last]] w (rT w0 Q b (l++jq x)):=by
 simp only [jq,List.length_append] at hl;obtain ⟨h0,hm,he⟩:=ut h [.int .i64 x.cat.ax,.int .i64 x.cat.version,.slice As x.cat.ah.aa.length cs,.slice At x.cat.ah.tables.length ct,.slice An x.cat.ai.names.length cn,.slice Am x.cat.ai.members.length cm,.slice Ag x.cat.af.length cg,.slice Ad x.aR.length cd,.slice Al x.bN.length cl,.int .i64 x.last] 36;have H0:=gH h0;have HM:=gH hm;have gl:=gH ok;have YL:=gH h1;have YM:=gH h2;have YN:=gH h3;have YO:=gH h4;have YP:=gH h5;have Sh6:=gH h6;have Sh7:=gH h7;have kU:=gH (show (l).length+(sG x.cat).length≤90000000 from by (try simp only [List.length_append]);omega);have ki:=gH (show (l++sG x.cat).length+(cG lc x.aR).length≤90000000 from by (try simp only [List.length_append]);omega);have kP:=gH (show (l++sG x.cat++cG lc x.aR).length+(cG lG x.bN).length≤90000000 from by (try simp only [List.length_append]);omega);have Bp:=gH (show (l++sG x.cat++cG lc x.aR++cG lG x.bN).length≤90000000 from by (try simp only [List.length_append]);omega);clear h h0 hm he ok h1 h2 h3 h4 h5 h6 h7
 go_in
 go_wp2_with (first
  | (go_at_call 90;(with_reducible refine (UT w0 _ b _ x.cat As cs At ct An cn Am cm Ag cg _ H0.out gl.out.c YL.out YM.out YN.out YO.out YP.out kU.out).mono ?_);rintro e w1 ⟨rfl,h⟩;have r:=HM.out _ _ h;have yb:=r.1;have aaO:=r.cell (j:=7) rfl;clear r;have H1:=gH h;clear h)
  | (go_at_call 91;(with_reducible refine (UV w0 _ b _ x.aR Ad cd _ H1.out Sh6.out gl.out.d ki.out).mono ?_);rintro e w2 ⟨rfl,h⟩;have r:=HM.out _ _ h;have yb:=r.1;have aaP:=r.cell (j:=8) rfl;clear r;have H2:=gH h;clear h)
  | (go_at_call 93;(with_reducible refine (UX w0 _ b _ x.bN Al cl _ H2.out Sh7.out gl.out.l kP.out).mono ?_);rintro e w3 ⟨rfl,h⟩;have r:=HM.out _ _ h;have yb:=r.1;have aaQ:=r.cell (j:=9) rfl;clear r;have H3:=gH h;clear h)
  | (go_at_call 95;(with_reducible refine (w_num w0 _ b _ x.last _ H3.out gl.out.n Bp.out).mono ?_);rintro e w4 ⟨rfl,h⟩;have H4:=gH h;clear h))
 go_end0
 have H:=H4.out.pop;simp only [List.append_assoc] at H;exact ⟨rfl,H⟩
theorem pq (q:Addr) (w:World) :
  CallsD Tryz.prog 89 #[.pointer (some q)] .returning w fun e u' w'=>e=.returned (.tuple #[])∧u'=.returning∧w'=w:=by
 refine callsD_of_wpS Tryz.func89 rfl fun Iq cs hu=>?_
 apply wpS_seq;apply wpS_region;simp [wpOpsS,go_sem,recoverD,hu,Tryz.ntmps89,Exit.thenS];have e:(#[Value.pointer (some q)]++((Array.replicate 10 undef).setIfInBounds 2 Value.nilIface).setIfInBounds 1 Value.nilIface)=#[Value.pointer (some q),undef,Value.nilIface,Value.nilIface,undef,undef,undef,undef,undef,undef,undef]:=rfl;rw [e];clear e;refine wpS_of_wp ?_;go_wp2_with fail
 cases Iq
 refine ⟨rfl,_,?_,.tuple #[],?_,rfl,rfl,rfl⟩
 ·simp only at hu
  subst hu;rfl
 ·exact results_none rfl _ _ _
theorem iu.own {w0 w:World} {Q:List (Nat × Obj)} {b n c:Nat} {A:Option Addr} {l:Bt} (h:iu w0 Q b l w) (hy:w.cell? ⟨b,0,none⟩=some (.slice A n c)):w.ownsRow w0.heap.size 5 1 (.slice A l.length c) l.length (jD l):=by
 obtain ⟨A',c',r,o,_⟩:=h.ex;have e:=r.cell (j:=0) rfl;rw [hy] at e
 injection e with e
 injection e with e1 _ e2
 subst e1;subst e2;exact o
theorem jE {fn:Func} {a u:Tmp} {t s:TypeId} (h:fn.results=#[.cell a t,.cell u s]) (tmps:Array Value) {P:Program} {w:World} {p q:Addr} {v x:Value} (ha:tmps.getD a undef=.pointer (some p)) (hu:tmps.getD u undef=.pointer (some q)) (hl:(loadVar t p).run P w=.ok v w) (hm:(loadVar s q).run P w=.ok x w) :
  (results fn tmps).run P w=.ok (.tuple #[v,x]) w:=by
 rw [Array.getD_eq_getD_getElem?] at ha hu;simp [results,h,ha,hu,asAddr,hl,hm]
theorem jz {V:World} {q:Nat} {k:Int} (h:au V q [.int .i64 k]):(loadVar 46 ⟨q,0,none⟩).run Tryz.prog V=.ok (.int .i64 k) V:=by
 have y0:=h.cell (j:=0) rfl;simp [go_sem,y0]
theorem Fq {V:World} {q:Nat} {A:Option Addr} {n c:Nat} (h:au V q [.slice A n c]):(loadVar 84 ⟨q,0,none⟩).run Tryz.prog V=.ok (.slice A n c) V:=by
 have y0:=h.cell (j:=0) rfl;simp [go_sem,y0]
theorem Ir (p q:Nat) (u:FrameMode) (w:World) (rq:au w q [.int .i64 0]) :
  CallsD Tryz.prog 88 #[.pointer (some ⟨q,0,none⟩),.pointer (some ⟨p,0,none⟩)] u w fun e u' w'=>u'=u∧e=.returned (.tuple #[])∧w'=w:=by
 have y0:=rq.cell (j:=0) rfl;clear rq
 go_enter_d Tryz.func88,Tryz.ntmps88
 go_wp2
 go_end0
 exact ⟨rfl,rfl⟩
theorem Iu {tmps:Array Value} {R:Ending→World→Prop} {p q:Nat} {A:Option Addr} {n c:Nat} {V:World} (h4:tmps.getD 4 undef=.pointer (some ⟨p,0,none⟩)) (h5:tmps.getD 5 undef=.pointer (some ⟨q,0,none⟩)) (rp:au V p [.slice A n c]) (rq:au V q [.int .i64 0])
  (hR:R (.returned (.tuple #[.slice A n c,.int .i64 0])) V) :
  Leaves Tryz.prog Tryz.f61 tmps R [{ target:=Target.fn (Fn.func 89) #[],args:=#[.pointer (some ⟨q,0,none⟩)] },{ target:=Target.fn (Fn.func 88) #[.pointer (some ⟨q,0,none⟩),.pointer (some ⟨p,0,none⟩)],args:=#[] }] .returning V:=by
 refine leaves_cons (f:=89) (args:=#[.pointer (some ⟨q,0,none⟩)]) (by simp) (by simp [go_sem]) ?_;refine (pq ⟨q,0,none⟩ V).mono ?_;rintro e u' w1 ⟨rfl,rfl,rfl⟩;refine leaves_cons (f:=88) (args:=#[.pointer (some ⟨q,0,none⟩),.pointer (some ⟨p,0,none⟩)]) (by simp [settle]) (by simp [go_sem]) ?_;refine (Ir p q _ w1 rq).mono ?_;rintro e u' w2 ⟨rfl,rfl,rfl⟩;exact ⟨_,jE rfl tmps h4 h5 (Fq rp) (jz rq),hR⟩
theorem LR (x:gD) (As:Option Addr) (cs:Nat) (At:Option Addr) (ct:Nat) (An:Option Addr) (cn:Nat) (Am:Option Addr) (cm:Nat) (Ag:Option Addr) (cg:Nat) (Ad:Option Addr) (cd:Nat) (Al:Option Addr) (cl:Nat) (w:World) (ok:nZ x) (h1:aA w 2 eL As cs x.cat.ah.aa) (h2:aA w 5 dE At ct x.cat.ah.tables) (h3:aA w 1 dg An cn x.cat.ai.names) (h4:aA w 2 fw Am cm x.cat.ai.members) (h5:aA w 6 gC Ag cg x.cat.af) (h6:aA w 5 fQ Ad cd x.aR) (h7:aA w 4 fY Al cl x.bN) (hl:(jq x).length≤90000000) :
  Calls Tryz.prog 61 #[.agg #[.int .i64 x.cat.ax,.int .i64 x.cat.version,.slice As x.cat.ah.aa.length cs,.slice At x.cat.ah.tables.length ct,.slice An x.cat.ai.names.length cn,.slice Am x.cat.ai.members.length cm,.slice Ag x.cat.af.length cg,.slice Ad x.aR.length cd,.slice Al x.bN.length cl,.int .i64 x.last],.func (.func 62) #[] #[]] w (uu w (jq x)):=by
 have OW:∀ (fn:Fn) (first cap:Array Value) (w:World),(Instr.makeFunc fn first cap).run Tryz.prog w=.ok (.func fn first cap) w:=fun _ _ _ _=>rfl
 obtain ⟨W,hW⟩:∃ W,W=((w.alloc (.cells #[.int .i64 x.cat.ax,.int .i64 x.cat.version,.slice As x.cat.ah.aa.length cs,.slice At x.cat.ah.tables.length ct,.slice An x.cat.ai.names.length cn,.slice Am x.cat.ai.members.length cm,.slice Ag x.cat.af.length cg,.slice Ad x.aR.length cd,.slice Al x.bN.length cl,.int .i64 x.last] 36)).alloc (.cells #[.slice none 0 0] 84)).alloc (.cells #[.int .i64 0] 46):=⟨_,rfl⟩
 have aW:ag w W:=by rw [hW];exact (((ag.refl w).alloc _).alloc _).alloc _
 have zW:W.heap.size=w.heap.size+3:=by rw [hW];simp
 have r0:au W w.heap.size [.int .i64 x.cat.ax,.int .i64 x.cat.version,.slice As x.cat.ah.aa.length cs,.slice At x.cat.ah.tables.length ct,.slice An x.cat.ai.names.length cn,.slice Am x.cat.ai.members.length cm,.slice Ag x.cat.af.length cg,.slice Ad x.aR.length cd,.slice Al x.bN.length cl,.int .i64 x.last]:=by
  rw [hW];exact (aU (c:=[.int .i64 x.cat.ax,.int .i64 x.cat.version,.slice As x.cat.ah.aa.length cs,.slice At x.cat.ah.tables.length ct,.slice An x.cat.ai.names.length cn,.slice Am x.cat.ai.members.length cm,.slice Ag x.cat.af.length cg,.slice Ad x.aR.length cd,.slice Al x.bN.length cl,.int .i64 x.last]) (t:=36) (((ag.refl _).alloc _).alloc _))
 have r1:au W (w.heap.size+1) [.slice none 0 0]:=by
  rw [hW];have:=aU (w:=w.alloc (.cells #[.int .i64 x.cat.ax,.int .i64 x.cat.version,.slice As x.cat.ah.aa.length cs,.slice At x.cat.ah.tables.length ct,.slice An x.cat.ai.names.length cn,.slice Am x.cat.ai.members.length cm,.slice Ag x.cat.af.length cg,.slice Ad x.aR.length cd,.slice Al x.bN.length cl,.int .i64 x.last] 36)) (c:=[.slice none 0 0]) (t:=84) ((ag.refl _).alloc (.cells #[.int .i64 0] 46))
  rwa [show (w.alloc (.cells #[.int .i64 x.cat.ax,.int .i64 x.cat.version,.slice As x.cat.ah.aa.length cs,.slice At x.cat.ah.tables.length ct,.slice An x.cat.ai.names.length cn,.slice Am x.cat.ai.members.length cm,.slice Ag x.cat.af.length cg,.slice Ad x.aR.length cd,.slice Al x.bN.length cl,.int .i64 x.last] 36)).heap.size=w.heap.size+1 by simp] at this
 have r2:au W (w.heap.size+1+1) [.int .i64 0]:=by
  rw [hW];have:=aU (w:=(w.alloc (.cells #[.int .i64 x.cat.ax,.int .i64 x.cat.version,.slice As x.cat.ah.aa.length cs,.slice At x.cat.ah.tables.length ct,.slice An x.cat.ai.names.length cn,.slice Am x.cat.ai.members.length cm,.slice Ag x.cat.af.length cg,.slice Ad x.aR.length cd,.slice Al x.bN.length cl,.int .i64 x.last] 36)).alloc (.cells #[.slice none 0 0] 84)) (c:=[.int .i64 0]) (t:=46) (ag.refl _)
  rwa [show ((w.alloc (.cells #[.int .i64 x.cat.ax,.int .i64 x.cat.version,.slice As x.cat.ah.aa.length cs,.slice At x.cat.ah.tables.length ct,.slice An x.cat.ai.names.length cn,.slice Am x.cat.ai.members.length cm,.slice Ag x.cat.af.length cg,.slice Ad x.aR.length cd,.slice Al x.bN.length cl,.int .i64 x.last] 36)).alloc (.cells #[.slice none 0 0] 84)).heap.size=w.heap.size+1+1 by simp] at this
 obtain ⟨V,hV⟩:∃ V,V=W.alloc (.cells #[.slice none 0 0] 129):=⟨_,rfl⟩
 have aV:ag W V:=by rw [hV];exact (ag.refl W).alloc _
 have hs0:iu W [] (w.heap.size+3) [] V:=by
  rw [hV,← zW];exact ⟨⟨none,0,aU (ag.refl _),World.ownsRow_nil _ _ _ _,by simp [Value.ownBlock],fun x hx=>by cases hx⟩,(ag.refl W).alloc _,Nat.le_refl _,fun x hx=>by cases hx⟩
 have HC:=gH (show Calls Tryz.prog 62 #[.pointer (some ⟨w.heap.size+3,0,none⟩),.agg #[.int .i64 x.cat.ax,.int .i64 x.cat.version,.slice As x.cat.ah.aa.length cs,.slice At x.cat.ah.tables.length ct,.slice An x.cat.ai.names.length cn,.slice Am x.cat.ai.members.length cm,.slice Ag x.cat.af.length cg,.slice Ad x.aR.length cd,.slice Al x.bN.length cl,.int .i64 x.last]] V (rT W [] (w.heap.size+3) (jq x)) from UY W [] _ [] x As cs At ct An cn Am cm Ag cg Ad cd Al cl V hs0 ok (h1.aH aW fun _ _ h=>h) (h2.aH aW fun _ _ h=>dE.aH aW h) (h3.aH aW fun _ _ h=>h) (h4.aH aW fun _ _ h=>h) (h5.aH aW fun _ _ h=>h) (h6.aH aW fun _ _ h=>h) (h7.aH aW fun _ _ h=>h) (by simpa using hl));have R0:=r0.aH aV;obtain ⟨c0,c1,c2,c3,c4,c5,c6,c7,c8,c9⟩:=uX R0;have cb:=R0.1;have HR:=gH (And.intro r1 (And.intro r2 (And.intro aW zW)));clear aV hs0 r0 r1 r2 R0 aW ok h1 h2 h3 h4 h5 h6 h7
 go_enter_defers Tryz.func61,Tryz.ntmps61
 go_upto_region 1 with fail
 rw [← hW];clear hW
 go_upto_region 4 with fail
 rw [← hV];clear hV
 go_wp2_with (first
  | (go_at_call 62;(with_reducible refine HC.out.mono ?_);rintro e w1 ⟨rfl,h⟩;obtain ⟨A,c,y0,-,yb,-⟩:=h.read (by omega);have a1:=h.aH;have p1:=HR.out.1.aH a1;have p2:=HR.out.2.1.aH a1;have f1:=p1.2.2 0 (by simp);have f2:=p2.2.2 0 (by simp);have b1:=p1.1;have b2:=p2.1;have q1:=p1.cell (j:=0) rfl;have q2:=p2.cell (j:=0) rfl;have H1:=gH (And.intro (h.own y0) (And.intro a1 (And.intro p1 p2)));clear h a1 p1 p2))
 obtain ⟨o,a1,p1,p2⟩:=H1.out;obtain ⟨-,-,aW,zW⟩:=HR.out;have k1:=Kb.set w1 (w.heap.size+1) 0 (.slice A (jq x).length c);have k2:=Kb.set (w1.setCell ⟨w.heap.size+1,0,none⟩ (.slice A (jq x).length c)) (w.heap.size+1+1) 0 (.int .i64 0);refine Iu rfl rfl (k2.row (p1.set 0 _ (by simp)) (by omega)) ((k1.row p2 (by omega)).set 0 _ (by simp)) ?_;obtain ⟨g,c',e,hg,_,_⟩:=cB o (by simp only [jq,sG,bO,List.length_append,il];omega)
 injection e with e _ e'
 subst e;subst e';have og:=o.lt g rfl
 exact ⟨k2.aN (k1.aN (aW.trans a1) (fun j hj e=>by omega)) (fun j hj e=>by omega),g,c,rfl,bS (bB (bB o k1 (fun j hj e=>by
  have:g=j:=by simpa [Value.ownBlock] using hj
  omega)) k2 (fun j hj e=>by
  have:g=j:=by simpa [Value.ownBlock] using hj
  omega)) (by omega)⟩
theorem uv (q:Nat) (x:Value) (w:World) (rq:au w q [x]) :
  CallsD Tryz.prog 89 #[.pointer (some ⟨q,0,none⟩)] (.panicking [{ v:=.iface 209 (.agg #[.int .i64 11]),recovered:=false }]) w fun e u' w' =>
   e=.returned (.tuple #[])∧u'=.panicking [{ v:=.iface 209 (.agg #[.int .i64 11]),recovered:=true }]∧Kb (fun g=>g=q) w w'∧au w' q [.int .i64 11]:=by
 refine callsD_of_wpS Tryz.func89 rfl fun Iq cs hu=>?_
 apply wpS_seq;apply wpS_region;simp [wpOpsS,go_sem,recoverD,hu,Tryz.ntmps89,Exit.thenS];have e:(#[Value.pointer (some ⟨q,0,none⟩)]++((Array.replicate 10 undef).setIfInBounds 2 (Value.iface 209 (Value.agg #[.int .i64 11]))).setIfInBounds 1 (Value.iface 209 (Value.agg #[.int .i64 11])))=#[Value.pointer (some ⟨q,0,none⟩),undef,Value.iface 209 (Value.agg #[.int .i64 11]),Value.iface 209 (Value.agg #[.int .i64 11]),undef,undef,undef,undef,undef,undef,undef]:=rfl;rw [e];clear e;have HQ:=gH rq;have y0:=rq.cell (j:=0) rfl;have g0:=rq.2.2 0 (by simp);have yz:=rq.1;clear rq
 have Tl:∀ V:World,(Instr.field 209 (.agg #[.int .i64 11]) 0).run Tryz.prog V=.ok (.int .i64 11) V:=fun _=>by kernel_rfl
 have hta:∀ V:World,(Instr.typeAssert (Value.iface 209 (Value.agg #[.int .i64 11])) 20 209 false).run Tryz.prog V=.ok (.agg #[.int .i64 11]) V:=fun V=>by first | rfl | kernel_rfl
 refine wpS_of_wp ?_;go_wp2_with fail;refine ⟨rfl,_,rfl,.tuple #[],?_,rfl,rfl,Kb.set _ _ _ _ |>.mono (fun g _ e=>e),?_⟩
 ·exact results_none rfl _ _ _
 ·exact HQ.out.set 0 _ (by simp)
def YQ {α:Type} (R:World→List Value→α→Prop) (zs:List Value) (w:World) (o:Option (α × Bt)) (e:Ending) (w':World):Prop:=ag w w'∧match o with
 | some (x,[])=>∃ (S:Nat→Prop) (cs:List Value),(∀ j,S j→w.heap.size≤j)∧e=.returned (.tuple #[.agg cs.toArray,.int .i64 0])∧gZ S R w' cs x
 | _=>e=.returned (.tuple #[.agg zs.toArray,.int .i64 11])
theorem UZ (c:Bool) (hc:c=false) (w:World):Calls Tryz.prog 98 #[.bool c] w fun e w'=>e=ea∧w=w':=by
 subst hc;exact gR w
theorem PW {w W w1:World} {q2 g2:Nat} {l:Bt} {A:Option Addr} {c:Nat} (aW:ag w W) (hx:aA w 1 wQ A c l) (a2:ag W w1) (k1:W.heap.size≤q2) (k2:W.heap.size≤g2) (c2:qi w1 q2 g2 l) (t:TypeId) :
  gY w (fun j=>j < W.heap.size) w1.heap.size l (w1.alloc (.cells #[.pointer (some ⟨q2,0,none⟩),.slice A l.length c] t)):=by
 have a3:=(ag.refl w1).alloc (.cells #[.pointer (some ⟨q2,0,none⟩),.slice A l.length c] t);obtain ⟨_,_,rq,_,_,hg⟩:=c2.ex;have hq:=rq.1;have z1:=aW.size;have z2:=a2.size;exact ⟨⟨q2,g2,A,c,l,aU (c:=[.pointer (some ⟨q2,0,none⟩),.slice A l.length c]) (ag.refl _),hx,c2.kb (P:=fun _=>False) (Kb.bl a3) id id,⟨[],rfl⟩,by omega,by omega,by omega,by omega,by omega,by omega,c2.len⟩,by omega,(aW.trans a2).trans a3,by omega,fun j e=>by have:=a3.size;omega⟩
def dN:List Value:=[.int .i64 0,.int .i64 0,.slice none 0 0,.slice none 0 0,.slice none 0 0,.slice none 0 0,.slice none 0 0,.slice none 0 0,.slice none 0 0,.int .i64 0]
theorem Fr (p q:Nat) (k:Int) (xs:List Value) (hk:k≠0) (u:FrameMode) (w:World) (rp:au w p xs) (hl:xs.length=10) (rq:au w q [.int .i64 k]) (OX:p≠q) :
  CallsD Tryz.prog 96 #[.pointer (some ⟨q,0,none⟩),.pointer (some ⟨p,0,none⟩)] u w fun e u' w' =>
   u'=u∧e=.returned (.tuple #[])∧w'=(w.alloc (.cells dN.toArray 36)).setCells p 0 dN:=by
 have y0:=rq.cell (j:=0) rfl;have hst:(qN ⟨p,0,none⟩ (.agg dN.toArray)).run Tryz.prog (w.alloc (.cells dN.toArray 36))=.ok () ((w.alloc (.cells dN.toArray 36)).setCells p 0 dN):=kh (T:=36) (k:=10) (vs:=dN) (by kernel_rfl) (rp.aH ((ag.refl w).alloc _)) hl rfl (by simp [dN,Value.oneCell'])
 have hne:(k != 0)=true:=by simpa using hk
 unfold dN at hst;clear rq rp
 go_enter_d Tryz.func96,Tryz.ntmps96
 go_wp2
 go_end0
 exact ⟨rfl,rfl⟩
theorem Fs (p q:Nat) (u:FrameMode) (w:World) (rq:au w q [.int .i64 0]) :
  CallsD Tryz.prog 96 #[.pointer (some ⟨q,0,none⟩),.pointer (some ⟨p,0,none⟩)] u w fun e u' w'=>u'=u∧e=.returned (.tuple #[])∧w'=w:=by
 have y0:=rq.cell (j:=0) rfl;clear rq
 go_enter_d Tryz.func96,Tryz.ntmps96
 go_wp2
 go_end0
 exact ⟨rfl,rfl⟩
theorem Fu {tmps:Array Value} {R:Ending→World→Prop} {p q:Nat} {cs:List Value} {V:World} (h4:tmps.getD 4 undef=.pointer (some ⟨p,0,none⟩)) (h5:tmps.getD 5 undef=.pointer (some ⟨q,0,none⟩)) (rp:au V p cs) (hl:cs.length=10) (rq:au V q [.int .i64 0])
  (hR:R (.returned (.tuple #[.agg cs.toArray,.int .i64 0])) V) :
  Leaves Tryz.prog Tryz.f63 tmps R [{ target:=Target.fn (Fn.func 89) #[],args:=#[.pointer (some ⟨q,0,none⟩)] },{ target:=Target.fn (Fn.func 96) #[.pointer (some ⟨q,0,none⟩),.pointer (some ⟨p,0,none⟩)],args:=#[] }] .returning V:=by
 refine leaves_cons (f:=89) (args:=#[.pointer (some ⟨q,0,none⟩)]) (by simp) (by simp [go_sem]) ?_;refine (pq ⟨q,0,none⟩ V).mono ?_;rintro e u' w1 ⟨rfl,rfl,rfl⟩;refine leaves_cons (f:=96) (args:=#[.pointer (some ⟨q,0,none⟩),.pointer (some ⟨p,0,none⟩)]) (by simp [settle]) (by simp [go_sem]) ?_;refine (Fs p q _ w1 rq).mono ?_;rintro e u' w2 ⟨rfl,rfl,rfl⟩;exact ⟨_,jE rfl tmps h4 h5 (fZ Tryz.underlying36 (by kernel_rfl) rp hl) (jz rq),hR⟩
theorem uY {tmps:Array Value} {R:Ending→World→Prop} {p q:Nat} {xs:List Value} {x:Value} {V:World} (h4:tmps.getD 4 undef=.pointer (some ⟨p,0,none⟩)) (h5:tmps.getD 5 undef=.pointer (some ⟨q,0,none⟩)) (rp:au V p xs) (hl:xs.length=10) (rq:au V q [x]) (OX:p≠q)
  (hR:∀ w',Kb (fun g=>g=p∨g=q) V w'→R (.returned (.tuple #[.agg dN.toArray,.int .i64 11])) w') :
  Leaves Tryz.prog Tryz.f63 tmps R [{ target:=Target.fn (Fn.func 89) #[],args:=#[.pointer (some ⟨q,0,none⟩)] },{ target:=Target.fn (Fn.func 96) #[.pointer (some ⟨q,0,none⟩),.pointer (some ⟨p,0,none⟩)],args:=#[] }] (.panicking [{ v:=.iface 209 (.agg #[.int .i64 11]),recovered:=false }]) V:=by
 refine leaves_cons (f:=89) (args:=#[.pointer (some ⟨q,0,none⟩)]) (by simp) (by simp [go_sem]) ?_;refine (uv q x V rq).mono ?_;rintro e u' w1 ⟨rfl,rfl,kb,r1⟩;have rp1:=kb.row rp OX;refine leaves_cons (f:=96) (args:=#[.pointer (some ⟨q,0,none⟩),.pointer (some ⟨p,0,none⟩)]) (by simp [settle]) (by simp [go_sem]) ?_;refine (Fr p q 11 xs (by decide) _ w1 rp1 hl r1 OX).mono ?_;rintro e u' w2 ⟨rfl,rfl,rfl⟩;have a1:=(ag.refl w1).alloc (.cells dN.toArray 36);have k2:=cX p dN (w1.alloc (.cells dN.toArray 36)) 0
 have r2:au ((w1.alloc (.cells dN.toArray 36)).setCells p 0 dN) p dN:=by simpa using eW dN _ [] xs (rp1.aH a1) hl
 have r3:=k2.row (r1.aH a1) (fun e=>OX e.symm);exact ⟨_,jE rfl tmps h4 h5 (fZ Tryz.underlying36 (by kernel_rfl) r2 rfl) (jz r3),hR _ (((kb.mono fun g _ e=>.inr e).trans (Kb.bl a1)).trans (k2.mono fun g _ e=>.inl e))⟩
theorem Eh {w W w1 w2:World} {b:Nat} {o:Obj} {A:Option Addr} {c:Nat} {l r:Bt} {x:gD} {d:Option (gD × Bt)} {e:Ending}
  (hb:ag w W∧W.heap.size=w.heap.size+2∧au W w.heap.size dN∧au W (w.heap.size+1) [.int .i64 0]∧aA w 1 wQ A c l) (a1:ag W w1) (q:eE 10 ed w (fun j=>j < W.heap.size) b (w1.alloc o) d e w2) (hd:d=some (x,r)) :
  ∃ (S:Nat→Prop) (cs:List Value),e=.returned (.agg cs.toArray)∧(qN ⟨w.heap.size,0,none⟩ (.agg cs.toArray)).run Tryz.prog w2=.ok () (w2.setCells w.heap.size 0 cs)∧∃ q2,(w2.setCells w.heap.size 0 cs).cell? ⟨b,0,none⟩=some (.pointer (some ⟨q2,0,none⟩))∧b < (w2.setCells w.heap.size 0 cs).heap.size ∧
   (lW ⟨w.heap.size,0,none⟩).run Tryz.prog (w2.setCells w.heap.size 0 cs)=.ok (.agg cs.toArray) (w2.setCells w.heap.size 0 cs)∧(qN ⟨w.heap.size,0,none⟩ (.agg cs.toArray)).run Tryz.prog (w2.setCells w.heap.size 0 cs)=.ok () ((w2.setCells w.heap.size 0 cs).setCells w.heap.size 0 cs) ∧
   Calls Tryz.prog 99 #[.pointer (some ⟨q2,0,none⟩)] (w2.setCells w.heap.size 0 cs) (fun e w'=>e=.returned (.int .i64 r.length)∧(w2.setCells w.heap.size 0 cs)=w') ∧
   ag w (w2.setCells w.heap.size 0 cs)∧au (w2.setCells w.heap.size 0 cs) w.heap.size cs∧au (w2.setCells w.heap.size 0 cs) (w.heap.size+1) [.int .i64 0]∧ag w ((w2.setCells w.heap.size 0 cs).setCells w.heap.size 0 cs)∧au ((w2.setCells w.heap.size 0 cs).setCells w.heap.size 0 cs) w.heap.size cs∧cs.length=10∧au ((w2.setCells w.heap.size 0 cs).setCells w.heap.size 0 cs) (w.heap.size+1) [.int .i64 0]∧(∀ j,S j→W.heap.size≤j)∧gZ S ed ((w2.setCells w.heap.size 0 cs).setCells w.heap.size 0 cs) cs x:=by
 obtain ⟨aW,zW,rp,rq,-⟩:=hb;subst hd;obtain ⟨k,S,cs,sn,d2,rfl,hl,h1,hs⟩:=q
 have a2:ag W w2:=k.aN (a1.alloc o) fun k hk e=>e hk
 have k3:=cX w.heap.size cs w2 0;have k4:=cX w.heap.size cs (w2.setCells w.heap.size 0 cs) 0;have r2:=rp.aH a2
 have r3:au (w2.setCells w.heap.size 0 cs) w.heap.size cs:=by simpa using eW cs w2 [] dN r2 (by rw [hl];rfl)
 have r4:au ((w2.setCells w.heap.size 0 cs).setCells w.heap.size 0 cs) w.heap.size cs:=by simpa using eW cs _ [] cs r3 rfl
 have d3:=d2.step (Q':=fun j=>j < W.heap.size∨S j) (k3.mono fun j _ e=>⟨.inl (by omega),by omega⟩) fun j e=>.inl e
 obtain ⟨q2,g2,y0,yb,c3,-⟩:=d3.opn
 have hS:∀ j,S j→W.heap.size≤j:=by
  intro j e;have:=sn j e;have:=a1.size
  have:(w1.alloc o).heap.size=w1.heap.size+1:=by simp
  omega
 have XP:ag w (w2.setCells w.heap.size 0 cs):=k3.aN (aW.trans a2) fun j hj e=>by omega
 have q3:au (w2.setCells w.heap.size 0 cs) (w.heap.size+1) [.int .i64 0]:=k3.row (rq.aH a2) (by omega)
 exact ⟨S,cs,rfl,kh (T:=36) (k:=10) (by kernel_rfl) r2 rfl hl h1,q2,y0,yb,fZ (T:=36) Tryz.underlying36 (by kernel_rfl) r3 hl,kh (T:=36) (k:=10) (by kernel_rfl) r3 hl hl h1,yw q2 g2 r _ c3,
  XP,r3,q3,k4.aN XP fun j hj e=>by omega,r4,hl,k4.row q3 (by omega),hS,hs.kb ((k3.mono fun j _ e e'=>by have:=hS j e';omega).trans (k4.mono fun j _ e e'=>by have:=hS j e';omega)) fun _ e=>e⟩
theorem LS (l:Bt) (A:Option Addr) (c:Nat) (hl:l.length≤1000000000) (w:World) (hx:aA w 1 wQ A c l) :
  Calls Tryz.prog 63 #[.slice A l.length c,.func (.func 64) #[] #[]] w (YQ ed dN w (nS l)):=by
 obtain ⟨W,hW⟩:∃ W,W=(w.alloc (.cells dN.toArray 36)).alloc (.cells #[.int .i64 0] 46):=⟨_,rfl⟩
 have aW:ag w W:=by rw [hW];exact ((ag.refl w).alloc _).alloc _
 have zW:W.heap.size=w.heap.size+2:=by rw [hW];simp
 have rp:au W w.heap.size dN:=by rw [hW];exact aU ((ag.refl _).alloc _)
 have rq:au W (w.heap.size+1) [.int .i64 0]:=by
  rw [hW];have:=aU (w:=w.alloc (.cells dN.toArray 36)) (c:=[.int .i64 0]) (t:=46) (ag.refl _)
  rwa [show (w.alloc (.cells dN.toArray 36)).heap.size=w.heap.size+1 by simp] at this
 have HN:=gH (wR l A c hl W (hx.aH aW fun _ _ h=>h));have HB:=gH (And.intro aW (And.intro zW (And.intro rp (And.intro rq hx))));have YR:=gH (show ∀ w1 q2 g2,ag W w1→W.heap.size≤q2→W.heap.size≤g2→qi w1 q2 g2 l→Calls Tryz.prog 64 #[.pointer (some ⟨w1.heap.size,0,none⟩)] (w1.alloc (.cells #[.pointer (some ⟨q2,0,none⟩),.slice A l.length c] 141)) (eE 10 ed w (fun j=>j < W.heap.size) w1.heap.size (w1.alloc (.cells #[.pointer (some ⟨q2,0,none⟩),.slice A l.length c] 141)) (nS l)) from fun w1 q2 g2 a2 k1 k2 c2=>Uz w _ _ l _ (PW aW hx a2 k1 k2 c2 _));clear aW zW rp rq hx
 delta dN at hW
 cases hd:nS l with
 | none =>
  have HD:=gH hd;clear hd
  go_enter_defers Tryz.func63,Tryz.ntmps63
  go_upto_region 1 with fail
  rw [← hW];clear hW
  go_wp2_with (first
   | (go_at_call 97;(with_reducible refine HN.out.mono ?_);rintro e w1 ⟨q2,g2,rfl,a2,k1,k2,c2⟩;have C1:=gH (YR.out w1 q2 g2 a2 k1 k2 c2);have A1:=gH a2;clear a2 k1 k2 c2)
   | (go_at_call 64;(with_reducible refine C1.out.mono ?_);rintro e w2 q;rcases q.cases with ⟨n,he,k⟩ | ⟨S1,cs1,x1,r1,n,-⟩;rotate_left;(exfalso;have:=HD.out;rw [this] at n;cases n);unfold ea at he;subst he;have K1:=gH k;clear q n k))
  obtain ⟨aW,zW,rp,rq,-⟩:=HB.out
  have a2:ag W w2:=K1.out.aN (A1.out.alloc _) fun k hk e=>e hk
  refine uY rfl rfl (rp.aH a2) rfl (rq.aH a2) (by omega) fun w' kb=>?_
  exact ⟨kb.aN (aW.trans a2) fun j hj e=>by omega,rfl⟩
 | some p =>
  obtain ⟨x,r⟩:=p;have HD:=gH hd;clear hd
  cases r with
  | nil =>
   go_enter_defers Tryz.func63,Tryz.ntmps63
   go_upto_region 1 with fail
   rw [← hW];clear hW
   go_wp2_with (first
    | (go_at_call 97;(with_reducible refine HN.out.mono ?_);rintro e w1 ⟨q2,g2,rfl,a2,k1,k2,c2⟩;have C1:=gH (YR.out w1 q2 g2 a2 k1 k2 c2);have A1:=gH a2;clear a2 k1 k2 c2)
    | (go_at_call 64;(with_reducible refine C1.out.mono ?_);rintro e w2 q;obtain ⟨S1,cs1,rfl,t1⟩:=Eh HB.out A1.out q HD.out;obtain ⟨s1,q3,y0,yb,y1,s2,t2⟩:=t1;have q4:=t2.2.2.2.2.2.2.2.1;have z0:=q4.cell (j:=0) rfl;have z1:=q4.2.2 0 (by simp);have z2:=q4.1;clear q4;have T2:=gH t2;clear t2 q)
    | (go_at_call 99;(with_reducible refine T2.out.1.mono ?_);rintro e w3 ⟨rfl,rfl⟩)
    | (go_at_call 98;(with_reducible refine (gQ _).mono ?_);rintro e w3 ⟨rfl,rfl⟩))
   obtain ⟨-,-,-,-,XQ,r4,hl4,q4,hS,hh⟩:=T2.out;obtain ⟨aW,zW,-⟩:=HB.out;have k5:=Kb.set ((w2.setCells w.heap.size 0 cs1).setCells w.heap.size 0 cs1) (w.heap.size+1) 0 (.int .i64 0);refine Fu (p:=w.heap.size) (q:=w.heap.size+1) (by rfl) (by rfl) (k5.row r4 (by omega)) hl4 (q4.set 0 _ (by simp)) ?_;exact ⟨k5.aN XQ fun j hj e=>by omega,S1,cs1,fun j e=>by have:=hS j e;omega,rfl,hh.kb (k5.mono fun j _ e e'=>by have:=hS j e';omega) fun _ e=>e⟩
  | cons x9 r9 =>
   go_enter_defers Tryz.func63,Tryz.ntmps63
   go_upto_region 1 with fail
   rw [← hW];clear hW
   go_wp2_with (first
    | (go_at_call 97;(with_reducible refine HN.out.mono ?_);rintro e w1 ⟨q2,g2,rfl,a2,k1,k2,c2⟩;have C1:=gH (YR.out w1 q2 g2 a2 k1 k2 c2);have A1:=gH a2;clear a2 k1 k2 c2)
    | (go_at_call 64;(with_reducible refine C1.out.mono ?_);rintro e w2 q;obtain ⟨S1,cs1,rfl,t1⟩:=Eh HB.out A1.out q HD.out;obtain ⟨s1,q3,y0,yb,y1,s2,t2⟩:=t1;have T2:=gH t2;clear t2 q)
    | (go_at_call 99;(with_reducible refine T2.out.1.mono ?_);rintro e w3 ⟨rfl,rfl⟩)
    | (go_at_call 98;(with_reducible refine (UZ _ (by first | rfl | (simp;done) | (simp;omega)) _).mono ?_);rintro e w3 ⟨he,rfl⟩;unfold ea at he;subst he))
   obtain ⟨-,XP,r3,q3,-,-,hl4,-⟩:=T2.out
   refine uY (p:=w.heap.size) (q:=w.heap.size+1) (by rfl) (by rfl) r3 hl4 q3 (by omega) fun w' kb=>?_
   exact ⟨kb.aN XP fun j hj e=>by omega,rfl⟩
end Go.Proofs.YtakddkhipelmjaaGreat
