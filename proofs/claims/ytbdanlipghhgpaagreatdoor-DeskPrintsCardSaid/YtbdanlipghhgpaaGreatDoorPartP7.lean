import Derived.Deep.RegionLaw
import Derived.RegionDies
import Derived.Test.YtbdanlipghhgpaaGreatDoorPartP6
namespace Go.Proofs.YtbdanlipghhgpaaGreatDoor
open Go.RowKit Go.Deep
set_option maxRecDepth 100000
set_option linter.unusedVariables false
set_option maxHeartbeats 64000000
structure GrowX {α:Type} (ty:TypeId) (size:Nat) (cells:α→List Value) (f:ByteArray→Option α) (j:Nat) (b p r x:Nat) (w:World) (zs cs:List Value) (B:Nat) (W:Ws) (wr:World) (pre rest:Ws) (l:List α) (h:Hd):Prop where
 split:W=pre++rest
 some:pre.mapM f=Option.some l
 ne:l≠[]
 bx:Bx b p r x w wr rest zs (cs.set j (.slice h.a l.length h.c))
 own:OwnR ty size cells b B wr (.slice h.a l.length h.c) l
section
variable {α : Type} {ty : TypeId} {size : Nat} {cells : α → List Value} {f : ByteArray → Option α} {j b p r x B : Nat} {w : World} {zs cs : List Value} {W : Ws} {wr : World} {pre rest : Ws} {l : List α} {h : Hd}
theorem GrowX.small (g:GrowX ty size cells f j b p r x w zs cs B W wr pre rest l h) (hW:W.length≤4097):l.length≤4097:=by
 have:=mapM_len g.some
 have:=congrArg List.length g.split
 simp at this
 omega
theorem GrowX.more (g:GrowX ty size cells f j b p r x w zs cs B W wr pre rest l h) {s:ByteArray} {t:Ws} (hr:rest=s::t):l.length < W.length:=by
 have:=mapM_len g.some
 have:=congrArg List.length g.split
 simp [hr] at this
 omega
theorem GrowX.step {s:ByteArray} (g:GrowX ty size cells f j b p r x w zs cs B W wr pre (s::rest) l h) (S:Bs b p r x w) (hj:j < cs.length) (hxB:x < B) (hrB:r < B) (hbB:b < B) (hpB:p < B) {y:α} {w1 w5:World} {o:Obj} {gg cap:Nat} (hs:f s=Option.some y) (k1:Kw b wr w1) (d1:WdS w1 b p rest)
  (ho:w5.ownsRow B ty size (.slice (Option.some ⟨gg,0,none⟩) (l.length+1) cap) (l.length+1) (l.flatMap cells++cells y)) (hg:(w1.alloc o).grownBy w5 (Value.slice h.a l.length h.c).ownBlock) :
  GrowX ty size cells f j b p r x w zs cs B W (w5.setCell ⟨x,j,none⟩ (.slice (Option.some ⟨gg,0,none⟩) (l.length+1) cap)) (pre++[s]) rest (l++[y]) ⟨Option.some ⟨gg,0,none⟩,l.length+1,cap⟩:=by
 have hB:∀ k,(Value.slice h.a l.length h.c).ownBlock=Option.some k→B≤k:=fun k hk=>by
  obtain ⟨hd,e,h2,_⟩:=g.own
  rw [e] at hk
  exact (h2.lt k hk).1
 have X1:=(g.bx.call S k1 d1).alloc o
 have kn:Kb (fun k=>B≤k) (w1.alloc o) w5:=⟨hg.os,hg.tape,hg.output,hg.size,fun k hk hn=>hg.block k hk (fun e=>hn (hB k e.symm))⟩
 have X5:Bx b p r x w w5 rest zs (cs.set j (.slice h.a l.length h.c)):=by
  refine ⟨X1.ds.kn kn hbB hpB,Kb.row kn X1.row (by omega),Kb.row kn X1.res (by omega),?_⟩
  have hw:w.heap.size≤B:=by have:=S.fx;omega
  exact ⟨kn.os.trans X1.kw.os,kn.tape.trans X1.kw.tape,kn.output.trans X1.kw.output,Nat.le_trans X1.kw.size kn.size,fun k hk hne=>(kn.block k (Nat.lt_of_lt_of_le hk X1.kw.size) (by omega)).trans (X1.kw.block k hk hne)⟩
 refine ⟨by rw [g.split];simp,many_step g.some hs,by simp,?_,?_⟩
 ·have:=X5.set S j (.slice (Option.some ⟨gg,0,none⟩) (l.length+1) cap) (by rw [List.length_set];exact hj)
  rw [List.set_set] at this
  rw [List.length_append]
  exact this
 ·have h2:w5.ownsRow B ty size (.slice (Option.some ⟨gg,0,none⟩) (l++[y]).length cap) (l++[y]).length ((l++[y]).flatMap cells):=by
   rw [List.length_append,List.flatMap_append,List.flatMap_cons,List.flatMap_nil,List.append_nil];exact ho
  have h3:OwnR ty size cells b B w5 (.slice (Option.some ⟨gg,0,none⟩) (l++[y]).length cap) (l++[y]):=⟨⟨Option.some ⟨gg,0,none⟩,l.length+1,cap⟩,rfl,h2,hbB⟩
  exact h3.hi (Kb.set w5 x j _) (fun k e=>by have e':k=x:=e;omega)
theorem GrowX.fields (g:GrowX ty size cells f j b p r x w zs cs B W wr pre rest l h) (hj:j < cs.length) {w':World} (k:Kw b wr w') (S:Bs b p r x w):w'.cell? ⟨x,j,none⟩=Option.some (.slice h.a l.length h.c)∧w'.frozen? ⟨x,j,none⟩=false∧x < w'.heap.size:=by
 have h1:=g.bx.row.kw k S.xb
 exact ⟨h1.cell (by rw [List.getElem?_set_self hj]),h1.2.2 j (by rw [List.length_set];exact hj),h1.ltD⟩
theorem GrowX.after (g:GrowX ty size cells f j b p r x w zs cs B W wr pre rest l h) (hj:j < cs.length) {w' w5:World} {o:Obj} (k:Kw b wr w') (S:Bs b p r x w) (hxB:x < B) (hg:(w'.alloc o).grownBy w5 (Value.slice h.a l.length h.c).ownBlock) :
  w5.cell? ⟨x,j,none⟩=Option.some (.slice h.a l.length h.c)∧w5.frozen? ⟨x,j,none⟩=false∧x < w5.heap.size:=by
 have hB:∀ k,(Value.slice h.a l.length h.c).ownBlock=Option.some k→B≤k:=fun k hk=>by
  obtain ⟨hd,e,h2,_⟩:=g.own
  rw [e] at hk
  exact (h2.lt k hk).1
 have kn:Kb (fun k=>B≤k) (w'.alloc o) w5:=⟨hg.os,hg.tape,hg.output,hg.size,fun k hk hn=>hg.block k hk (fun e=>hn (hB k e.symm))⟩
 have h1:RowAt w5 x (cs.set j (.slice h.a l.length h.c)):=Kb.row kn ((g.bx.row.kw k S.xb).aft ((Aft.refl _).alloc o)) (by omega)
 exact ⟨h1.cell (by rw [List.getElem?_set_self hj]),h1.2.2 j (by rw [List.length_set];exact hj),h1.ltD⟩
end
theorem ownR_of {α:Type} {ty:TypeId} {size:Nat} {cells:α→List Value} {b B:Nat} {w:World} {a:Option Addr} {c:Nat} {l:List α} (h:OwnR ty size cells b B w (.slice a l.length c) l):w.ownsRow B ty size (.slice a l.length c) l.length (l.flatMap cells):=by
 obtain ⟨hd,e,h2,_⟩:=h
 rw [e];exact h2
theorem ownR_base {α:Type} {ty:TypeId} {size:Nat} {cells:α→List Value} {b B:Nat} {w:World} {v:Value} {l:List α} (h:OwnR ty size cells b B w v l) (hl:l≠[]):B≤w.heap.size:=by
 obtain ⟨hd,e,h2,_⟩:=h
 rcases h2.2 with ⟨_,hn⟩ | ⟨g,cap,cur,hv,hb,hgg,_⟩
 ·exact absurd (List.eq_nil_of_length_eq_zero hn) hl
 ·have:=lt_of_block hgg;omega
theorem cols_small:∀ {W:Ws} {l:List Col},W.mapM colB=some l→∀ c∈l,Small c.name.size
 | [],l,h=>by simp at h;subst h;simp
 | s::W,l,h=>by
  rw [List.mapM_cons] at h
  simp only [bind,Option.bind_eq_some_iff,pure,Option.some.injEq] at h
  obtain ⟨x,h1,m,h2,rfl⟩:=h
  have h3:=(colB_some h1).2.1
  have h4:x.name.size≤16:=by
   unfold nameB at h3
   simp only [Bool.and_eq_true,decide_eq_true_eq] at h3
   exact h3.1.1.2
  intro c hc
  rcases List.mem_cons.1 hc with rfl | hc
  ·exact Nat.le_trans h4 (by decide)
  ·exact cols_small h2 c hc
theorem cols_own {b B:Nat} {w:World} {v:Value} {l:List Col} (h:ColsV b B w v l):OwnR 67 3 colC b B w v l:=h.1
theorem cols_none {W:Ws} (h:colP W=none):colsP W=none:=by
 cases W with
 | nil=>rfl
 | cons s W =>
  have:colB s=none:=by simpa [colP,oneP] using h
  exact many_fail (W:=[]) (l:=[]) rfl this
theorem command_table (b p:Nat) (a:ByteArray) (WW:Ws) (w:World) (h:WdS w b p (b_table::a::WW)):Calls Tryz.prog 29 #[.pointer (some ⟨b,0,none⟩)] w (RdQ b p w (CmdV b w.heap.size) (cmdP (b_table::a::WW))):=by
 have HN:=gH (fun w1 W (h:WdS w1 b p W)=>name_rd b p W w1 h)
 have HT:=gH (fun x w1 W cs (h:WdS w1 b p W) (hx:RowAt w1 x cs) (hl:cs.length=17) (hb:¬ x=b) (hp:¬ x=p) h0=>table_rd b p x W w1 cs h hx hl hb hp h0)
 have HC:=gH (fun w1 W (h:WdS w1 b p W)=>column_rd b p W w1 h)
 have HBIG:=gH h.big
 have HW0:=gH (show Calls Tryz.prog 27 #[.pointer (some ⟨b,0,none⟩)] (w.alloc (.cells z17.toArray 31)) fun e w'=>e=.returned (.string ⟨#[116,97,98,108,101]⟩)∧WdS w' b p (a::WW)∧Kw b (w.alloc (.cells z17.toArray 31)) w' from word_yes b p b_table (a::WW) _ (h.aft ((Aft.refl w).alloc _)))
 have hb:=h.lt
 have HPL:=gH h.plt
 have HLO:=gH h.low
 clear h
 go_enter Tryz.func29,Tryz.ntmps29
 go_wp2_with (first
  | (go_at_call 27;with_reducible refine HW0.out.mono ?_;rintro e w1 ⟨rfl,d,k⟩;have ST:=bx_start (t2:=31) (zs:=z17) hb HPL.out HLO.out k d z17;have S:=gH ST.1;have X1:=gH ST.2;clear d k ST)
  | (go_at_call 19;with_reducible refine (more_yes b p a WW _ X1.out.ds).mono ?_;rintro e w' ⟨rfl,rfl⟩)
  | (go_at_call 48;with_reducible refine (HN.out _ _ X1.out.ds).mono ?_;rintro e w2 q;rcases name_cases q with ⟨n,rfl,k⟩ | ⟨s2,W2,n,rfl,g2,d,k⟩;all_goals (have N2:=gH n;have K2:=gH (X1.out.kw.trans k);clear n q;try (have X2:=gH (X1.out.call S.out k d);have xz2:=X2.out.row.ltD;have rz2:=X2.out.res.ltD;obtain ⟨c2_1,f2_1⟩:=X2.out.cf 1 (by simp);obtain ⟨c2_0,f2_0⟩:=X2.out.cf 0 (by simp);have X2s:=gH ((X2.out.set S.out 1 (.string s2) (by simp)).set S.out 0 (.int .i64 3) (by simp));clear d)))
  | (go_at_call 49;with_reducible refine (HT.out _ _ _ _ X2s.out.ds X2s.out.row (by simp) (S.out.xb) (S.out.xp) (S.out.x0)).mono ?_;rintro e w3 q;rcases tab_cases q with ⟨n,rfl,k⟩ | ⟨s3,t3,W3,n,rfl,⟨g3,u3,r⟩,d,k⟩;all_goals (have N3:=gH n;have K3:=gH (Kx.kw X2s.out.kw k S.out.fx);clear n q;try (have X3:=gH (X2s.out.kx S.out k d r);have xz3:=X3.out.row.ltD;have rz3:=X3.out.res.ltD;clear d r)))
  | (go_at_call 50;with_reducible refine (HC.out _ _ X3.out.ds).mono ?_;rintro e w4 q;rcases col_cases q with ⟨n,rfl,k⟩ | ⟨s4,W4,n,rfl,g4,d,k⟩;all_goals (have N4:=gH n;have K4:=gH (X3.out.kw.trans k);clear n q;try (have X4:=gH (X3.out.call S.out k d);have xz4:=X4.out.row.ltD;have rz4:=X4.out.res.ltD;obtain ⟨c4_6,f4_6⟩:=X4.out.cf 6 (by simp);have O4:=gH (cols_own (cols_one w4 w1.heap.size 6 (.slice (some ⟨w4.heap.size,0,none⟩) 1 1) b s4 X4.out.ds.lt g4));have X4s:=(X4.out.set S.out 6 (.slice (some ⟨w4.heap.size,0,none⟩) 1 1) (by simp)).alloc (.cells #[.string s4.name,.int .i64 s4.kind,.bool s4.null] 67);simp only [List.set_cons_succ,List.set_cons_zero] at X4s;have X4s:=gH X4s;clear d))))
 ·exact ⟨rfl,K2.out,by rw [show cmdP (b_table::a::WW)=none by simp only [cmdP_cons,body_table,N2.out,Option.bind_some,Option.bind_none]];rfl⟩
 ·exact ⟨rfl,K3.out,by rw [show cmdP (b_table::a::WW)=none by simp only [cmdP_cons,body_table,N2.out,N3.out,Option.bind_some,Option.bind_none]];rfl⟩
 ·exact ⟨rfl,K4.out,by rw [show cmdP (b_table::a::WW)=none by simp only [cmdP_cons,body_table,N2.out,N3.out,Option.bind_some,cols_none N4.out,Option.bind_none]];rfl⟩
 have N4':=N4.out
 obtain ⟨c0,e4,hc0⟩:=oneP_some.1 N4'
 have HC0:=gH hc0
 have E4:=gH e4
 have LS:=gH (show w.heap.size < w4.heap.size∧w1.heap.size < w4.heap.size∧b < w4.heap.size∧p < w4.heap.size from ⟨X4.out.res.ltD,X4.out.row.ltD,X4.out.ds.lt,X4.out.ds.plt⟩)
 have LW:=gH (show W3.length≤4097 from X3.out.ds.big)
 clear N4' e4 hc0
 go_loopw [] (fun wr=>∃ (pre rest:Ws) (l:List Col) (h:Hd),GrowX 67 3 colC colB 6 b p w.heap.size w1.heap.size w z17 [.int .i64 3,.string s2,.string s3,.string t3,.string ⟨#[]⟩,.string ⟨#[]⟩,.slice none 0 0,.string ⟨#[]⟩,.int .i64 0,.slice none 0 0,.int .i64 0,.int .i64 0,.string ⟨#[]⟩,.string ⟨#[]⟩,.string ⟨#[]⟩,.int .i64 0,.bool false] w4.heap.size W3 wr pre rest l h) (fun wr=>W3.length - lenV ((wr.cell? ⟨w1.heap.size,6,none⟩).getD undef))
 case atStart=>exact ⟨[c0],W4,[s4],⟨some ⟨w4.heap.size,0,none⟩,1,1⟩,by rw [E4.out];rfl,by rw [List.mapM_cons,HC0.out];rfl,by simp,X4s.out,O4.out⟩
 case round =>
  obtain ⟨pre,rest,l,h,g⟩:=hrel
  have hz:=g.small LW.out
  have G:=gH g
  cases rest with
  | nil =>
   have HE:=gH (more_no b p wr g.bx.ds)
   have XF:=g.bx
   simp only [List.set_cons_succ,List.set_cons_zero] at XF
   have XF:=gH XF
   obtain ⟨e1,e2⟩:=endsCmd XF.out rfl rfl (by simp [Value.oneCell'])
   clear g
   go_wp2_with (first | (go_at_call 19;refine HE.out.mono ?_;rintro e w' ⟨rfl,rfl⟩))
   obtain ⟨rf,kwf,wdf,kbf⟩:=XF.out.fin S.out rfl
   refine bodyPost_ret (results_cell rfl _ rfl (lv_row (T:=31) Tryz.underlying31 (by kernel_rfl) rf rfl)) rfl ?_
   have S:=S.out
   have sb:=S.fb
   have sr:=S.fr
   have sx:=S.fx
   obtain ⟨z2,z3,z4,z5⟩:=LS.out
   refine ⟨kwf,?_⟩
   have hw:colsP W3=some (l,[]):=by
    have e:=G.out.split
    rw [List.append_nil] at e
    rw [e];exact many_done G.out.ne G.out.some
   rw [show cmdP (b_table::a::WW)=some ({ zCmd with actor:=s2,kind:=3,schema:=s3,table:=t3,cols:=l },[]) by simp only [cmdP_cons,body_table,N2.out,N3.out,Option.bind_some,hw]]
   have hs:∀ c∈l,Small c.name.size:=cols_small G.out.some
   exact ⟨_,rfl,⟨_,_,_,_,rfl,⟨((G.out.own.hi kbf (fun g e=>by have e':g=_:=e;omega)).down (by omega) (by omega)),hz,hs⟩,names_nil b _ _ sb,⟨.inr g2,.inr g3,.inr u3,.inl rfl,.inl rfl,.inl rfl,.inl rfl,.inl rfl,.inl rfl⟩⟩,wdf⟩
  | cons t rest =>
   have HE:=gH (more_yes b p t rest wr g.bx.ds)
   have HQ:=gH (column_rd b p (t::rest) wr.drew (g.bx.ds.aft (Aft.refl _).drew))
   have HL:=gH (g.more rfl)
   obtain ⟨q1,q2,q3⟩:=g.fields (by simp) (Kw.refl b wr) S.out
   have KF:=gH (fun V (k:Kw b wr V)=>g.fields (by simp) k S.out)
   clear g
   obtain ⟨q,hq⟩:∃ q,colB t=q:=⟨_,rfl⟩
   have HQT:=gH hq
   cases q with
   | none =>
    have HQ':=gH (HQ.out.mono fun e w1 (h:RdQ _ _ _ _ _ _ _)=>(rd_cons h).elim (fun h=>h.2) (fun ⟨x,v,h,_⟩=>absurd (hq.symm.trans h) (by simp)))
    clear hq HQ
    go_wp2_with (first | (go_at_call 19;refine HE.out.mono ?_;rintro e w' ⟨rfl,rfl⟩))
    go_region_dies
    all_goals
     refine HQ'.out.mono ?_
     rintro e w6 ⟨he,k6⟩
     unfold NoL at he
     subst he
     refine ⟨rfl,G.out.bx.kw.trans (((Kw.refl b wr).drew).trans k6),?_⟩
     have hw:colsP W3=none:=by rw [G.out.split];exact many_fail G.out.some HQT.out
     rw [show cmdP (b_table::a::WW)=none by simp only [cmdP_cons,body_table,N2.out,N3.out,Option.bind_some,hw,Option.bind_none]];rfl
   | some y =>
    have HQ':=gH (HQ.out.mono fun e w1 (h:RdQ _ _ _ _ _ _ _)=>(rd_cons h).elim (fun ⟨h,_⟩=>absurd (hq.symm.trans h) (by simp)) (fun ⟨z,v,h1,h2,h3,h4,h5⟩=>(show e=Ending.returned (.agg #[.string y.name,.int .i64 y.kind,.bool y.null])∧WdS w1 b p rest∧Kw b wr w1 from by
     rw [hq] at h1;cases h1;exact ⟨by rw [h2,h3.1],h4,((Kw.refl b wr).drew).trans h5⟩)))
    clear hq HQ
    have HOW:=gH (fun V (k:Kw b wr V)=>G.out.own.kw k)
    go_wp2_with (first | (go_at_call 19;refine HE.out.mono ?_;rintro e w' ⟨rfl,rfl⟩))
    have HBZ:=gH (fun V (k:Kw b wr V)=>(show w4.heap.size≤(V.alloc (.cells #[.string y.name,.int .i64 y.kind,.bool y.null] 67)).heap.size from by
     have h1:=(G.out.own.kw k)
     have h2:=k.size
     have h3:(V.alloc (.cells #[.string y.name,.int .i64 y.kind,.bool y.null] 67)).heap.size=V.heap.size+1:=by simp
     have h4:w4.heap.size≤V.heap.size:=ownR_base h1 G.out.ne
     omega))
    have HSF:=gH (fun V w5 (k:Kw b wr V) (hg:(V.alloc (.cells #[.string y.name,.int .i64 y.kind,.bool y.null] 67)).grownBy w5 (Value.slice h.a l.length h.c).ownBlock)=>G.out.after (by simp) k S.out LS.out.2.1 hg)
    have h63:l.length+1≤maxLen:=by unfold maxLen;omega
    obtain ⟨i0,hi0,hz0,hz1,hz2⟩:=info_partsD infoDC
    go_region_law ((first | (go_simp;go_at_call 50;refine HQ'.out.mono ?_;rintro e w6 ⟨rfl,d6,k6⟩;have D6:=gH d6;have K6:=gH k6;obtain ⟨p1,p2,p3⟩:=KF.out w6 k6;clear d6 k6;dsimp only) | (refine step_append_lies _ (by rfl) _ _ _ (by rfl) w4.heap.size 67 i0 _ 3 32 Tryz.underlying24 hi0 hz0 hz1 hz2 rfl (by omega) (.slice h.a l.length h.c) l.length (l.flatMap colC) (by rfl) ((ownR_of (HOW.out w6 K6.out)).alloc _) ⟨w6.heap.size,0,none⟩ 1 1 [.string y.name,.int .i64 y.kind,.bool y.null] (by rfl) (by rfl) (World.news_of_block (cs:=#[.string y.name,.int .i64 y.kind,.bool y.null]) (t:=67) (fr:=(0,0)) (heap_alloc_new w6 _)) (by simp [Value.oneCell']) (by omega) h63 (by omega) (HBZ.out w6 K6.out) (w6.heap.size+1) (by simp) ?_;intro gg cap' w5 hown5 hgrow hat hgl;obtain ⟨s1,s2,s3⟩:=HSF.out w6 w5 K6.out hgrow)))
    all_goals
     go_roundw
     case rel =>
      repeat (apply Exists.intro)
      refine ⟨⟨pre++[t],rest,l++[y],⟨some ⟨gg,0,none⟩,l.length+1,cap'⟩,G.out.step S.out (by simp) LS.out.2.1 LS.out.1 LS.out.2.2.1 LS.out.2.2.2 HQT.out K6.out D6.out hown5 hgrow⟩,rfl⟩
     case measure =>
      rw [q1,World.cell?_setCell_same (h:=s1)]
      have:=HL.out
      simp [lenV]
      omega
theorem command_short (b p:Nat) (W:Ws) (hW:W.length≤1) (w:World) (h:WdS w b p W):Calls Tryz.prog 29 #[.pointer (some ⟨b,0,none⟩)] w (RdQ b p w (CmdV b w.heap.size) (cmdP W)):=by
 have hb:=h.lt
 cases W with
 | nil =>
  have HW0:=gH (word_no b p _ (h.aft ((Aft.refl w).alloc (.cells z17.toArray 31))))
  clear h
  go_enter Tryz.func29,Tryz.ntmps29
  go_wp2_with (first | (go_at_call 27;refine HW0.out.mono ?_;rintro e w' ⟨he,rfl⟩;unfold NoL at he;subst he))
  exact ⟨rfl,(Kw.refl _ _).alloc _,rfl⟩
 | cons s W =>
  have e:W=[]:=List.eq_nil_of_length_eq_zero (by simpa using hW)
  subst e
  have HW0:=gH (word_yes b p s [] _ (h.aft ((Aft.refl w).alloc (.cells z17.toArray 31))))
  clear h
  go_enter Tryz.func29,Tryz.ntmps29
  go_wp2_with (first | (go_at_call 27;refine HW0.out.mono ?_;rintro e w1 ⟨rfl,d,k⟩;have D1:=gH (d.aft ((Aft.refl w1).alloc (.cells z17.toArray 31)));have K1:=gH ((((Kw.refl b w).alloc _).trans k).alloc (.cells z17.toArray 31));clear d k) | (go_at_call 19;refine (more_no b p _ D1.out).mono ?_;rintro e w' ⟨rfl,rfl⟩) | (go_at_call 18;refine (dis_no _).mono ?_;rintro e w' ⟨he,rfl⟩;unfold NoL at he;subst he))
  exact ⟨rfl,K1.out,rfl⟩
theorem body_none2 (f:ByteArray) (x:Cmd) (W:Ws) (h0:eqS f b_schema=false) (h1:eqS f b_dropschema=false) (h2:eqS f b_table=false) (h3:eqS f b_droptable=false) (h4:eqS f b_column=false) (h5:eqS f b_dropcolumn=false) (h6:eqS f b_index=false) (h7:eqS f b_key=false) (h8:eqS f b_check=false) (h9:eqS f b_foreign=false) (h10:eqS f b_droprule=false) (h11:eqS f b_owner=false) (h12:eqS f b_role=false) (h13:eqS f b_droprole=false) (h14:eqS f b_member=false) (h15:eqS f b_unmember=false) (h16:eqS f b_grant=false) (h17:eqS f b_revoke=false):bodyP f x W=none:=by
 unfold bodyP
 simp only [h0,h1,h2,h3,h4,h5,h6,h7,h8,h9,h10,h11,h12,h13,h14,h15,h16,h17,Bool.false_eq_true,if_false]
theorem command_none (b p:Nat) (f a:ByteArray) (WW:Ws) (w:World) (h:WdS w b p (f::a::WW)) (h0:eqS f b_schema=false) (h1:eqS f b_dropschema=false) (h2:eqS f b_table=false) (h3:eqS f b_droptable=false) (h4:eqS f b_column=false) (h5:eqS f b_dropcolumn=false) (h6:eqS f b_index=false) (h7:eqS f b_key=false) (h8:eqS f b_check=false) (h9:eqS f b_foreign=false) (h10:eqS f b_droprule=false) (h11:eqS f b_owner=false) (h12:eqS f b_role=false) (h13:eqS f b_droprole=false) (h14:eqS f b_member=false) (h15:eqS f b_unmember=false) (h16:eqS f b_grant=false) (h17:eqS f b_revoke=false):Calls Tryz.prog 29 #[.pointer (some ⟨b,0,none⟩)] w (RdQ b p w (CmdV b w.heap.size) (cmdP (f::a::WW))):=by
 have HN:=gH (fun w1 W (h:WdS w1 b p W)=>name_rd b p W w1 h)
 have HW0:=gH (word_yes b p f (a::WW) _ (h.aft ((Aft.refl w).alloc (.cells z17.toArray 31))))
 have HB:=gH (fun x W=>body_none2 f x W h0 h1 h2 h3 h4 h5 h6 h7 h8 h9 h10 h11 h12 h13 h14 h15 h16 h17)
 have hb:=h.lt
 have HPL:=gH h.plt
 have HLO:=gH h.low
 have q0:(f.toList==[115,99,104,101,109,97])=false:=by have:=eqS_as h0;exact this
 have q1:(f.toList==[100,114,111,112,115,99,104,101,109,97])=false:=by have:=eqS_as h1;exact this
 have q2:(f.toList==[116,97,98,108,101])=false:=by have:=eqS_as h2;exact this
 have q3:(f.toList==[100,114,111,112,116,97,98,108,101])=false:=by have:=eqS_as h3;exact this
 have q4:(f.toList==[99,111,108,117,109,110])=false:=by have:=eqS_as h4;exact this
 have q5:(f.toList==[100,114,111,112,99,111,108,117,109,110])=false:=by have:=eqS_as h5;exact this
 have q6:(f.toList==[105,110,100,101,120])=false:=by have:=eqS_as h6;exact this
 have q7:(f.toList==[107,101,121])=false:=by have:=eqS_as h7;exact this
 have q8:(f.toList==[99,104,101,99,107])=false:=by have:=eqS_as h8;exact this
 have q9:(f.toList==[102,111,114,101,105,103,110])=false:=by have:=eqS_as h9;exact this
 have q10:(f.toList==[100,114,111,112,114,117,108,101])=false:=by have:=eqS_as h10;exact this
 have q11:(f.toList==[111,119,110,101,114])=false:=by have:=eqS_as h11;exact this
 have q12:(f.toList==[114,111,108,101])=false:=by have:=eqS_as h12;exact this
 have q13:(f.toList==[100,114,111,112,114,111,108,101])=false:=by have:=eqS_as h13;exact this
 have q14:(f.toList==[109,101,109,98,101,114])=false:=by have:=eqS_as h14;exact this
 have q15:(f.toList==[117,110,109,101,109,98,101,114])=false:=by have:=eqS_as h15;exact this
 have q16:(f.toList==[103,114,97,110,116])=false:=by have:=eqS_as h16;exact this
 have q17:(f.toList==[114,101,118,111,107,101])=false:=by have:=eqS_as h17;exact this
 clear h h0 h1 h2 h3 h4 h5 h6 h7 h8 h9 h10 h11 h12 h13 h14 h15 h16 h17
 go_enter Tryz.func29,Tryz.ntmps29
 go_wp2_with (first
  | (go_at_call 27;with_reducible refine HW0.out.mono ?_;rintro e w1 ⟨rfl,d,k⟩;have ST:=bx_start (t2:=31) (zs:=z17) hb HPL.out HLO.out k d z17;have S:=gH ST.1;have X1:=gH ST.2;clear d k ST)
  | (go_at_call 19;with_reducible refine (more_yes b p a WW _ X1.out.ds).mono ?_;rintro e w' ⟨rfl,rfl⟩)
  | (go_at_call 48;with_reducible refine (HN.out _ _ X1.out.ds).mono ?_;rintro e w2 q;rcases name_cases q with ⟨n,rfl,k⟩ | ⟨s2,W2,n,rfl,g2,d,k⟩;all_goals (have N2:=gH n;have K2:=gH (X1.out.kw.trans k);clear n q;try (have X2:=gH (X1.out.call S.out k d);have xz2:=X2.out.row.ltD;have rz2:=X2.out.res.ltD;obtain ⟨c2_1,f2_1⟩:=X2.out.cf 1 (by simp);clear d)))
  | (go_at_call 18;refine (dis_no _).mono ?_;rintro e w' ⟨he,rfl⟩;unfold NoL at he;subst he))
 ·exact ⟨rfl,K2.out,by rw [show cmdP (f::a::WW)=none by simp only [cmdP_cons,N2.out,Option.bind_none]];rfl⟩
 ·exact ⟨rfl,K2.out.set _ _ _ (.inr S.out.fx),by rw [show cmdP (f::a::WW)=none by simp only [cmdP_cons,N2.out,Option.bind_some,HB.out]];rfl⟩
theorem command_rd (b p:Nat) (W:Ws) (w:World) (h:WdS w b p W):Calls Tryz.prog 29 #[.pointer (some ⟨b,0,none⟩)] w (RdQ b p w (CmdV b w.heap.size) (cmdP W)):=by
 match W,h with
 | [],h=>exact command_short b p [] (by simp) w h
 | [s],h=>exact command_short b p [s] (by simp) w h
 | f::a::WW,h =>
  cases h0:eqS f b_schema with
  | true=>rw [eqS_iffD] at h0;subst h0;exact command_schema b p a WW w h
  | false =>
  cases h1:eqS f b_dropschema with
  | true=>rw [eqS_iffD] at h1;subst h1;exact command_dropschema b p a WW w h
  | false =>
  cases h2:eqS f b_table with
  | true=>rw [eqS_iffD] at h2;subst h2;exact command_table b p a WW w h
  | false =>
  cases h3:eqS f b_droptable with
  | true=>rw [eqS_iffD] at h3;subst h3;exact command_droptable b p a WW w h
  | false =>
  cases h4:eqS f b_column with
  | true=>rw [eqS_iffD] at h4;subst h4;exact command_column b p a WW w h
  | false =>
  cases h5:eqS f b_dropcolumn with
  | true=>rw [eqS_iffD] at h5;subst h5;exact command_dropcolumn b p a WW w h
  | false =>
  cases h6:eqS f b_index with
  | true=>rw [eqS_iffD] at h6;subst h6;exact command_index b p a WW w h
  | false =>
  cases h7:eqS f b_key with
  | true=>rw [eqS_iffD] at h7;subst h7;exact command_key b p a WW w h
  | false =>
  cases h8:eqS f b_check with
  | true=>rw [eqS_iffD] at h8;subst h8;exact command_check b p a WW w h
  | false =>
  cases h9:eqS f b_foreign with
  | true=>rw [eqS_iffD] at h9;subst h9;exact command_foreign b p a WW w h
  | false =>
  cases h10:eqS f b_droprule with
  | true=>rw [eqS_iffD] at h10;subst h10;exact command_droprule b p a WW w h
  | false =>
  cases h11:eqS f b_owner with
  | true=>rw [eqS_iffD] at h11;subst h11;exact command_owner b p a WW w h
  | false =>
  cases h12:eqS f b_role with
  | true=>rw [eqS_iffD] at h12;subst h12;exact command_role b p a WW w h
  | false =>
  cases h13:eqS f b_droprole with
  | true=>rw [eqS_iffD] at h13;subst h13;exact command_droprole b p a WW w h
  | false =>
  cases h14:eqS f b_member with
  | true=>rw [eqS_iffD] at h14;subst h14;exact command_member b p a WW w h
  | false =>
  cases h15:eqS f b_unmember with
  | true=>rw [eqS_iffD] at h15;subst h15;exact command_unmember b p a WW w h
  | false =>
  cases h16:eqS f b_grant with
  | true=>rw [eqS_iffD] at h16;subst h16;exact command_grant b p a WW w h
  | false =>
  cases h17:eqS f b_revoke with
  | true=>rw [eqS_iffD] at h17;subst h17;exact command_revoke b p a WW w h
  | false =>
  exact command_none b p f a WW w h h0 h1 h2 h3 h4 h5 h6 h7 h8 h9 h10 h11 h12 h13 h14 h15 h16 h17
def ValsV (b B:Nat) (w':World) (v:Value) (l:List Val):Prop:=OwnR 39 3 valC b B w' v l∧l.length≤4097∧∀ c∈l,Small c.text.size
theorem vals_nil (b B:Nat) (w:World) (hb:b < B):ValsV b B w (.slice none 0 0) []:=⟨own_nilD _ _ _ b B w hb,by simp,by simp⟩
theorem vals_own (V:World) (x j j2:Nat) (u u2:Value) (b:Nat) (c:Val) (hb:b < V.heap.size):OwnR 39 3 valC b V.heap.size (((V.setCell ⟨x,j,none⟩ u).setCell ⟨x,j2,none⟩ u2).alloc (.cells #[.int .i64 c.kind,.int .i64 c.int,.string c.text] 39)) (.slice (some ⟨V.heap.size,0,none⟩) 1 1) [c]:=by
 have hz:((V.setCell ⟨x,j,none⟩ u).setCell ⟨x,j2,none⟩ u2).heap.size=V.heap.size:=by simp
 have h:=own_one ((V.setCell ⟨x,j,none⟩ u).setCell ⟨x,j2,none⟩ u2) V.heap.size 39 3 [.int .i64 c.kind,.int .i64 c.int,.string c.text] rfl (by omega)
 rw [hz] at h
 exact ⟨⟨some ⟨V.heap.size,0,none⟩,1,1⟩,rfl,h,hb⟩
def ropV (x:ROp) (A:Option Addr) (k:Nat):List Value:=[.int .i64 x.kind,.string x.role,.string x.schema,.string x.table,.slice A x.row.length k,.string x.col,.int .i64 x.v.kind,.int .i64 x.v.int,.string x.v.text]
def RopV (b B:Nat) (w':World) (v:Value) (x:ROp):Prop :=
 ∃ A k,v=.agg (ropV x A k).toArray∧ValsV b B w' (.slice A x.row.length k) x.row∧NmZ x.role∧NmZ x.schema∧NmZ x.table∧NmZ x.col∧Small x.v.text.size
theorem val_cases {b p:Nat} {W:Ws} {w:World} {e:Ending} {w':World} (h:RdQ b p w ValV (valP W) e w') :
  (valP W=none∧e=.panicked [{ v:=.iface 74 (.agg #[]),recovered:=false }]∧Kw b w w')∨∃ c W',valP W=some (c,W')∧e=.returned (.agg #[.int .i64 c.kind,.int .i64 c.int,.string c.text])∧Small c.text.size∧WdS w' b p W'∧Kw b w w':=by
 obtain ⟨k,h2⟩:=h
 cases hq:valP W with
 | none=>rw [hq] at h2;exact .inl ⟨rfl,h2,k⟩
 | some y =>
  obtain ⟨c,W'⟩:=y
  rw [hq] at h2
  obtain ⟨v,rfl,⟨rfl,h3⟩,h4⟩:=h2
  exact .inr ⟨c,W',rfl,rfl,h3,h4,k⟩
theorem vals_none {W:Ws} (h:valP W=none):valsP W=none:=by
 cases W with
 | nil=>rfl
 | cons s W =>
  have:valB s=none:=by simpa [valP,oneP] using h
  exact many_fail (W:=[]) (l:=[]) rfl this
theorem valB_small {s:ByteArray} {v:Val} (h:valB s=some v):Small v.text.size:=by
 unfold valB at h
 split at h
 ·cases h;exact small_z
 ·split at h
  ·split at h
   ·rename_i h2
    cases h
    unfold txtB at h2
    simp only [Bool.and_eq_true,decide_eq_true_eq] at h2
    exact Nat.le_trans h2.2 (by decide)
   ·cases h
  ·rw [Option.map_eq_some_iff] at h
   obtain ⟨n,_,rfl⟩:=h
   exact small_z
theorem vals_small:∀ {W:Ws} {l:List Val},W.mapM valB=some l→∀ c∈l,Small c.text.size
 | [],l,h=>by simp at h;subst h;simp
 | s::W,l,h=>by
  rw [List.mapM_cons] at h
  simp only [bind,Option.bind_eq_some_iff,pure,Option.some.injEq] at h
  obtain ⟨x,h1,m,h2,rfl⟩:=h
  intro c hc
  rcases List.mem_cons.1 hc with rfl | hc
  ·exact valB_small h1
  ·exact vals_small h2 c hc
def rowT (f r s t:ByteArray) (W:Ws):Option (ROp × Ws) :=
 if eqS f b_insert then (valsP W).bind fun (l,W)=>some (⟨1,r,s,t,l,zBy,zVal⟩,W)
 else if eqS f b_remove then (nameP W).bind fun (c,W)=>(valP W).bind fun (v,W)=>some (⟨2,r,s,t,[],c,v⟩,W)
 else if eqS f b_select then (if W=[] then some (⟨3,r,s,t,[],zBy,zVal⟩,W) else (nameP W).bind fun (c,W)=>(valP W).bind fun (v,W)=>some (⟨3,r,s,t,[],c,v⟩,W))
 else none
theorem rowP_cons (f:ByteArray) (W:Ws):rowP (f::W)=(nameP W).bind fun (r,W)=>(nameP W).bind fun (s,W)=>(nameP W).bind fun (t,W)=>rowT f r s t W:=rfl
theorem rowT_insert (r s t:ByteArray) (W:Ws):rowT b_insert r s t W=(valsP W).bind fun (l,W)=>some (⟨1,r,s,t,l,zBy,zVal⟩,W):=by unfold rowT;rw [if_pos (eqS_yes _)]
theorem rowT_remove (r s t:ByteArray) (W:Ws):rowT b_remove r s t W=(nameP W).bind fun (c,W)=>(valP W).bind fun (v,W)=>some (⟨2,r,s,t,[],c,v⟩,W):=by unfold rowT;rw [if_neg (neB (by decide)),if_pos (eqS_yes _)]
theorem rowT_select (r s t:ByteArray) (W:Ws):rowT b_select r s t W=if W=[] then some (⟨3,r,s,t,[],zBy,zVal⟩,W) else (nameP W).bind fun (c,W)=>(valP W).bind fun (v,W)=>some (⟨3,r,s,t,[],c,v⟩,W):=by unfold rowT;rw [if_neg (neB (by decide)),if_neg (neB (by decide)),if_pos (eqS_yes _)]
theorem row_remove (b p:Nat) (WW:Ws) (w:World) (h:WdS w b p (b_remove::WW)):Calls Tryz.prog 31 #[.pointer (some ⟨b,0,none⟩)] w (RdQ b p w (RopV b w.heap.size) (rowP (b_remove::WW))):=by
 have HN:=gH (fun w1 W (h:WdS w1 b p W)=>name_rd b p W w1 h)
 have HV:=gH (fun w1 W (h:WdS w1 b p W)=>value_rd b p W w1 h)
 have HW0:=gH (show Calls Tryz.prog 27 #[.pointer (some ⟨b,0,none⟩)] (w.alloc (.cells #[.int .i64 0,.string ⟨#[]⟩,.string ⟨#[]⟩,.string ⟨#[]⟩,.slice none 0 0,.string ⟨#[]⟩,.int .i64 0,.int .i64 0,.string ⟨#[]⟩] 41)) fun e w'=>e=.returned (.string ⟨#[114,101,109,111,118,101]⟩)∧WdS w' b p WW∧Kw b (w.alloc (.cells #[.int .i64 0,.string ⟨#[]⟩,.string ⟨#[]⟩,.string ⟨#[]⟩,.slice none 0 0,.string ⟨#[]⟩,.int .i64 0,.int .i64 0,.string ⟨#[]⟩] 41)) w' from word_yes b p b_remove WW _ (h.aft ((Aft.refl w).alloc _)))
 have hb:=h.lt
 have HPL:=gH h.plt
 have HLO:=gH h.low
 clear h
 go_enter Tryz.func31,Tryz.ntmps31
 go_wp2_with (first
  | (go_at_call 27;with_reducible refine HW0.out.mono ?_;rintro e w1 ⟨rfl,d,k⟩;have D1:=gH d;have R1:=gH k;clear d k)
  | (go_at_call 48;with_reducible refine (HN.out _ _ D1.out).mono ?_;rintro e w2 q;rcases name_cases q with ⟨n,rfl,k⟩ | ⟨s2,W2,n,rfl,g2,d,k⟩;all_goals (have N2:=gH n;have R2:=gH (R1.out.trans k);clear n q;try (have D2:=gH d;clear d)))
  | (go_at_call 48;with_reducible refine (HN.out _ _ D2.out).mono ?_;rintro e w3 q;rcases name_cases q with ⟨n,rfl,k⟩ | ⟨s3,W3,n,rfl,g3,d,k⟩;all_goals (have N3:=gH n;have R3:=gH (R2.out.trans k);clear n q;try (have D3:=gH d;clear d)))
  | (go_at_call 48;with_reducible refine (HN.out _ _ D3.out).mono ?_;rintro e w4 q;rcases name_cases q with ⟨n,rfl,k⟩ | ⟨s4,W4,n,rfl,g4,d,k⟩;all_goals (have N4:=gH n;have R4:=gH (R3.out.trans k);clear n q;try (have D4:=gH d;have ST:=bx_start (t2:=41) (zs:=[.int .i64 0,.string ⟨#[]⟩,.string ⟨#[]⟩,.string ⟨#[]⟩,.slice none 0 0,.string ⟨#[]⟩,.int .i64 0,.int .i64 0,.string ⟨#[]⟩]) hb HPL.out HLO.out R4.out d [.int .i64 0,.string s2,.string s3,.string s4,.slice none 0 0,.string ⟨#[]⟩,.int .i64 0,.int .i64 0,.string ⟨#[]⟩];have S:=gH ST.1;have X4:=gH ST.2;clear ST;clear d)))
  | (go_at_call 48;with_reducible refine (HN.out _ _ X4.out.ds).mono ?_;rintro e w5 q;rcases name_cases q with ⟨n,rfl,k⟩ | ⟨s5,W5,n,rfl,g5,d,k⟩;all_goals (have N5:=gH n;have K5:=gH (X4.out.kw.trans k);clear n q;try (have X5:=gH (X4.out.call S.out k d);have xz5:=X5.out.row.ltD;have rz5:=X5.out.res.ltD;obtain ⟨c5_0,f5_0⟩:=X5.out.cf 0 (by simp);obtain ⟨c5_5,f5_5⟩:=X5.out.cf 5 (by simp);have X5s:=gH ((X5.out.set S.out 0 (.int .i64 2) (by simp)).set S.out 5 (.string s5) (by simp));clear d)))
  | (go_at_call 53;with_reducible refine (HV.out _ _ X5s.out.ds).mono ?_;rintro e w6 q;rcases val_cases q with ⟨n,rfl,k⟩ | ⟨s6,W6,n,rfl,g6,d,k⟩;all_goals (have N6:=gH n;have K6:=gH (X5s.out.kw.trans k);clear n q;try (have X6:=gH (X5s.out.call S.out k d);have xz6:=X6.out.row.ltD;have rz6:=X6.out.res.ltD;obtain ⟨c6_6,f6_6⟩:=X6.out.cf 6 (by simp);obtain ⟨c6_7,f6_7⟩:=X6.out.cf 7 (by simp);obtain ⟨c6_8,f6_8⟩:=X6.out.cf 8 (by simp);have XF:=(((X6.out.set S.out 6 (.int .i64 s6.kind) (by simp)).set S.out 7 (.int .i64 s6.int) (by simp)).set S.out 8 (.string s6.text) (by simp));simp only [List.set_cons_succ,List.set_cons_zero] at XF;have XF:=gH XF;obtain ⟨e1,e2⟩:=endsRop XF.out rfl rfl (by simp [Value.oneCell']);clear d))))
 ·exact ⟨rfl,((Kw.refl b w).alloc _).trans R2.out,by rw [show rowP (b_remove::WW)=none by simp only [rowP_cons,N2.out,Option.bind_some,Option.bind_none]];rfl⟩
 ·exact ⟨rfl,((Kw.refl b w).alloc _).trans R3.out,by rw [show rowP (b_remove::WW)=none by simp only [rowP_cons,N2.out,N3.out,Option.bind_some,Option.bind_none]];rfl⟩
 ·exact ⟨rfl,((Kw.refl b w).alloc _).trans R4.out,by rw [show rowP (b_remove::WW)=none by simp only [rowP_cons,N2.out,N3.out,N4.out,Option.bind_some,Option.bind_none]];rfl⟩
 ·exact ⟨rfl,K5.out,by rw [show rowP (b_remove::WW)=none by simp only [rowP_cons,N2.out,N3.out,N4.out,N5.out,Option.bind_some,Option.bind_none,rowT_remove]];rfl⟩
 ·exact ⟨rfl,K6.out,by rw [show rowP (b_remove::WW)=none by simp only [rowP_cons,N2.out,N3.out,N4.out,N5.out,N6.out,Option.bind_some,Option.bind_none,rowT_remove]];rfl⟩
 ·obtain ⟨rf,kwf,wdf,kbf⟩:=XF.out.fin S.out rfl
  refine bodyPost_ret (results_cell rfl _ rfl (lv_row (T:=41) Tryz.underlying41 (by kernel_rfl) rf rfl)) rfl ?_
  have S:=S.out
  have sb:=S.fb
  have sr:=S.fr
  have sx:=S.fx
  refine ⟨kwf,?_⟩
  rw [show rowP (b_remove::WW)=some (⟨2,s2,s3,s4,[],s5,s6⟩,W6) by simp only [rowP_cons,N2.out,N3.out,N4.out,N5.out,N6.out,Option.bind_some,rowT_remove]]
  exact ⟨_,rfl,⟨_,_,rfl,vals_nil b _ _ sb,.inr g2,.inr g3,.inr g4,.inr g5,g6⟩,wdf⟩
theorem row_select (b p:Nat) (WW:Ws) (w:World) (h:WdS w b p (b_select::WW)):Calls Tryz.prog 31 #[.pointer (some ⟨b,0,none⟩)] w (RdQ b p w (RopV b w.heap.size) (rowP (b_select::WW))):=by
 have HN:=gH (fun w1 W (h:WdS w1 b p W)=>name_rd b p W w1 h)
 have HV:=gH (fun w1 W (h:WdS w1 b p W)=>value_rd b p W w1 h)
 have HW0:=gH (show Calls Tryz.prog 27 #[.pointer (some ⟨b,0,none⟩)] (w.alloc (.cells #[.int .i64 0,.string ⟨#[]⟩,.string ⟨#[]⟩,.string ⟨#[]⟩,.slice none 0 0,.string ⟨#[]⟩,.int .i64 0,.int .i64 0,.string ⟨#[]⟩] 41)) fun e w'=>e=.returned (.string ⟨#[115,101,108,101,99,116]⟩)∧WdS w' b p WW∧Kw b (w.alloc (.cells #[.int .i64 0,.string ⟨#[]⟩,.string ⟨#[]⟩,.string ⟨#[]⟩,.slice none 0 0,.string ⟨#[]⟩,.int .i64 0,.int .i64 0,.string ⟨#[]⟩] 41)) w' from word_yes b p b_select WW _ (h.aft ((Aft.refl w).alloc _)))
 have hb:=h.lt
 have HPL:=gH h.plt
 have HLO:=gH h.low
 clear h
 go_enter Tryz.func31,Tryz.ntmps31
 go_wp2_with (first
  | (go_at_call 27;with_reducible refine HW0.out.mono ?_;rintro e w1 ⟨rfl,d,k⟩;have D1:=gH d;have R1:=gH k;clear d k)
  | (go_at_call 48;with_reducible refine (HN.out _ _ D1.out).mono ?_;rintro e w2 q;rcases name_cases q with ⟨n,rfl,k⟩ | ⟨s2,W2,n,rfl,g2,d,k⟩;all_goals (have N2:=gH n;have R2:=gH (R1.out.trans k);clear n q;try (have D2:=gH d;clear d)))
  | (go_at_call 48;with_reducible refine (HN.out _ _ D2.out).mono ?_;rintro e w3 q;rcases name_cases q with ⟨n,rfl,k⟩ | ⟨s3,W3,n,rfl,g3,d,k⟩;all_goals (have N3:=gH n;have R3:=gH (R2.out.trans k);clear n q;try (have D3:=gH d;clear d)))
  | (go_at_call 48;with_reducible refine (HN.out _ _ D3.out).mono ?_;rintro e w4 q;rcases name_cases q with ⟨n,rfl,k⟩ | ⟨s4,W4,n,rfl,g4,d,k⟩;rotate_left;rcases W4 with _ | ⟨y,W4⟩;all_goals (have N4:=gH n;have R4:=gH (R3.out.trans k);clear n q;try (have D4:=gH d;have ST:=bx_start (t2:=41) (zs:=[.int .i64 0,.string ⟨#[]⟩,.string ⟨#[]⟩,.string ⟨#[]⟩,.slice none 0 0,.string ⟨#[]⟩,.int .i64 0,.int .i64 0,.string ⟨#[]⟩]) hb HPL.out HLO.out R4.out d [.int .i64 3,.string s2,.string s3,.string s4,.slice none 0 0,.string ⟨#[]⟩,.int .i64 0,.int .i64 0,.string ⟨#[]⟩];have S:=gH ST.1;have X4:=gH ST.2;clear ST;have X4s:=gH X4.out;clear d)))
  | (go_at_call 19;(first | (with_reducible refine (more_yes b p _ _ _ X4s.out.ds).mono ?_) | (with_reducible refine (more_no b p _ X4s.out.ds).mono ?_;have XF:=X4s.out;have XF:=gH XF;obtain ⟨e1,e2⟩:=endsRop XF.out rfl rfl (by simp [Value.oneCell'])));rintro e w' ⟨rfl,rfl⟩)
  | (go_at_call 48;with_reducible refine (HN.out _ _ X4s.out.ds).mono ?_;rintro e w5 q;rcases name_cases q with ⟨n,rfl,k⟩ | ⟨s5,W5,n,rfl,g5,d,k⟩;all_goals (have N5:=gH n;have K5:=gH (X4s.out.kw.trans k);clear n q;try (have X5:=gH (X4s.out.call S.out k d);have xz5:=X5.out.row.ltD;have rz5:=X5.out.res.ltD;obtain ⟨c5_5,f5_5⟩:=X5.out.cf 5 (by simp);have X5s:=gH (X5.out.set S.out 5 (.string s5) (by simp));clear d)))
  | (go_at_call 53;with_reducible refine (HV.out _ _ X5s.out.ds).mono ?_;rintro e w6 q;rcases val_cases q with ⟨n,rfl,k⟩ | ⟨s6,W6,n,rfl,g6,d,k⟩;all_goals (have N6:=gH n;have K6:=gH (X5s.out.kw.trans k);clear n q;try (have X6:=gH (X5s.out.call S.out k d);have xz6:=X6.out.row.ltD;have rz6:=X6.out.res.ltD;obtain ⟨c6_6,f6_6⟩:=X6.out.cf 6 (by simp);obtain ⟨c6_7,f6_7⟩:=X6.out.cf 7 (by simp);obtain ⟨c6_8,f6_8⟩:=X6.out.cf 8 (by simp);have XF:=(((X6.out.set S.out 6 (.int .i64 s6.kind) (by simp)).set S.out 7 (.int .i64 s6.int) (by simp)).set S.out 8 (.string s6.text) (by simp));simp only [List.set_cons_succ,List.set_cons_zero] at XF;have XF:=gH XF;obtain ⟨e1,e2⟩:=endsRop XF.out rfl rfl (by simp [Value.oneCell']);clear d))))
 all_goals first
  | (exact ⟨rfl,((Kw.refl b w).alloc _).trans R2.out,by rw [show rowP (b_select::WW)=none by simp only [rowP_cons,N2.out,Option.bind_some,Option.bind_none]];rfl⟩)
  | (exact ⟨rfl,((Kw.refl b w).alloc _).trans R3.out,by rw [show rowP (b_select::WW)=none by simp only [rowP_cons,N2.out,N3.out,Option.bind_some,Option.bind_none]];rfl⟩)
  | (exact ⟨rfl,K6.out,by rw [show rowP (b_select::WW)=none by simp only [rowP_cons,N2.out,N3.out,N4.out,N5.out,N6.out,Option.bind_some,Option.bind_none,rowT_select,List.cons_ne_nil,if_false]];rfl⟩)
  | (exact ⟨rfl,K5.out,by rw [show rowP (b_select::WW)=none by simp only [rowP_cons,N2.out,N3.out,N4.out,N5.out,Option.bind_some,Option.bind_none,rowT_select,List.cons_ne_nil,if_false]];rfl⟩)
  | (exact ⟨rfl,((Kw.refl b w).alloc _).trans R4.out,by rw [show rowP (b_select::WW)=none by simp only [rowP_cons,N2.out,N3.out,N4.out,Option.bind_some,Option.bind_none]];rfl⟩)
  | (
   obtain ⟨rf,kwf,wdf,kbf⟩:=XF.out.fin S.out rfl
   refine bodyPost_ret (results_cell rfl _ rfl (lv_row (T:=41) Tryz.underlying41 (by kernel_rfl) rf rfl)) rfl ?_
   have S:=S.out
   have sb:=S.fb
   have sr:=S.fr
   have sx:=S.fx
   refine ⟨kwf,?_⟩
   rw [show rowP (b_select::WW)=some (⟨3,s2,s3,s4,[],s5,s6⟩,W6) by simp only [rowP_cons,N2.out,N3.out,N4.out,N5.out,N6.out,Option.bind_some,rowT_select,List.cons_ne_nil,if_false]]
   exact ⟨_,rfl,⟨_,_,rfl,vals_nil b _ _ sb,.inr g2,.inr g3,.inr g4,.inr g5,g6⟩,wdf⟩)
  | (
   obtain ⟨rf,kwf,wdf,kbf⟩:=XF.out.fin S.out rfl
   refine bodyPost_ret (results_cell rfl _ rfl (lv_row (T:=41) Tryz.underlying41 (by kernel_rfl) rf rfl)) rfl ?_
   have S:=S.out
   have sb:=S.fb
   have sr:=S.fr
   have sx:=S.fx
   refine ⟨kwf,?_⟩
   rw [show rowP (b_select::WW)=some (⟨3,s2,s3,s4,[],zBy,zVal⟩,[]) by simp only [rowP_cons,N2.out,N3.out,N4.out,Option.bind_some,rowT_select,if_true]]
   exact ⟨_,rfl,⟨_,_,rfl,vals_nil b _ _ sb,.inr g2,.inr g3,.inr g4,.inl rfl,small_z⟩,wdf⟩)
theorem row_none (b p:Nat) (f:ByteArray) (WW:Ws) (w:World) (h:WdS w b p (f::WW)) (h1:eqS f b_insert=false) (h2:eqS f b_remove=false) (h3:eqS f b_select=false):Calls Tryz.prog 31 #[.pointer (some ⟨b,0,none⟩)] w (RdQ b p w (RopV b w.heap.size) (rowP (f::WW))):=by
 have HN:=gH (fun w1 W (h:WdS w1 b p W)=>name_rd b p W w1 h)
 have HV:=gH (fun w1 W (h:WdS w1 b p W)=>value_rd b p W w1 h)
 have HW0:=gH (show Calls Tryz.prog 27 #[.pointer (some ⟨b,0,none⟩)] (w.alloc (.cells #[.int .i64 0,.string ⟨#[]⟩,.string ⟨#[]⟩,.string ⟨#[]⟩,.slice none 0 0,.string ⟨#[]⟩,.int .i64 0,.int .i64 0,.string ⟨#[]⟩] 41)) fun e w'=>e=.returned (.string f)∧WdS w' b p WW∧Kw b (w.alloc (.cells #[.int .i64 0,.string ⟨#[]⟩,.string ⟨#[]⟩,.string ⟨#[]⟩,.slice none 0 0,.string ⟨#[]⟩,.int .i64 0,.int .i64 0,.string ⟨#[]⟩] 41)) w' from word_yes b p f WW _ (h.aft ((Aft.refl w).alloc _)))
 have hb:=h.lt
 have HPL:=gH h.plt
 have HLO:=gH h.low
 have q1:(f.toList==[105,110,115,101,114,116])=false:=by have:=eqS_as h1;exact this
 have q2:(f.toList==[114,101,109,111,118,101])=false:=by have:=eqS_as h2;exact this
 have q3:(f.toList==[115,101,108,101,99,116])=false:=by have:=eqS_as h3;exact this
 have HB:=gH (fun r s t W=>show rowT f r s t W=none by unfold rowT;rw [h1,h2,h3];rfl)
 clear h1 h2 h3
 clear h
 go_enter Tryz.func31,Tryz.ntmps31
 go_wp2_with (first
  | (go_at_call 27;with_reducible refine HW0.out.mono ?_;rintro e w1 ⟨rfl,d,k⟩;have D1:=gH d;have R1:=gH k;clear d k)
  | (go_at_call 48;with_reducible refine (HN.out _ _ D1.out).mono ?_;rintro e w2 q;rcases name_cases q with ⟨n,rfl,k⟩ | ⟨s2,W2,n,rfl,g2,d,k⟩;all_goals (have N2:=gH n;have R2:=gH (R1.out.trans k);clear n q;try (have D2:=gH d;clear d)))
  | (go_at_call 48;with_reducible refine (HN.out _ _ D2.out).mono ?_;rintro e w3 q;rcases name_cases q with ⟨n,rfl,k⟩ | ⟨s3,W3,n,rfl,g3,d,k⟩;all_goals (have N3:=gH n;have R3:=gH (R2.out.trans k);clear n q;try (have D3:=gH d;clear d)))
  | (go_at_call 48;with_reducible refine (HN.out _ _ D3.out).mono ?_;rintro e w4 q;rcases name_cases q with ⟨n,rfl,k⟩ | ⟨s4,W4,n,rfl,g4,d,k⟩;all_goals (have N4:=gH n;have R4:=gH (R3.out.trans k);clear n q;try (have D4:=gH d;have ST:=bx_start (t2:=41) (zs:=[.int .i64 0,.string ⟨#[]⟩,.string ⟨#[]⟩,.string ⟨#[]⟩,.slice none 0 0,.string ⟨#[]⟩,.int .i64 0,.int .i64 0,.string ⟨#[]⟩]) hb HPL.out HLO.out R4.out d [.int .i64 0,.string s2,.string s3,.string s4,.slice none 0 0,.string ⟨#[]⟩,.int .i64 0,.int .i64 0,.string ⟨#[]⟩];have S:=gH ST.1;have X4:=gH ST.2;clear ST;clear d)))
  | (go_at_call 18;refine (dis_no _).mono ?_;rintro e w' ⟨he,rfl⟩;unfold NoL at he;subst he))
 ·exact ⟨rfl,((Kw.refl b w).alloc _).trans R2.out,by rw [show rowP (f::WW)=none by simp only [rowP_cons,N2.out,Option.bind_some,Option.bind_none]];rfl⟩
 ·exact ⟨rfl,((Kw.refl b w).alloc _).trans R3.out,by rw [show rowP (f::WW)=none by simp only [rowP_cons,N2.out,N3.out,Option.bind_some,Option.bind_none]];rfl⟩
 ·exact ⟨rfl,((Kw.refl b w).alloc _).trans R4.out,by rw [show rowP (f::WW)=none by simp only [rowP_cons,N2.out,N3.out,N4.out,Option.bind_some,Option.bind_none]];rfl⟩
 ·exact ⟨rfl,X4.out.kw,by rw [show rowP (f::WW)=none by simp only [rowP_cons,N2.out,N3.out,N4.out,Option.bind_some,Option.bind_none,HB.out]];rfl⟩
theorem row_insert (b p:Nat) (WW:Ws) (w:World) (h:WdS w b p (b_insert::WW)):Calls Tryz.prog 31 #[.pointer (some ⟨b,0,none⟩)] w (RdQ b p w (RopV b w.heap.size) (rowP (b_insert::WW))):=by
 have HN:=gH (fun w1 W (h:WdS w1 b p W)=>name_rd b p W w1 h)
 have HV:=gH (fun w1 W (h:WdS w1 b p W)=>value_rd b p W w1 h)
 have HW0:=gH (show Calls Tryz.prog 27 #[.pointer (some ⟨b,0,none⟩)] (w.alloc (.cells #[.int .i64 0,.string ⟨#[]⟩,.string ⟨#[]⟩,.string ⟨#[]⟩,.slice none 0 0,.string ⟨#[]⟩,.int .i64 0,.int .i64 0,.string ⟨#[]⟩] 41)) fun e w'=>e=.returned (.string ⟨#[105,110,115,101,114,116]⟩)∧WdS w' b p WW∧Kw b (w.alloc (.cells #[.int .i64 0,.string ⟨#[]⟩,.string ⟨#[]⟩,.string ⟨#[]⟩,.slice none 0 0,.string ⟨#[]⟩,.int .i64 0,.int .i64 0,.string ⟨#[]⟩] 41)) w' from word_yes b p b_insert WW _ (h.aft ((Aft.refl w).alloc _)))
 have hb:=h.lt
 have HPL:=gH h.plt
 have HLO:=gH h.low
 clear h
 go_enter Tryz.func31,Tryz.ntmps31
 go_wp2_with (first
  | (go_at_call 27;with_reducible refine HW0.out.mono ?_;rintro e w1 ⟨rfl,d,k⟩;have D1:=gH d;have R1:=gH k;clear d k)
  | (go_at_call 48;with_reducible refine (HN.out _ _ D1.out).mono ?_;rintro e w2 q;rcases name_cases q with ⟨n,rfl,k⟩ | ⟨s2,W2,n,rfl,g2,d,k⟩;all_goals (have N2:=gH n;have R2:=gH (R1.out.trans k);clear n q;try (have D2:=gH d;clear d)))
  | (go_at_call 48;with_reducible refine (HN.out _ _ D2.out).mono ?_;rintro e w3 q;rcases name_cases q with ⟨n,rfl,k⟩ | ⟨s3,W3,n,rfl,g3,d,k⟩;all_goals (have N3:=gH n;have R3:=gH (R2.out.trans k);clear n q;try (have D3:=gH d;clear d)))
  | (go_at_call 48;with_reducible refine (HN.out _ _ D3.out).mono ?_;rintro e w4 q;rcases name_cases q with ⟨n,rfl,k⟩ | ⟨s4,W4,n,rfl,g4,d,k⟩;all_goals (have N4:=gH n;have R4:=gH (R3.out.trans k);clear n q;try (have D4:=gH d;have ST:=bx_start (t2:=41) (zs:=[.int .i64 0,.string ⟨#[]⟩,.string ⟨#[]⟩,.string ⟨#[]⟩,.slice none 0 0,.string ⟨#[]⟩,.int .i64 0,.int .i64 0,.string ⟨#[]⟩]) hb HPL.out HLO.out R4.out d [.int .i64 0,.string s2,.string s3,.string s4,.slice none 0 0,.string ⟨#[]⟩,.int .i64 0,.int .i64 0,.string ⟨#[]⟩];have S:=gH ST.1;have X4:=gH ST.2;clear ST;clear d)))
  | (go_at_call 53;with_reducible refine (HV.out _ _ X4.out.ds).mono ?_;rintro e w5 q;rcases val_cases q with ⟨n,rfl,k⟩ | ⟨s5,W5,n,rfl,g5,d,k⟩;all_goals (have N5:=gH n;have K5:=gH (X4.out.kw.trans k);clear n q;try (have X5:=gH (X4.out.call S.out k d);have xz5:=X5.out.row.ltD;have rz5:=X5.out.res.ltD;obtain ⟨c5_0,f5_0⟩:=X5.out.cf 0 (by simp);obtain ⟨c5_4,f5_4⟩:=X5.out.cf 4 (by simp);have O5:=gH (vals_own w5 w4.heap.size 0 4 (.int .i64 1) (.slice (some ⟨w5.heap.size,0,none⟩) 1 1) b s5 X5.out.ds.lt);have X5s:=((X5.out.set S.out 0 (.int .i64 1) (by simp)).set S.out 4 (.slice (some ⟨w5.heap.size,0,none⟩) 1 1) (by simp)).alloc (.cells #[.int .i64 s5.kind,.int .i64 s5.int,.string s5.text] 39);simp only [List.set_cons_succ,List.set_cons_zero] at X5s;have X5s:=gH X5s;clear d))))
 ·exact ⟨rfl,((Kw.refl b w).alloc _).trans R2.out,by rw [show rowP (b_insert::WW)=none by simp only [rowP_cons,N2.out,Option.bind_some,Option.bind_none]];rfl⟩
 ·exact ⟨rfl,((Kw.refl b w).alloc _).trans R3.out,by rw [show rowP (b_insert::WW)=none by simp only [rowP_cons,N2.out,N3.out,Option.bind_some,Option.bind_none]];rfl⟩
 ·exact ⟨rfl,((Kw.refl b w).alloc _).trans R4.out,by rw [show rowP (b_insert::WW)=none by simp only [rowP_cons,N2.out,N3.out,N4.out,Option.bind_some,Option.bind_none]];rfl⟩
 ·exact ⟨rfl,K5.out,by rw [show rowP (b_insert::WW)=none by simp only [rowP_cons,N2.out,N3.out,N4.out,Option.bind_some,rowT_insert,vals_none N5.out,Option.bind_none]];rfl⟩
 have N5':=N5.out
 obtain ⟨c0,e5,hc0⟩:=oneP_some.1 N5'
 have HC0:=gH hc0
 have E5:=gH e5
 have LS:=gH (show w.heap.size < w5.heap.size∧w4.heap.size < w5.heap.size∧b < w5.heap.size∧p < w5.heap.size from ⟨X5.out.res.ltD,X5.out.row.ltD,X5.out.ds.lt,X5.out.ds.plt⟩)
 have LW:=gH (show W4.length≤4097 from X4.out.ds.big)
 clear N5' e5 hc0
 go_loopw [] (fun wr=>∃ (pre rest:Ws) (l:List Val) (h:Hd),GrowX 39 3 valC valB 4 b p w.heap.size w4.heap.size w [.int .i64 0,.string ⟨#[]⟩,.string ⟨#[]⟩,.string ⟨#[]⟩,.slice none 0 0,.string ⟨#[]⟩,.int .i64 0,.int .i64 0,.string ⟨#[]⟩] [.int .i64 1,.string s2,.string s3,.string s4,.slice none 0 0,.string ⟨#[]⟩,.int .i64 0,.int .i64 0,.string ⟨#[]⟩] w5.heap.size W4 wr pre rest l h) (fun wr=>W4.length - lenV ((wr.cell? ⟨w4.heap.size,4,none⟩).getD undef))
 case atStart=>exact ⟨[c0],W5,[s5],⟨some ⟨w5.heap.size,0,none⟩,1,1⟩,by rw [E5.out];rfl,by rw [List.mapM_cons,HC0.out];rfl,by simp,X5s.out,O5.out⟩
 case round =>
  obtain ⟨pre,rest,l,h,g⟩:=hrel
  have hz:=g.small LW.out
  have G:=gH g
  cases rest with
  | nil =>
   have HE:=gH (more_no b p wr g.bx.ds)
   have XF:=g.bx
   simp only [List.set_cons_succ,List.set_cons_zero] at XF
   have XF:=gH XF
   obtain ⟨e1,e2⟩:=endsRop XF.out rfl rfl (by simp [Value.oneCell'])
   clear g
   go_wp2_with (first | (go_at_call 19;refine HE.out.mono ?_;rintro e w' ⟨rfl,rfl⟩))
   obtain ⟨rf,kwf,wdf,kbf⟩:=XF.out.fin S.out rfl
   refine bodyPost_ret (results_cell rfl _ rfl (lv_row (T:=41) Tryz.underlying41 (by kernel_rfl) rf rfl)) rfl ?_
   have S:=S.out
   have sb:=S.fb
   have sr:=S.fr
   have sx:=S.fx
   obtain ⟨z2,z3,z4,z5⟩:=LS.out
   refine ⟨kwf,?_⟩
   have hw:valsP W4=some (l,[]):=by
    have e:=G.out.split
    rw [List.append_nil] at e
    rw [e];exact many_done G.out.ne G.out.some
   rw [show rowP (b_insert::WW)=some (⟨1,s2,s3,s4,l,zBy,zVal⟩,[]) by simp only [rowP_cons,N2.out,N3.out,N4.out,Option.bind_some,rowT_insert,hw]]
   have hs:∀ c∈l,Small c.text.size:=vals_small G.out.some
   exact ⟨_,rfl,⟨_,_,rfl,⟨((G.out.own.hi kbf (fun g e=>by have e':g=_:=e;omega)).down (by omega) (by omega)),hz,hs⟩,.inr g2,.inr g3,.inr g4,.inl rfl,small_z⟩,wdf⟩
  | cons t rest =>
   have HE:=gH (more_yes b p t rest wr g.bx.ds)
   have HQ:=gH (value_rd b p (t::rest) wr.drew (g.bx.ds.aft (Aft.refl _).drew))
   have HL:=gH (g.more rfl)
   obtain ⟨q1,q2,q3⟩:=g.fields (by simp) (Kw.refl b wr) S.out
   have KF:=gH (fun V (k:Kw b wr V)=>g.fields (by simp) k S.out)
   clear g
   obtain ⟨q,hq⟩:∃ q,valB t=q:=⟨_,rfl⟩
   have HQT:=gH hq
   cases q with
   | none =>
    have HQ':=gH (HQ.out.mono fun e w1 (h:RdQ _ _ _ _ _ _ _)=>(rd_cons h).elim (fun h=>h.2) (fun ⟨x,v,h,_⟩=>absurd (hq.symm.trans h) (by simp)))
    clear hq HQ
    go_wp2_with (first | (go_at_call 19;refine HE.out.mono ?_;rintro e w' ⟨rfl,rfl⟩))
    go_region_dies
    all_goals
     refine HQ'.out.mono ?_
     rintro e w6 ⟨he,k6⟩
     unfold NoL at he
     subst he
     refine ⟨rfl,G.out.bx.kw.trans (((Kw.refl b wr).drew).trans k6),?_⟩
     have hw:valsP W4=none:=by rw [G.out.split];exact many_fail G.out.some HQT.out
     rw [show rowP (b_insert::WW)=none by simp only [rowP_cons,N2.out,N3.out,N4.out,Option.bind_some,rowT_insert,hw,Option.bind_none]];rfl
   | some y =>
    have HQ':=gH (HQ.out.mono fun e w1 (h:RdQ _ _ _ _ _ _ _)=>(rd_cons h).elim (fun ⟨h,_⟩=>absurd (hq.symm.trans h) (by simp)) (fun ⟨z,v,h1,h2,h3,h4,h5⟩=>(show e=Ending.returned (.agg #[.int .i64 y.kind,.int .i64 y.int,.string y.text])∧WdS w1 b p rest∧Kw b wr w1 from by
     rw [hq] at h1;cases h1;exact ⟨by rw [h2,h3.1],h4,((Kw.refl b wr).drew).trans h5⟩)))
    clear hq HQ
    have HOW:=gH (fun V (k:Kw b wr V)=>G.out.own.kw k)
    go_wp2_with (first | (go_at_call 19;refine HE.out.mono ?_;rintro e w' ⟨rfl,rfl⟩))
    have HBZ:=gH (fun V (k:Kw b wr V)=>(show w5.heap.size≤(V.alloc (.cells #[.int .i64 y.kind,.int .i64 y.int,.string y.text] 39)).heap.size from by
     have h1:=(G.out.own.kw k)
     have h2:=k.size
     have h3:(V.alloc (.cells #[.int .i64 y.kind,.int .i64 y.int,.string y.text] 39)).heap.size=V.heap.size+1:=by simp
     have h4:w5.heap.size≤V.heap.size:=ownR_base h1 G.out.ne
     omega))
    have HSF:=gH (fun V v5 (k:Kw b wr V) (hg:(V.alloc (.cells #[.int .i64 y.kind,.int .i64 y.int,.string y.text] 39)).grownBy v5 (Value.slice h.a l.length h.c).ownBlock)=>G.out.after (by simp) k S.out LS.out.2.1 hg)
    have h63:l.length+1≤maxLen:=by unfold maxLen;omega
    obtain ⟨i0,hi0,hz0,hz1,hz2⟩:=info_partsD infoDV
    go_region_law ((first | (go_simp;go_at_call 53;refine HQ'.out.mono ?_;rintro e w6 ⟨rfl,d6,k6⟩;have D6:=gH d6;have K6:=gH k6;obtain ⟨p1,p2,p3⟩:=KF.out w6 k6;clear d6 k6;dsimp only) | (refine step_append_lies _ (by rfl) _ _ _ (by rfl) w5.heap.size 39 i0 _ 3 32 Tryz.underlying36 hi0 hz0 hz1 hz2 rfl (by omega) (.slice h.a l.length h.c) l.length (l.flatMap valC) (by rfl) ((ownR_of (HOW.out w6 K6.out)).alloc _) ⟨w6.heap.size,0,none⟩ 1 1 [.int .i64 y.kind,.int .i64 y.int,.string y.text] (by rfl) (by rfl) (World.news_of_block (cs:=#[.int .i64 y.kind,.int .i64 y.int,.string y.text]) (t:=39) (fr:=(0,0)) (heap_alloc_new w6 _)) (by simp [Value.oneCell']) (by omega) h63 (by omega) (HBZ.out w6 K6.out) (w6.heap.size+1) (by simp) ?_;intro gg cap' v5 hown5 hgrow hat hgl;obtain ⟨s1,s2,s3⟩:=HSF.out w6 v5 K6.out hgrow)))
    all_goals
     go_roundw
     case rel =>
      repeat (apply Exists.intro)
      refine ⟨⟨pre++[t],rest,l++[y],⟨some ⟨gg,0,none⟩,l.length+1,cap'⟩,G.out.step S.out (by simp) LS.out.2.1 LS.out.1 LS.out.2.2.1 LS.out.2.2.2 HQT.out K6.out D6.out hown5 hgrow⟩,rfl⟩
     case measure =>
      rw [q1,World.cell?_setCell_same (h:=s1)]
      have:=HL.out
      simp [lenV]
      omega
theorem row_rd (b p:Nat) (W:Ws) (w:World) (h:WdS w b p W):Calls Tryz.prog 31 #[.pointer (some ⟨b,0,none⟩)] w (RdQ b p w (RopV b w.heap.size) (rowP W)):=by
 cases W with
 | nil =>
  have HW0:=gH (word_no b p _ (h.aft ((Aft.refl w).alloc (.cells #[.int .i64 0,.string ⟨#[]⟩,.string ⟨#[]⟩,.string ⟨#[]⟩,.slice none 0 0,.string ⟨#[]⟩,.int .i64 0,.int .i64 0,.string ⟨#[]⟩] 41))))
  clear h
  go_enter Tryz.func31,Tryz.ntmps31
  go_wp2_with (first | (go_at_call 27;refine HW0.out.mono ?_;rintro e w' ⟨he,rfl⟩;unfold NoL at he;subst he))
  exact ⟨rfl,(Kw.refl _ _).alloc _,rfl⟩
 | cons f WW =>
  cases h1:eqS f b_insert with
  | true=>rw [eqS_iffD] at h1;subst h1;exact row_insert b p WW w h
  | false =>
  cases h2:eqS f b_remove with
  | true=>rw [eqS_iffD] at h2;subst h2;exact row_remove b p WW w h
  | false =>
  cases h3:eqS f b_select with
  | true=>rw [eqS_iffD] at h3;subst h3;exact row_select b p WW w h
  | false=>exact row_none b p f WW w h h1 h2 h3
end Go.Proofs.YtbdanlipghhgpaaGreatDoor
