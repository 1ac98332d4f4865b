import Derived.Laws.EntriesVeiled
import Derived.Lib.Bytealg
import Derived.IntWalk
import Derived.Test.YtakddkhipelmjaaGreatPartF2
set_option maxRecDepth 100000
set_option linter.unusedVariables false
set_option maxHeartbeats 64000000
namespace Go.Proofs.YtakddkhipelmjaaGreat
open Go.Deep Go.RowKit
theorem jf {w:World} {A:Option Addr} {cap:Nat} {l:List dP} (h:aA w 2 fw A cap l) {k:Nat} (hk:k < l.length) :
  ∃ b off,A=some ⟨b,off,none⟩∧b < w.heap.size∧w.cell? ⟨b,off+k*2,none⟩=some (.string l[k].role)∧w.cell? ⟨b,off+k*2+1,none⟩=some (.string l[k].of)∧Small l[k].role.size∧Small l[k].of.size:=by
 obtain ⟨b,off,cs,hA,hb,hl,⟨rfl,hs⟩,hc⟩:=h.2.2 k hk;refine ⟨b,off,hA,hb,?_,?_,hs⟩
 ·simpa using hc 0 (by omega)
 ·simpa [Nat.add_assoc] using hc 1 (by omega)
theorem cu {w w':World} (a:ag w w') {A:Option Addr} {cap:Nat} {l:List dP} (h:aA w 2 fw A cap l):aA w' 2 fw A cap l:=h.aH a fun _ _ h=>h
theorem Gq (ms:List dP) (m:dP) (s:dL):succ (ms++[m]) s=succ ms s++if txt m.role=s then [m.of] else []:=by
 unfold succ;rw [List.filter_append,List.map_append]
 congr 1
 by_cases e:txt m.role=s<;>simp [e]
structure qG (w:World) (B bn k:Nat) (ms:List dP) (H:dL→Hd):Prop where
 mp:eH Tryz.prog 9 w bn k (.slice none 0 0) (fun s=>(H s).v)
 row:∀ s,w.ownsRow B 9 1 (H s).v (succ ms s).length ((succ ms s).flatMap bT)
 Ba:∀ s t g,g∈(H s).blk→g∈(H t).blk→s=t
 lt:bn < B
theorem qG.kb {Q:Nat→Prop} {w w':World} {B bn k:Nat} {ms:List dP} {H:dL→Hd} (h:qG w B bn k ms H) (kb:Kb Q w w') (h1:¬ Q bn) (h2:∀ g,B≤g→¬ Q g):qG w' B bn k ms H :=
 ⟨h.mp.kb kb h1,fun s=>bB (h.row s) kb fun g hg=>h2 g ((h.row s).lt g hg).1,h.Ba,h.lt⟩
theorem qG.aH {w w':World} {B bn k:Nat} {ms:List dP} {H:dL→Hd} (h:qG w B bn k ms H) (a:ag w w'):qG w' B bn k ms H:=h.kb (Q:=fun _=>False) (Kb.bl a) (fun h=>h) fun _ _ h=>h
theorem qG.step {w w5:World} {B bn k:Nat} {ms:List dP} {H:dL→Hd} (h:qG w B bn k ms H) (V0:B≤w.heap.size) (m:dP) (hs:m.role.size≤maxLen) (hk:k < maxLen) {v':Hd} (kb:Kb (kR (H (txt m.role)).v) w w5)
  (ho:w5.ownsRow B 9 1 v'.v ((succ ms (txt m.role)).length+1) ((succ ms (txt m.role)).flatMap bT++[.string m.of])) (hat:∀ g∈v'.blk,g∈(H (txt m.role)).blk∨w.heap.size≤g) :
  ∃ w6,(Instr.mapUpdate 183 (.map (some bn)) (.string m.role) v'.v).run Tryz.prog w5=.ok () w6∧qG w6 B bn (k+1) (ms++[m]) (fun x=>if x=txt m.role then v' else H x)∧Kb (fun g=>g=bn) w5 w6:=by
 have hlt:=h.lt
 have hb:¬ kR (H (txt m.role)).v bn:=fun e=>by have:=((h.row (txt m.role)).lt bn e).1;omega
 obtain ⟨w6,p6,M6,g6⟩:=(h.mp.kb kb hb).put Tryz.underlying9 Tryz.underlying183 hk m.role hs v'.v
 have k6:Kb (fun g=>g=bn) w5 w6:=(Kb.dF g6).mono fun g _ e=>(Option.some.inj e).symm
 refine ⟨w6,p6,⟨?_,?_,?_,hlt⟩,k6⟩
 ·have e:(fun s=>((fun x=>if x=txt m.role then v' else H x) s).v)=fun x=>if x=m.role.data.toList then v'.v else (H x).v:=by
   funext x
   show (if x=m.role.data.toList then v' else H x).v=_
   split<;>rfl
  rw [e];exact M6
 ·intro s
  rw [Gq];by_cases e:s=txt m.role
  ·subst e
   rw [if_pos rfl,if_pos rfl,List.length_append,List.flatMap_append]
   exact bB ho k6 fun g hg e=>by have:=(ho.lt g hg).1;omega
  ·have e2:¬ txt m.role=s:=fun h=>e h.symm
   rw [if_neg e,if_neg e2,List.append_nil]
   refine bB (bB (h.row s) kb fun g hg h2=>e (h.Ba s (txt m.role) g (Hd.bu.2 hg) (Hd.bu.2 h2))) k6 fun g hg e=>?_
   have:=((h.row s).lt g hg).1;omega
 ·have hx:∀ s g,¬ s=txt m.role→g∈v'.blk→g∈(H s).blk→False:=fun s g e h1 h2=>by
   rcases hat g h1 with h3 | h3
   ·exact e (h.Ba s _ g h2 h3)
   ·have:=((h.row s).lt g (Hd.bu.1 h2)).2
    omega
  intro s t g h1 h2;by_cases e1:s=txt m.role
  ·by_cases e2:t=txt m.role
   ·rw [e1,e2]
   ·rw [if_pos e1] at h1
    rw [if_neg e2] at h2;exact absurd h2 (fun h2=>hx t g e2 h1 h2)
  ·rw [if_neg e1] at h1
   by_cases e2:t=txt m.role
   ·rw [if_pos e2] at h2
    exact absurd h1 (fun h1=>hx s g e1 h2 h1)
   ·rw [if_neg e2] at h2
    exact h.Ba s t g h1 h2
theorem qG.next {w:World} {B bn k bf:Nat} {ms:List dP} {H:dL→Hd} (h:qG w B bn k ms H) (hbf:∀ s,bf∉(H s).blk):nu w ms bf bn k :=
 ⟨_,h.mp,fun s=>⟨H s,rfl,bS (h.row s) (Nat.zero_le _),hbf s⟩⟩
theorem nu.aan {w w':World} {ms:List dP} {bf bn N:Nat} (h:nu w ms bf bn N) (a:ag w w'):nu w' ms bf bn N:=by
 obtain ⟨nx,h1,h2⟩:=h;exact ⟨nx,h1.aH a,fun s=>by obtain ⟨h,e,o,n⟩:=h2 s;exact ⟨h,e,cj o a,n⟩⟩
theorem Gr (w:World) (B:Nat) (hB:w.heap.size < B):qG (w.alloc (.map #[] 0)) B w.heap.size 0 [] (fun _=>⟨none,0,0⟩) :=
 ⟨nH w _,fun s=>cO _ _ _ _,fun s t g h=>by simp [iQ] at h,hB⟩
theorem Dy (l:List dL):∃ U:List dL,U.Nodup∧∀ x,x∈U↔x∈l:=by
 induction l with
 | nil=>exact ⟨[],by simp,by simp⟩
 | cons a l ih =>
  obtain ⟨U,h1,h2⟩:=ih;by_cases e:a∈U
  ·exact ⟨U,h1,fun x=>by rw [List.mem_cons,h2];exact ⟨.inr,fun h=>h.elim (fun h=>h▸(h2 a).1 e) id⟩⟩
  ·exact ⟨a::U,List.nodup_cons.2 ⟨e,h1⟩,fun x=>by rw [List.mem_cons,List.mem_cons,h2]⟩
theorem NB {U:List dL} {a:dL} (h:a∉U):(U.map fun s=>if a=s then 1 else 0).sum=0:=by
 induction U with
 | nil=>rfl
 | cons b U ih =>
  rw [List.mem_cons,not_or] at h;simp only [List.map_cons,List.sum_cons,if_neg h.1,ih h.2]
theorem NC {U:List dL} (hU:U.Nodup) (a:dL):(U.map fun s=>if a=s then 1 else 0).sum≤1:=by
 induction U with
 | nil=>simp
 | cons b U ih =>
  rw [List.nodup_cons] at hU;simp only [List.map_cons,List.sum_cons];by_cases e:a=b
  ·subst e
   rw [NB hU.1];simp
  ·rw [if_neg e]
   have:=ih hU.2;omega
theorem sum_add (U:List dL) (f g:dL→Nat):(U.map fun s=>f s+g s).sum=(U.map f).sum+(U.map g).sum:=by
 induction U with
 | nil=>rfl
 | cons a U ih=>simp only [List.map_cons,List.sum_cons,ih];omega
theorem Kk {U:List dL} (hU:U.Nodup) (ms:List dP):xM ms U (fun _=>0)≤ms.length:=by
 unfold xM;simp only [if_true]
 induction ms with
 | nil =>
  have:(U.map fun s=>(succ [] s).length).sum=0:=by
   clear hU
   induction U with
   | nil=>rfl
   | cons a U ih=>simp only [List.map_cons,List.sum_cons,ih];rfl
  rw [this];simp
 | cons m ms ih =>
  have e:(fun s=>(succ (m::ms) s).length)=fun s=>(succ ms s).length+if txt m.role=s then 1 else 0:=by
   funext s
   unfold succ
   by_cases e:txt m.role=s<;>simp [e]
  rw [e,sum_add];have:=NC hU (txt m.role);simp only [List.length_cons];omega
def WS (w:World) (ms:List dP) (role:ByteArray) (e:Ending) (w':World):Prop :=
 ∃ bf,e=.returned (.map (some bf))∧ag w w'∧∃ (c:dL→Nat) (n:Nat),eH Tryz.prog 9 w' bf n (.int .i64 0) (nW c)∧(∀ s,c s≤140737488351232)∧∀ s,0 < c s↔Reach ms (txt role) s
structure NxS (w wr:World) (ms:List dP) (k:Nat) (H:dL→Hd):Prop where
 aH:ag w wr
 pn:wr.cell? ⟨w.heap.size+2,0,none⟩=some (.map (some (w.heap.size+1)))
 nx:qG wr (w.heap.size+3) (w.heap.size+1) k (ms.take k) H
 sz:w.heap.size+3≤wr.heap.size
theorem EX (r:fV) (An:Option Addr) (aC:Nat) (Am:Option Addr) (aJ:Nat) (role:ByteArray) (w:World) (hm:aA w 2 fw Am aJ r.members) (my:Small role.size) :
  Calls Tryz.prog 210 #[.agg #[.slice An r.names.length aC,.slice Am r.members.length aJ],.string role] w (WS w r.members role):=by
 have hlen:=hm.len;have sP:=@run_makeMap Tryz.prog
 have l1:w.heap.size < w.heap.size+1:=by omega
 have l2:w.heap.size < w.heap.size+1+1:=by omega
 have l3:w.heap.size < w.heap.size+1+1+1:=by omega
 have HM:=gH hm
 go_in
 go_wp2_with fail
 go_loopw [14] (fun i wr=>∃ (k:Nat) (H:dL→Hd),k≤r.members.length∧i=.int .i64 k∧NxS w wr r.members k H) (fun i _=>r.members.length - (intOf i).toNat)
 case atStart =>
  refine ⟨0,fun _=>⟨none,0,0⟩,Nat.zero_le _,rfl,((((ag.refl w).alloc _).alloc _).alloc _),?_,?_,by simp⟩
  ·obtain ⟨hb,_,_,_,_⟩:=cz (ag.refl (((w.alloc (.cells #[.slice An r.names.length aC,.slice Am r.members.length aJ] 29)).alloc (.map #[] 0)).alloc (.cells #[.map (some (w.heap.size+1))] 183)))
   have:=hb 0
   simpa [World.size_alloc] using this
  ·have:=Gr (w.alloc (.cells #[.slice An r.names.length aC,.slice Am r.members.length aJ] 29)) (w.heap.size+3) (by simp)
   simp only [World.size_alloc] at this;exact this.aH ((ag.refl _).alloc _)
 case round =>
  obtain ⟨k,H,hk,rfl,hs⟩:=hrel;have HS:=gH hs;have pn:=hs.pn;have sz:=hs.sz;by_cases hlt:k < r.members.length
  ·obtain ⟨b,off,rfl,hb,t0,t1,hs1,hs2⟩:=jf (cu hs.aH HM.out) hlt
   obtain ⟨m,R4⟩:∃ m,r.members[k]=m:=⟨_,rfl⟩;rw [R4] at t0 t1 hs1 hs2;obtain ⟨W,hW⟩:∃ W,W=wr.alloc (.cells #[.string m.role,.string m.of] 174):=⟨_,rfl⟩
   have aW:ag wr W:=by rw [hW];exact (ag.refl _).alloc _
   have zW:W.heap.size=wr.heap.size+1:=by rw [hW];simp
   have Hl:=hs.nx.aH aW;have hrow:=Hl.row (txt m.role);obtain ⟨a0,n0,c0,hv⟩:∃ a0 n0 c0,H (txt m.role)=⟨a0,n0,c0⟩:=⟨_,_,_,rfl⟩;have wP:=nX hrow;rw [hv] at hrow wP;dsimp only at wP;have HLEN:=gH wP
   have hle:n0≤k:=by
    rw [wP];unfold succ;rw [List.length_map];refine Nat.le_trans (List.length_filter_le _ _) ?_;rw [List.length_take];omega
   rw [← wP] at hrow;have HOW:=gH (show W.ownsRow (w.heap.size+3) 9 1 (.slice a0 n0 c0) n0 ((succ (r.members.take k) (txt m.role)).flatMap bT) from hrow)
   have WT:∀ x:s9 (.slice a0 n0 c0) W,(Instr.lookup 183 (.map (some (w.heap.size+1))) (.string m.role) false).run Tryz.prog (rM (.slice a0 n0 c0) W x)=.ok (.slice a0 n0 c0) (rM (.slice a0 n0 c0) W x):=fun x=>by
    have h1:=(Hl.mp.kb x.kb (gW HOW.out (by omega))).look Tryz.underlying9 Tryz.underlying183 (ll _) m.role hs1.max;rw [show H m.role.data.toList=⟨a0,n0,c0⟩ from hv] at h1;exact h1
   have p1:=aW.cell_kept pn
   have q0:W.cell? ⟨wr.heap.size,0,none⟩=some (.string m.role):=by
    rw [hW];simp
   have q1:W.cell? ⟨wr.heap.size,1,none⟩=some (.string m.of):=by
    rw [hW];simp
   have e1:w.heap.size+2 < W.heap.size:=by omega
   have Iy:w.heap.size+1+1 < W.heap.size:=by omega
   have e2:wr.heap.size < W.heap.size:=by omega
   have n1:¬ kR (.slice a0 n0 c0) (w.heap.size+2):=gW HOW.out (by omega);have n1':¬ kR (.slice a0 n0 c0) (w.heap.size+1+1):=gW HOW.out (by omega)
   have n2:¬ kR (.slice a0 n0 c0) wr.heap.size:=fun h=>by
    have:=((hs.nx.row (txt m.role)).lt wr.heap.size (by rw [hv];exact h)).2;omega
   obtain ⟨i0,kG,hz0,hz1,hz2⟩:=info_parts qA;have HI:=gH kG;have HZ:=gH (And.intro hz0 (And.intro hz1 hz2));have HN:=gH (And.intro Hl (And.intro hv (And.intro R4 (And.intro (hs.aH.trans aW) (And.intro aW hs1)))));have JH:=gH (And.intro sz (And.intro zW hle))
   have aaW:n0+1≤140737488351232:=by omega
   clear kG hz0 hz1 hz2 hs Hl hv hrow wP hle aW R4 hs1 hs2;go_wp2_with fail;rw [← hW];clear hW zW;go_wp2_with fail;refine l7 9 11 (fun w'=>∃ x:s9 (.slice a0 n0 c0) W,w'=rM (.slice a0 n0 c0) W x) (by kernel_rfl) (by kernel_rfl) (KL.aH (ag.refl W).drew) ?_;simp only [List.take_succ_cons,List.take_zero,List.drop_succ_cons,List.drop_zero]
   repeat (go_big_quiet_step (fail))
   refine wpQuiet_nil ?_;refine ip (fun K hK=>?_);go_simp;refine hK _ _ (fun _=>KL.aH (((ag.refl W).alloc _).drew)) ?_;clear hK K;refine ip (fun K hK=>?_);refine wp_append_lies _ (.tmp 24) (.tmp 27) 26 rfl (w.heap.size+3) 9 i0 _ 1 16 Tryz.underlying26 HI.out HZ.out.1 HZ.out.2.1 HZ.out.2.2 rfl (by decide) (.slice a0 n0 c0) n0 ((succ (r.members.take k) (txt m.role)).flatMap bT) (by rfl) ((HOW.out.alloc _).drew) ⟨W.heap.size,0,none⟩ 1 1 [.string m.of] (by rfl) (by rfl) (World.news_of_block (cs:=#[.string m.of]) (t:=9) (fr:=(0,0)) (heap_alloc_new W _)) (by simp [Value.oneCell']) (by omega) (by unfold maxLen;omega) (by have:=JH.out;omega) (by have:=JH.out;simp;omega) (W.heap.size+1) (by simp) ?_;intro gg cap' w5 ic hgrow hat yZ;refine hK _ _ (fun _=>KL.of ((Kb.bl (((ag.refl W).alloc _).drew)).trans (vp hgrow))) ?_;clear hK K;refine lN _ (by simp) (by decide) ?_;have Lz:Kb (kR (.slice a0 n0 c0)) W w5:=(Kb.bl (((ag.refl W).alloc _).drew)).trans (vp hgrow);obtain ⟨Hl,hv,ND,hwW,haW,hsr⟩:=HN.out
   have X3:w.heap.size+3≤W.heap.size:=by omega
   obtain ⟨w6,p6,nx6,k6⟩:=Hl.step (v':=⟨some ⟨gg,0,none⟩,n0+1,cap'⟩) X3 m hsr.max (by unfold maxLen;omega) (by rw [hv];exact Lz) (by rw [← HLEN.out];exact ic) (fun g hg=>by
    rw [gG,List.mem_singleton] at hg;have hg:g=gg:=hg
    rcases hat with h1 | h1
    ·exact .inl (by rw [hv,hg];exact Hd.bu.2 h1)
    ·exact .inr (by omega))
   have hnv:∀ g,g < w.heap.size+3→¬ kR (.slice a0 n0 c0) g:=fun g hg=>gW HOW.out hg
   have yO:=gH (show ∃ H',NxS w w6 r.members (k+1) H' from ⟨_,(k6.aN (Lz.aN hwW (fun g hg=>hnv g (by omega))) (fun g hg=>by omega)),
    k6.cell (Lz.cell p1 n1) (by show ¬ w.heap.size+2=w.heap.size+1;omega),by rw [List.take_succ_eq_append_getElem hlt,ND];exact nx6,by have:=Lz.size;have:=k6.size;omega⟩)
   change (Instr.mapUpdate 183 (.map (some (w.heap.size+1))) (.string m.role) (.slice (some ⟨gg,0,none⟩) (n0+1) cap')).run Tryz.prog w5=.ok () w6 at p6;clear Hl hv ND hwW haW hsr hnv nx6 k6 Lz ic hgrow hat yZ WT;go_wp2_with fail;refine NoPanic.normal ?_;go_wp2
   go_roundw
   case rel=>obtain ⟨H',hx⟩:=yO.out;exact ⟨k+1,H',by omega,by go_num,hx⟩
   case measure=>simp [intOf];omega
  ·have hke:k=r.members.length:=by omega
   subst hke;have Hl:=hs.nx;rw [List.take_length] at Hl
   have m1:wr.heap.size+1+1 < wr.heap.size+1+1+1:=by omega
   have m2:wr.heap.size+1 < wr.heap.size+1+1+1:=by omega
   have m3:wr.heap.size < wr.heap.size+1+1+1:=by omega
   have m4:w.heap.size+2 < wr.heap.size:=by omega
   obtain ⟨F,hF⟩:∃ F,F=((wr.alloc (.map #[] 0)).alloc (.cells #[.map (some wr.heap.size)] 268)).alloc (.cells #[.func (.func 301) #[] #[.pointer (some ⟨wr.heap.size+1,0,none⟩),.pointer (some ⟨w.heap.size+1+1,0,none⟩),.pointer (some ⟨wr.heap.size+1+1,0,none⟩)]] 218):=⟨_,rfl⟩
   have aF:ag wr F:=by rw [hF];exact (((ag.refl wr).alloc _).alloc _).alloc _
   have MF:eH Tryz.prog 9 F wr.heap.size 0 (.int .i64 0) (nW fun _=>0):=by rw [hF];exact (nH wr _).aH (((ag.refl _).alloc _).alloc _)
   have d1:F.cell? ⟨wr.heap.size+1,0,none⟩=some (.map (some wr.heap.size)):=by
    rw [hF];obtain ⟨hb,_,_,_,_⟩:=cz ((ag.refl ((wr.alloc (.map #[] 0)).alloc (.cells #[.map (some wr.heap.size)] 268))).alloc (.cells #[.func (.func 301) #[] #[.pointer (some ⟨wr.heap.size+1,0,none⟩),.pointer (some ⟨w.heap.size+1+1,0,none⟩),.pointer (some ⟨wr.heap.size+1+1,0,none⟩)]] 218));have:=hb 0
    simpa [World.size_alloc] using this
   have d2:F.cell? ⟨wr.heap.size+2,0,none⟩=some (.func (.func 301) #[] #[.pointer (some ⟨wr.heap.size+1,0,none⟩),.pointer (some ⟨w.heap.size+1+1,0,none⟩),.pointer (some ⟨wr.heap.size+1+1,0,none⟩)]):=by
    rw [hF];obtain ⟨hb,_,_,_,_⟩:=cz (ag.refl (((wr.alloc (.map #[] 0)).alloc (.cells #[.map (some wr.heap.size)] 268)).alloc (.cells #[.func (.func 301) #[] #[.pointer (some ⟨wr.heap.size+1,0,none⟩),.pointer (some ⟨w.heap.size+1+1,0,none⟩),.pointer (some ⟨wr.heap.size+1+1,0,none⟩)]] 218)));have:=hb 0
    simpa [World.size_alloc] using this
   have SI:kK F r.members (wr.heap.size+1) (w.heap.size+2) (wr.heap.size+2) wr.heap.size (w.heap.size+1) r.members.length :=
    ⟨d1,aF.cell_kept pn,d2,(Hl.next (bf:=wr.heap.size) fun s h=>by have:=((Hl.row s).lt _ (Hd.bu.1 h)).2;omega).aan aF,by omega,by omega,by omega,by omega⟩
   obtain ⟨U,u1,u2⟩:=Dy (txt role::r.members.map fun m=>txt m.of)
   have hsm:=kE HM.out (P:=fun m:dP=>Small m.of.size) fun _ _ h=>h.2.2
   have C:=gH (Ka r.members U (wr.heap.size+1) (w.heap.size+2) (wr.heap.size+2) wr.heap.size (w.heap.size+1) r.members.length hsm
    (fun s _ x hx=>by
     rw [u2];unfold succ at hx;rw [List.mem_map] at hx;obtain ⟨m,hm,rfl⟩:=hx
     exact List.mem_cons.2 (.inr (List.mem_map.2 ⟨m,(List.mem_filter.1 hm).1,rfl⟩)))
    _ role (fun _=>0) 0 F (Nat.le_refl _) my (by rw [u2];simp) (fun _=>Nat.le_refl _) (by have:=Kk u1 r.members;omega) SI MF)
   have Yo:=gH (And.intro (Kk u1 r.members) (And.intro hlen (And.intro (hs.aH.trans aF) (And.intro d1 hs.aH.size))));rw [hF] at C;clear hs Hl MF d1 d2 SI u1 u2 hsm
   go_wp2_with (go_at_call 301;refine C.out.mono ?_;rintro e w2 ⟨rfl,Lx,c2,n2,M2,g2⟩;rw [← hF] at Lx;have dd:=Lx.cell Yo.out.2.2.2.1 (by show ¬ wr.heap.size+1=wr.heap.size;omega))
   go_ret;refine ⟨_,rfl,Lx.aN Yo.out.2.2.1 (fun k hk=>by omega),c2,n2,M2,fun s=>?_,fun s=>g2.reach s⟩;have:=g2.bd s;have:=g2.size;have:=Yo.out.1;have:=Yo.out.2.1;omega
theorem tW (s:ByteArray) (c:Int) (w:World) :
  Calls Tryz.prog 244 #[.string s,.int .u8 c] w fun e w'=>e=.returned (.int .i64 (Lib.indexByte s.data.toList c.toNat.toUInt8))∧w=w':=by
 go_in
 go_wp2
 rw [run_callFunc_extern Tryz.func324 (by kernel_rfl) (by kernel_rfl) (by kernel_rfl) (e:=Extern.BytealgIndexByte.indexByte) (by kernel_rfl),Lib.run_indexByteString];simp only [Result.andThen];rw [Oper.upon_value]
 go_wp2
 go_ret;exact ⟨rfl,rfl⟩
theorem indexByte (s:ByteArray) (c:Int) (w:World) :
  Calls Tryz.prog 176 #[.string s,.int .u8 c] w fun e w'=>e=.returned (.int .i64 (Lib.indexByte s.data.toList c.toNat.toUInt8))∧w=w':=by
 go_in
 go_wp2_with (go_at_call 244;refine (tW _ _ _).mono ?_;rintro e w' ⟨rfl,rfl⟩)
 go_ret;exact ⟨rfl,rfl⟩
def isLet (c:UInt8):Bool:=decide (97≤c)&&decide (c≤122)
def kL (c:UInt8):Bool:=isLet c || (decide (48≤c)&&decide (c≤57)) || c==95
def R9 (s:ByteArray):Bool:=s.data.toList.all kL
def bA (s:ByteArray):Bool:=decide (0 < s.size)&&decide (s.size≤16)&&isLet (s.data.toList.headD 0)&&R9 s
def Ak (c:UInt8):Int:=Lib.indexByte [97,98,99,100,101,102,103,104,105,106,107,108,109,110,111,112,113,114,115,116,117,118,119,120,121,122] c
def Ao (c:UInt8):Int:=Lib.indexByte [97,98,99,100,101,102,103,104,105,106,107,108,109,110,111,112,113,114,115,116,117,118,119,120,121,122,48,49,50,51,52,53,54,55,56,57,95] c
theorem Kl {p:UInt8→Bool} (h:∀ n:Fin 256,p (UInt8.ofNat n.val)=true) (c:UInt8):p c=true:=by
 have:=h ⟨c.toNat,c.toNat_lt⟩
 simpa using this
theorem Gs (c:UInt8):decide (Ak c < 0)=!isLet c:=by
 have:=Kl (p:=fun c=>decide (Ak c < 0)==!isLet c) (by decide +kernel) c
 simpa using this
theorem Gt (c:UInt8):decide (Ao c < 0)=!kL c:=by
 have:=Kl (p:=fun c=>decide (Ao c < 0)==!kL c) (by decide +kernel) c
 simpa using this
theorem Gu (c:UInt8):Ak c < 0↔isLet c=false:=by
 have:=Gs c;cases h:isLet c<;>simp_all
theorem wk (c:UInt8):Ao c < 0↔kL c=false:=by
 have:=Gt c;cases h:kL c<;>simp_all
theorem qH (c:UInt8):isLet c=true↔97≤(c.toNat:Int)∧(c.toNat:Int)≤122:=by
 simp [isLet,UInt8.le_iff_toNat_le];omega
theorem Ap (c:UInt8):kL c=true↔(97≤(c.toNat:Int)∧(c.toNat:Int)≤122)∨(48≤(c.toNat:Int)∧(c.toNat:Int)≤57)∨(c.toNat:Int)=95:=by
 simp [kL,isLet,UInt8.le_iff_toNat_le,← UInt8.toNat_inj];omega
theorem uQ {α:Type} (p:α→Bool) (l:List α) (k:Nat) (h:k < l.length):(l.take (k+1)).all p=((l.take k).all p&&p l[k]):=by
 rw [List.take_succ_eq_append_getElem h];simp only [List.all_append,List.all_cons,List.all_nil,Bool.and_true]
theorem nN (s:ByteArray):s.data.toList.length=s.size:=by simp
theorem Sa (s:ByteArray) (k:Nat) (h:k < s.size):s.data.toList[k]'(by simpa using h)=s[k]:=rfl
theorem EY (s:ByteArray) (k:Nat) (h:k < s.size):(s.data.toList.take (k+1)).all kL=((s.data.toList.take k).all kL&&kL s[k]):=by
 rw [uQ kL _ k (by simpa using h)];rfl
theorem Au (s:ByteArray) (k:Nat) (h:k < s.size) (hp:kL s[k]=false):R9 s=false:=by
 have:s[k]∈s.data.toList:=by rw [← Sa s k h];exact List.getElem_mem _
 simp only [R9,Bool.eq_false_iff,ne_eq,List.all_eq_true];intro hall;have:=hall _ this;simp [hp] at this
theorem EZ (s:ByteArray) (k:Nat) (h:¬ k < s.size) (hp:(s.data.toList.take k).all kL=true):R9 s=true:=by
 rw [List.take_of_length_le (by rw [nN];omega)] at hp;exact hp
theorem Km (s:ByteArray) (h:0 < s.size):s.data.toList.headD 0=s[0]:=by
 have h1:s.data.toList≠[]:=by intro e;have:=nN s;simp [e] at this;omega
 obtain ⟨a,l,e⟩:=List.exists_cons_of_ne_nil h1;have:s.data.toList[0]'(by rw [nN];exact h)=s[0]:=rfl;simp only [e,List.headD_cons] at this ⊢
 simpa using this
theorem Kn (c:UInt8) (w:World) :
  Calls Tryz.prog 176 #[.string { data:=#[97,98,99,100,101,102,103,104,105,106,107,108,109,110,111,112,113,114,115,116,117,118,119,120,121,122] },.int .u8 c.toNat] w fun e w'=>e=.returned (.int .i64 (Ak c))∧w=w':=by
 refine (indexByte _ _ w).mono ?_;rintro e w' ⟨rfl,rfl⟩;refine ⟨?_,rfl⟩
 have:((c.toNat:Int).toNat.toUInt8)=c:=by simp
 rw [this];rfl
theorem NE (c:UInt8) (w:World) :
  Calls Tryz.prog 176 #[.string { data:=#[97,98,99,100,101,102,103,104,105,106,107,108,109,110,111,112,113,114,115,116,117,118,119,120,121,122,48,49,50,51,52,53,54,55,56,57,95] },.int .u8 c.toNat] w fun e w'=>e=.returned (.int .i64 (Ao c))∧w=w':=by
 refine (indexByte _ _ w).mono ?_;rintro e w' ⟨rfl,rfl⟩;refine ⟨?_,rfl⟩
 have:((c.toNat:Int).toNat.toUInt8)=c:=by simp
 rw [this];rfl
theorem Gv (s:ByteArray) (w:World) (hs:s.size≤maxLen) :
  Calls Tryz.prog 177 #[.string s] w fun e w'=>e=.returned (.bool (R9 s))∧w=w':=by
 unfold maxLen at hs
 go_in
 go_wp2_with fail
 go_loop [6] (fun i=>∃ k:Nat,k≤s.size∧i=.int .i64 k∧(s.data.toList.take k).all kL=true) (fun i=>s.size - (intOf i).toNat)
 case atStart=>exact ⟨0,Nat.zero_le _,rfl,rfl⟩
 case round =>
  obtain ⟨k,hk,rfl,ha⟩:=hrel;have HA:=gH ha;clear ha;by_cases hlt:k < s.size
  ·go_wp2_with (go_at_call 176;refine (NE _ _).mono ?_;rintro e w' ⟨rfl,rfl⟩)
   ·have hp:kL s[k]=false:=(wk _).1 (by assumption)
    go_ret;exact ⟨by rw [Au s k hlt hp];rfl,rfl⟩
   ·have hp:kL s[k]=true:=by
     have h0:0≤Ao s[k]:=by assumption
     have:=wk s[k]
     cases h:kL s[k]
     ·have:=this.2 h;omega
     ·rfl
    go_round
    case rel=>exact ⟨k+1,by omega,by go_num,by rw [EY s k hlt,HA.out,hp];rfl⟩
    case measure=>simp [intOf];omega
  ·go_wp2
   go_ret;exact ⟨by rw [EZ s k hlt HA.out];rfl,rfl⟩
theorem fU (s:ByteArray):s.toList=[]↔s.size=0:=by
 rw [ByteArray.toList_eq];rw [← List.length_eq_zero_iff,nN]
theorem isEmpty_iff (s:ByteArray):s.toList.isEmpty=decide (s.size=0):=by
 rw [Bool.eq_iff_iff];simp [fU]
theorem nv (s:ByteArray) (h:0 < s.size):bA s=(decide (s.size≤16)&&(isLet s[0]&&R9 s)):=by
 unfold bA;rw [Km s h,decide_eq_true h,Bool.true_and,Bool.and_assoc]
theorem cI (s:ByteArray) (w:World) (hs:s.size≤maxLen) :
  Calls Tryz.prog 107 #[.string s] w fun e w'=>e=.returned (.bool (bA s))∧w=w':=by
 have hs':=hs;unfold maxLen at hs;by_cases h0:0 < s.size
 ·have H:=gH (nv s h0)
  have hl:=gH (Gu s[0])
  have he:s.toList.isEmpty=false:=by rw [isEmpty_iff];exact decide_eq_false (by omega)
  have he':¬ s.toList=[]:=by rw [fU];omega
  go_in
  go_wp2_with (first | (go_at_call 176;refine (Kn _ _).mono ?_;rintro e w' ⟨rfl,rfl⟩) | (go_at_call 177;refine (Gv _ _ hs').mono ?_;rintro e w' ⟨rfl,rfl⟩))
  ·have a1:s.size≤16:=by have:(s.size:Int)≤16:=(by assumption);omega
   have a2:isLet s[0]=true:=by
    have h0:0≤Ak s[0]:=by assumption
    cases h:isLet s[0]
    ·have:=hl.out.2 h;omega
    ·rfl
   go_ret;exact ⟨by rw [H.out,decide_eq_true a1,a2];rfl,rfl⟩
  ·have a2:isLet s[0]=false:=hl.out.1 (by assumption)
   go_ret;exact ⟨by rw [H.out,a2,Bool.false_and,Bool.and_false];rfl,rfl⟩
  ·have a1:¬ s.size≤16:=by have:16 < (s.size:Int):=(by assumption);omega
   go_ret;exact ⟨by rw [H.out,decide_eq_false a1];rfl,rfl⟩
 ·have he:s.toList.isEmpty=true:=by rw [isEmpty_iff];exact decide_eq_true (by omega)
  have he':s.toList=[]:=by rw [fU];omega
  have H:=gH (show bA s=false by simp [bA,h0])
  go_in
  go_wp2;go_ret;exact ⟨by rw [H.out];rfl,rfl⟩
theorem Dz (c:UInt8):kL c=false↔¬ ((97≤(c.toNat:Int)∧(c.toNat:Int)≤122)∨(48≤(c.toNat:Int)∧(c.toNat:Int)≤57)∨(c.toNat:Int)=95):=by
 rw [← Ap];simp
theorem pW (s:ByteArray) (w:World) (hs:s.size≤maxLen) (hn:bA s=false) (hx:s.size=0∨16 < s.size∨∃ h:0 < s.size,(s[0].toNat:Int) < 97∨122 < (s[0].toNat:Int)) :
  Calls Tryz.prog 316 #[.string s] w fun e w'=>e=.returned (.bool (bA s))∧w=w':=by
 unfold maxLen at hs;have H:=gH hn;clear hn
 rcases hx with hx | hx | ⟨h0,hx⟩
 ·have Mm:(s.size:Int) < 1:=by omega
  clear hx
  go_in
  go_wp2;go_ret;exact ⟨by rw [H.out];rfl,rfl⟩
 ·go_in
  go_wp2;go_ret;exact ⟨by rw [H.out];rfl,rfl⟩
 ·by_cases h1:s.size≤16
  ·rcases hx with hx | hx
   all_goals
    go_in
    go_wp2;go_ret;exact ⟨by rw [H.out];rfl,rfl⟩
  ·go_in
   go_wp2;go_ret;exact ⟨by rw [H.out];rfl,rfl⟩
theorem Gw (s:ByteArray) (w:World) (hs:s.size≤maxLen) (h0:0 < s.size) (h1:s.size≤16) (h2:97≤(s[0].toNat:Int)) (h3:(s[0].toNat:Int)≤122) (hn:bA s=R9 s) :
  Calls Tryz.prog 316 #[.string s] w fun e w'=>e=.returned (.bool (bA s))∧w=w':=by
 unfold maxLen at hs;have H:=gH hn;clear hn
 go_in
 go_wp2_with fail
 go_loop [3] (fun i=>∃ k:Nat,k≤s.size∧i=.int .i64 k∧(s.data.toList.take k).all kL=true) (fun i=>s.size - (intOf i).toNat)
 case atStart=>exact ⟨0,Nat.zero_le _,rfl,rfl⟩
 case round =>
  obtain ⟨k,hk,rfl,ha⟩:=hrel;have HA:=gH ha;clear ha;by_cases hlt:k < s.size
  ·have hp:=Dz s[k]
   have Tx:=EY s k hlt
   cases hq:kL s[k]
   ·have H2:=gH (Au s k hlt hq)
    have hb0:=hp.1 hq
    have hb:(s[k].toNat:Int) < 48∨(58≤(s[k].toNat:Int)∧(s[k].toNat:Int) < 95)∨(96≤(s[k].toNat:Int)∧(s[k].toNat:Int) < 97)∨122 < (s[k].toNat:Int):=by omega
    have hne:((s[k].toNat:Int) != 95)=true:=by rw [bne_iff_ne];omega
    clear hp hq Tx hb0
    rcases hb with hb | hb | hb | hb
    all_goals
     go_wp2;go_ret;exact ⟨by rw [H.out,H2.out];rfl,rfl⟩
   ·rw [hq] at Tx hp
    have HS:=gH Tx
    have hb:((97≤(s[k].toNat:Int)∧(s[k].toNat:Int)≤122)∨(48≤(s[k].toNat:Int)∧(s[k].toNat:Int)≤57)∨(s[k].toNat:Int)=95):=by
     rw [← Ap,hq]
    clear hp hq Tx
    have fin:(List.take (k+1) s.data.toList).all kL=true:=by rw [HS.out,HA.out];rfl
    have FIN:=gH fin;clear fin
    rcases hb with hb | hb | hb
    all_goals
     go_wp2
     go_round
     case rel=>exact ⟨k+1,by omega,by go_num,FIN.out⟩
     case measure=>simp [intOf];omega
  ·go_wp2
   go_ret;exact ⟨by rw [H.out,EZ s k hlt HA.out];rfl,rfl⟩
theorem cY (s:ByteArray) (w:World) (hs:s.size≤maxLen) :
  Calls Tryz.prog 316 #[.string s] w fun e w'=>e=.returned (.bool (bA s))∧w=w':=by
 by_cases h0:0 < s.size
 ·by_cases h1:s.size≤16
  ·by_cases h2:97≤(s[0].toNat:Int)
   ·by_cases h3:(s[0].toNat:Int)≤122
    ·exact Gw s w hs h0 h1 h2 h3 (by rw [nv s h0,decide_eq_true h1,(qH _).2 ⟨h2,h3⟩];rfl)
    ·refine pW s w hs ?_ (.inr (.inr ⟨h0,.inr (by omega)⟩))
     rw [nv s h0,show isLet s[0]=false by rw [← Bool.not_eq_true,qH];omega];simp
   ·refine pW s w hs ?_ (.inr (.inr ⟨h0,.inl (by omega)⟩))
    rw [nv s h0,show isLet s[0]=false by rw [← Bool.not_eq_true,qH];omega];simp
  ·exact pW s w hs (by rw [nv s h0,decide_eq_false h1];rfl) (.inr (.inl (by omega)))
 ·exact pW s w hs (by simp [bA,h0]) (.inl (by omega))
theorem bC {k:Nat} {p:Nat→Prop} (h:∀ j,j < k→p j) (hk:p k):∀ j,j < k+1→p j:=ae k p h hk
theorem wl {α:Type} (p:α→Bool) (l:List α) (k:Nat) (hk:k < l.length) (hp:p l[k]=true):l.any p=true:=List.any_eq_true.2 ⟨l[k],List.getElem_mem hk,hp⟩
theorem DA {α:Type} (p:α→Bool) (l:List α) (h:∀ i (hi:i < l.length),p l[i]=false):l.any p=false:=by
 rw [Bool.eq_false_iff];intro ha;obtain ⟨x,hx,hp⟩:=List.any_eq_true.1 ha;obtain ⟨i,hi,rfl⟩:=List.getElem_of_mem hx;rw [h i hi] at hp;cases hp
theorem nw (A:Option Addr) (cap:Nat) (l:List eB) (name:ByteArray) (w:World) (h:aA w 3 fG A cap l) :
  Calls Tryz.prog 361 #[.slice A l.length cap,.string name] w fun e w'=>e=.returned (.int .i64 (bD (fun c=>aS c.name name) l))∧w=w':=by
 have hlen:=h.len
 go_in
 go_wp2_with fail
 go_loop [5] (fun i=>∃ k:Nat,k≤l.length∧i=.int .i64 k∧∀ j,j < k→∀ (hj:j < l.length),aS l[j].name name=false) (fun i=>l.length - (intOf i).toNat)
 case atStart=>exact ⟨0,Nat.zero_le _,rfl,fun j hj=>absurd hj (Nat.not_lt_zero j)⟩
 case round =>
  obtain ⟨k,hk,rfl,hp⟩:=hrel;have HP:=gH hp;clear hp;by_cases hlt:k < l.length
  ·obtain ⟨b,off,rfl,hb,c0,c1,c2,hs⟩:=ky h hlt
   cases heq:aS l[k].name name
   ·have h2:(l[k].name.toList==name.toList)=false:=heq
    have HN:=gH (bC (p:=fun j=>∀ (hj:j < l.length),aS l[j].name name=false) HP.out (fun _=>heq));clear heq;go_wp2
    go_round
    case rel=>exact ⟨k+1,by omega,by go_num,HN.out⟩
    case measure=>simp [intOf];omega
   ·have h2:(l[k].name.toList==name.toList)=true:=heq
    have HQ:=gH heq;clear heq;go_wp2;go_ret;have heq:=HQ.out;exact ⟨by rw [dV (fun c=>aS c.name name) l k hlt heq (fun i hi=>HP.out i hi (by omega))];rfl,rfl⟩
  ·go_wp2
   go_ret;exact ⟨by rw [dU (fun c=>aS c.name name) l (fun i hi=>HP.out i (by omega) hi)];rfl,rfl⟩
theorem Ko (A:Option Addr) (cap:Nat) (l:List fF) (name:ByteArray) (w:World) (h:aA w 8 fc A cap l) :
  Calls Tryz.prog 362 #[.slice A l.length cap,.string name] w fun e w'=>e=.returned (.int .i64 (bD (fun c=>aS c.name name) l))∧w=w':=by
 have hlen:=h.len
 go_in
 go_wp2_with fail
 go_loop [5] (fun i=>∃ k:Nat,k≤l.length∧i=.int .i64 k∧∀ j,j < k→∀ (hj:j < l.length),aS l[j].name name=false) (fun i=>l.length - (intOf i).toNat)
 case atStart=>exact ⟨0,Nat.zero_le _,rfl,fun j hj=>absurd hj (Nat.not_lt_zero j)⟩
 case round =>
  obtain ⟨k,hk,rfl,hp⟩:=hrel;have HP:=gH hp;clear hp;by_cases hlt:k < l.length
  ·obtain ⟨b,off,A2,bJ,rfl,hb,c0,c1,c2,c3,c4,c5,c6,c7,hs⟩:=jC h hlt
   cases heq:aS l[k].name name
   ·have h2:(l[k].name.toList==name.toList)=false:=heq
    have HN:=gH (bC (p:=fun j=>∀ (hj:j < l.length),aS l[j].name name=false) HP.out (fun _=>heq));clear heq;go_wp2
    go_round
    case rel=>exact ⟨k+1,by omega,by go_num,HN.out⟩
    case measure=>simp [intOf];omega
   ·have h2:(l[k].name.toList==name.toList)=true:=heq
    have HQ:=gH heq;clear heq;go_wp2;go_ret;have heq:=HQ.out;exact ⟨by rw [dV (fun c=>aS c.name name) l k hlt heq (fun i hi=>HP.out i hi (by omega))];rfl,rfl⟩
  ·go_wp2
   go_ret;exact ⟨by rw [dU (fun c=>aS c.name name) l (fun i hi=>HP.out i (by omega) hi)];rfl,rfl⟩
theorem gi (A:Option Addr) (cap:Nat) (l:List ByteArray) (name:ByteArray) (w:World) (h:aA w 1 dg A cap l) :
  Calls Tryz.prog 144 #[.slice A l.length cap,.string name] w fun e w'=>e=.returned (.bool (l.any fun c=>aS c name))∧w=w':=by
 have hlen:=h.len
 go_in
 go_wp2_with fail
 go_loop [5] (fun i=>∃ k:Nat,k≤l.length∧i=.int .i64 k∧∀ j,j < k→∀ (hj:j < l.length),aS l[j] name=false) (fun i=>l.length - (intOf i).toNat)
 case atStart=>exact ⟨0,Nat.zero_le _,rfl,fun j hj=>absurd hj (Nat.not_lt_zero j)⟩
 case round =>
  obtain ⟨k,hk,rfl,hp⟩:=hrel;have HP:=gH hp;clear hp;by_cases hlt:k < l.length
  ·obtain ⟨b,off,rfl,hb,c0,hs⟩:=er h hlt
   cases heq:aS l[k] name
   ·have h2:(l[k].toList==name.toList)=false:=heq
    have HN:=gH (bC (p:=fun j=>∀ (hj:j < l.length),aS l[j] name=false) HP.out (fun _=>heq));clear heq;go_wp2
    go_round
    case rel=>exact ⟨k+1,by omega,by go_num,HN.out⟩
    case measure=>simp [intOf];omega
   ·have h2:(l[k].toList==name.toList)=true:=heq
    have HQ:=gH heq;clear heq;go_wp2;go_ret;have heq:=HQ.out;exact ⟨by rw [wl (fun c=>aS c name) l k hlt heq];rfl,rfl⟩
  ·go_wp2
   go_ret;exact ⟨by rw [DA (fun c=>aS c name) l (fun i hi=>HP.out i (by omega) hi)];rfl,rfl⟩
theorem enters {P:Program} {f:FuncId} {fn:Func} {c:Code} (hf:P.funcs[f]? = some fn) (hname:(fn.name=="runtime.NumGoroutine")=false) (hb:fn.body=some c):∀ (args:Array Value) (w:World),(callFunc f args).run P w=.ok (.enter f args) w:=by
 intro args w
 have h1:fn.name≠"runtime.NumGoroutine":=by simpa using hname
 simp [callFunc,hf,h1,hb,mark]
theorem Sb (A:Option Addr) (cap:Nat) (l:List eB) (g:FuncId) (ay:Array Value) (p:eB→Bool) (w:World) (h:aA w 3 fG A cap l) (dc:∀ (args:Array Value) (w:World),(callFunc g args).run Tryz.prog w=.ok (.enter g args) w)
  (hp:∀ w',ag w w'→∀ i (hi:i < l.length),Calls Tryz.prog g (#[.agg #[.string l[i].name,.int .i64 l[i].kind,.bool l[i].null]]++ay) w' fun e w''=>e=.returned (.bool (p l[i]))∧ag w' w'') :
  Calls Tryz.prog 344 #[.slice A l.length cap,.func (.func g) #[] ay] w fun e w'=>e=.returned (.int .i64 (bD p l))∧ag w w':=by
 have hlen:=h.len;have HC:=gH hp;clear hp
 go_in
 go_wp2_with fail
 go_loopw [8] (fun i wr=>∃ k:Nat,k≤l.length∧i=.int .i64 k∧ag w wr∧∀ j,j < k→∀ (hj:j < l.length),p l[j]=false) (fun i _=>l.length - (intOf i).toNat)
 case atStart=>exact ⟨0,Nat.zero_le _,rfl,ag.refl _,fun j hj=>absurd hj (Nat.not_lt_zero j)⟩
 case round =>
  obtain ⟨k,hk,rfl,ha,hp⟩:=hrel;have HA:=gH ha;have HP:=gH hp;clear hp;by_cases hlt:k < l.length
  ·have cM:=bW ha h
   clear ha;obtain ⟨b,off,rfl,hb,c0,c1,c2,hs⟩:=ky cM hlt;have HK:=gH (HC.out wr HA.out k hlt);clear cM;obtain ⟨q,hq⟩:∃ q,p l[k]=q:=⟨_,rfl⟩;rw [hq] at HK;have HQ:=gH hq;clear hq
   cases q
   ·go_wp2_with fail
    refine HK.out.mono ?_;rintro e w1 ⟨rfl,a1⟩;have cT:=gH (HA.out.trans a1);clear a1;go_wp2
    go_roundw
    case rel=>exact ⟨k+1,by omega,by go_num,cT.out,bC (p:=fun j=>∀ (hj:j < l.length),p l[j]=false) HP.out (fun _=>HQ.out)⟩
    case measure=>simp [intOf];omega
   ·go_wp2_with fail
    refine HK.out.mono ?_;rintro e w1 ⟨rfl,a1⟩;have cT:=gH (HA.out.trans a1);clear a1;go_wp2;go_ret;exact ⟨by rw [dV p l k hlt HQ.out (fun i hi=>HP.out i hi (by omega))];rfl,cT.out⟩
  ·clear ha
   go_wp2;go_ret;exact ⟨by rw [dU p l (fun i hi=>HP.out i (by omega) hi)];rfl,HA.out⟩
theorem Sc (A:Option Addr) (cap:Nat) (l:List fF) (g:FuncId) (ay:Array Value) (p:fF→Bool) (w:World) (h:aA w 8 fc A cap l) (dc:∀ (args:Array Value) (w:World),(callFunc g args).run Tryz.prog w=.ok (.enter g args) w)
  (hp:∀ w',ag w w'→∀ i (hi:i < l.length) (e1:List Value),fc w' e1 l[i]→Calls Tryz.prog g (#[.agg e1.toArray]++ay) w' fun e w''=>e=.returned (.bool (p l[i]))∧ag w' w'') :
  Calls Tryz.prog 346 #[.slice A l.length cap,.func (.func g) #[] ay] w fun e w'=>e=.returned (.int .i64 (bD p l))∧ag w w':=by
 have hlen:=h.len;have HC:=gH hp;clear hp
 go_in
 go_wp2_with fail
 go_loopw [8] (fun i wr=>∃ k:Nat,k≤l.length∧i=.int .i64 k∧ag w wr∧∀ j,j < k→∀ (hj:j < l.length),p l[j]=false) (fun i _=>l.length - (intOf i).toNat)
 case atStart=>exact ⟨0,Nat.zero_le _,rfl,ag.refl _,fun j hj=>absurd hj (Nat.not_lt_zero j)⟩
 case round =>
  obtain ⟨k,hk,rfl,ha,hp⟩:=hrel;have HA:=gH ha;have HP:=gH hp;clear hp;by_cases hlt:k < l.length
  ·have cM:=eQ ha h
   clear ha;obtain ⟨b,off,A2,bJ,rfl,hb,c0,c1,c2,c3,c4,c5,c6,c7,hs⟩:=jC cM hlt;have HK:=gH (HC.out wr HA.out k hlt _ ⟨A2,bJ,rfl,hs⟩);clear cM;obtain ⟨q,hq⟩:∃ q,p l[k]=q:=⟨_,rfl⟩;rw [hq] at HK;have HQ:=gH hq;clear hq
   cases q
   ·go_wp2_with fail
    refine HK.out.mono ?_;rintro e w1 ⟨rfl,a1⟩;have cT:=gH (HA.out.trans a1);clear a1;go_wp2
    go_roundw
    case rel=>exact ⟨k+1,by omega,by go_num,cT.out,bC (p:=fun j=>∀ (hj:j < l.length),p l[j]=false) HP.out (fun _=>HQ.out)⟩
    case measure=>simp [intOf];omega
   ·go_wp2_with fail
    refine HK.out.mono ?_;rintro e w1 ⟨rfl,a1⟩;have cT:=gH (HA.out.trans a1);clear a1;go_wp2;go_ret;exact ⟨by rw [dV p l k hlt HQ.out (fun i hi=>HP.out i hi (by omega))];rfl,cT.out⟩
  ·clear ha
   go_wp2;go_ret;exact ⟨by rw [dU p l (fun i hi=>HP.out i (by omega) hi)];rfl,HA.out⟩
theorem Bv (A:Option Addr) (cap:Nat) (l:List cp) (g:FuncId) (ay:Array Value) (p:cp→Bool) (w:World) (h:aA w 5 dE A cap l) (dc:∀ (args:Array Value) (w:World),(callFunc g args).run Tryz.prog w=.ok (.enter g args) w)
  (hp:∀ w',ag w w'→∀ i (hi:i < l.length) (e1:List Value),dE w' e1 l[i]→Calls Tryz.prog g (#[.agg e1.toArray]++ay) w' fun e w''=>e=.returned (.bool (p l[i]))∧ag w' w'') :
  Calls Tryz.prog 185 #[.slice A l.length cap,.func (.func g) #[] ay] w fun e w'=>e=.returned (.int .i64 (bD p l))∧ag w w':=by
 have hlen:=h.len;have HC:=gH hp;clear hp
 go_in
 go_wp2_with fail
 go_loopw [8] (fun i wr=>∃ k:Nat,k≤l.length∧i=.int .i64 k∧ag w wr∧∀ j,j < k→∀ (hj:j < l.length),p l[j]=false) (fun i _=>l.length - (intOf i).toNat)
 case atStart=>exact ⟨0,Nat.zero_le _,rfl,ag.refl _,fun j hj=>absurd hj (Nat.not_lt_zero j)⟩
 case round =>
  obtain ⟨k,hk,rfl,ha,hp⟩:=hrel;have HA:=gH ha;have HP:=gH hp;clear hp;by_cases hlt:k < l.length
  ·have cM:=br ha h
   clear ha;obtain ⟨b,off,A2,bJ,A3,fN,rfl,hb,c0,c1,c2,c3,c4,hs⟩:=fh cM hlt;have HK:=gH (HC.out wr HA.out k hlt _ ⟨A2,bJ,A3,fN,rfl,hs⟩);clear cM;obtain ⟨q,hq⟩:∃ q,p l[k]=q:=⟨_,rfl⟩;rw [hq] at HK;have HQ:=gH hq;clear hq
   cases q
   ·go_wp2_with fail
    refine HK.out.mono ?_;rintro e w1 ⟨rfl,a1⟩;have cT:=gH (HA.out.trans a1);clear a1;go_wp2
    go_roundw
    case rel=>exact ⟨k+1,by omega,by go_num,cT.out,bC (p:=fun j=>∀ (hj:j < l.length),p l[j]=false) HP.out (fun _=>HQ.out)⟩
    case measure=>simp [intOf];omega
   ·go_wp2_with fail
    refine HK.out.mono ?_;rintro e w1 ⟨rfl,a1⟩;have cT:=gH (HA.out.trans a1);clear a1;go_wp2;go_ret;exact ⟨by rw [dV p l k hlt HQ.out (fun i hi=>HP.out i hi (by omega))];rfl,cT.out⟩
  ·clear ha
   go_wp2;go_ret;exact ⟨by rw [dU p l (fun i hi=>HP.out i (by omega) hi)];rfl,HA.out⟩
theorem wT (A:Option Addr) (cap:Nat) (l:List fJ) (g:FuncId) (ay:Array Value) (p:fJ→Bool) (w:World) (h:aA w 2 eL A cap l) (dc:∀ (args:Array Value) (w:World),(callFunc g args).run Tryz.prog w=.ok (.enter g args) w)
  (hp:∀ w',ag w w'→∀ i (hi:i < l.length),Calls Tryz.prog g (#[.agg #[.string l[i].name,.string l[i].owner]]++ay) w' fun e w''=>e=.returned (.bool (p l[i]))∧ag w' w'') :
  Calls Tryz.prog 110 #[.slice A l.length cap,.func (.func g) #[] ay] w fun e w'=>e=.returned (.int .i64 (bD p l))∧ag w w':=by
 have hlen:=h.len;have HC:=gH hp;clear hp
 go_in
 go_wp2_with fail
 go_loopw [8] (fun i wr=>∃ k:Nat,k≤l.length∧i=.int .i64 k∧ag w wr∧∀ j,j < k→∀ (hj:j < l.length),p l[j]=false) (fun i _=>l.length - (intOf i).toNat)
 case atStart=>exact ⟨0,Nat.zero_le _,rfl,ag.refl _,fun j hj=>absurd hj (Nat.not_lt_zero j)⟩
 case round =>
  obtain ⟨k,hk,rfl,ha,hp⟩:=hrel;have HA:=gH ha;have HP:=gH hp;clear hp;by_cases hlt:k < l.length
  ·have cM:=bI ha h
   clear ha;obtain ⟨b,off,rfl,hb,c0,c1,hs,hs2⟩:=iC cM hlt;have HK:=gH (HC.out wr HA.out k hlt);clear cM;obtain ⟨q,hq⟩:∃ q,p l[k]=q:=⟨_,rfl⟩;rw [hq] at HK;have HQ:=gH hq;clear hq
   cases q
   ·go_wp2_with fail
    refine HK.out.mono ?_;rintro e w1 ⟨rfl,a1⟩;have cT:=gH (HA.out.trans a1);clear a1;go_wp2
    go_roundw
    case rel=>exact ⟨k+1,by omega,by go_num,cT.out,bC (p:=fun j=>∀ (hj:j < l.length),p l[j]=false) HP.out (fun _=>HQ.out)⟩
    case measure=>simp [intOf];omega
   ·go_wp2_with fail
    refine HK.out.mono ?_;rintro e w1 ⟨rfl,a1⟩;have cT:=gH (HA.out.trans a1);clear a1;go_wp2;go_ret;exact ⟨by rw [dV p l k hlt HQ.out (fun i hi=>HP.out i hi (by omega))];rfl,cT.out⟩
  ·clear ha
   go_wp2;go_ret;exact ⟨by rw [dU p l (fun i hi=>HP.out i (by omega) hi)];rfl,HA.out⟩
def aT (a b:ByteArray):Int:=Lib.compareBytes a.data.toList b.data.toList
theorem Gx (a b:ByteArray) (w:World) :
  Calls Tryz.prog 245 #[.string a,.string b] w fun e w'=>e=.returned (.int .i64 (aT a b))∧w=w':=by
 go_in
 go_wp2
 rw [run_callFunc_extern Tryz.func325 (by kernel_rfl) (by kernel_rfl) (by kernel_rfl) (e:=Extern.BytealgCompare.compare) (by kernel_rfl),Lib.run_compareString];simp only [Result.andThen];rw [Oper.upon_value]
 go_wp2
 go_ret;exact ⟨rfl,rfl⟩
theorem iZ (a b:ByteArray) (w:World) :
  Calls Tryz.prog 182 #[.string a,.string b] w fun e w'=>e=.returned (.int .i64 (aT a b))∧w=w':=by
 go_in
 go_wp2_with (go_at_call 245;refine (Gx _ _ _).mono ?_;rintro e w' ⟨rfl,rfl⟩)
 go_ret;exact ⟨rfl,rfl⟩
theorem eC (a b:ByteArray) (w:World) :
  Calls Tryz.prog 182 #[.string a,.string b] w fun e w'=>e=.returned (.int .i64 (aT a b))∧w'=w:=(iZ a b w).mono fun e w' ⟨h1,h2⟩=>⟨h1,h2.symm⟩
def eO (a b:Int):Int:=if a==0 then b else a
theorem Kp (a b:Int) (g:Nat) (w:World) (hg:g < w.heap.size) (h0:w.cell? ⟨g,0,none⟩=some (.int .i64 a)) (h1:w.cell? ⟨g,1,none⟩=some (.int .i64 b)) :
  Calls Tryz.prog 220 #[.slice (some ⟨g,0,none⟩) 2 2] w fun e w'=>e=.returned (.int .i64 (eO a b))∧ag w w':=by
 cases ha:(a != 0)
 ·have ha0:a=0:=by simpa using ha
  subst ha0;have HO:=gH (show eO 0 b=b by simp [eO]);clear ha
  cases hb:(b != 0)
  ·have hb0:b=0:=by simpa using hb
   subst hb0;clear hb
   go_in
   go_wp2_with fail
   go_loop [8] (fun i=>∃ k:Nat,k≤2∧i=.int .i64 k) (fun i=>2 - (intOf i).toNat)
   case atStart=>exact ⟨0,by omega,rfl⟩
   case round =>
    obtain ⟨k,hk,rfl⟩:=hrel
    have hk2:k=0∨k=1∨k=2:=by omega
    clear hk
    rcases hk2 with rfl | rfl | rfl
    ·go_wp2
     go_round
     case rel=>exact ⟨1,by omega,rfl⟩
     case measure=>simp [intOf]
    ·go_wp2
     go_round
     case rel=>exact ⟨2,by omega,rfl⟩
     case measure=>simp [intOf]
    ·go_wp2
     go_ret;exact ⟨by rw [HO.out];rfl,ag.refl _⟩
  ·go_in
   go_wp2_with fail
   go_loop [8] (fun i=>∃ k:Nat,k≤1∧i=.int .i64 k) (fun i=>2 - (intOf i).toNat)
   case atStart=>exact ⟨0,by omega,rfl⟩
   case round =>
    obtain ⟨k,hk,rfl⟩:=hrel
    have hk2:k=0∨k=1:=by omega
    clear hk
    rcases hk2 with rfl | rfl
    ·go_wp2
     go_round
     case rel=>exact ⟨1,by omega,rfl⟩
     case measure=>simp [intOf]
    ·go_wp2
     go_ret;exact ⟨by rw [HO.out];rfl,ag.refl _⟩
 ·have HO:=gH (show eO a b=a by have:¬ a=0:=(by simpa using ha);simp [eO,this])
  go_in
  go_wp2_with fail
  go_loop [8] (fun i=>i=.int .i64 0) (fun i=>2 - (intOf i).toNat)
  case atStart=>rfl
  case round =>
   subst hrel;go_wp2;go_ret;exact ⟨by rw [HO.out];rfl,ag.refl _⟩
theorem Gy (s1 n1 o1:ByteArray) (v1 v2:Value) (s2 n2 o2:ByteArray) (v3 v4:Value) (w:World) :
  Calls Tryz.prog 179 #[.agg #[.string s1,.string n1,.string o1,v1,v2],.agg #[.string s2,.string n2,.string o2,v3,v4]] w fun e w'=>e=.returned (.int .i64 (eO (aT s1 s2) (aT n1 n2)))∧ag w w':=by
 go_in
 go_wp2_with fail;refine mB 10 (by kernel_rfl) (by kernel_rfl) ?_;intro w1 a1;obtain ⟨hb1,hb2,hz,HA⟩:=fP a1;clear a1;simp only [List.take_succ_cons,List.take_zero,List.drop_succ_cons,List.drop_zero]
 repeat still_step
 still_call (eC _ _ _)
 repeat still_step
 still_call (eC _ _ _)
 refine wpStill_nil ?_;go_wp2_with fail;refine (Kp (aT s1 s2) (aT n1 n2) w1.heap.size _ (by simp) (by simp) (by simp)).mono ?_;rintro e w2 ⟨rfl,a2⟩;have iy:=gH ((HA.out.alloc _).trans a2);clear a2;go_wp2;go_ret;exact ⟨rfl,iy.out⟩
def aM {α:Type} (c:α→α→Int):List α→Bool
 | []=>true
 | [_]=>true
 | x::y::l=>decide (c x y < 0)&&aM c (y::l)
theorem cR {α:Type} (c:α→α→Int) (l:List α):aM c l=true↔∀ k (h:k+1 < l.length),c (l[k]'(by omega)) l[k+1] < 0:=by
 induction l with
 | nil=>simp [aM]
 | cons x l ih =>
  cases l with
  | nil=>simp [aM]
  | cons y l =>
   rw [aM,Bool.and_eq_true,ih,decide_eq_true_eq]
   constructor
   ·rintro ⟨h1,h2⟩ k hk
    cases k with
    | zero=>exact h1
    | succ k=>exact h2 k (by simpa using hk)
   ·intro h
    exact ⟨h 0 (by simp),fun k hk=>h (k+1) (by simpa using hk)⟩
theorem eu {α:Type} (c:α→α→Int) (l:List α) (k:Nat) (h:k+1 < l.length) (hc:0≤c (l[k]'(by omega)) l[k+1]):aM c l=false:=by
 rw [Bool.eq_false_iff];intro hr;have:=(cR c l).1 hr k h;omega
theorem Kq (A:Option Addr) (cap:Nat) (l:List fJ) (g:FuncId) (ay:Array Value) (c:fJ→fJ→Int) (w:World) (h:aA w 2 eL A cap l) (dc:∀ (args:Array Value) (w:World),(callFunc g args).run Tryz.prog w=.ok (.enter g args) w)
  (hp:∀ w',ag w w'→∀ i (hi:i+1 < l.length),Calls Tryz.prog g (#[.agg #[.string (l[i]'(by omega)).name,.string (l[i]'(by omega)).owner],.agg #[.string l[i+1].name,.string l[i+1].owner]]++ay) w' fun e w''=>e=.returned (.int .i64 (c (l[i]'(by omega)) l[i+1]))∧ag w' w'') :
  Calls Tryz.prog 180 #[.slice A l.length cap,.func (.func g) #[] ay] w fun e w'=>e=.returned (.bool (aM c l))∧ag w w':=by
 have hlen:=h.len;have HC:=gH hp;clear hp;by_cases h2:l.length≤1
 ·have HT:=gH (show aM c l=true from (cR c l).2 fun k hk=>by omega)
  have kQ:(l.length:Int)≤1:=by omega
  go_in
  go_wp2_with fail
  all_goals
   go_loop [10] (fun i=>i=.int .i64 0) (fun i=>2 - (intOf i).toNat)
   case atStart=>rfl
   case round =>
    subst hrel;go_wp2;go_ret;exact ⟨by rw [HT.out];rfl,ag.refl _⟩
 ·have OZ:2≤l.length:=by omega
  have kQ:¬ (l.length:Int)≤1:=by omega
  have Ex:(0:Int)≤(l.length:Int) - 1:=by omega
  go_in
  go_wp2_with fail
  go_loopw [10] (fun i wr=>∃ k:Nat,k≤l.length - 1∧i=.int .i64 k∧ag w wr∧∀ j,j < k→∀ (hj:j+1 < l.length),c (l[j]'(by omega)) l[j+1] < 0) (fun i _=>l.length - (intOf i).toNat)
  case atStart=>exact ⟨0,Nat.zero_le _,rfl,ag.refl _,fun j hj=>absurd hj (Nat.not_lt_zero j)⟩
  case round =>
   obtain ⟨k,hk,rfl,ha,hp⟩:=hrel;have HA:=gH ha;have HP:=gH hp;clear hp;by_cases hlt:k+1 < l.length
   ·have cM:=bI ha h
    have jd:k < l.length:=by omega
    obtain ⟨b,off,rfl,hb,c0,c1,hs,hs2⟩:=iC cM jd;obtain ⟨b',off',hA',hb',d0,d1,hs',Kr⟩:=iC cM hlt;simp only [Option.some.injEq,Addr.mk.injEq,and_true] at hA';obtain ⟨rfl,rfl⟩:=hA';obtain ⟨r,hr⟩:∃ r,c (l[k]'(by omega)) l[k+1]=r:=⟨_,rfl⟩;have Cc:=gH (show ∀ x:gX wr,_ from fun x=>hr▸HC.out (bt wr x) (HA.out.bt x) k hlt);have HR:=gH hr;clear ha cM hr;have w1:IntKind.i64.wrap ((k:Int)+1)=(k:Int)+1:=IntWalk.i64_in _ (by omega)
    have w2:(0:Int)≤(k:Int)+1:=by omega
    have w3:((k:Int)+1).toNat=k+1:=by omega
    have w4:(k:Int)+1 < (l.length:Int):=by omega
    by_cases Bc:0≤r
    ·skip
     go_wp2_with fail;refine aj (by kernel_rfl) (by kernel_rfl) ?_
     repeat (go_big_quiet_step ((exact Calls.aL (Cc.out _))))
     refine wpQuiet_nil ?_;intro _ hw';obtain ⟨x,hw''⟩:=hw';subst hw'';clear w1 w2 w3 w4;go_wp2;go_ret;exact ⟨by rw [eu c l k hlt (by rw [HR.out];exact Bc)];rfl,HA.out.bt x⟩
    ·have hr1:r < 0:=by omega
     go_wp2_with fail;refine aj (by kernel_rfl) (by kernel_rfl) ?_
     repeat (go_big_quiet_step ((exact Calls.aL (Cc.out _))))
     refine wpQuiet_nil ?_;intro _ hw';obtain ⟨x,hw''⟩:=hw';subst hw'';clear w1 w2 w3 w4;go_wp2
     go_roundw
     case rel=>exact ⟨k+1,by omega,by go_num,HA.out.bt x,bC (p:=fun j=>∀ (hj:j+1 < l.length),c (l[j]'(by omega)) l[j+1] < 0) HP.out (fun _=>by rw [HR.out];exact hr1)⟩
     case measure=>simp [intOf];omega
   ·have HT:=gH (show aM c l=true from (cR c l).2 fun j hj=>HP.out j (by omega) hj)
    have WU:¬ (k:Int) < (l.length:Int) - 1:=by omega
    clear ha;go_wp2;go_ret;exact ⟨by rw [HT.out];rfl,HA.out⟩
theorem Ks (A:Option Addr) (cap:Nat) (l:List fF) (g:FuncId) (ay:Array Value) (c:fF→fF→Int) (w:World) (h:aA w 8 fc A cap l) (dc:∀ (args:Array Value) (w:World),(callFunc g args).run Tryz.prog w=.ok (.enter g args) w)
  (hp:∀ w',ag w w'→∀ i (hi:i+1 < l.length) (e1 e2:List Value),fc w' e1 (l[i]'(by omega))→fc w' e2 l[i+1]→Calls Tryz.prog g (#[.agg e1.toArray,.agg e2.toArray]++ay) w' fun e w''=>e=.returned (.int .i64 (c (l[i]'(by omega)) l[i+1]))∧ag w' w'') :
  Calls Tryz.prog 251 #[.slice A l.length cap,.func (.func g) #[] ay] w fun e w'=>e=.returned (.bool (aM c l))∧ag w w':=by
 have hlen:=h.len;have HC:=gH hp;clear hp;by_cases h2:l.length≤1
 ·have HT:=gH (show aM c l=true from (cR c l).2 fun k hk=>by omega)
  have kQ:(l.length:Int)≤1:=by omega
  go_in
  go_wp2_with fail
  all_goals
   go_loop [10] (fun i=>i=.int .i64 0) (fun i=>2 - (intOf i).toNat)
   case atStart=>rfl
   case round =>
    subst hrel;go_wp2;go_ret;exact ⟨by rw [HT.out];rfl,ag.refl _⟩
 ·have OZ:2≤l.length:=by omega
  have kQ:¬ (l.length:Int)≤1:=by omega
  have Ex:(0:Int)≤(l.length:Int) - 1:=by omega
  go_in
  go_wp2_with fail
  go_loopw [10] (fun i wr=>∃ k:Nat,k≤l.length - 1∧i=.int .i64 k∧ag w wr∧∀ j,j < k→∀ (hj:j+1 < l.length),c (l[j]'(by omega)) l[j+1] < 0) (fun i _=>l.length - (intOf i).toNat)
  case atStart=>exact ⟨0,Nat.zero_le _,rfl,ag.refl _,fun j hj=>absurd hj (Nat.not_lt_zero j)⟩
  case round =>
   obtain ⟨k,hk,rfl,ha,hp⟩:=hrel;have HA:=gH ha;have HP:=gH hp;clear hp;by_cases hlt:k+1 < l.length
   ·have cM:=eQ ha h
    have jd:k < l.length:=by omega
    obtain ⟨b,off,A2,bJ,rfl,hb,c0,c1,c2,c3,c4,c5,c6,c7,hs⟩:=jC cM jd;obtain ⟨b',off',O7,Kt,hA',hb',d0,d1,d2,d3,d4,d5,d6,d7,hs'⟩:=jC cM hlt;simp only [Option.some.injEq,Addr.mk.injEq,and_true] at hA';obtain ⟨rfl,rfl⟩:=hA';obtain ⟨r,hr⟩:∃ r,c (l[k]'(by omega)) l[k+1]=r:=⟨_,rfl⟩;have Cc:=gH (show ∀ x:gX wr,_ from fun x=>hr▸HC.out (bt wr x) (HA.out.bt x) k hlt _ _ (fc.aH ((ag.refl wr).bt x) ⟨A2,bJ,rfl,hs⟩) (fc.aH ((ag.refl wr).bt x) ⟨O7,Kt,rfl,hs'⟩));have HR:=gH hr;clear ha cM hr;have w1:IntKind.i64.wrap ((k:Int)+1)=(k:Int)+1:=IntWalk.i64_in _ (by omega)
    have w2:(0:Int)≤(k:Int)+1:=by omega
    have w3:((k:Int)+1).toNat=k+1:=by omega
    have w4:(k:Int)+1 < (l.length:Int):=by omega
    by_cases Bc:0≤r
    ·skip
     go_wp2_with fail;refine aj (by kernel_rfl) (by kernel_rfl) ?_
     repeat (go_big_quiet_step ((exact Calls.aL (Cc.out _))))
     refine wpQuiet_nil ?_;intro _ hw';obtain ⟨x,hw''⟩:=hw';subst hw'';clear w1 w2 w3 w4;go_wp2;go_ret;exact ⟨by rw [eu c l k hlt (by rw [HR.out];exact Bc)];rfl,HA.out.bt x⟩
    ·have hr1:r < 0:=by omega
     go_wp2_with fail;refine aj (by kernel_rfl) (by kernel_rfl) ?_
     repeat (go_big_quiet_step ((exact Calls.aL (Cc.out _))))
     refine wpQuiet_nil ?_;intro _ hw';obtain ⟨x,hw''⟩:=hw';subst hw'';clear w1 w2 w3 w4;go_wp2
     go_roundw
     case rel=>exact ⟨k+1,by omega,by go_num,HA.out.bt x,bC (p:=fun j=>∀ (hj:j+1 < l.length),c (l[j]'(by omega)) l[j+1] < 0) HP.out (fun _=>by rw [HR.out];exact hr1)⟩
     case measure=>simp [intOf];omega
   ·have HT:=gH (show aM c l=true from (cR c l).2 fun j hj=>HP.out j (by omega) hj)
    have WU:¬ (k:Int) < (l.length:Int) - 1:=by omega
    clear ha;go_wp2;go_ret;exact ⟨by rw [HT.out];rfl,HA.out⟩
theorem Ku (A:Option Addr) (cap:Nat) (l:List cp) (g:FuncId) (ay:Array Value) (c:cp→cp→Int) (w:World) (h:aA w 5 dE A cap l) (dc:∀ (args:Array Value) (w:World),(callFunc g args).run Tryz.prog w=.ok (.enter g args) w)
  (hp:∀ w',ag w w'→∀ i (hi:i+1 < l.length) (e1 e2:List Value),dE w' e1 (l[i]'(by omega))→dE w' e2 l[i+1]→Calls Tryz.prog g (#[.agg e1.toArray,.agg e2.toArray]++ay) w' fun e w''=>e=.returned (.int .i64 (c (l[i]'(by omega)) l[i+1]))∧ag w' w'') :
  Calls Tryz.prog 178 #[.slice A l.length cap,.func (.func g) #[] ay] w fun e w'=>e=.returned (.bool (aM c l))∧ag w w':=by
 have hlen:=h.len;have HC:=gH hp;clear hp;by_cases h2:l.length≤1
 ·have HT:=gH (show aM c l=true from (cR c l).2 fun k hk=>by omega)
  have kQ:(l.length:Int)≤1:=by omega
  go_in
  go_wp2_with fail
  all_goals
   go_loop [10] (fun i=>i=.int .i64 0) (fun i=>2 - (intOf i).toNat)
   case atStart=>rfl
   case round =>
    subst hrel;go_wp2;go_ret;exact ⟨by rw [HT.out];rfl,ag.refl _⟩
 ·have OZ:2≤l.length:=by omega
  have kQ:¬ (l.length:Int)≤1:=by omega
  have Ex:(0:Int)≤(l.length:Int) - 1:=by omega
  go_in
  go_wp2_with fail
  go_loopw [10] (fun i wr=>∃ k:Nat,k≤l.length - 1∧i=.int .i64 k∧ag w wr∧∀ j,j < k→∀ (hj:j+1 < l.length),c (l[j]'(by omega)) l[j+1] < 0) (fun i _=>l.length - (intOf i).toNat)
  case atStart=>exact ⟨0,Nat.zero_le _,rfl,ag.refl _,fun j hj=>absurd hj (Nat.not_lt_zero j)⟩
  case round =>
   obtain ⟨k,hk,rfl,ha,hp⟩:=hrel;have HA:=gH ha;have HP:=gH hp;clear hp;by_cases hlt:k+1 < l.length
   ·have cM:=br ha h
    have jd:k < l.length:=by omega
    obtain ⟨b,off,A2,bJ,A3,fN,rfl,hb,c0,c1,c2,c3,c4,hs⟩:=fh cM jd;obtain ⟨b',off',O7,Kt,Md,WV,hA',hb',d0,d1,d2,d3,d4,hs'⟩:=fh cM hlt;simp only [Option.some.injEq,Addr.mk.injEq,and_true] at hA';obtain ⟨rfl,rfl⟩:=hA';obtain ⟨r,hr⟩:∃ r,c (l[k]'(by omega)) l[k+1]=r:=⟨_,rfl⟩;have Cc:=gH (show ∀ x:gX wr,_ from fun x=>hr▸HC.out (bt wr x) (HA.out.bt x) k hlt _ _ (dE.aH ((ag.refl wr).bt x) ⟨A2,bJ,A3,fN,rfl,hs⟩) (dE.aH ((ag.refl wr).bt x) ⟨O7,Kt,Md,WV,rfl,hs'⟩));have HR:=gH hr;clear ha cM hr;have w1:IntKind.i64.wrap ((k:Int)+1)=(k:Int)+1:=IntWalk.i64_in _ (by omega)
    have w2:(0:Int)≤(k:Int)+1:=by omega
    have w3:((k:Int)+1).toNat=k+1:=by omega
    have w4:(k:Int)+1 < (l.length:Int):=by omega
    by_cases Bc:0≤r
    ·skip
     go_wp2_with fail;refine aj (by kernel_rfl) (by kernel_rfl) ?_
     repeat (go_big_quiet_step ((exact Calls.aL (Cc.out _))))
     refine wpQuiet_nil ?_;intro _ hw';obtain ⟨x,hw''⟩:=hw';subst hw'';clear w1 w2 w3 w4;go_wp2;go_ret;exact ⟨by rw [eu c l k hlt (by rw [HR.out];exact Bc)];rfl,HA.out.bt x⟩
    ·have hr1:r < 0:=by omega
     go_wp2_with fail;refine aj (by kernel_rfl) (by kernel_rfl) ?_
     repeat (go_big_quiet_step ((exact Calls.aL (Cc.out _))))
     refine wpQuiet_nil ?_;intro _ hw';obtain ⟨x,hw''⟩:=hw';subst hw'';clear w1 w2 w3 w4;go_wp2
     go_roundw
     case rel=>exact ⟨k+1,by omega,by go_num,HA.out.bt x,bC (p:=fun j=>∀ (hj:j+1 < l.length),c (l[j]'(by omega)) l[j+1] < 0) HP.out (fun _=>by rw [HR.out];exact hr1)⟩
     case measure=>simp [intOf];omega
   ·have HT:=gH (show aM c l=true from (cR c l).2 fun j hj=>HP.out j (by omega) hj)
    have WU:¬ (k:Int) < (l.length:Int) - 1:=by omega
    clear ha;go_wp2;go_ret;exact ⟨by rw [HT.out];rfl,HA.out⟩
def qI {α:Type} (c:α→α→Int) (l:List α):Prop:=∀ k (h:k+1 < l.length),0≤c l[k+1] (l[k]'(by omega))
def Pz {α:Type} (c:α→α→Int) (l:List α) (w:World) (e:Ending) (w':World):Prop:=∃ b:Bool,e=.returned (.bool b)∧(b=true↔qI c l)∧ag w w'
theorem NF (A:Option Addr) (cap:Nat) (l:List ByteArray) (g:FuncId) (ay:Array Value) (c:ByteArray→ByteArray→Int) (w:World) (h:aA w 1 dg A cap l) (dc:∀ (args:Array Value) (w:World),(callFunc g args).run Tryz.prog w=.ok (.enter g args) w)
  (hp:∀ w',ag w w'→∀ i (hi:i+1 < l.length),Calls Tryz.prog g (#[.string l[i+1],.string (l[i]'(by omega))]++ay) w' fun e w''=>e=.returned (.int .i64 (c l[i+1] (l[i]'(by omega))))∧ag w' w'') :
  Calls Tryz.prog 349 #[.slice A l.length cap,.func (.func g) #[] ay] w (Pz c l w):=by
 have hlen:=h.len;have HC:=gH hp;clear hp;by_cases h2:l.length≤1
 ·have HT:=gH (show qI c l from fun k hk=>by omega)
  have kQ:(l.length:Int)≤1:=by omega
  have Ex:(l.length:Int) - 1≤0:=by omega
  have Wn:¬ (0:Int) < (l.length:Int) - 1:=by omega
  have PZ:IntKind.i64.wrap ((l.length:Int) - 1)=(l.length:Int) - 1:=IntWalk.i64_in _ (by omega)
  go_in
  go_wp2_with fail
  go_loop [5] (fun i=>i=.int .i64 ((l.length:Int) - 1)) (fun i=>2)
  case atStart=>rfl
  case round =>
   subst hrel;go_wp2;go_ret;exact ⟨true,rfl,⟨fun _=>HT.out,fun _=>rfl⟩,ag.refl _⟩
 ·have OZ:2≤l.length:=by omega
  have Ex:(0:Int) < (l.length:Int) - 1:=by omega
  have PZ:IntKind.i64.wrap ((l.length:Int) - 1)=(l.length:Int) - 1:=IntWalk.i64_in _ (by omega)
  go_in
  go_wp2_with fail
  go_loopw [5] (fun i wr=>∃ k:Nat,k≤l.length - 1∧i=.int .i64 k∧ag w wr∧∀ j,k≤j→∀ (hj:j+1 < l.length),0≤c l[j+1] (l[j]'(by omega))) (fun i _=>(intOf i).toNat)
  case atStart=>exact ⟨l.length - 1,by omega,by congr 1;omega,ag.refl _,fun j hj h=>by omega⟩
  case round =>
   obtain ⟨k,hk,rfl,ha,hp⟩:=hrel;have HA:=gH ha;have HP:=gH hp;clear hp;by_cases h0:k=0
   ·subst h0
    have HT:=gH (show qI c l from fun j hj=>HP.out j (by omega) hj);clear ha;go_wp2;go_ret;exact ⟨true,rfl,⟨fun _=>HT.out,fun _=>rfl⟩,HA.out⟩
   ·obtain ⟨k,rfl⟩:∃ k',k=k'+1:=⟨k - 1,by omega⟩
    have hlt:k+1 < l.length:=by omega
    have cM:=aO ha h
    have jd:k < l.length:=by omega
    obtain ⟨b,off,rfl,hb,c0,hs⟩:=er cM jd;obtain ⟨b',off',hA',hb',d0,hs'⟩:=er cM hlt;simp only [Option.some.injEq,Addr.mk.injEq,and_true] at hA';obtain ⟨rfl,rfl⟩:=hA';obtain ⟨r,hr⟩:∃ r,c l[k+1] (l[k]'(by omega))=r:=⟨_,rfl⟩;have Cc:=gH (show ∀ x:gX wr,_ from fun x=>hr▸HC.out (bt wr x) (HA.out.bt x) k hlt);have HR:=gH hr;clear ha cM hr
    have w1:IntKind.i64.wrap (((k+1:Nat):Int) - 1)=(k:Int):=by rw [show ((k+1:Nat):Int) - 1=(k:Int) from by omega];exact IntWalk.i64_in _ (by omega)
    have w5:IntKind.i64.wrap ((k:Int)+1 - 1)=(k:Int):=by rw [show (k:Int)+1 - 1=(k:Int) from by omega];exact IntWalk.i64_in _ (by omega)
    have w2:(0:Int)≤(k:Int)+1:=by omega
    have w3:((k:Int)+1).toNat=k+1:=by omega
    have w4:(k:Int)+1 < (l.length:Int):=by omega
    have w6:(0:Int) < (k:Int)+1:=by omega
    by_cases Bc:r < 0
    ·go_wp2_with fail
     refine aj (by kernel_rfl) (by kernel_rfl) ?_
     repeat (go_big_quiet_step ((exact Calls.aL (Cc.out _))))
     refine wpQuiet_nil ?_;intro _ hw';obtain ⟨x,hw''⟩:=hw';subst hw'';clear w1 w2 w3 w4 w5 w6;go_wp2;go_ret;exact ⟨false,rfl,⟨fun h=>Bool.noConfusion h,fun h=>absurd (h k hlt) (by rw [HR.out];omega)⟩,HA.out.bt x⟩
    ·go_wp2_with fail
     refine aj (by kernel_rfl) (by kernel_rfl) ?_
     repeat (go_big_quiet_step ((exact Calls.aL (Cc.out _))))
     refine wpQuiet_nil ?_;intro _ hw';obtain ⟨x,hw''⟩:=hw';subst hw'';go_wp2
     go_roundw
     case rel =>
      refine ⟨k,by omega,by first | rfl | go_num,HA.out.bt x,fun j hj mv=>?_⟩
      rcases Nat.lt_or_ge k j with h1 | h1
      ·exact HP.out j (by omega) mv
      ·have:j=k:=by omega
       subst this;rw [HR.out];omega
     case measure=>simp [intOf]
theorem NG (A:Option Addr) (cap:Nat) (l:List dP) (g:FuncId) (ay:Array Value) (c:dP→dP→Int) (w:World) (h:aA w 2 fw A cap l) (dc:∀ (args:Array Value) (w:World),(callFunc g args).run Tryz.prog w=.ok (.enter g args) w)
  (hp:∀ w',ag w w'→∀ i (hi:i+1 < l.length),Calls Tryz.prog g (#[.agg #[.string (l[i+1]).role,.string (l[i+1]).of],.agg #[.string (l[i]'(by omega)).role,.string (l[i]'(by omega)).of]]++ay) w' fun e w''=>e=.returned (.int .i64 (c l[i+1] (l[i]'(by omega))))∧ag w' w'') :
  Calls Tryz.prog 352 #[.slice A l.length cap,.func (.func g) #[] ay] w (Pz c l w):=by
 have hlen:=h.len;have HC:=gH hp;clear hp;by_cases h2:l.length≤1
 ·have HT:=gH (show qI c l from fun k hk=>by omega)
  have kQ:(l.length:Int)≤1:=by omega
  have Ex:(l.length:Int) - 1≤0:=by omega
  have Wn:¬ (0:Int) < (l.length:Int) - 1:=by omega
  have PZ:IntKind.i64.wrap ((l.length:Int) - 1)=(l.length:Int) - 1:=IntWalk.i64_in _ (by omega)
  go_in
  go_wp2_with fail
  go_loop [5] (fun i=>i=.int .i64 ((l.length:Int) - 1)) (fun i=>2)
  case atStart=>rfl
  case round =>
   subst hrel;go_wp2;go_ret;exact ⟨true,rfl,⟨fun _=>HT.out,fun _=>rfl⟩,ag.refl _⟩
 ·have OZ:2≤l.length:=by omega
  have Ex:(0:Int) < (l.length:Int) - 1:=by omega
  have PZ:IntKind.i64.wrap ((l.length:Int) - 1)=(l.length:Int) - 1:=IntWalk.i64_in _ (by omega)
  go_in
  go_wp2_with fail
  go_loopw [5] (fun i wr=>∃ k:Nat,k≤l.length - 1∧i=.int .i64 k∧ag w wr∧∀ j,k≤j→∀ (hj:j+1 < l.length),0≤c l[j+1] (l[j]'(by omega))) (fun i _=>(intOf i).toNat)
  case atStart=>exact ⟨l.length - 1,by omega,by congr 1;omega,ag.refl _,fun j hj h=>by omega⟩
  case round =>
   obtain ⟨k,hk,rfl,ha,hp⟩:=hrel;have HA:=gH ha;have HP:=gH hp;clear hp;by_cases h0:k=0
   ·subst h0
    have HT:=gH (show qI c l from fun j hj=>HP.out j (by omega) hj);clear ha;go_wp2;go_ret;exact ⟨true,rfl,⟨fun _=>HT.out,fun _=>rfl⟩,HA.out⟩
   ·obtain ⟨k,rfl⟩:∃ k',k=k'+1:=⟨k - 1,by omega⟩
    have hlt:k+1 < l.length:=by omega
    have cM:=cu ha h
    have jd:k < l.length:=by omega
    obtain ⟨b,off,rfl,hb,c0,c1,hs,hs2⟩:=jf cM jd;obtain ⟨b',off',hA',hb',d0,d1,hs',Kr⟩:=jf cM hlt;simp only [Option.some.injEq,Addr.mk.injEq,and_true] at hA';obtain ⟨rfl,rfl⟩:=hA';obtain ⟨r,hr⟩:∃ r,c l[k+1] (l[k]'(by omega))=r:=⟨_,rfl⟩;have Cc:=gH (show ∀ x:gX wr,_ from fun x=>hr▸HC.out (bt wr x) (HA.out.bt x) k hlt);have HR:=gH hr;clear ha cM hr
    have w1:IntKind.i64.wrap (((k+1:Nat):Int) - 1)=(k:Int):=by rw [show ((k+1:Nat):Int) - 1=(k:Int) from by omega];exact IntWalk.i64_in _ (by omega)
    have w5:IntKind.i64.wrap ((k:Int)+1 - 1)=(k:Int):=by rw [show (k:Int)+1 - 1=(k:Int) from by omega];exact IntWalk.i64_in _ (by omega)
    have w2:(0:Int)≤(k:Int)+1:=by omega
    have w3:((k:Int)+1).toNat=k+1:=by omega
    have w4:(k:Int)+1 < (l.length:Int):=by omega
    have w6:(0:Int) < (k:Int)+1:=by omega
    by_cases Bc:r < 0
    ·go_wp2_with fail
     refine aj (by kernel_rfl) (by kernel_rfl) ?_
     repeat (go_big_quiet_step ((exact Calls.aL (Cc.out _))))
     refine wpQuiet_nil ?_;intro _ hw';obtain ⟨x,hw''⟩:=hw';subst hw'';clear w1 w2 w3 w4 w5 w6;go_wp2;go_ret;exact ⟨false,rfl,⟨fun h=>Bool.noConfusion h,fun h=>absurd (h k hlt) (by rw [HR.out];omega)⟩,HA.out.bt x⟩
    ·go_wp2_with fail
     refine aj (by kernel_rfl) (by kernel_rfl) ?_
     repeat (go_big_quiet_step ((exact Calls.aL (Cc.out _))))
     refine wpQuiet_nil ?_;intro _ hw';obtain ⟨x,hw''⟩:=hw';subst hw'';go_wp2
     go_roundw
     case rel =>
      refine ⟨k,by omega,by first | rfl | go_num,HA.out.bt x,fun j hj mv=>?_⟩
      rcases Nat.lt_or_ge k j with h1 | h1
      ·exact HP.out j (by omega) mv
      ·have:j=k:=by omega
       subst this;rw [HR.out];omega
     case measure=>simp [intOf]
def fz (a b:dP):Int:=eO (aT a.role b.role) (aT a.of b.of)
theorem Sd (a b:dP) (w:World) :
  Calls Tryz.prog 273 #[.agg #[.string a.role,.string a.of],.agg #[.string b.role,.string b.of]] w fun e w'=>e=.returned (.int .i64 (fz a b))∧ag w w':=by
 go_in
 go_wp2_with fail;refine mB 10 (by kernel_rfl) (by kernel_rfl) ?_;intro w1 a1;obtain ⟨hb1,hb2,hz,HA⟩:=fP a1;clear a1;simp only [List.take_succ_cons,List.take_zero,List.drop_succ_cons,List.drop_zero]
 repeat still_step
 still_call (eC _ _ _)
 repeat still_step
 still_call (eC _ _ _)
 refine wpStill_nil ?_;go_wp2_with fail;refine (Kp (aT a.role b.role) (aT a.of b.of) w1.heap.size _ (by simp) (by simp) (by simp)).mono ?_;rintro e w2 ⟨rfl,a2⟩;have iy:=gH ((HA.out.alloc _).trans a2);clear a2;go_wp2;go_ret;exact ⟨rfl,iy.out⟩
end Go.Proofs.YtakddkhipelmjaaGreat
