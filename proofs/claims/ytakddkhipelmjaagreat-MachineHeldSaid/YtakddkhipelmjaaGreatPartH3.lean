import Derived.Laws.EntriesVeiled
import Derived.Lib.Bytealg
import Derived.IntWalk
import Derived.Test.YtakddkhipelmjaaGreatPartH2
set_option maxRecDepth 100000
set_option linter.unusedVariables false
set_option maxHeartbeats 64000000
namespace Go.Proofs.YtakddkhipelmjaaGreat
open Go.Deep Go.RowKit
theorem lO {w:World} {A:Option Addr} {cap:Nat} {l:List dO} (h:az w 2 fg A cap l) {k:Nat} (hk:k < l.length) :
  ∃ b off,A=some ⟨b,off,none⟩∧b < w.heap.size∧w.cell? ⟨b,off+k*2,none⟩=some (.string l[k].role)∧w.cell? ⟨b,off+k*2+1,none⟩=some (.string l[k].of)∧Small l[k].role.size∧Small l[k].of.size:=by
 obtain ⟨b,off,cs,hA,hb,hl,⟨rfl,hs⟩,hc⟩:=h.2.2 k hk;refine ⟨b,off,hA,hb,?_,?_,hs⟩
 ·simpa using hc 0 (by omega)
 ·simpa [Nat.add_assoc] using hc 1 (by omega)
theorem df {w w':World} (a:ag w w') {A:Option Addr} {cap:Nat} {l:List dO} (h:az w 2 fg A cap l):az w' 2 fg A cap l:=h.aA a fun _ _ h=>h
theorem EZ (ms:List dO) (m:dO) (s:dt):succ (ms++[m]) s=succ ms s++if txt m.role=s then [m.of] else []:=by
 unfold succ;rw [List.filter_append,List.map_append]
 congr 1
 by_cases e:txt m.role=s<;>simp [e]
structure pp (w:World) (B bn k:Nat) (ms:List dO) (H:dt→Hd):Prop where
 mp:ee Tryz.prog 9 w bn k (.slice none 0 0) (fun s=>(H s).v)
 row:∀ s,w.ownsRow B 9 1 (H s).v (succ ms s).length ((succ ms s).flatMap cB)
 za:∀ s t g,g∈(H s).blk→g∈(H t).blk→s=t
 lt:bn < B
theorem pp.kb {Q:Nat→Prop} {w w':World} {B bn k:Nat} {ms:List dO} {H:dt→Hd} (h:pp w B bn k ms H) (kb:Kb Q w w') (h1:¬ Q bn) (h2:∀ g,B≤g→¬ Q g):pp w' B bn k ms H :=
 ⟨h.mp.kb kb h1,fun s=>br (h.row s) kb fun g hg=>h2 g ((h.row s).lt g hg).1,h.za,h.lt⟩
theorem pp.aA {w w':World} {B bn k:Nat} {ms:List dO} {H:dt→Hd} (h:pp w B bn k ms H) (a:ag w w'):pp w' B bn k ms H:=h.kb (Q:=fun _=>False) (Kb.aO a) (fun h=>h) fun _ _ h=>h
theorem pp.step {w w5:World} {B bn k:Nat} {ms:List dO} {H:dt→Hd} (h:pp w B bn k ms H) (TP:B≤w.heap.size) (m:dO) (hs:m.role.size≤maxLen) (hk:k < maxLen) {v':Hd} (kb:Kb (jZ (H (txt m.role)).v) w w5)
  (ho:w5.ownsRow B 9 1 v'.v ((succ ms (txt m.role)).length+1) ((succ ms (txt m.role)).flatMap cB++[.string m.of])) (hat:∀ g∈v'.blk,g∈(H (txt m.role)).blk∨w.heap.size≤g) :
  ∃ w6,(Instr.mapUpdate 183 (.map (some bn)) (.string m.role) v'.v).run Tryz.prog w5=.ok () w6∧pp w6 B bn (k+1) (ms++[m]) (fun x=>if x=txt m.role then v' else H x)∧Kb (fun g=>g=bn) w5 w6:=by
 have hlt:=h.lt
 have hb:¬ jZ (H (txt m.role)).v bn:=fun e=>by have:=((h.row (txt m.role)).lt bn e).1;omega
 obtain ⟨w6,p6,M6,g6⟩:=(h.mp.kb kb hb).put Tryz.underlying9 Tryz.underlying183 hk m.role hs v'.v
 have k6:Kb (fun g=>g=bn) w5 w6:=(Kb.cZ g6).mono fun g _ e=>(Option.some.inj e).symm
 refine ⟨w6,p6,⟨?_,?_,?_,hlt⟩,k6⟩
 ·have e:(fun s=>((fun x=>if x=txt m.role then v' else H x) s).v)=fun x=>if x=m.role.data.toList then v'.v else (H x).v:=by
   funext x
   show (if x=m.role.data.toList then v' else H x).v=_
   split<;>rfl
  rw [e];exact M6
 ·intro s
  rw [EZ];by_cases e:s=txt m.role
  ·subst e
   rw [if_pos rfl,if_pos rfl,List.length_append,List.flatMap_append]
   exact br ho k6 fun g hg e=>by have:=(ho.lt g hg).1;omega
  ·have e2:¬ txt m.role=s:=fun h=>e h.symm
   rw [if_neg e,if_neg e2,List.append_nil]
   refine br (br (h.row s) kb fun g hg h2=>e (h.za s (txt m.role) g (Hd.bj.2 hg) (Hd.bj.2 h2))) k6 fun g hg e=>?_
   have:=((h.row s).lt g hg).1;omega
 ·have hx:∀ s g,¬ s=txt m.role→g∈v'.blk→g∈(H s).blk→False:=fun s g e h1 h2=>by
   rcases hat g h1 with h3 | h3
   ·exact e (h.za s _ g h2 h3)
   ·have:=((h.row s).lt g (Hd.bj.1 h2)).2
    omega
  intro s t g h1 h2;by_cases e1:s=txt m.role
  ·by_cases e2:t=txt m.role
   ·rw [e1,e2]
   ·rw [if_pos e1] at h1
    rw [if_neg e2] at h2;exact absurd h2 (fun h2=>hx t g e2 h1 h2)
  ·rw [if_neg e1] at h1
   by_cases e2:t=txt m.role
   ·rw [if_pos e2] at h2
    exact absurd h1 (fun h1=>hx s g e1 h2 h1)
   ·rw [if_neg e2] at h2
    exact h.za s t g h1 h2
theorem pp.next {w:World} {B bn k bf:Nat} {ms:List dO} {H:dt→Hd} (h:pp w B bn k ms H) (hbf:∀ s,bf∉(H s).blk):lN w ms bf bn k :=
 ⟨_,h.mp,fun s=>⟨H s,rfl,bM (h.row s) (Nat.zero_le _),hbf s⟩⟩
theorem lN.YK {w w':World} {ms:List dO} {bf bn N:Nat} (h:lN w ms bf bn N) (a:ag w w'):lN w' ms bf bn N:=by
 obtain ⟨nx,h1,h2⟩:=h;exact ⟨nx,h1.aA a,fun s=>by obtain ⟨h,e,o,n⟩:=h2 s;exact ⟨h,e,cA o a,n⟩⟩
theorem E0 (w:World) (B:Nat) (hB:w.heap.size < B):pp (w.alloc (.map #[] 0)) B w.heap.size 0 [] (fun _=>⟨none,0,0⟩) :=
 ⟨lZ w _,fun s=>cO _ _ _ _,fun s t g h=>by simp [im] at h,hB⟩
theorem BO (l:List dt):∃ U:List dt,U.Nodup∧∀ x,x∈U↔x∈l:=by
 induction l with
 | nil=>exact ⟨[],by simp,by simp⟩
 | cons a l ih =>
  obtain ⟨U,h1,h2⟩:=ih;by_cases e:a∈U
  ·exact ⟨U,h1,fun x=>by rw [List.mem_cons,h2];exact ⟨.inr,fun h=>h.elim (fun h=>h▸(h2 a).1 e) id⟩⟩
  ·exact ⟨a::U,List.nodup_cons.2 ⟨e,h1⟩,fun x=>by rw [List.mem_cons,List.mem_cons,h2]⟩
theorem Mc {U:List dt} {a:dt} (h:a∉U):(U.map fun s=>if a=s then 1 else 0).sum=0:=by
 induction U with
 | nil=>rfl
 | cons b U ih =>
  rw [List.mem_cons,not_or] at h;simp only [List.map_cons,List.sum_cons,if_neg h.1,ih h.2]
theorem Md {U:List dt} (hU:U.Nodup) (a:dt):(U.map fun s=>if a=s then 1 else 0).sum≤1:=by
 induction U with
 | nil=>simp
 | cons b U ih =>
  rw [List.nodup_cons] at hU;simp only [List.map_cons,List.sum_cons];by_cases e:a=b
  ·subst e
   rw [Mc hU.1];simp
  ·rw [if_neg e]
   have:=ih hU.2;omega
theorem sum_add (U:List dt) (f g:dt→Nat):(U.map fun s=>f s+g s).sum=(U.map f).sum+(U.map g).sum:=by
 induction U with
 | nil=>rfl
 | cons a U ih=>simp only [List.map_cons,List.sum_cons,ih];omega
theorem IZ {U:List dt} (hU:U.Nodup) (ms:List dO):wq ms U (fun _=>0)≤ms.length:=by
 unfold wq;simp only [if_true]
 induction ms with
 | nil =>
  have:(U.map fun s=>(succ [] s).length).sum=0:=by
   clear hU
   induction U with
   | nil=>rfl
   | cons a U ih=>simp only [List.map_cons,List.sum_cons,ih];rfl
  rw [this];simp
 | cons m ms ih =>
  have e:(fun s=>(succ (m::ms) s).length)=fun s=>(succ ms s).length+if txt m.role=s then 1 else 0:=by
   funext s
   unfold succ
   by_cases e:txt m.role=s<;>simp [e]
  rw [e,sum_add];have:=Md hU (txt m.role);simp only [List.length_cons];omega
def UK (w:World) (ms:List dO) (role:ByteArray) (e:Ending) (w':World):Prop :=
 ∃ bf,e=.returned (.map (some bf))∧ag w w'∧∃ (c:dt→Nat) (n:Nat),ee Tryz.prog 9 w' bf n (.int .i64 0) (mo c)∧(∀ s,c s≤140737488351232)∧∀ s,0 < c s↔Reach ms (txt role) s
structure NxS (w wr:World) (ms:List dO) (k:Nat) (H:dt→Hd):Prop where
 aA:ag w wr
 pn:wr.cell? ⟨w.heap.size+2,0,none⟩=some (.map (some (w.heap.size+1)))
 nx:pp wr (w.heap.size+3) (w.heap.size+1) k (ms.take k) H
 sz:w.heap.size+3≤wr.heap.size
theorem Dw (r:gW) (An:Option Addr) (aH:Nat) (Am:Option Addr) (aL:Nat) (role:ByteArray) (w:World) (hm:az w 2 fg Am aL r.members) (oG:Small role.size) :
  Calls Tryz.prog 210 #[.agg #[.slice An r.names.length aH,.slice Am r.members.length aL],.string role] w (UK w r.members role):=by
 have hlen:=hm.len;have Kn:=@run_makeMap Tryz.prog
 have l1:w.heap.size < w.heap.size+1:=by omega
 have l2:w.heap.size < w.heap.size+1+1:=by omega
 have l3:w.heap.size < w.heap.size+1+1+1:=by omega
 have HM:=gH hm
 go_in
 go_wp2_with fail
 go_loopw [14] (fun i wr=>∃ (k:Nat) (H:dt→Hd),k≤r.members.length∧i=.int .i64 k∧NxS w wr r.members k H) (fun i _=>r.members.length - (intOf i).toNat)
 case atStart =>
  refine ⟨0,fun _=>⟨none,0,0⟩,Nat.zero_le _,rfl,((((ag.refl w).alloc _).alloc _).alloc _),?_,?_,by simp⟩
  ·obtain ⟨hb,_,_,_,_⟩:=cT (ag.refl (((w.alloc (.cells #[.slice An r.names.length aH,.slice Am r.members.length aL] 29)).alloc (.map #[] 0)).alloc (.cells #[.map (some (w.heap.size+1))] 183)))
   have:=hb 0
   simpa [World.size_alloc] using this
  ·have:=E0 (w.alloc (.cells #[.slice An r.names.length aH,.slice Am r.members.length aL] 29)) (w.heap.size+3) (by simp)
   simp only [World.size_alloc] at this;exact this.aA ((ag.refl _).alloc _)
 case round =>
  obtain ⟨k,H,hk,rfl,hs⟩:=hrel;have HS:=gH hs;have pn:=hs.pn;have sz:=hs.sz;by_cases hlt:k < r.members.length
  ·obtain ⟨b,off,rfl,hb,t0,t1,hs1,hs2⟩:=lO (df hs.aA HM.out) hlt
   obtain ⟨m,Qd⟩:∃ m,r.members[k]=m:=⟨_,rfl⟩;rw [Qd] at t0 t1 hs1 hs2;obtain ⟨W,hW⟩:∃ W,W=wr.alloc (.cells #[.string m.role,.string m.of] 174):=⟨_,rfl⟩
   have aW:ag wr W:=by rw [hW];exact (ag.refl _).alloc _
   have zW:W.heap.size=wr.heap.size+1:=by rw [hW];simp
   have FV:=hs.nx.aA aW;have hrow:=FV.row (txt m.role);obtain ⟨a0,n0,c0,hv⟩:∃ a0 n0 c0,H (txt m.role)=⟨a0,n0,c0⟩:=⟨_,_,_,rfl⟩;have vO:=mq hrow;rw [hv] at hrow vO;dsimp only at vO;have HLEN:=gH vO
   have hle:n0≤k:=by
    rw [vO];unfold succ;rw [List.length_map];refine Nat.le_trans (List.length_filter_le _ _) ?_;rw [List.length_take];omega
   rw [← vO] at hrow;have HOW:=gH (show W.ownsRow (w.heap.size+3) 9 1 (.slice a0 n0 c0) n0 ((succ (r.members.take k) (txt m.role)).flatMap cB) from hrow)
   have UL:∀ x:rv (.slice a0 n0 c0) W,(Instr.lookup 183 (.map (some (w.heap.size+1))) (.string m.role) false).run Tryz.prog (qc (.slice a0 n0 c0) W x)=.ok (.slice a0 n0 c0) (qc (.slice a0 n0 c0) W x):=fun x=>by
    have h1:=(FV.mp.kb x.kb (gh HOW.out (by omega))).look Tryz.underlying9 Tryz.underlying183 (ki _) m.role hs1.max;rw [show H m.role.data.toList=⟨a0,n0,c0⟩ from hv] at h1;exact h1
   have p1:=aW.cell_kept pn
   have q0:W.cell? ⟨wr.heap.size,0,none⟩=some (.string m.role):=by
    rw [hW];simp
   have q1:W.cell? ⟨wr.heap.size,1,none⟩=some (.string m.of):=by
    rw [hW];simp
   have e1:w.heap.size+2 < W.heap.size:=by omega
   have OA:w.heap.size+1+1 < W.heap.size:=by omega
   have e2:wr.heap.size < W.heap.size:=by omega
   have n1:¬ jZ (.slice a0 n0 c0) (w.heap.size+2):=gh HOW.out (by omega);have n1':¬ jZ (.slice a0 n0 c0) (w.heap.size+1+1):=gh HOW.out (by omega)
   have n2:¬ jZ (.slice a0 n0 c0) wr.heap.size:=fun h=>by
    have:=((hs.nx.row (txt m.role)).lt wr.heap.size (by rw [hv];exact h)).2;omega
   obtain ⟨i0,mL,hz0,hz1,hz2⟩:=info_parts EY;have HI:=gH mL;have HZ:=gH (And.intro hz0 (And.intro hz1 hz2));have HN:=gH (And.intro FV (And.intro hv (And.intro Qd (And.intro (hs.aA.trans aW) (And.intro aW hs1)))));have Ht:=gH (And.intro sz (And.intro zW hle))
   have aal:n0+1≤140737488351232:=by omega
   clear mL hz0 hz1 hz2 hs FV hv hrow vO hle aW Qd hs1 hs2;go_wp2_with fail;rw [← hW];clear hW zW;go_wp2_with fail;refine kM 9 11 (fun w'=>∃ x:rv (.slice a0 n0 c0) W,w'=qc (.slice a0 n0 c0) W x) (by kernel_rfl) (by kernel_rfl) (KL.aA (ag.refl W).drew) ?_;simp only [List.take_succ_cons,List.take_zero,List.drop_succ_cons,List.drop_zero]
   repeat (go_big_quiet_step (fail))
   refine wpQuiet_nil ?_;refine gI (fun K hK=>?_);go_simp;refine hK _ _ (fun _=>KL.aA (((ag.refl W).alloc _).drew)) ?_;clear hK K;refine gI (fun K hK=>?_);refine wp_append_lies _ (.tmp 24) (.tmp 27) 26 rfl (w.heap.size+3) 9 i0 _ 1 16 Tryz.underlying26 HI.out HZ.out.1 HZ.out.2.1 HZ.out.2.2 rfl (by decide) (.slice a0 n0 c0) n0 ((succ (r.members.take k) (txt m.role)).flatMap cB) (by rfl) ((HOW.out.alloc _).drew) ⟨W.heap.size,0,none⟩ 1 1 [.string m.of] (by rfl) (by rfl) (World.news_of_block (cs:=#[.string m.of]) (t:=9) (fr:=(0,0)) (heap_alloc_new W _)) (by simp [Value.oneCell']) (by omega) (by unfold maxLen;omega) (by have:=Ht.out;omega) (by have:=Ht.out;simp;omega) (W.heap.size+1) (by simp) ?_;intro gg cap' w5 jz hgrow hat Ep;refine hK _ _ (fun _=>KL.of ((Kb.aO (((ag.refl W).alloc _).drew)).trans (ub hgrow))) ?_;clear hK K;refine kD _ (by simp) (by decide) ?_;have JQ:Kb (jZ (.slice a0 n0 c0)) W w5:=(Kb.aO (((ag.refl W).alloc _).drew)).trans (ub hgrow);obtain ⟨FV,hv,BF,hwW,haW,hsr⟩:=HN.out
   have VW:w.heap.size+3≤W.heap.size:=by omega
   obtain ⟨w6,p6,nx6,k6⟩:=FV.step (v':=⟨some ⟨gg,0,none⟩,n0+1,cap'⟩) VW m hsr.max (by unfold maxLen;omega) (by rw [hv];exact JQ) (by rw [← HLEN.out];exact jz) (fun g hg=>by
    rw [fP,List.mem_singleton] at hg;have hg:g=gg:=hg
    rcases hat with h1 | h1
    ·exact .inl (by rw [hv,hg];exact Hd.bj.2 h1)
    ·exact .inr (by omega))
   have hnv:∀ g,g < w.heap.size+3→¬ jZ (.slice a0 n0 c0) g:=fun g hg=>gh HOW.out hg
   have xu:=gH (show ∃ H',NxS w w6 r.members (k+1) H' from ⟨_,(k6.aJ (JQ.aJ hwW (fun g hg=>hnv g (by omega))) (fun g hg=>by omega)),
    k6.cell (JQ.cell p1 n1) (by show ¬ w.heap.size+2=w.heap.size+1;omega),by rw [List.take_succ_eq_append_getElem hlt,BF];exact nx6,by have:=JQ.size;have:=k6.size;omega⟩)
   change (Instr.mapUpdate 183 (.map (some (w.heap.size+1))) (.string m.role) (.slice (some ⟨gg,0,none⟩) (n0+1) cap')).run Tryz.prog w5=.ok () w6 at p6;clear FV hv BF hwW haW hsr hnv nx6 k6 JQ jz hgrow hat Ep UL;go_wp2_with fail;refine NoPanic.normal ?_;go_wp2
   go_roundw
   case rel=>obtain ⟨H',hx⟩:=xu.out;exact ⟨k+1,H',by omega,by go_num,hx⟩
   case measure=>simp [intOf];omega
  ·have hke:k=r.members.length:=by omega
   subst hke;have FV:=hs.nx;rw [List.take_length] at FV
   have m1:wr.heap.size+1+1 < wr.heap.size+1+1+1:=by omega
   have m2:wr.heap.size+1 < wr.heap.size+1+1+1:=by omega
   have m3:wr.heap.size < wr.heap.size+1+1+1:=by omega
   have m4:w.heap.size+2 < wr.heap.size:=by omega
   obtain ⟨F,hF⟩:∃ F,F=((wr.alloc (.map #[] 0)).alloc (.cells #[.map (some wr.heap.size)] 268)).alloc (.cells #[.func (.func 301) #[] #[.pointer (some ⟨wr.heap.size+1,0,none⟩),.pointer (some ⟨w.heap.size+1+1,0,none⟩),.pointer (some ⟨wr.heap.size+1+1,0,none⟩)]] 218):=⟨_,rfl⟩
   have aF:ag wr F:=by rw [hF];exact (((ag.refl wr).alloc _).alloc _).alloc _
   have MF:ee Tryz.prog 9 F wr.heap.size 0 (.int .i64 0) (mo fun _=>0):=by rw [hF];exact (lZ wr _).aA (((ag.refl _).alloc _).alloc _)
   have d1:F.cell? ⟨wr.heap.size+1,0,none⟩=some (.map (some wr.heap.size)):=by
    rw [hF];obtain ⟨hb,_,_,_,_⟩:=cT ((ag.refl ((wr.alloc (.map #[] 0)).alloc (.cells #[.map (some wr.heap.size)] 268))).alloc (.cells #[.func (.func 301) #[] #[.pointer (some ⟨wr.heap.size+1,0,none⟩),.pointer (some ⟨w.heap.size+1+1,0,none⟩),.pointer (some ⟨wr.heap.size+1+1,0,none⟩)]] 218));have:=hb 0
    simpa [World.size_alloc] using this
   have d2:F.cell? ⟨wr.heap.size+2,0,none⟩=some (.func (.func 301) #[] #[.pointer (some ⟨wr.heap.size+1,0,none⟩),.pointer (some ⟨w.heap.size+1+1,0,none⟩),.pointer (some ⟨wr.heap.size+1+1,0,none⟩)]):=by
    rw [hF];obtain ⟨hb,_,_,_,_⟩:=cT (ag.refl (((wr.alloc (.map #[] 0)).alloc (.cells #[.map (some wr.heap.size)] 268)).alloc (.cells #[.func (.func 301) #[] #[.pointer (some ⟨wr.heap.size+1,0,none⟩),.pointer (some ⟨w.heap.size+1+1,0,none⟩),.pointer (some ⟨wr.heap.size+1+1,0,none⟩)]] 218)));have:=hb 0
    simpa [World.size_alloc] using this
   have SI:jS F r.members (wr.heap.size+1) (w.heap.size+2) (wr.heap.size+2) wr.heap.size (w.heap.size+1) r.members.length :=
    ⟨d1,aF.cell_kept pn,d2,(FV.next (bf:=wr.heap.size) fun s h=>by have:=((FV.row s).lt _ (Hd.bj.1 h)).2;omega).YK aF,by omega,by omega,by omega,by omega⟩
   obtain ⟨U,u1,u2⟩:=BO (txt role::r.members.map fun m=>txt m.of)
   have hsm:=jM HM.out (P:=fun m:dO=>Small m.of.size) fun _ _ h=>h.2.2
   have C:=gH (IY r.members U (wr.heap.size+1) (w.heap.size+2) (wr.heap.size+2) wr.heap.size (w.heap.size+1) r.members.length hsm
    (fun s _ x hx=>by
     rw [u2];unfold succ at hx;rw [List.mem_map] at hx;obtain ⟨m,hm,rfl⟩:=hx
     exact List.mem_cons.2 (.inr (List.mem_map.2 ⟨m,(List.mem_filter.1 hm).1,rfl⟩)))
    _ role (fun _=>0) 0 F (Nat.le_refl _) oG (by rw [u2];simp) (fun _=>Nat.le_refl _) (by have:=IZ u1 r.members;omega) SI MF)
   have Wk:=gH (And.intro (IZ u1 r.members) (And.intro hlen (And.intro (hs.aA.trans aF) (And.intro d1 hs.aA.size))));rw [hF] at C;clear hs FV MF d1 d2 SI u1 u2 hsm
   go_wp2_with (go_at_call 301;refine C.out.mono ?_;rintro e w2 ⟨rfl,JP,c2,n2,M2,g2⟩;rw [← hF] at JP;have dd:=JP.cell Wk.out.2.2.2.1 (by show ¬ wr.heap.size+1=wr.heap.size;omega))
   go_ret;refine ⟨_,rfl,JP.aJ Wk.out.2.2.1 (fun k hk=>by omega),c2,n2,M2,fun s=>?_,fun s=>g2.reach s⟩;have:=g2.bd s;have:=g2.size;have:=Wk.out.1;have:=Wk.out.2.1;omega
theorem sy (s:ByteArray) (c:Int) (w:World) :
  Calls Tryz.prog 244 #[.string s,.int .u8 c] w fun e w'=>e=.returned (.int .i64 (Lib.indexByte s.data.toList c.toNat.toUInt8))∧w=w':=by
 go_in
 go_wp2
 rw [run_callFunc_extern Tryz.func324 (by kernel_rfl) (by kernel_rfl) (by kernel_rfl) (e:=Extern.BytealgIndexByte.indexByte) (by kernel_rfl),Lib.run_indexByteString];simp only [Result.andThen];rw [Oper.upon_value]
 go_wp2
 go_ret;exact ⟨rfl,rfl⟩
theorem indexByte (s:ByteArray) (c:Int) (w:World) :
  Calls Tryz.prog 176 #[.string s,.int .u8 c] w fun e w'=>e=.returned (.int .i64 (Lib.indexByte s.data.toList c.toNat.toUInt8))∧w=w':=by
 go_in
 go_wp2_with (go_at_call 244;refine (sy _ _ _).mono ?_;rintro e w' ⟨rfl,rfl⟩)
 go_ret;exact ⟨rfl,rfl⟩
def isLet (c:UInt8):Bool:=decide (97≤c)&&decide (c≤122)
def ny (c:UInt8):Bool:=isLet c || (decide (48≤c)&&decide (c≤57)) || c==95
def Rl (s:ByteArray):Bool:=s.data.toList.all ny
def bG (s:ByteArray):Bool:=decide (0 < s.size)&&decide (s.size≤16)&&isLet (s.data.toList.headD 0)&&Rl s
def yF (c:UInt8):Int:=Lib.indexByte [97,98,99,100,101,102,103,104,105,106,107,108,109,110,111,112,113,114,115,116,117,118,119,120,121,122] c
def yG (c:UInt8):Int:=Lib.indexByte [97,98,99,100,101,102,103,104,105,106,107,108,109,110,111,112,113,114,115,116,117,118,119,120,121,122,48,49,50,51,52,53,54,55,56,57,95] c
theorem I0 {p:UInt8→Bool} (h:∀ n:Fin 256,p (UInt8.ofNat n.val)=true) (c:UInt8):p c=true:=by
 have:=h ⟨c.toNat,c.toNat_lt⟩
 simpa using this
theorem E1 (c:UInt8):decide (yF c < 0)=!isLet c:=by
 have:=I0 (p:=fun c=>decide (yF c < 0)==!isLet c) (by decide +kernel) c
 simpa using this
theorem E4 (c:UInt8):decide (yG c < 0)=!ny c:=by
 have:=I0 (p:=fun c=>decide (yG c < 0)==!ny c) (by decide +kernel) c
 simpa using this
theorem E5 (c:UInt8):yF c < 0↔isLet c=false:=by
 have:=E1 c;cases h:isLet c<;>simp_all
theorem uW (c:UInt8):yG c < 0↔ny c=false:=by
 have:=E4 c;cases h:ny c<;>simp_all
theorem tN {α:Type} (p:α→Bool) (l:List α) (k:Nat) (h:k < l.length):(l.take (k+1)).all p=((l.take k).all p&&p l[k]):=by
 rw [List.take_succ_eq_append_getElem h];simp only [List.all_append,List.all_cons,List.all_nil,Bool.and_true]
theorem l9 (s:ByteArray):s.data.toList.length=s.size:=by simp
theorem Qe (s:ByteArray) (k:Nat) (h:k < s.size):s.data.toList[k]'(by simpa using h)=s[k]:=rfl
theorem Me (s:ByteArray) (k:Nat) (h:k < s.size):(s.data.toList.take (k+1)).all ny=((s.data.toList.take k).all ny&&ny s[k]):=by
 rw [tN ny _ k (by simpa using h)];rfl
theorem I1 (s:ByteArray) (k:Nat) (h:k < s.size) (hp:ny s[k]=false):Rl s=false:=by
 have:s[k]∈s.data.toList:=by rw [← Qe s k h];exact List.getElem_mem _
 simp only [Rl,Bool.eq_false_iff,ne_eq,List.all_eq_true];intro hall;have:=hall _ this;simp [hp] at this
theorem Mf (s:ByteArray) (k:Nat) (h:¬ k < s.size) (hp:(s.data.toList.take k).all ny=true):Rl s=true:=by
 rw [List.take_of_length_le (by rw [l9];omega)] at hp;exact hp
theorem I2 (s:ByteArray) (h:0 < s.size):s.data.toList.headD 0=s[0]:=by
 have h1:s.data.toList≠[]:=by intro e;have:=l9 s;simp [e] at this;omega
 obtain ⟨a,l,e⟩:=List.exists_cons_of_ne_nil h1;have:s.data.toList[0]'(by rw [l9];exact h)=s[0]:=rfl;simp only [e,List.headD_cons] at this ⊢
 simpa using this
theorem I3 (c:UInt8) (w:World) :
  Calls Tryz.prog 176 #[.string { data:=#[97,98,99,100,101,102,103,104,105,106,107,108,109,110,111,112,113,114,115,116,117,118,119,120,121,122] },.int .u8 c.toNat] w fun e w'=>e=.returned (.int .i64 (yF c))∧w=w':=by
 refine (indexByte _ _ w).mono ?_;rintro e w' ⟨rfl,rfl⟩;refine ⟨?_,rfl⟩
 have:((c.toNat:Int).toNat.toUInt8)=c:=by simp
 rw [this];rfl
theorem Mg (c:UInt8) (w:World) :
  Calls Tryz.prog 176 #[.string { data:=#[97,98,99,100,101,102,103,104,105,106,107,108,109,110,111,112,113,114,115,116,117,118,119,120,121,122,48,49,50,51,52,53,54,55,56,57,95] },.int .u8 c.toNat] w fun e w'=>e=.returned (.int .i64 (yG c))∧w=w':=by
 refine (indexByte _ _ w).mono ?_;rintro e w' ⟨rfl,rfl⟩;refine ⟨?_,rfl⟩
 have:((c.toNat:Int).toNat.toUInt8)=c:=by simp
 rw [this];rfl
theorem E7 (s:ByteArray) (w:World) (hs:s.size≤maxLen) :
  Calls Tryz.prog 177 #[.string s] w fun e w'=>e=.returned (.bool (Rl s))∧w=w':=by
 unfold maxLen at hs
 go_in
 go_wp2_with fail
 go_loop [6] (fun i=>∃ k:Nat,k≤s.size∧i=.int .i64 k∧(s.data.toList.take k).all ny=true) (fun i=>s.size - (intOf i).toNat)
 case atStart=>exact ⟨0,Nat.zero_le _,rfl,rfl⟩
 case round =>
  obtain ⟨k,hk,rfl,ha⟩:=hrel;have HA:=gH ha;clear ha;by_cases hlt:k < s.size
  ·go_wp2_with (go_at_call 176;refine (Mg _ _).mono ?_;rintro e w' ⟨rfl,rfl⟩)
   ·have hp:ny s[k]=false:=(uW _).1 (by assumption)
    go_ret;exact ⟨by rw [I1 s k hlt hp];rfl,rfl⟩
   ·have hp:ny s[k]=true:=by
     have h0:0≤yG s[k]:=by assumption
     have:=uW s[k]
     cases h:ny s[k]
     ·have:=this.2 h;omega
     ·rfl
    go_round
    case rel=>exact ⟨k+1,by omega,by go_num,by rw [Me s k hlt,HA.out,hp];rfl⟩
    case measure=>simp [intOf];omega
  ·go_wp2
   go_ret;exact ⟨by rw [Mf s k hlt HA.out];rfl,rfl⟩
theorem eL (s:ByteArray):s.toList=[]↔s.size=0:=by
 rw [ByteArray.toList_eq];rw [← List.length_eq_zero_iff,l9]
theorem isEmpty_iff (s:ByteArray):s.toList.isEmpty=decide (s.size=0):=by
 rw [Bool.eq_iff_iff];simp [eL]
theorem I4 (s:ByteArray) (h:0 < s.size):bG s=(decide (s.size≤16)&&(isLet s[0]&&Rl s)):=by
 unfold bG;rw [I2 s h,decide_eq_true h,Bool.true_and,Bool.and_assoc]
theorem bZ (s:ByteArray) (w:World) (hs:s.size≤maxLen) :
  Calls Tryz.prog 107 #[.string s] w fun e w'=>e=.returned (.bool (bG s))∧w=w':=by
 have hs':=hs;unfold maxLen at hs;by_cases h0:0 < s.size
 ·have H:=gH (I4 s h0)
  have hl:=gH (E5 s[0])
  have he:s.toList.isEmpty=false:=by rw [isEmpty_iff];exact decide_eq_false (by omega)
  have he':¬ s.toList=[]:=by rw [eL];omega
  go_in
  go_wp2_with (first | (go_at_call 176;refine (I3 _ _).mono ?_;rintro e w' ⟨rfl,rfl⟩) | (go_at_call 177;refine (E7 _ _ hs').mono ?_;rintro e w' ⟨rfl,rfl⟩))
  ·have a1:s.size≤16:=by have:(s.size:Int)≤16:=(by assumption);omega
   have a2:isLet s[0]=true:=by
    have h0:0≤yF s[0]:=by assumption
    cases h:isLet s[0]
    ·have:=hl.out.2 h;omega
    ·rfl
   go_ret;exact ⟨by rw [H.out,decide_eq_true a1,a2];rfl,rfl⟩
  ·have a2:isLet s[0]=false:=hl.out.1 (by assumption)
   go_ret;exact ⟨by rw [H.out,a2,Bool.false_and,Bool.and_false];rfl,rfl⟩
  ·have a1:¬ s.size≤16:=by have:16 < (s.size:Int):=(by assumption);omega
   go_ret;exact ⟨by rw [H.out,decide_eq_false a1];rfl,rfl⟩
 ·have he:s.toList.isEmpty=true:=by rw [isEmpty_iff];exact decide_eq_true (by omega)
  have he':s.toList=[]:=by rw [eL];omega
  have H:=gH (show bG s=false by simp [bG,h0])
  go_in
  go_wp2;go_ret;exact ⟨by rw [H.out];rfl,rfl⟩
theorem dG {k:Nat} {p:Nat→Prop} (h:∀ j,j < k→p j) (hk:p k):∀ j,j < k+1→p j:=ac k p h hk
theorem E8 {α:Type} (p:α→Bool) (l:List α) (k:Nat) (hk:k < l.length) (hp:p l[k]=true):l.any p=true:=List.any_eq_true.2 ⟨l[k],List.getElem_mem hk,hp⟩
theorem enters {P:Program} {f:FuncId} {fn:Func} {c:Code} (hf:P.funcs[f]? = some fn) (hname:(fn.name=="runtime.NumGoroutine")=false) (hb:fn.body=some c):∀ (args:Array Value) (w:World),(callFunc f args).run P w=.ok (.enter f args) w:=by
 intro args w
 have h1:fn.name≠"runtime.NumGoroutine":=by simpa using hname
 simp [callFunc,hf,h1,hb,mark]
theorem Qf (A:Option Addr) (cap:Nat) (l:List dY) (g:FuncId) (ax:Array Value) (p:dY→Bool) (w:World) (h:az w 3 fL A cap l) (cM:∀ (args:Array Value) (w:World),(callFunc g args).run Tryz.prog w=.ok (.enter g args) w)
  (hp:∀ w',ag w w'→∀ i (hi:i < l.length),Calls Tryz.prog g (#[.agg #[.string l[i].name,.int .i64 l[i].kind,.bool l[i].null]]++ax) w' fun e w''=>e=.returned (.bool (p l[i]))∧ag w' w'') :
  Calls Tryz.prog 344 #[.slice A l.length cap,.func (.func g) #[] ax] w fun e w'=>e=.returned (.int .i64 (bu p l))∧ag w w':=by
 have hlen:=h.len;have HC:=gH hp;clear hp
 go_in
 go_wp2_with fail
 go_loopw [8] (fun i wr=>∃ k:Nat,k≤l.length∧i=.int .i64 k∧ag w wr∧∀ j,j < k→∀ (hj:j < l.length),p l[j]=false) (fun i _=>l.length - (intOf i).toNat)
 case atStart=>exact ⟨0,Nat.zero_le _,rfl,ag.refl _,fun j hj=>absurd hj (Nat.not_lt_zero j)⟩
 case round =>
  obtain ⟨k,hk,rfl,ha,hp⟩:=hrel;have HA:=gH ha;have HP:=gH hp;clear hp;by_cases hlt:k < l.length
  ·have dv:=dF ha h
   clear ha;obtain ⟨b,off,rfl,hb,c0,c1,c2,hs⟩:=qK dv hlt;have HK:=gH (HC.out wr HA.out k hlt);clear dv;obtain ⟨q,hq⟩:∃ q,p l[k]=q:=⟨_,rfl⟩;rw [hq] at HK;have HQ:=gH hq;clear hq
   cases q
   ·go_wp2_with fail
    refine HK.out.mono ?_;rintro e w1 ⟨rfl,a1⟩;have dc:=gH (HA.out.trans a1);clear a1;go_wp2
    go_roundw
    case rel=>exact ⟨k+1,by omega,by go_num,dc.out,dG (p:=fun j=>∀ (hj:j < l.length),p l[j]=false) HP.out (fun _=>HQ.out)⟩
    case measure=>simp [intOf];omega
   ·go_wp2_with fail
    refine HK.out.mono ?_;rintro e w1 ⟨rfl,a1⟩;have dc:=gH (HA.out.trans a1);clear a1;go_wp2;go_ret;exact ⟨by rw [eU p l k hlt HQ.out (fun i hi=>HP.out i hi (by omega))];rfl,dc.out⟩
  ·clear ha
   go_wp2;go_ret;exact ⟨by rw [eT p l (fun i hi=>HP.out i (by omega) hi)];rfl,HA.out⟩
theorem Qg (A:Option Addr) (cap:Nat) (l:List fh) (g:FuncId) (ax:Array Value) (p:fh→Bool) (w:World) (h:az w 8 eG A cap l) (cM:∀ (args:Array Value) (w:World),(callFunc g args).run Tryz.prog w=.ok (.enter g args) w)
  (hp:∀ w',ag w w'→∀ i (hi:i < l.length) (e1:List Value),eG w' e1 l[i]→Calls Tryz.prog g (#[.agg e1.toArray]++ax) w' fun e w''=>e=.returned (.bool (p l[i]))∧ag w' w'') :
  Calls Tryz.prog 346 #[.slice A l.length cap,.func (.func g) #[] ax] w fun e w'=>e=.returned (.int .i64 (bu p l))∧ag w w':=by
 have hlen:=h.len;have HC:=gH hp;clear hp
 go_in
 go_wp2_with fail
 go_loopw [8] (fun i wr=>∃ k:Nat,k≤l.length∧i=.int .i64 k∧ag w wr∧∀ j,j < k→∀ (hj:j < l.length),p l[j]=false) (fun i _=>l.length - (intOf i).toNat)
 case atStart=>exact ⟨0,Nat.zero_le _,rfl,ag.refl _,fun j hj=>absurd hj (Nat.not_lt_zero j)⟩
 case round =>
  obtain ⟨k,hk,rfl,ha,hp⟩:=hrel;have HA:=gH ha;have HP:=gH hp;clear hp;by_cases hlt:k < l.length
  ·have dv:=fM ha h
   clear ha;obtain ⟨b,off,A2,bJ,rfl,hb,c0,c1,c2,c3,c4,c5,c6,c7,hs⟩:=mQ dv hlt;have HK:=gH (HC.out wr HA.out k hlt _ ⟨A2,bJ,rfl,hs⟩);clear dv;obtain ⟨q,hq⟩:∃ q,p l[k]=q:=⟨_,rfl⟩;rw [hq] at HK;have HQ:=gH hq;clear hq
   cases q
   ·go_wp2_with fail
    refine HK.out.mono ?_;rintro e w1 ⟨rfl,a1⟩;have dc:=gH (HA.out.trans a1);clear a1;go_wp2
    go_roundw
    case rel=>exact ⟨k+1,by omega,by go_num,dc.out,dG (p:=fun j=>∀ (hj:j < l.length),p l[j]=false) HP.out (fun _=>HQ.out)⟩
    case measure=>simp [intOf];omega
   ·go_wp2_with fail
    refine HK.out.mono ?_;rintro e w1 ⟨rfl,a1⟩;have dc:=gH (HA.out.trans a1);clear a1;go_wp2;go_ret;exact ⟨by rw [eU p l k hlt HQ.out (fun i hi=>HP.out i hi (by omega))];rfl,dc.out⟩
  ·clear ha
   go_wp2;go_ret;exact ⟨by rw [eT p l (fun i hi=>HP.out i (by omega) hi)];rfl,HA.out⟩
theorem zH (A:Option Addr) (cap:Nat) (l:List bW) (g:FuncId) (ax:Array Value) (p:bW→Bool) (w:World) (h:az w 5 dE A cap l) (cM:∀ (args:Array Value) (w:World),(callFunc g args).run Tryz.prog w=.ok (.enter g args) w)
  (hp:∀ w',ag w w'→∀ i (hi:i < l.length) (e1:List Value),dE w' e1 l[i]→Calls Tryz.prog g (#[.agg e1.toArray]++ax) w' fun e w''=>e=.returned (.bool (p l[i]))∧ag w' w'') :
  Calls Tryz.prog 185 #[.slice A l.length cap,.func (.func g) #[] ax] w fun e w'=>e=.returned (.int .i64 (bu p l))∧ag w w':=by
 have hlen:=h.len;have HC:=gH hp;clear hp
 go_in
 go_wp2_with fail
 go_loopw [8] (fun i wr=>∃ k:Nat,k≤l.length∧i=.int .i64 k∧ag w wr∧∀ j,j < k→∀ (hj:j < l.length),p l[j]=false) (fun i _=>l.length - (intOf i).toNat)
 case atStart=>exact ⟨0,Nat.zero_le _,rfl,ag.refl _,fun j hj=>absurd hj (Nat.not_lt_zero j)⟩
 case round =>
  obtain ⟨k,hk,rfl,ha,hp⟩:=hrel;have HA:=gH ha;have HP:=gH hp;clear hp;by_cases hlt:k < l.length
  ·have dv:=bC ha h
   clear ha;obtain ⟨b,off,A2,bJ,A3,fC,rfl,hb,c0,c1,c2,c3,c4,hs⟩:=iB dv hlt;have HK:=gH (HC.out wr HA.out k hlt _ ⟨A2,bJ,A3,fC,rfl,hs⟩);clear dv;obtain ⟨q,hq⟩:∃ q,p l[k]=q:=⟨_,rfl⟩;rw [hq] at HK;have HQ:=gH hq;clear hq
   cases q
   ·go_wp2_with fail
    refine HK.out.mono ?_;rintro e w1 ⟨rfl,a1⟩;have dc:=gH (HA.out.trans a1);clear a1;go_wp2
    go_roundw
    case rel=>exact ⟨k+1,by omega,by go_num,dc.out,dG (p:=fun j=>∀ (hj:j < l.length),p l[j]=false) HP.out (fun _=>HQ.out)⟩
    case measure=>simp [intOf];omega
   ·go_wp2_with fail
    refine HK.out.mono ?_;rintro e w1 ⟨rfl,a1⟩;have dc:=gH (HA.out.trans a1);clear a1;go_wp2;go_ret;exact ⟨by rw [eU p l k hlt HQ.out (fun i hi=>HP.out i hi (by omega))];rfl,dc.out⟩
  ·clear ha
   go_wp2;go_ret;exact ⟨by rw [eT p l (fun i hi=>HP.out i (by omega) hi)];rfl,HA.out⟩
theorem vx (A:Option Addr) (cap:Nat) (l:List fK) (g:FuncId) (ax:Array Value) (p:fK→Bool) (w:World) (h:az w 2 eE A cap l) (cM:∀ (args:Array Value) (w:World),(callFunc g args).run Tryz.prog w=.ok (.enter g args) w)
  (hp:∀ w',ag w w'→∀ i (hi:i < l.length),Calls Tryz.prog g (#[.agg #[.string l[i].name,.string l[i].owner]]++ax) w' fun e w''=>e=.returned (.bool (p l[i]))∧ag w' w'') :
  Calls Tryz.prog 110 #[.slice A l.length cap,.func (.func g) #[] ax] w fun e w'=>e=.returned (.int .i64 (bu p l))∧ag w w':=by
 have hlen:=h.len;have HC:=gH hp;clear hp
 go_in
 go_wp2_with fail
 go_loopw [8] (fun i wr=>∃ k:Nat,k≤l.length∧i=.int .i64 k∧ag w wr∧∀ j,j < k→∀ (hj:j < l.length),p l[j]=false) (fun i _=>l.length - (intOf i).toNat)
 case atStart=>exact ⟨0,Nat.zero_le _,rfl,ag.refl _,fun j hj=>absurd hj (Nat.not_lt_zero j)⟩
 case round =>
  obtain ⟨k,hk,rfl,ha,hp⟩:=hrel;have HA:=gH ha;have HP:=gH hp;clear hp;by_cases hlt:k < l.length
  ·have dv:=bQ ha h
   clear ha;obtain ⟨b,off,rfl,hb,c0,c1,hs,hs2⟩:=lh dv hlt;have HK:=gH (HC.out wr HA.out k hlt);clear dv;obtain ⟨q,hq⟩:∃ q,p l[k]=q:=⟨_,rfl⟩;rw [hq] at HK;have HQ:=gH hq;clear hq
   cases q
   ·go_wp2_with fail
    refine HK.out.mono ?_;rintro e w1 ⟨rfl,a1⟩;have dc:=gH (HA.out.trans a1);clear a1;go_wp2
    go_roundw
    case rel=>exact ⟨k+1,by omega,by go_num,dc.out,dG (p:=fun j=>∀ (hj:j < l.length),p l[j]=false) HP.out (fun _=>HQ.out)⟩
    case measure=>simp [intOf];omega
   ·go_wp2_with fail
    refine HK.out.mono ?_;rintro e w1 ⟨rfl,a1⟩;have dc:=gH (HA.out.trans a1);clear a1;go_wp2;go_ret;exact ⟨by rw [eU p l k hlt HQ.out (fun i hi=>HP.out i hi (by omega))];rfl,dc.out⟩
  ·clear ha
   go_wp2;go_ret;exact ⟨by rw [eT p l (fun i hi=>HP.out i (by omega) hi)];rfl,HA.out⟩
def bv (a b:ByteArray):Int:=Lib.compareBytes a.data.toList b.data.toList
theorem E9 (a b:ByteArray) (w:World) :
  Calls Tryz.prog 245 #[.string a,.string b] w fun e w'=>e=.returned (.int .i64 (bv a b))∧w=w':=by
 go_in
 go_wp2
 rw [run_callFunc_extern Tryz.func325 (by kernel_rfl) (by kernel_rfl) (by kernel_rfl) (e:=Extern.BytealgCompare.compare) (by kernel_rfl),Lib.run_compareString];simp only [Result.andThen];rw [Oper.upon_value]
 go_wp2
 go_ret;exact ⟨rfl,rfl⟩
theorem iu (a b:ByteArray) (w:World) :
  Calls Tryz.prog 182 #[.string a,.string b] w fun e w'=>e=.returned (.int .i64 (bv a b))∧w=w':=by
 go_in
 go_wp2_with (go_at_call 245;refine (E9 _ _ _).mono ?_;rintro e w' ⟨rfl,rfl⟩)
 go_ret;exact ⟨rfl,rfl⟩
theorem dW (a b:ByteArray) (w:World) :
  Calls Tryz.prog 182 #[.string a,.string b] w fun e w'=>e=.returned (.int .i64 (bv a b))∧w'=w:=(iu a b w).mono fun e w' ⟨h1,h2⟩=>⟨h1,h2.symm⟩
def iR (a b:Int):Int:=if a==0 then b else a
theorem I5 (a b:Int) (g:Nat) (w:World) (hg:g < w.heap.size) (h0:w.cell? ⟨g,0,none⟩=some (.int .i64 a)) (h1:w.cell? ⟨g,1,none⟩=some (.int .i64 b)) :
  Calls Tryz.prog 220 #[.slice (some ⟨g,0,none⟩) 2 2] w fun e w'=>e=.returned (.int .i64 (iR a b))∧ag w w':=by
 cases ha:(a != 0)
 ·have ha0:a=0:=by simpa using ha
  subst ha0;have HO:=gH (show iR 0 b=b by simp [iR]);clear ha
  cases hb:(b != 0)
  ·have hb0:b=0:=by simpa using hb
   subst hb0;clear hb
   go_in
   go_wp2_with fail
   go_loop [8] (fun i=>∃ k:Nat,k≤2∧i=.int .i64 k) (fun i=>2 - (intOf i).toNat)
   case atStart=>exact ⟨0,by omega,rfl⟩
   case round =>
    obtain ⟨k,hk,rfl⟩:=hrel
    have hk2:k=0∨k=1∨k=2:=by omega
    clear hk
    rcases hk2 with rfl | rfl | rfl
    ·go_wp2
     go_round
     case rel=>exact ⟨1,by omega,rfl⟩
     case measure=>simp [intOf]
    ·go_wp2
     go_round
     case rel=>exact ⟨2,by omega,rfl⟩
     case measure=>simp [intOf]
    ·go_wp2
     go_ret;exact ⟨by rw [HO.out];rfl,ag.refl _⟩
  ·go_in
   go_wp2_with fail
   go_loop [8] (fun i=>∃ k:Nat,k≤1∧i=.int .i64 k) (fun i=>2 - (intOf i).toNat)
   case atStart=>exact ⟨0,by omega,rfl⟩
   case round =>
    obtain ⟨k,hk,rfl⟩:=hrel
    have hk2:k=0∨k=1:=by omega
    clear hk
    rcases hk2 with rfl | rfl
    ·go_wp2
     go_round
     case rel=>exact ⟨1,by omega,rfl⟩
     case measure=>simp [intOf]
    ·go_wp2
     go_ret;exact ⟨by rw [HO.out];rfl,ag.refl _⟩
 ·have HO:=gH (show iR a b=a by have:¬ a=0:=(by simpa using ha);simp [iR,this])
  go_in
  go_wp2_with fail
  go_loop [8] (fun i=>i=.int .i64 0) (fun i=>2 - (intOf i).toNat)
  case atStart=>rfl
  case round =>
   subst hrel;go_wp2;go_ret;exact ⟨by rw [HO.out];rfl,ag.refl _⟩
theorem Fa (s1 n1 o1:ByteArray) (v1 v2:Value) (s2 n2 o2:ByteArray) (v3 v4:Value) (w:World) :
  Calls Tryz.prog 179 #[.agg #[.string s1,.string n1,.string o1,v1,v2],.agg #[.string s2,.string n2,.string o2,v3,v4]] w fun e w'=>e=.returned (.int .i64 (iR (bv s1 s2) (bv n1 n2)))∧ag w w':=by
 go_in
 go_wp2_with fail;refine lc 10 (by kernel_rfl) (by kernel_rfl) ?_;intro w1 a1;obtain ⟨hb1,hb2,hz,HA⟩:=i6 a1;clear a1;simp only [List.take_succ_cons,List.take_zero,List.drop_succ_cons,List.drop_zero]
 repeat still_step
 still_call (dW _ _ _)
 repeat still_step
 still_call (dW _ _ _)
 refine wpStill_nil ?_;go_wp2_with fail;refine (I5 (bv s1 s2) (bv n1 n2) w1.heap.size _ (by simp) (by simp) (by simp)).mono ?_;rintro e w2 ⟨rfl,a2⟩;have i5:=gH ((HA.out.alloc _).trans a2);clear a2;go_wp2;go_ret;exact ⟨rfl,i5.out⟩
def aM {α:Type} (c:α→α→Int):List α→Bool
 | []=>true
 | [_]=>true
 | x::y::l=>decide (c x y < 0)&&aM c (y::l)
theorem cL {α:Type} (c:α→α→Int) (l:List α):aM c l=true↔∀ k (h:k+1 < l.length),c (l[k]'(by omega)) l[k+1] < 0:=by
 induction l with
 | nil=>simp [aM]
 | cons x l ih =>
  cases l with
  | nil=>simp [aM]
  | cons y l =>
   rw [aM,Bool.and_eq_true,ih,decide_eq_true_eq]
   constructor
   ·rintro ⟨h1,h2⟩ k hk
    cases k with
    | zero=>exact h1
    | succ k=>exact h2 k (by simpa using hk)
   ·intro h
    exact ⟨h 0 (by simp),fun k hk=>h (k+1) (by simpa using hk)⟩
theorem iT {α:Type} (c:α→α→Int) (l:List α) (k:Nat) (h:k+1 < l.length) (hc:0≤c (l[k]'(by omega)) l[k+1]):aM c l=false:=by
 rw [Bool.eq_false_iff];intro hr;have:=(cL c l).1 hr k h;omega
theorem I6 (A:Option Addr) (cap:Nat) (l:List fK) (g:FuncId) (ax:Array Value) (c:fK→fK→Int) (w:World) (h:az w 2 eE A cap l) (cM:∀ (args:Array Value) (w:World),(callFunc g args).run Tryz.prog w=.ok (.enter g args) w)
  (hp:∀ w',ag w w'→∀ i (hi:i+1 < l.length),Calls Tryz.prog g (#[.agg #[.string (l[i]'(by omega)).name,.string (l[i]'(by omega)).owner],.agg #[.string l[i+1].name,.string l[i+1].owner]]++ax) w' fun e w''=>e=.returned (.int .i64 (c (l[i]'(by omega)) l[i+1]))∧ag w' w'') :
  Calls Tryz.prog 180 #[.slice A l.length cap,.func (.func g) #[] ax] w fun e w'=>e=.returned (.bool (aM c l))∧ag w w':=by
 have hlen:=h.len;have HC:=gH hp;clear hp;by_cases h2:l.length≤1
 ·have HT:=gH (show aM c l=true from (cL c l).2 fun k hk=>by omega)
  have qs:(l.length:Int)≤1:=by omega
  go_in
  go_wp2_with fail
  all_goals
   go_loop [10] (fun i=>i=.int .i64 0) (fun i=>2 - (intOf i).toNat)
   case atStart=>rfl
   case round =>
    subst hrel;go_wp2;go_ret;exact ⟨by rw [HT.out];rfl,ag.refl _⟩
 ·have Q2:2≤l.length:=by omega
  have qs:¬ (l.length:Int)≤1:=by omega
  have JW:(0:Int)≤(l.length:Int) - 1:=by omega
  go_in
  go_wp2_with fail
  go_loopw [10] (fun i wr=>∃ k:Nat,k≤l.length - 1∧i=.int .i64 k∧ag w wr∧∀ j,j < k→∀ (hj:j+1 < l.length),c (l[j]'(by omega)) l[j+1] < 0) (fun i _=>l.length - (intOf i).toNat)
  case atStart=>exact ⟨0,Nat.zero_le _,rfl,ag.refl _,fun j hj=>absurd hj (Nat.not_lt_zero j)⟩
  case round =>
   obtain ⟨k,hk,rfl,ha,hp⟩:=hrel;have HA:=gH ha;have HP:=gH hp;clear hp;by_cases hlt:k+1 < l.length
   ·have dv:=bQ ha h
    have mS:k < l.length:=by omega
    obtain ⟨b,off,rfl,hb,c0,c1,hs,hs2⟩:=lh dv mS;obtain ⟨b',off',hA',hb',d0,d1,hs',I7⟩:=lh dv hlt;simp only [Option.some.injEq,Addr.mk.injEq,and_true] at hA';obtain ⟨rfl,rfl⟩:=hA';obtain ⟨r,hr⟩:∃ r,c (l[k]'(by omega)) l[k+1]=r:=⟨_,rfl⟩;have Cc:=gH (show ∀ x:iM wr,_ from fun x=>hr▸HC.out (bV wr x) (HA.out.bV x) k hlt);have HR:=gH hr;clear ha dv hr;have w1:IntKind.i64.wrap ((k:Int)+1)=(k:Int)+1:=IntWalk.i64_in _ (by omega)
    have w2:(0:Int)≤(k:Int)+1:=by omega
    have w3:((k:Int)+1).toNat=k+1:=by omega
    have w4:(k:Int)+1 < (l.length:Int):=by omega
    by_cases Au:0≤r
    ·skip
     go_wp2_with fail;refine ay (by kernel_rfl) (by kernel_rfl) ?_
     repeat (go_big_quiet_step ((exact Calls.bk (Cc.out _))))
     refine wpQuiet_nil ?_;intro _ hw';obtain ⟨x,hw''⟩:=hw';subst hw'';clear w1 w2 w3 w4;go_wp2;go_ret;exact ⟨by rw [iT c l k hlt (by rw [HR.out];exact Au)];rfl,HA.out.bV x⟩
    ·have hr1:r < 0:=by omega
     go_wp2_with fail;refine ay (by kernel_rfl) (by kernel_rfl) ?_
     repeat (go_big_quiet_step ((exact Calls.bk (Cc.out _))))
     refine wpQuiet_nil ?_;intro _ hw';obtain ⟨x,hw''⟩:=hw';subst hw'';clear w1 w2 w3 w4;go_wp2
     go_roundw
     case rel=>exact ⟨k+1,by omega,by go_num,HA.out.bV x,dG (p:=fun j=>∀ (hj:j+1 < l.length),c (l[j]'(by omega)) l[j+1] < 0) HP.out (fun _=>by rw [HR.out];exact hr1)⟩
     case measure=>simp [intOf];omega
   ·have HT:=gH (show aM c l=true from (cL c l).2 fun j hj=>HP.out j (by omega) hj)
    have UM:¬ (k:Int) < (l.length:Int) - 1:=by omega
    clear ha;go_wp2;go_ret;exact ⟨by rw [HT.out];rfl,HA.out⟩
theorem I8 (A:Option Addr) (cap:Nat) (l:List fh) (g:FuncId) (ax:Array Value) (c:fh→fh→Int) (w:World) (h:az w 8 eG A cap l) (cM:∀ (args:Array Value) (w:World),(callFunc g args).run Tryz.prog w=.ok (.enter g args) w)
  (hp:∀ w',ag w w'→∀ i (hi:i+1 < l.length) (e1 e2:List Value),eG w' e1 (l[i]'(by omega))→eG w' e2 l[i+1]→Calls Tryz.prog g (#[.agg e1.toArray,.agg e2.toArray]++ax) w' fun e w''=>e=.returned (.int .i64 (c (l[i]'(by omega)) l[i+1]))∧ag w' w'') :
  Calls Tryz.prog 251 #[.slice A l.length cap,.func (.func g) #[] ax] w fun e w'=>e=.returned (.bool (aM c l))∧ag w w':=by
 have hlen:=h.len;have HC:=gH hp;clear hp;by_cases h2:l.length≤1
 ·have HT:=gH (show aM c l=true from (cL c l).2 fun k hk=>by omega)
  have qs:(l.length:Int)≤1:=by omega
  go_in
  go_wp2_with fail
  all_goals
   go_loop [10] (fun i=>i=.int .i64 0) (fun i=>2 - (intOf i).toNat)
   case atStart=>rfl
   case round =>
    subst hrel;go_wp2;go_ret;exact ⟨by rw [HT.out];rfl,ag.refl _⟩
 ·have Q2:2≤l.length:=by omega
  have qs:¬ (l.length:Int)≤1:=by omega
  have JW:(0:Int)≤(l.length:Int) - 1:=by omega
  go_in
  go_wp2_with fail
  go_loopw [10] (fun i wr=>∃ k:Nat,k≤l.length - 1∧i=.int .i64 k∧ag w wr∧∀ j,j < k→∀ (hj:j+1 < l.length),c (l[j]'(by omega)) l[j+1] < 0) (fun i _=>l.length - (intOf i).toNat)
  case atStart=>exact ⟨0,Nat.zero_le _,rfl,ag.refl _,fun j hj=>absurd hj (Nat.not_lt_zero j)⟩
  case round =>
   obtain ⟨k,hk,rfl,ha,hp⟩:=hrel;have HA:=gH ha;have HP:=gH hp;clear hp;by_cases hlt:k+1 < l.length
   ·have dv:=fM ha h
    have mS:k < l.length:=by omega
    obtain ⟨b,off,A2,bJ,rfl,hb,c0,c1,c2,c3,c4,c5,c6,c7,hs⟩:=mQ dv mS;obtain ⟨b',off',Ns,I9,hA',hb',d0,d1,d2,d3,d4,d5,d6,d7,hs'⟩:=mQ dv hlt;simp only [Option.some.injEq,Addr.mk.injEq,and_true] at hA';obtain ⟨rfl,rfl⟩:=hA';obtain ⟨r,hr⟩:∃ r,c (l[k]'(by omega)) l[k+1]=r:=⟨_,rfl⟩;have Cc:=gH (show ∀ x:iM wr,_ from fun x=>hr▸HC.out (bV wr x) (HA.out.bV x) k hlt _ _ (eG.aA ((ag.refl wr).bV x) ⟨A2,bJ,rfl,hs⟩) (eG.aA ((ag.refl wr).bV x) ⟨Ns,I9,rfl,hs'⟩));have HR:=gH hr;clear ha dv hr;have w1:IntKind.i64.wrap ((k:Int)+1)=(k:Int)+1:=IntWalk.i64_in _ (by omega)
    have w2:(0:Int)≤(k:Int)+1:=by omega
    have w3:((k:Int)+1).toNat=k+1:=by omega
    have w4:(k:Int)+1 < (l.length:Int):=by omega
    by_cases Au:0≤r
    ·skip
     go_wp2_with fail;refine ay (by kernel_rfl) (by kernel_rfl) ?_
     repeat (go_big_quiet_step ((exact Calls.bk (Cc.out _))))
     refine wpQuiet_nil ?_;intro _ hw';obtain ⟨x,hw''⟩:=hw';subst hw'';clear w1 w2 w3 w4;go_wp2;go_ret;exact ⟨by rw [iT c l k hlt (by rw [HR.out];exact Au)];rfl,HA.out.bV x⟩
    ·have hr1:r < 0:=by omega
     go_wp2_with fail;refine ay (by kernel_rfl) (by kernel_rfl) ?_
     repeat (go_big_quiet_step ((exact Calls.bk (Cc.out _))))
     refine wpQuiet_nil ?_;intro _ hw';obtain ⟨x,hw''⟩:=hw';subst hw'';clear w1 w2 w3 w4;go_wp2
     go_roundw
     case rel=>exact ⟨k+1,by omega,by go_num,HA.out.bV x,dG (p:=fun j=>∀ (hj:j+1 < l.length),c (l[j]'(by omega)) l[j+1] < 0) HP.out (fun _=>by rw [HR.out];exact hr1)⟩
     case measure=>simp [intOf];omega
   ·have HT:=gH (show aM c l=true from (cL c l).2 fun j hj=>HP.out j (by omega) hj)
    have UM:¬ (k:Int) < (l.length:Int) - 1:=by omega
    clear ha;go_wp2;go_ret;exact ⟨by rw [HT.out];rfl,HA.out⟩
theorem Ja (A:Option Addr) (cap:Nat) (l:List bW) (g:FuncId) (ax:Array Value) (c:bW→bW→Int) (w:World) (h:az w 5 dE A cap l) (cM:∀ (args:Array Value) (w:World),(callFunc g args).run Tryz.prog w=.ok (.enter g args) w)
  (hp:∀ w',ag w w'→∀ i (hi:i+1 < l.length) (e1 e2:List Value),dE w' e1 (l[i]'(by omega))→dE w' e2 l[i+1]→Calls Tryz.prog g (#[.agg e1.toArray,.agg e2.toArray]++ax) w' fun e w''=>e=.returned (.int .i64 (c (l[i]'(by omega)) l[i+1]))∧ag w' w'') :
  Calls Tryz.prog 178 #[.slice A l.length cap,.func (.func g) #[] ax] w fun e w'=>e=.returned (.bool (aM c l))∧ag w w':=by
 have hlen:=h.len;have HC:=gH hp;clear hp;by_cases h2:l.length≤1
 ·have HT:=gH (show aM c l=true from (cL c l).2 fun k hk=>by omega)
  have qs:(l.length:Int)≤1:=by omega
  go_in
  go_wp2_with fail
  all_goals
   go_loop [10] (fun i=>i=.int .i64 0) (fun i=>2 - (intOf i).toNat)
   case atStart=>rfl
   case round =>
    subst hrel;go_wp2;go_ret;exact ⟨by rw [HT.out];rfl,ag.refl _⟩
 ·have Q2:2≤l.length:=by omega
  have qs:¬ (l.length:Int)≤1:=by omega
  have JW:(0:Int)≤(l.length:Int) - 1:=by omega
  go_in
  go_wp2_with fail
  go_loopw [10] (fun i wr=>∃ k:Nat,k≤l.length - 1∧i=.int .i64 k∧ag w wr∧∀ j,j < k→∀ (hj:j+1 < l.length),c (l[j]'(by omega)) l[j+1] < 0) (fun i _=>l.length - (intOf i).toNat)
  case atStart=>exact ⟨0,Nat.zero_le _,rfl,ag.refl _,fun j hj=>absurd hj (Nat.not_lt_zero j)⟩
  case round =>
   obtain ⟨k,hk,rfl,ha,hp⟩:=hrel;have HA:=gH ha;have HP:=gH hp;clear hp;by_cases hlt:k+1 < l.length
   ·have dv:=bC ha h
    have mS:k < l.length:=by omega
    obtain ⟨b,off,A2,bJ,A3,fC,rfl,hb,c0,c1,c2,c3,c4,hs⟩:=iB dv mS;obtain ⟨b',off',Ns,I9,Kr,UN,hA',hb',d0,d1,d2,d3,d4,hs'⟩:=iB dv hlt;simp only [Option.some.injEq,Addr.mk.injEq,and_true] at hA';obtain ⟨rfl,rfl⟩:=hA';obtain ⟨r,hr⟩:∃ r,c (l[k]'(by omega)) l[k+1]=r:=⟨_,rfl⟩;have Cc:=gH (show ∀ x:iM wr,_ from fun x=>hr▸HC.out (bV wr x) (HA.out.bV x) k hlt _ _ (dE.aA ((ag.refl wr).bV x) ⟨A2,bJ,A3,fC,rfl,hs⟩) (dE.aA ((ag.refl wr).bV x) ⟨Ns,I9,Kr,UN,rfl,hs'⟩));have HR:=gH hr;clear ha dv hr;have w1:IntKind.i64.wrap ((k:Int)+1)=(k:Int)+1:=IntWalk.i64_in _ (by omega)
    have w2:(0:Int)≤(k:Int)+1:=by omega
    have w3:((k:Int)+1).toNat=k+1:=by omega
    have w4:(k:Int)+1 < (l.length:Int):=by omega
    by_cases Au:0≤r
    ·skip
     go_wp2_with fail;refine ay (by kernel_rfl) (by kernel_rfl) ?_
     repeat (go_big_quiet_step ((exact Calls.bk (Cc.out _))))
     refine wpQuiet_nil ?_;intro _ hw';obtain ⟨x,hw''⟩:=hw';subst hw'';clear w1 w2 w3 w4;go_wp2;go_ret;exact ⟨by rw [iT c l k hlt (by rw [HR.out];exact Au)];rfl,HA.out.bV x⟩
    ·have hr1:r < 0:=by omega
     go_wp2_with fail;refine ay (by kernel_rfl) (by kernel_rfl) ?_
     repeat (go_big_quiet_step ((exact Calls.bk (Cc.out _))))
     refine wpQuiet_nil ?_;intro _ hw';obtain ⟨x,hw''⟩:=hw';subst hw'';clear w1 w2 w3 w4;go_wp2
     go_roundw
     case rel=>exact ⟨k+1,by omega,by go_num,HA.out.bV x,dG (p:=fun j=>∀ (hj:j+1 < l.length),c (l[j]'(by omega)) l[j+1] < 0) HP.out (fun _=>by rw [HR.out];exact hr1)⟩
     case measure=>simp [intOf];omega
   ·have HT:=gH (show aM c l=true from (cL c l).2 fun j hj=>HP.out j (by omega) hj)
    have UM:¬ (k:Int) < (l.length:Int) - 1:=by omega
    clear ha;go_wp2;go_ret;exact ⟨by rw [HT.out];rfl,HA.out⟩
def pq {α:Type} (c:α→α→Int) (l:List α):Prop:=∀ k (h:k+1 < l.length),0≤c l[k+1] (l[k]'(by omega))
def NQ {α:Type} (c:α→α→Int) (l:List α) (w:World) (e:Ending) (w':World):Prop:=∃ b:Bool,e=.returned (.bool b)∧(b=true↔pq c l)∧ag w w'
theorem Mh (A:Option Addr) (cap:Nat) (l:List ByteArray) (g:FuncId) (ax:Array Value) (c:ByteArray→ByteArray→Int) (w:World) (h:az w 1 dC A cap l) (cM:∀ (args:Array Value) (w:World),(callFunc g args).run Tryz.prog w=.ok (.enter g args) w)
  (hp:∀ w',ag w w'→∀ i (hi:i+1 < l.length),Calls Tryz.prog g (#[.string l[i+1],.string (l[i]'(by omega))]++ax) w' fun e w''=>e=.returned (.int .i64 (c l[i+1] (l[i]'(by omega))))∧ag w' w'') :
  Calls Tryz.prog 349 #[.slice A l.length cap,.func (.func g) #[] ax] w (NQ c l w):=by
 have hlen:=h.len;have HC:=gH hp;clear hp;by_cases h2:l.length≤1
 ·have HT:=gH (show pq c l from fun k hk=>by omega)
  have qs:(l.length:Int)≤1:=by omega
  have JW:(l.length:Int) - 1≤0:=by omega
  have Ue:¬ (0:Int) < (l.length:Int) - 1:=by omega
  have Ov:IntKind.i64.wrap ((l.length:Int) - 1)=(l.length:Int) - 1:=IntWalk.i64_in _ (by omega)
  go_in
  go_wp2_with fail
  go_loop [5] (fun i=>i=.int .i64 ((l.length:Int) - 1)) (fun i=>2)
  case atStart=>rfl
  case round =>
   subst hrel;go_wp2;go_ret;exact ⟨true,rfl,⟨fun _=>HT.out,fun _=>rfl⟩,ag.refl _⟩
 ·have Q2:2≤l.length:=by omega
  have JW:(0:Int) < (l.length:Int) - 1:=by omega
  have Ov:IntKind.i64.wrap ((l.length:Int) - 1)=(l.length:Int) - 1:=IntWalk.i64_in _ (by omega)
  go_in
  go_wp2_with fail
  go_loopw [5] (fun i wr=>∃ k:Nat,k≤l.length - 1∧i=.int .i64 k∧ag w wr∧∀ j,k≤j→∀ (hj:j+1 < l.length),0≤c l[j+1] (l[j]'(by omega))) (fun i _=>(intOf i).toNat)
  case atStart=>exact ⟨l.length - 1,by omega,by congr 1;omega,ag.refl _,fun j hj h=>by omega⟩
  case round =>
   obtain ⟨k,hk,rfl,ha,hp⟩:=hrel;have HA:=gH ha;have HP:=gH hp;clear hp;by_cases h0:k=0
   ·subst h0
    have HT:=gH (show pq c l from fun j hj=>HP.out j (by omega) hj);clear ha;go_wp2;go_ret;exact ⟨true,rfl,⟨fun _=>HT.out,fun _=>rfl⟩,HA.out⟩
   ·obtain ⟨k,rfl⟩:∃ k',k=k'+1:=⟨k - 1,by omega⟩
    have hlt:k+1 < l.length:=by omega
    have dv:=aU ha h
    have mS:k < l.length:=by omega
    obtain ⟨b,off,rfl,hb,c0,hs⟩:=fB dv mS;obtain ⟨b',off',hA',hb',d0,hs'⟩:=fB dv hlt;simp only [Option.some.injEq,Addr.mk.injEq,and_true] at hA';obtain ⟨rfl,rfl⟩:=hA';obtain ⟨r,hr⟩:∃ r,c l[k+1] (l[k]'(by omega))=r:=⟨_,rfl⟩;have Cc:=gH (show ∀ x:iM wr,_ from fun x=>hr▸HC.out (bV wr x) (HA.out.bV x) k hlt);have HR:=gH hr;clear ha dv hr
    have w1:IntKind.i64.wrap (((k+1:Nat):Int) - 1)=(k:Int):=by rw [show ((k+1:Nat):Int) - 1=(k:Int) from by omega];exact IntWalk.i64_in _ (by omega)
    have w5:IntKind.i64.wrap ((k:Int)+1 - 1)=(k:Int):=by rw [show (k:Int)+1 - 1=(k:Int) from by omega];exact IntWalk.i64_in _ (by omega)
    have w2:(0:Int)≤(k:Int)+1:=by omega
    have w3:((k:Int)+1).toNat=k+1:=by omega
    have w4:(k:Int)+1 < (l.length:Int):=by omega
    have w6:(0:Int) < (k:Int)+1:=by omega
    by_cases Au:r < 0
    ·go_wp2_with fail
     refine ay (by kernel_rfl) (by kernel_rfl) ?_
     repeat (go_big_quiet_step ((exact Calls.bk (Cc.out _))))
     refine wpQuiet_nil ?_;intro _ hw';obtain ⟨x,hw''⟩:=hw';subst hw'';clear w1 w2 w3 w4 w5 w6;go_wp2;go_ret;exact ⟨false,rfl,⟨fun h=>Bool.noConfusion h,fun h=>absurd (h k hlt) (by rw [HR.out];omega)⟩,HA.out.bV x⟩
    ·go_wp2_with fail
     refine ay (by kernel_rfl) (by kernel_rfl) ?_
     repeat (go_big_quiet_step ((exact Calls.bk (Cc.out _))))
     refine wpQuiet_nil ?_;intro _ hw';obtain ⟨x,hw''⟩:=hw';subst hw'';go_wp2
     go_roundw
     case rel =>
      refine ⟨k,by omega,by first | rfl | go_num,HA.out.bV x,fun j hj qp=>?_⟩
      rcases Nat.lt_or_ge k j with h1 | h1
      ·exact HP.out j (by omega) qp
      ·have:j=k:=by omega
       subst this;rw [HR.out];omega
     case measure=>simp [intOf]
theorem Mi (A:Option Addr) (cap:Nat) (l:List dO) (g:FuncId) (ax:Array Value) (c:dO→dO→Int) (w:World) (h:az w 2 fg A cap l) (cM:∀ (args:Array Value) (w:World),(callFunc g args).run Tryz.prog w=.ok (.enter g args) w)
  (hp:∀ w',ag w w'→∀ i (hi:i+1 < l.length),Calls Tryz.prog g (#[.agg #[.string (l[i+1]).role,.string (l[i+1]).of],.agg #[.string (l[i]'(by omega)).role,.string (l[i]'(by omega)).of]]++ax) w' fun e w''=>e=.returned (.int .i64 (c l[i+1] (l[i]'(by omega))))∧ag w' w'') :
  Calls Tryz.prog 352 #[.slice A l.length cap,.func (.func g) #[] ax] w (NQ c l w):=by
 have hlen:=h.len;have HC:=gH hp;clear hp;by_cases h2:l.length≤1
 ·have HT:=gH (show pq c l from fun k hk=>by omega)
  have qs:(l.length:Int)≤1:=by omega
  have JW:(l.length:Int) - 1≤0:=by omega
  have Ue:¬ (0:Int) < (l.length:Int) - 1:=by omega
  have Ov:IntKind.i64.wrap ((l.length:Int) - 1)=(l.length:Int) - 1:=IntWalk.i64_in _ (by omega)
  go_in
  go_wp2_with fail
  go_loop [5] (fun i=>i=.int .i64 ((l.length:Int) - 1)) (fun i=>2)
  case atStart=>rfl
  case round =>
   subst hrel;go_wp2;go_ret;exact ⟨true,rfl,⟨fun _=>HT.out,fun _=>rfl⟩,ag.refl _⟩
 ·have Q2:2≤l.length:=by omega
  have JW:(0:Int) < (l.length:Int) - 1:=by omega
  have Ov:IntKind.i64.wrap ((l.length:Int) - 1)=(l.length:Int) - 1:=IntWalk.i64_in _ (by omega)
  go_in
  go_wp2_with fail
  go_loopw [5] (fun i wr=>∃ k:Nat,k≤l.length - 1∧i=.int .i64 k∧ag w wr∧∀ j,k≤j→∀ (hj:j+1 < l.length),0≤c l[j+1] (l[j]'(by omega))) (fun i _=>(intOf i).toNat)
  case atStart=>exact ⟨l.length - 1,by omega,by congr 1;omega,ag.refl _,fun j hj h=>by omega⟩
  case round =>
   obtain ⟨k,hk,rfl,ha,hp⟩:=hrel;have HA:=gH ha;have HP:=gH hp;clear hp;by_cases h0:k=0
   ·subst h0
    have HT:=gH (show pq c l from fun j hj=>HP.out j (by omega) hj);clear ha;go_wp2;go_ret;exact ⟨true,rfl,⟨fun _=>HT.out,fun _=>rfl⟩,HA.out⟩
   ·obtain ⟨k,rfl⟩:∃ k',k=k'+1:=⟨k - 1,by omega⟩
    have hlt:k+1 < l.length:=by omega
    have dv:=df ha h
    have mS:k < l.length:=by omega
    obtain ⟨b,off,rfl,hb,c0,c1,hs,hs2⟩:=lO dv mS;obtain ⟨b',off',hA',hb',d0,d1,hs',I7⟩:=lO dv hlt;simp only [Option.some.injEq,Addr.mk.injEq,and_true] at hA';obtain ⟨rfl,rfl⟩:=hA';obtain ⟨r,hr⟩:∃ r,c l[k+1] (l[k]'(by omega))=r:=⟨_,rfl⟩;have Cc:=gH (show ∀ x:iM wr,_ from fun x=>hr▸HC.out (bV wr x) (HA.out.bV x) k hlt);have HR:=gH hr;clear ha dv hr
    have w1:IntKind.i64.wrap (((k+1:Nat):Int) - 1)=(k:Int):=by rw [show ((k+1:Nat):Int) - 1=(k:Int) from by omega];exact IntWalk.i64_in _ (by omega)
    have w5:IntKind.i64.wrap ((k:Int)+1 - 1)=(k:Int):=by rw [show (k:Int)+1 - 1=(k:Int) from by omega];exact IntWalk.i64_in _ (by omega)
    have w2:(0:Int)≤(k:Int)+1:=by omega
    have w3:((k:Int)+1).toNat=k+1:=by omega
    have w4:(k:Int)+1 < (l.length:Int):=by omega
    have w6:(0:Int) < (k:Int)+1:=by omega
    by_cases Au:r < 0
    ·go_wp2_with fail
     refine ay (by kernel_rfl) (by kernel_rfl) ?_
     repeat (go_big_quiet_step ((exact Calls.bk (Cc.out _))))
     refine wpQuiet_nil ?_;intro _ hw';obtain ⟨x,hw''⟩:=hw';subst hw'';clear w1 w2 w3 w4 w5 w6;go_wp2;go_ret;exact ⟨false,rfl,⟨fun h=>Bool.noConfusion h,fun h=>absurd (h k hlt) (by rw [HR.out];omega)⟩,HA.out.bV x⟩
    ·go_wp2_with fail
     refine ay (by kernel_rfl) (by kernel_rfl) ?_
     repeat (go_big_quiet_step ((exact Calls.bk (Cc.out _))))
     refine wpQuiet_nil ?_;intro _ hw';obtain ⟨x,hw''⟩:=hw';subst hw'';go_wp2
     go_roundw
     case rel =>
      refine ⟨k,by omega,by first | rfl | go_num,HA.out.bV x,fun j hj qp=>?_⟩
      rcases Nat.lt_or_ge k j with h1 | h1
      ·exact HP.out j (by omega) qp
      ·have:j=k:=by omega
       subst this;rw [HR.out];omega
     case measure=>simp [intOf]
def gQ (a b:dO):Int:=iR (bv a.role b.role) (bv a.of b.of)
theorem Qh (a b:dO) (w:World) :
  Calls Tryz.prog 273 #[.agg #[.string a.role,.string a.of],.agg #[.string b.role,.string b.of]] w fun e w'=>e=.returned (.int .i64 (gQ a b))∧ag w w':=by
 go_in
 go_wp2_with fail;refine lc 10 (by kernel_rfl) (by kernel_rfl) ?_;intro w1 a1;obtain ⟨hb1,hb2,hz,HA⟩:=i6 a1;clear a1;simp only [List.take_succ_cons,List.take_zero,List.drop_succ_cons,List.drop_zero]
 repeat still_step
 still_call (dW _ _ _)
 repeat still_step
 still_call (dW _ _ _)
 refine wpStill_nil ?_;go_wp2_with fail;refine (I5 (bv a.role b.role) (bv a.of b.of) w1.heap.size _ (by simp) (by simp) (by simp)).mono ?_;rintro e w2 ⟨rfl,a2⟩;have i5:=gH ((HA.out.alloc _).trans a2);clear a2;go_wp2;go_ret;exact ⟨rfl,i5.out⟩
end Go.Proofs.YtakddkhipelmjaaGreat
