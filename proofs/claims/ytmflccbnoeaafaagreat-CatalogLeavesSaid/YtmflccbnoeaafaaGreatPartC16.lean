import Derived.Test.YtmflccbnoeaafaaGreatPartC15
namespace Go.Proofs.YtmflccbnoeaafaaGreat
open Go.RowKit Go.Deep Go.Sort
set_option maxRecDepth 100000
set_option linter.unusedVariables false
set_option maxHeartbeats 64000000
theorem tA {w:World} {B size n:Nat} {e:TypeId} {v:Value} {xs:List Value} (h:w.ownsRow B e size v n xs):∀ A n c,v=.slice A n c→c≤9223372036854775807:=by
 intro A n c hv
 rcases h.2 with ⟨rfl,_⟩ | ⟨g,cap,cur,rfl,_,_,_,hcm,_⟩
 ·simp only [Value.slice.injEq] at hv;omega
 ·simp only [Value.slice.injEq] at hv
  have:cap≤maxLen:=hcm;unfold maxLen at this;omega
theorem wN {name owner:ByteArray} {o:bE}:(dp name owner o).2≠0→(dp name owner o).1=cx:=by
 unfold dp
 split
 ·exact fun _=>rfl
 ·split
  ·exact fun _=>rfl
  ·split
   ·exact fun _=>rfl
   ·exact fun h=>absurd rfl h
theorem uy {name:ByteArray} {o:bE}:(cP name o).2≠0→(cP name o).1=cx:=by
 unfold cP
 split
 ·exact fun _=>rfl
 ·split
  ·exact fun _=>rfl
  ·exact fun h=>absurd rfl h
theorem yP (name:ByteArray) (o:bE) (w:World) (hs ht:Hd) (L:List ay) (B n3 bn:Nat) (uV:B≤n3) (hL:L.map ay.t=o.tables) (ob:bC w B hs ht o.ae L) (hne:∀ g∈hs.blk++(ht.blk++L.flatMap ay.bI),g≠n3)
  (r3:ap w n3 [.slice hs.a o.ae.length hs.c,.slice ht.a o.tables.length ht.c]) (hc1:w.cell? ⟨bn,0,none⟩=some (.string name)) (sm:kA o) :
  Calls Tryz.prog 154 (#[.pointer (some ⟨n3,0,none⟩)]++#[.pointer (some ⟨bn,0,none⟩)]) w (xI w B n3 (cP name o)):=by
 show Calls Tryz.prog 154 #[.pointer (some ⟨n3,0,none⟩),.pointer (some ⟨bn,0,none⟩)] w (xI w B n3 (cP name o))
 have pD:fL o.ae L=o:=by unfold fL;rw [hL]
 have bS:aL w 2 fk hs.a hs.c o.ae:=ob.Ld (by rw [pD];exact sm)
 have bB:aL w 5 dA ht.a ht.c o.tables:=by have:=ob.tabs (by rw [pD];exact sm);rw [hL] at this;exact this
 have hlen:=bS.len;have z1:bn < w.heap.size:=World.block_lt_of_cell? _ _ hc1;have x0:=r3.cell (j:=0) rfl;have x1:=r3.cell (j:=1) rfl;have xz:=r3.1;obtain ⟨i,hi⟩:∃ i,cE o.ae name=i:=⟨_,rfl⟩;obtain ⟨m,hm⟩:∃ m,within o.tables name=m:=⟨_,rfl⟩
 have ye : -1≤i∧i < o.ae.length:=by rw [← hi];exact bg _ _
 have CB:=gH (show ∀ x:ii w,Calls Tryz.prog 123 #[.slice hs.a o.ae.length hs.c,.string name,.func (.func 124) #[] #[]] (bH w x) fun e w''=>e=.returned (.int .i64 i)∧ag (bH w x) w'' from
  fun x=>(Dp hs.a hs.c o.ae name _ (bm ((ag.refl w).bH x) bS)).mono fun e w'' ⟨he,hw⟩=>⟨he.trans (by rw [← hi];rfl),hw⟩)
 have CW:=gH (show ∀ W,ag w W→∀ x:ii W,Calls Tryz.prog 84 #[.agg #[.slice hs.a o.ae.length hs.c,.slice ht.a o.tables.length ht.c],.string name] (bH W x) fun e w''=>e=.returned (.int .i64 m)∧ag (bH W x) w'' from
  fun W a x=>(oH _ ht.a ht.c o.tables name _ (aQ (a.bH x) bB)).mono fun e w'' ⟨he,hw⟩=>⟨he.trans (by rw [← hm]),hw⟩)
 have HE:=gH (show cP name o=if i < 0 then (cx,61) else if 0 < m then (cx,62) else (⟨o.ae.eraseIdx i.toNat,o.tables⟩,0) by unfold cP;rw [hi,hm]);have lB:=gH ob;have ny:=gH r3;have Gu:=gH hne;have HL:=gH hL;have Oz:=gH (show hs.v=.slice hs.a o.ae.length hs.c from bL ob.gQ);have vk:=gH (show ∀ w',ag w w'→∀ c:Int,c≠0→xI w B n3 (cx,c) (.returned (.int .i64 c)) w' from fun w' a c hc=>⟨rfl,Kb.aH a,fun h=>absurd h hc⟩);clear ob r3 hne hL pD hi bS bB hm sm
 go_enter Tryz.func154,Tryz.ntmps154
 go_wp2_with fail;refine av (by kernel_rfl) (by kernel_rfl) ?_
 repeat (go_big_quiet_step ((go_at_call 123;exact Calls.bD (CB.out _))))
 refine wpQuiet_nil ?_;intro _ hw';obtain ⟨x,hw''⟩:=hw';subst hw'';obtain ⟨W,hW⟩:∃ W,W=bH w x:=⟨_,rfl⟩
 have aW:ag w W:=by rw [hW];exact (ag.refl w).bH x
 rw [← hW];have x0:=aW.cell_kept x0;have x1:=aW.cell_kept x1;have hc1:=aW.cell_kept hc1;have xz:=Nat.lt_of_lt_of_le xz aW.size;have z1:=Nat.lt_of_lt_of_le z1 aW.size;have br:=gH aW;have OL:=gH (CW.out W aW);clear hW aW CB CW;by_cases h0:i < 0
 ·go_wp2_with fail
  go_ret;rw [HE.out];simp only [if_pos h0];exact vk.out _ br.out 61 (by decide)
 have E4:=gH h0;by_cases Rb:0 < m
 ·have hd:(0:Int) < (m:Int):=by omega
  have HM:=gH Rb;go_wp2_with fail;refine av (by kernel_rfl) (by kernel_rfl) ?_
  repeat (go_big_quiet_step ((go_at_call 84;exact Calls.bD (OL.out _))))
  refine wpQuiet_nil ?_;intro _ hw';obtain ⟨x,hw''⟩:=hw';subst hw'';go_wp2_with fail;go_ret;rw [HE.out];simp only [if_neg (show ¬ i < 0 by have:=E4.out;omega),if_pos (show 0 < m by have:=HM.out;omega)];exact vk.out _ (br.out.bH x) 62 (by decide)
 have hd:¬ (0:Int) < (m:Int):=by omega
 have HM:=gH Rb;clear Rb;go_wp2_with fail;refine av (by kernel_rfl) (by kernel_rfl) ?_
 repeat (go_big_quiet_step ((go_at_call 84;exact Calls.bD (OL.out _))))
 refine wpQuiet_nil ?_;intro _ hw';obtain ⟨x,hw''⟩:=hw';subst hw'';obtain ⟨V,hV⟩:∃ V,V=bH W x:=⟨_,rfl⟩
 have aV:ag W V:=by rw [hV];exact (ag.refl W).bH x
 rw [← hV];have x0:=aV.cell_kept x0;have x1:=aV.cell_kept x1;have xz:=Nat.lt_of_lt_of_le xz aV.size;have lC:=gH (br.out.trans aV);clear hV aV OL;obtain ⟨p,hp⟩:∃ p:Nat,i=p:=⟨i.toNat,by omega⟩;subst hp
 have hpl:p < o.ae.length:=by omega
 have r2:=lB.out.az lC.out;obtain ⟨g,cap,hv,se,mo,hrow⟩:=aR r2.gQ (by omega);obtain ⟨k,hk⟩:∃ k,o.ae.length=p+1+k:=⟨o.ae.length - p - 1,by omega⟩
 have o2:V.ownsRow B 61 2 (.slice (some ⟨g,0,none⟩) (p+1+k) cap) (p+1+k) (o.ae.flatMap iJ):=by
  have:=r2.gQ;rw [hv,hk] at this;exact this
 have oo:cap≤9223372036854775807:=tA r2.gQ _ _ _ hv;have CD:=gH (OO g cap p k B (o.ae.flatMap iJ) V o2 (eO yL _) oo)
 have Br:Value.slice hs.a o.ae.length hs.c=.slice (some ⟨g,0,none⟩) (p+1+k) cap:=by rw [← Oz.out,hv,hk]
 have kR:=ny.out.az lC.out;have uA:g∈hs.blk:=Hd.au.2 (by rw [hv];rfl);have hgb:g≠n3:=Gu.out g (List.mem_append.2 (.inl uA));rw [Br] at x0
 have K2:=gH (show ∀ w3,Kb (fun j=>j=g) V w3→w3.ownsRow B 61 2 (.slice (some ⟨g,0,none⟩) (p+k) cap) (p+k) ((o.ae.flatMap iJ).take (p*2)++(o.ae.flatMap iJ).drop ((p+1)*2))→(w3.cell? ⟨n3,0,none⟩=some (.slice (some ⟨g,0,none⟩) (p+1+k) cap)∧w3.frozen? ⟨n3,0,none⟩=false∧n3 < w3.heap.size∧Hid (xI w B n3 (cP name o) (.returned (.int .i64 0)) (w3.setCell ⟨n3,0,none⟩ (.slice (some ⟨g,0,none⟩) (p+k) cap)))) from fun w3 kb o3=>by
  have jv:=kb.row kR (fun e=>hgb e.symm);rw [Br] at jv
  have e1:(o.ae.eraseIdx p).length=p+k:=by rw [List.length_eraseIdx_of_lt (by omega)];omega
  have S4:w3.ownsRow B 61 2 (Hd.mk (some ⟨g,0,none⟩) (p+k) cap).v (o.ae.eraseIdx p).length ((o.ae.eraseIdx p).flatMap iJ):=by
   rw [e1,← fS (size:=2) (fun _=>rfl)];exact o3
  have ks:=Kb.set w3 n3 0 (.slice (some ⟨g,0,none⟩) (p+k) cap);refine ⟨jv.cell (j:=0) rfl,jv.2.2 0 (by simp),jv.1,gH ?_⟩;rw [HE.out];simp only [if_neg (show ¬ (p:Int) < 0 by omega),if_neg (show ¬ 0 < m by have:=HM.out;omega),Int.toNat_natCast]
  have S5:=r2.Hz kb (h':=⟨some ⟨g,0,none⟩,p+k,cap⟩) (fun j hj e=>by
   have e:j=g:=e
   exact bp r2.nd uA (by rw [← e];exact hj)) S4 (fun j hj=>by
   rw [cM,List.mem_singleton] at hj;have hj:j=g:=hj
   exact .inl (by rw [hj];exact uA))
  refine ⟨rfl,((Kb.aH lC.out).trans (kb.mono fun j _ e=>by have e:j=g:=e;omega)).trans (ks.mono fun j _ e=>by have e:j=n3:=e;omega),fun _=>⟨⟨some ⟨g,0,none⟩,p+k,cap⟩,ht,L,HL.out,S5.kb ks (fun j hj e=>?_),?_⟩⟩
  ·have e:j=n3:=e
   rcases List.mem_append.1 hj with h1 | h1
   ·rw [cM,List.mem_singleton] at h1
    have h1:j=g:=h1;exact hgb (by rw [← h1,e])
   ·exact Gu.out j (List.mem_append.2 (.inr h1)) e
  ·have h6:=jv.set 0 (.slice (some ⟨g,0,none⟩) (p+k) cap) (by simp)
   rw [e1]
   exact h6)
 clear r2 hv hrow o2 Br kR hk hgb uA h0 mo se;go_wp2_with fail;refine CD.out.mono ?_;rintro e w3 ⟨rfl,o3,kb⟩;obtain ⟨y0,yf,yz,HP⟩:=K2.out w3 kb o3;clear o3 kb;go_wp2_with fail;go_ret;exact HP.out
theorem wO (o:bE) (As:Option Addr) (ar:Nat) (At:Option Addr) (ax:Nat) (name owner:ByteArray) (w:World) (bS:aL w 2 fk As ar o.ae) (bB:aL w 5 dA At ax o.tables) (hs1:Small name.size) (hs2:Small owner.size) :
  Calls Tryz.prog 101 #[.agg #[.slice As o.ae.length ar,.slice At o.tables.length ax],.string name,.string owner] w (ix w (cR o (dp name owner o))):=by
 have hlen:=bS.len;have fl:=bB.len;have sm:kA o:=⟨iy bS,iz bB⟩;have bR:=enters (P:=Tryz.prog) Tryz.func151 (by kernel_rfl) rfl
 have l1:w.heap.size < w.heap.size+1:=by omega
 have l2:w.heap.size < w.heap.size+1+1:=by omega
 have l3:w.heap.size < w.heap.size+1+1+1:=by omega
 obtain ⟨W,hW⟩:∃ W,W=(((w.alloc (.cells #[.slice As o.ae.length ar,.slice At o.tables.length ax] 25)).alloc (.cells #[.string name] 9)).alloc (.cells #[.string owner] 9)).alloc (.cells #[.slice none 0 0,.slice none 0 0] 25):=⟨_,rfl⟩
 have aW:ag w W:=by rw [hW];exact ((((ag.refl w).alloc _).alloc _).alloc _).alloc _
 have yQ:ap W (w.heap.size+1) [.string name]:=by
  rw [hW];have:=(aO (w:=(w.alloc (.cells #[.slice As o.ae.length ar,.slice At o.tables.length ax] 25))) (c:=[.string name]) (t:=9) (ag.refl _)).az (((ag.refl _).alloc (.cells #[.string owner] 9)).alloc (.cells #[.slice none 0 0,.slice none 0 0] 25))
  simpa using this
 have Nw:ap W (w.heap.size+1+1) [.string owner]:=by
  rw [hW];have:=(aO (w:=((w.alloc (.cells #[.slice As o.ae.length ar,.slice At o.tables.length ax] 25)).alloc (.cells #[.string name] 9))) (c:=[.string owner]) (t:=9) (ag.refl _)).az ((ag.refl _).alloc (.cells #[.slice none 0 0,.slice none 0 0] 25))
  simpa using this
 have r2:ap W (w.heap.size+1+1+1) [.slice none 0 0,.slice none 0 0]:=by
  rw [hW];have:=(aO (w:=(((w.alloc (.cells #[.slice As o.ae.length ar,.slice At o.tables.length ax] 25)).alloc (.cells #[.string name] 9)).alloc (.cells #[.string owner] 9))) (c:=[.slice none 0 0,.slice none 0 0]) (t:=25) (ag.refl _))
  simpa using this
 have zW:W.heap.size=w.heap.size+4:=by rw [hW];simp
 have CT:=gH (jY o As ar At ax 151 #[.pointer (some ⟨w.heap.size+1,0,none⟩),.pointer (some ⟨w.heap.size+1+1,0,none⟩)] (dp name owner o) W (bm aW bS) (aQ aW bB) bR
  wN (fun gA w1 hs ht L B n3 a hB hn hL ob hne r3=>Bl name owner o w1 hs ht L B n3 (w.heap.size+1) (w.heap.size+1+1) gA hn hL ob hne r3 ((yQ.az a).cell (j:=0) rfl) ((Nw.az a).cell (j:=0) rfl) (by omega) (by omega) sm hs1 hs2))
 obtain ⟨rr,jz⟩:∃ rr,cR o (dp name owner o)=rr:=⟨_,rfl⟩;rw [jz] at CT ⊢;have br:=gH aW;have mB:=gH r2;have HZ:=gH zW;clear jz bS bB r2 aW zW yQ Nw sm
 go_enter Tryz.func101,Tryz.ntmps101
 go_wp2_with fail;rw [← hW];clear hW;refine CT.out.mono ?_;rintro e w3 ⟨hs,ht,L,hL,rfl,a3,ob⟩;have b2:=mB.out.az a3;have d0:=b2.cell (j:=0) rfl;have d1:=b2.cell (j:=1) rfl;have f0:=b2.2.2 0 (by simp);have f1:=b2.2.2 1 (by simp);have z2:=b2.1;have mq:=gH b2;have iw:=gH (br.out.trans a3);have HO:=gH ob;have HL:=gH hL;clear b2 a3 ob hL;go_wp2_with fail;refine bodyPost_ret (results_cell_tmp (v:=.agg #[.slice hs.a rr.1.ae.length hs.c,.slice ht.a rr.1.tables.length ht.c]) rfl _ rfl (b9 (gU mq.out rfl _ _))) rfl ?_;exact gV iw.out HL.out HO.out (by omega) (by have:=HZ.out;omega) rfl
theorem uB (o:bE) (As:Option Addr) (ar:Nat) (At:Option Addr) (ax:Nat) (name:ByteArray) (w:World) (bS:aL w 2 fk As ar o.ae) (bB:aL w 5 dA At ax o.tables) :
  Calls Tryz.prog 102 #[.agg #[.slice As o.ae.length ar,.slice At o.tables.length ax],.string name] w (ix w (cR o (cP name o))):=by
 have hlen:=bS.len;have fl:=bB.len;have sm:kA o:=⟨iy bS,iz bB⟩;have bR:=enters (P:=Tryz.prog) Tryz.func154 (by kernel_rfl) rfl
 have l1:w.heap.size < w.heap.size+1:=by omega
 have l2:w.heap.size < w.heap.size+1+1:=by omega
 obtain ⟨W,hW⟩:∃ W,W=((w.alloc (.cells #[.slice As o.ae.length ar,.slice At o.tables.length ax] 25)).alloc (.cells #[.string name] 9)).alloc (.cells #[.slice none 0 0,.slice none 0 0] 25):=⟨_,rfl⟩
 have aW:ag w W:=by rw [hW];exact (((ag.refl w).alloc _).alloc _).alloc _
 have yQ:ap W (w.heap.size+1) [.string name]:=by
  rw [hW];have:=(aO (w:=(w.alloc (.cells #[.slice As o.ae.length ar,.slice At o.tables.length ax] 25))) (c:=[.string name]) (t:=9) (ag.refl _)).az ((ag.refl _).alloc (.cells #[.slice none 0 0,.slice none 0 0] 25))
  simpa using this
 have r2:ap W (w.heap.size+1+1) [.slice none 0 0,.slice none 0 0]:=by
  rw [hW];have:=(aO (w:=((w.alloc (.cells #[.slice As o.ae.length ar,.slice At o.tables.length ax] 25)).alloc (.cells #[.string name] 9))) (c:=[.slice none 0 0,.slice none 0 0]) (t:=25) (ag.refl _))
  simpa using this
 have zW:W.heap.size=w.heap.size+3:=by rw [hW];simp
 have CT:=gH (jY o As ar At ax 154 #[.pointer (some ⟨w.heap.size+1,0,none⟩)] (cP name o) W (bm aW bS) (aQ aW bB) bR
  uy (fun gA w1 hs ht L B n3 a hB hn hL ob hne r3=>yP name o w1 hs ht L B n3 (w.heap.size+1) hn hL ob hne r3 ((yQ.az a).cell (j:=0) rfl) sm))
 obtain ⟨rr,jz⟩:∃ rr,cR o (cP name o)=rr:=⟨_,rfl⟩;rw [jz] at CT ⊢;have br:=gH aW;have mB:=gH r2;have HZ:=gH zW;clear jz bS bB r2 aW zW yQ sm
 go_enter Tryz.func102,Tryz.ntmps102
 go_wp2_with fail;rw [← hW];clear hW;refine CT.out.mono ?_;rintro e w3 ⟨hs,ht,L,hL,rfl,a3,ob⟩;have b2:=mB.out.az a3;have d0:=b2.cell (j:=0) rfl;have d1:=b2.cell (j:=1) rfl;have f0:=b2.2.2 0 (by simp);have f1:=b2.2.2 1 (by simp);have z2:=b2.1;have mq:=gH b2;have iw:=gH (br.out.trans a3);have HO:=gH ob;have HL:=gH hL;clear b2 a3 ob hL;go_wp2_with fail;refine bodyPost_ret (results_cell_tmp (v:=.agg #[.slice hs.a rr.1.ae.length hs.c,.slice ht.a rr.1.tables.length ht.c]) rfl _ rfl (b9 (gU mq.out rfl _ _))) rfl ?_;exact gV iw.out HL.out HO.out (by omega) (by have:=HZ.out;omega) rfl
end Go.Proofs.YtmflccbnoeaafaaGreat
namespace Go.Proofs.YtmflccbnoeaafaaGreat
open Go.RowKit Go.Deep Go.Shelf
set_option maxRecDepth 100000
set_option linter.unusedVariables false
set_option maxHeartbeats 64000000
theorem rK (o0 o1:Value) (s n:ByteArray) (w:World) :
  Calls Tryz.prog 131 #[.agg #[o0,o1],.string s,.string n] w fun e w'=>e=.returned (.func (.func 197) #[] #[.pointer (some ⟨w.heap.size,0,none⟩),.pointer (some ⟨w.heap.size+1,0,none⟩),.pointer (some ⟨w.heap.size+1+1,0,none⟩)])∧w'=((w.alloc (.cells #[o0,o1] 25)).alloc (.cells #[.string s] 9)).alloc (.cells #[.string n] 9):=by
 go_enter Tryz.func131,Tryz.ntmps131
 go_wp2_with fail;go_ret;exact ⟨rfl,rfl⟩
theorem oq (m:Nat) (hm:1≤m) (ts:List cu) (At:Option Addr) (ct:Nat) (s n:ByteArray) (bo bs bt:Nat) (X:World) (bB:aL X 5 dA At ct ts) (c0:X.cell? ⟨bo,1,none⟩=some (.slice At ts.length ct)) (c1:X.cell? ⟨bs,0,none⟩=some (.string s)) (c2:X.cell? ⟨bt,0,none⟩=some (.string n)) :
  SeqStopsK Fence.wide m Tryz.prog 197 #[.pointer (some ⟨bo,0,none⟩),.pointer (some ⟨bs,0,none⟩),.pointer (some ⟨bt,0,none⟩)] FP.enc (fun W W'=>Kc W W'∧Below X.heap.size W W') (fun xs=>xs.map FP.key=gW s n ts) (fun pre=>pre.map FP.key <+: gW s n ts) (gW s n ts).length X:=fun l J Jx W hW hJ hJx hY h0 =>
 yO m hm ts (.slice At ts.length ct) At ct s n bo bs bt l X W hW bB (World.block_lt_of_cell? _ _ c0) (World.block_lt_of_cell? _ _ c1) (World.block_lt_of_cell? _ _ c2) c0 c1 c2 J Jx hJ hY h0
def iN (s n:ByteArray) (t:cu):Bool:=bk t.aa s&&bk t.name n
def tB (o:bE) (s n:ByteArray):Bool:=(gW s n o.tables).any fun p=>!iN s n p.1
def cv (s n:ByteArray) (o:bE):bE × Int :=
 if bj o.tables s n < 0 then (cx,61) else if tB o s n then (cx,62) else (⟨o.ae,o.tables.eraseIdx (bj o.tables s n).toNat⟩,0)
theorem vp {W:World} {b:Nat} {v:Int} (h:W.cell? ⟨b,0,none⟩=some (.int .i64 v)):(loadVar 43 ⟨b,0,none⟩).run Tryz.prog W=.ok (.int .i64 v) W:=by
 go_simp
theorem Kb.put {W:World} {D:Nat} {o:Obj}:Kb (fun g=>g=D) W (W.putObj D o) :=
 ⟨rfl,rfl,rfl,by simp [World.putObj],fun k hk hn=>World.putObj_heap_other hn⟩
theorem lM {B X:Nat} {β:Type} {P:Nat→Prop} {w:World} (hX:w.heap.size≤X):OwnFrom X (fun (_:β) W=>Kb P w W):=fun s W W' row h hg hr =>
 ⟨hg.os.trans h.os,hg.tape.trans h.tape,hg.output.trans h.output,Nat.le_trans h.size hg.size,fun k hk hn=>(hg.block k (Nat.lt_of_lt_of_le hk h.size) (fun e=>by have:=(hr k e.symm).1;omega)).trans (h.block k hk hn)⟩
theorem pR {β:Type} {X b o:Nat} {v:Value} (hb:b < X):OwnFrom X (fun (_:β) W=>W.cell? ⟨b,o,none⟩=some v):=fun s W W' row h hg hr=>by
 have hlt:=World.block_lt_of_cell? _ _ h;have:=hg.block b hlt (fun e=>by have:=(hr b e.symm).1;omega)
 show W'.cell? ⟨b,o,none⟩=some v
 have h2:W.cell? ⟨b,o,none⟩=some v:=h;unfold World.cell? at h2 ⊢;rw [this];exact h2
theorem rL {β:Type} {X b:Nat} {xs:List Value} (h0:0 < xs.length):OwnFrom X (fun (_:β) W=>ap W b xs):=fun s W W' row h hg hr=>by
 have hc:W.cell? ⟨b,0,none⟩=some xs[0]:=by rw [h.2.1 0 h0,List.getElem?_eq_getElem h0]
 have hne:some b≠row:=fun e=>by
  obtain ⟨_,o,ho,hco⟩:=hr b e.symm;unfold World.cell? at hc;rw [ho] at hc
  cases o<;>first | cases hc | cases hco
 have hb:=hg.block b h.1 hne;refine ⟨Nat.lt_of_lt_of_le h.1 hg.size,fun j hj=>?_,fun j hj=>?_⟩
 ·rw [← h.2.1 j hj];simp [World.cell?,hb]
 ·rw [← h.2.2 j hj];simp [World.frozen?,hb]
theorem map_eraseIdx {α β:Type} (f:α→β):∀ (L:List α) (p:Nat),(L.eraseIdx p).map f=(L.map f).eraseIdx p
 | [],_=>rfl
 | _::_,0=>rfl
 | a::L,p+1=>congrArg (f a::·) (map_eraseIdx f L p)
theorem jJ {α β:Type} (f:α→List β) {l m:List α} (h:l.Sublist m):(l.flatMap f).Sublist (m.flatMap f):=by
 induction h with
 | slnil=>exact List.Sublist.refl _
 | cons a _ ih=>rw [List.flatMap_cons];exact ih.trans (List.sublist_append_right _ _)
 | cons_cons a _ ih=>rw [List.flatMap_cons,List.flatMap_cons];exact List.Sublist.append (List.Sublist.refl _) ih
theorem bC.OP {w w':World} {B g p:Nat} {hs ht h':Hd} {ss:List gj} {L:List ay} (ob:bC w B hs ht ss L) (k:Kb (fun j=>j=g) w w') (hg:g∈ht.blk) (ho:w'.ownsRow B 53 5 h'.v (L.eraseIdx p).length ((L.eraseIdx p).flatMap ay.cells)) (hb:∀ j∈h'.blk,j=g):bC w' B hs h' ss (L.eraseIdx p):=by
 have nd:=ob.nd;have N6:=(List.nodup_append.1 nd).2.1;refine ⟨aP ob.gQ k fun j hj e=>?_,ho,fun x hx=>(ob.each x (List.mem_of_mem_eraseIdx hx)).kb k fun j hj e=>?_,?_⟩
 ·have e:j=g:=e
  exact bp nd (Hd.au.2 hj) (List.mem_append.2 (.inl (by rw [e];exact hg)))
 ·have e:j=g:=e
  exact bp N6 (by rw [← e] at hg;exact hg) (List.mem_flatMap.2 ⟨x,List.mem_of_mem_eraseIdx hx,hj⟩)
 ·have Ik:((L.eraseIdx p).flatMap ay.bI).Sublist (L.flatMap ay.bI):=jJ ay.bI (List.eraseIdx_sublist L p)
  refine List.nodup_append.2 ⟨(List.nodup_append.1 nd).1,List.nodup_append.2 ⟨cX _,Ik.nodup (List.nodup_append.1 N6).2.1,fun a ha b hb2 e=>?_⟩,fun a ha b hb2 e=>?_⟩
  ·subst e
   rw [hb a ha] at hb2;exact bp N6 hg (Ik.subset hb2)
  ·subst e
   rcases List.mem_append.1 hb2 with h1 | h1
   ·rw [hb a h1] at ha
    exact bp nd ha (List.mem_append.2 (.inl hg))
   ·exact bp nd ha (List.mem_append.2 (.inr (Ik.subset h1)))
theorem yR (s n:ByteArray) (o:bE) (w:World) (hs ht:Hd) (L:List ay) (B n3 bs bt:Nat) (uV:B≤n3) (hL:L.map ay.t=o.tables) (ob:bC w B hs ht o.ae L) (hne:∀ g∈hs.blk++(ht.blk++L.flatMap ay.bI),g≠n3)
  (r3:ap w n3 [.slice hs.a o.ae.length hs.c,.slice ht.a o.tables.length ht.c]) (hc1:w.cell? ⟨bs,0,none⟩=some (.string s)) (hc2:w.cell? ⟨bt,0,none⟩=some (.string n)) (sm:kA o) :
  Calls Tryz.prog 130 (#[.pointer (some ⟨n3,0,none⟩)]++#[.pointer (some ⟨bs,0,none⟩),.pointer (some ⟨bt,0,none⟩)]) w (xI w B n3 (cv s n o)):=by
 show Calls Tryz.prog 130 #[.pointer (some ⟨n3,0,none⟩),.pointer (some ⟨bs,0,none⟩),.pointer (some ⟨bt,0,none⟩)] w (xI w B n3 (cv s n o))
 have pD:fL o.ae L=o:=by unfold fL;rw [hL]
 have bB:aL w 5 dA ht.a ht.c o.tables:=by have:=ob.tabs (by rw [pD];exact sm);rw [hL] at this;exact this
 have wP:L.length=o.tables.length:=by rw [← hL];simp
 have hlen:=bB.len;have z1:bs < w.heap.size:=World.block_lt_of_cell? _ _ hc1;have z2:bt < w.heap.size:=World.block_lt_of_cell? _ _ hc2;have xz:=r3.1;obtain ⟨j,hj⟩:∃ j,bj o.tables s n=j:=⟨_,rfl⟩
 have hjr : -1≤j∧j < o.tables.length:=by rw [← hj];exact bg _ _
 obtain ⟨W,hW⟩:∃ W,W=w.alloc (.cells #[.int .i64 0] 43):=⟨_,rfl⟩
 have aW:ag w W:=by rw [hW];exact (ag.refl w).alloc _
 have Vn:=gH (show ap W w.heap.size [.int .i64 0] by rw [hW];exact aO (c:=[.int .i64 0]) (ag.refl _))
 have C0:=gH (show ∀ x:ii W,Calls Tryz.prog 43 #[.agg #[.slice hs.a o.ae.length hs.c,.slice ht.a o.tables.length ht.c],.string s,.string n] (bH W x) fun e w''=>e=.returned (.tuple #[.int .i64 j,.bool (decide (0≤j))])∧ag (bH W x) w'' from
  fun x=>(jL _ ht.a ht.c o.tables s n _ (aQ (aW.bH x) bB)).mono fun e w'' ⟨he,hw⟩=>⟨he.trans (by rw [← hj]),hw⟩)
 have HE:=gH (show cv s n o=if j < 0 then (cx,61) else if tB o s n then (cx,62) else (⟨o.ae,o.tables.eraseIdx j.toNat⟩,0) by unfold cv;rw [hj])
 have KF:=gH (show ∀ V,ag W V→(V.cell? ⟨n3,0,none⟩=some (.slice hs.a o.ae.length hs.c)∧V.cell? ⟨n3,1,none⟩=some (.slice ht.a o.tables.length ht.c)∧n3 < V.heap.size∧V.cell? ⟨bs,0,none⟩=some (.string s)∧V.cell? ⟨bt,0,none⟩=some (.string n)∧bs < V.heap.size∧bt < V.heap.size)∧(V.cell? ⟨w.heap.size,0,none⟩=some (.int .i64 0)∧V.frozen? ⟨w.heap.size,0,none⟩=false∧w.heap.size < V.heap.size) from fun V a=>by
  have q:=r3.az (aW.trans a);have p:=Vn.out.az a;have e1:=(aW.trans a).cell_kept hc1;have e2:=(aW.trans a).cell_kept hc2
  exact ⟨⟨q.cell (j:=0) rfl,q.cell (j:=1) rfl,q.1,e1,e2,World.block_lt_of_cell? _ _ e1,World.block_lt_of_cell? _ _ e2⟩,⟨p.cell (j:=0) rfl,p.2.2 0 (by simp),p.1⟩⟩)
 obtain ⟨⟨x0,x1,xz,y0,y1,z1,z2⟩,⟨b0,b1,b2⟩⟩:=KF.out W (ag.refl W);have br:=gH aW;have lB:=gH ob;have ny:=gH r3;have Gu:=gH hne;have HL:=gH hL;have HT:=gH bB;have nT:=gH wP;have Rc:=gH (show ht.v=.slice ht.a o.tables.length ht.c from by rw [bL ob.tab,wP]);clear ob r3 hne hL pD hj bB wP sm aW hc1 hc2;refine (callsIn_wide (n:=8)).1 ?_;refine callsIn_of_wp_marks Tryz.func130 rfl trivial ?_ rfl;simp only [Tryz.ntmps130,List.size_toArray,List.length_cons,List.length_nil,Nat.reduceAdd,Nat.reduceSub,Array.replicate_succ,Array.replicate_zero,List.push_toArray,List.append_toArray,List.nil_append,List.cons_append];refine wpIn_wide.2 ?_;go_wp2_with fail;rw [← hW];clear hW;refine av (by kernel_rfl) (by kernel_rfl) ?_
 repeat (go_big_quiet_step ((go_at_call 43;exact Calls.bD (C0.out _))))
 refine wpQuiet_nil ?_;intro _ hw';obtain ⟨x,hw''⟩:=hw';subst hw'';obtain ⟨V,hV⟩:∃ V,V=bH W x:=⟨_,rfl⟩
 have aV:ag W V:=by rw [hV];exact (ag.refl W).bH x
 rw [← hV];obtain ⟨⟨x0,x1,xz,y0,y1,z1,z2⟩,⟨b0,b1,b2⟩⟩:=KF.out V aV;have lC:=gH aV;clear hV aV C0;by_cases Lq:0≤j
 case neg =>
  have hd:decide (0≤j)=false:=decide_eq_false Lq;rw [hd];have HJ:=gH Lq;go_wp2_with fail;refine ⟨_,dv (v:=.int .i64 61) rfl _ rfl (vp (World.cell?_setCell_same' _ _ _ (by rw [b0];rfl))),?_⟩;rw [HE.out,if_pos (show j < 0 by have:=HJ.out;omega)];exact ⟨rfl,(Kb.aH (br.out.trans lC.out)).trans ((Kb.set V w.heap.size 0 _).mono fun g _ e=>by have e:g=w.heap.size:=e;omega),fun h=>by simp at h⟩
 have hd:decide (0≤j)=true:=decide_eq_true Lq;rw [hd];have HJ:=gH Lq;go_wp2_with fail;refine pQ 5 (by kernel_rfl) (by kernel_rfl) ?_;intro V1 hV1
 have Re:ag V V1:=by rw [hV1];exact (ag.refl V).drew
 obtain ⟨⟨x0,x1,xz,y0,y1,z1,z2⟩,⟨b0,b1,b2⟩⟩:=KF.out V1 (lC.out.trans Re);have S6:=gH (lC.out.trans Re);clear hV1 Re;simp only [List.take_succ_cons,List.take_zero,List.drop_succ_cons,List.drop_zero]
 repeat still_step
 refine wpStill_nil ?_;go_wp2_with fail;refine (rK _ _ s n V1).mono ?_;intro e X hX;obtain ⟨rfl,hX⟩:=hX
 have aX:ag V1 X:=by rw [hX];exact (((ag.refl V1).alloc _).alloc _).alloc _
 have zX:X.heap.size=V1.heap.size+3:=by rw [hX];simp
 have q1:ap X V1.heap.size [.slice hs.a o.ae.length hs.c,.slice ht.a o.tables.length ht.c]:=by rw [hX];exact (aO (w:=V1) (c:=[.slice hs.a o.ae.length hs.c,.slice ht.a o.tables.length ht.c]) (t:=25) (ag.refl _)).az (((ag.refl _).alloc _).alloc _)
 have q2:ap X (V1.heap.size+1) [.string s]:=by
  rw [hX];have:=(aO (w:=V1.alloc (.cells #[.slice hs.a o.ae.length hs.c,.slice ht.a o.tables.length ht.c] 25)) (c:=[.string s]) (t:=9) (ag.refl _)).az ((ag.refl _).alloc (.cells #[.string n] 9))
  simpa using this
 have q3:ap X (V1.heap.size+1+1) [.string n]:=by
  rw [hX];have:=aO (w:=(V1.alloc (.cells #[.slice hs.a o.ae.length hs.c,.slice ht.a o.tables.length ht.c] 25)).alloc (.cells #[.string s] 9)) (c:=[.string n]) (t:=9) (ag.refl _)
  simpa using this
 obtain ⟨⟨x0,x1,xz,y0,y1,z1,z2⟩,⟨b0,b1,b2⟩⟩:=KF.out X (S6.out.trans aX);have gN:=gH (S6.out.trans aX);have WJ:=gH (oq 7 (by omega) o.tables ht.a ht.c s n V1.heap.size (V1.heap.size+1) (V1.heap.size+1+1) X (aQ (br.out.trans gN.out) HT.out) (q1.cell (j:=1) rfl) (q2.cell (j:=0) rfl) (q3.cell (j:=0) rfl));clear hX aX q1 q2 q3;go_wp2_with fail;have Lr:w.heap.size < X.heap.size:=b2;refine (wpIn_wide (n:=8)).1 ?_
 refine wpIn_rangeFunc_ownH (α:=FP) rfl (by omega) (gf:=197) (lb:=#[.pointer (some ⟨V1.heap.size,0,none⟩),.pointer (some ⟨V1.heap.size+1,0,none⟩),.pointer (some ⟨V1.heap.size+1+1,0,none⟩)]) rfl trivial (enters_of Tryz.func197 (by kernel_rfl) rfl) WJ.out
  (fun h k=>⟨h.1.trans k.1,h.2.trans k.2⟩) (fun W l o o' hl h ho hw=>⟨Kc.put h ho,belowK_b (Nat.le_refl _) W l o o' hl h ho hw⟩) (Below.refl _ _) (fun _=>rfl)
  (fun pre W'=>Kb (fun _=>False) X W'∧pre.all (fun x=>iN s n x.t)=true)
  (fun c pre W'=>(c=Code.ret∧∃ x∈pre,iN s n x.t=false)∧(Kb (fun g=>g=w.heap.size) X W'∧W'.cell? ⟨w.heap.size,0,none⟩=some (.int .i64 62)))
  (OwnFrom.and (lM (B:=0) (Nat.le_refl _)) (ownFrom_pure _ _)) (fun c=>OwnFrom.and (ownFrom_pure _ _) (OwnFrom.and (lM (B:=0) (Nat.le_refl _)) (pR Lr)))
  ⟨Kb.refl _ _,rfl⟩
  (fun x a' W'=>∃ Bx,ap W' Bx [.string x.t.aa,.string x.t.name,.string x.t.owner,.slice x.a1 x.t.ak.length x.c1,.slice x.a2 x.t.rules.length x.c2]∧a'={ tmps:=#[.pointer (some ⟨n3,0,none⟩),.pointer (some ⟨bs,0,none⟩),.pointer (some ⟨bt,0,none⟩),undef,.pointer (some ⟨w.heap.size,0,none⟩),.int .i64 j,.bool true,.pointer (some ⟨Bx,0,none⟩),.tuple #[.int .i64 j,.bool true],.pointer (some ⟨n3,0,none⟩),.pointer (some ⟨n3,0,none⟩),.agg #[.slice hs.a o.ae.length hs.c,.slice ht.a o.tables.length ht.c],.string s,.string n,.tuple #[.int .i64 j,.bool true],.int .i64 j,.bool true,.bool true,.bool false,.pointer (some ⟨n3,0,none⟩),.pointer (some ⟨n3,0,none⟩),.agg #[.slice hs.a o.ae.length hs.c,.slice ht.a o.tables.length ht.c],.string s,.string n,.func (.func 197) #[] #[.pointer (some ⟨V1.heap.size,0,none⟩),.pointer (some ⟨V1.heap.size+1,0,none⟩),.pointer (some ⟨V1.heap.size+1+1,0,none⟩)],.agg #[.string x.t.aa,.string x.t.name,.string x.t.owner,.slice x.a1 x.t.ak.length x.c1,.slice x.a2 x.t.rules.length x.c2],.agg #[.string x.r.name,.int .i64 x.r.kind,.slice x.a3 x.r.ak.length x.c3,.int .i64 x.r.low,.int .i64 x.r.high,.string x.r.aa,.string x.r.table,.string x.r.key],undef,undef,undef,undef,undef,undef,undef,undef,undef,undef,undef,undef,undef,undef,undef,undef,undef,undef,undef,undef,undef],defers:=[] })
  (fun x a' s' W W' row h hg hr=>by
   obtain ⟨Bx,hrow,ha⟩:=h
   exact ⟨Bx,rL (β:=Unit) (by simp) () W W' row hrow hg hr,ha⟩)
  ?assign ?body ?done ?stop
 case assign =>
  intro l pre x W' K hi hK;dsimp only [FP.enc];have lw:=Nat.lt_succ_self W'.heap.size
  gi_wp2
  refine hK _ _ ((KeepsOthers.alloc _ _).from _) ⟨Kc.aH ((ag.refl W').alloc _),(Below.refl _ W').alloc (by have:=hi.1.size;omega) _⟩ ⟨hi.1.trans (Kb.aH ((ag.refl W').alloc _)),hi.2⟩ ⟨W'.heap.size,aO (c:=[.string x.t.aa,.string x.t.name,.string x.t.owner,.slice x.a1 x.t.ak.length x.c1,.slice x.a2 x.t.rules.length x.c2]) (ag.refl _),rfl⟩
 case body =>
  rintro l pre x a' W' hl ⟨rr,jz⟩ ⟨hk,hall⟩ ⟨Bx,hrow,rfl⟩ hlt;have xM:ag X W':=hk.aZ (ag.refl X) (fun _ _ h=>h);obtain ⟨⟨x0,x1,xz,y0,y1,z1,z2⟩,⟨b0,b1,b2⟩⟩:=KF.out W' (gN.out.trans xM);have t0:=hrow.cell (j:=0) rfl;have t1:=hrow.cell (j:=1) rfl;have tz:=hrow.1;have HK:=gH hk;have Vo:=gH hall;clear hk hall hrow xM jz hlt
  cases g1:bk x.t.aa s
  ·have e1:(x.t.aa.toList==s.toList)=false:=g1
   have HS:=gH (show iN s n x.t=false by unfold iN;rw [g1];rfl);clear g1
   gi_wp2
   exact ⟨(KeepsOthers.setCell _ _ _).from _,⟨rfl,x,by simp,HS.out⟩,(HK.out.mono fun _ _ h=>h.elim).trans (Kb.set W' w.heap.size 0 _),World.cell?_setCell_same' _ _ _ (by rw [b0];rfl)⟩
  ·cases g2:bk x.t.name n
   ·have e1:(x.t.aa.toList==s.toList)=true:=g1
    have e2:(x.t.name.toList==n.toList)=false:=g2;have HS:=gH (show iN s n x.t=false by unfold iN;rw [g1,g2];rfl);clear g1 g2
    gi_wp2
    exact ⟨(KeepsOthers.setCell _ _ _).from _,⟨rfl,x,by simp,HS.out⟩,(HK.out.mono fun _ _ h=>h.elim).trans (Kb.set W' w.heap.size 0 _),World.cell?_setCell_same' _ _ _ (by rw [b0];rfl)⟩
   ·have e1:(x.t.aa.toList==s.toList)=true:=g1
    have e2:(x.t.name.toList==n.toList)=true:=g2;have HS:=gH (show iN s n x.t=true by unfold iN;rw [g1,g2];rfl);clear g1 g2
    gi_wp2
    exact ⟨KeepsFrom.refl _ _,⟨Kc.refl _,Below.refl _ _⟩,HK.out,by rw [List.all_append,Vo.out];simp [HS.out]⟩
 case stop =>
  rintro D c pre W' hD S8 ⟨⟨rfl,x,hx,Bu⟩,hk,hcell⟩ hK
  have HU:=gH (show tB o s n=true by
   unfold tB;refine List.any_eq_true.2 ⟨FP.key x,S8.subset (List.mem_map_of_mem hx),?_⟩
   show (!iN s n x.t)=true
   rw [Bu];rfl)
  have HP:=gH (show xI w B n3 (cv s n o) (.returned (.int .i64 62)) (W'.putObj D (.deferred none)) from by
   rw [HE.out,if_neg (show ¬ j < 0 by have:=HJ.out;omega),HU.out];have a1:=br.out.trans gN.out;have z9:=a1.size
   exact ⟨rfl,((Kb.aH a1).trans (hk.mono fun g _ e=>by have e:g=w.heap.size:=e;omega)).trans (Kb.put.mono fun g _ e=>by have e:g=D:=e;omega),fun h=>by simp at h⟩)
  have HC:=gH (show (W'.putObj D (.deferred none)).cell? ⟨w.heap.size,0,none⟩=some (.int .i64 62) from (World.cell?_of_block (World.putObj_heap_other (k:=w.heap.size) (by omega))).trans hcell);clear hk hcell S8 hx Bu
  gi_wp2
  refine ⟨by simp,.inl ⟨_,_,rfl,run_takeDeferred hK,?_⟩⟩;exact ⟨_,dv (v:=.int .i64 62) rfl _ rfl (vp HC.out),HP.out⟩
 case done =>
  rintro D xs W' hD hS ⟨hk,hall⟩ hK;have xM:ag X W':=hk.aZ (ag.refl X) (fun _ _ h=>h)
  have HU:=gH (show tB o s n=false by
   unfold tB;rw [← hS,Bool.eq_false_iff];intro h;obtain ⟨y,hy,Gt⟩:=List.any_eq_true.1 h;obtain ⟨x,hx,rfl⟩:=List.mem_map.1 hy;have h3:=List.all_eq_true.1 hall x hx;have Gt:(!iN s n x.t)=true:=Gt;have h3:iN s n x.t=true:=h3
   rw [h3] at Gt;cases Gt)
  obtain ⟨⟨x0,x1,xz,y0,y1,z1,z2⟩,⟨b0,b1,b2⟩⟩:=KF.out W' (gN.out.trans xM);have jG:=gH (br.out.trans (gN.out.trans xM));have S9:=gH xM;clear hk hall hS xM;obtain ⟨p,hp⟩:∃ p:Nat,j=p:=⟨j.toNat,by omega⟩;subst hp
  have hpl:p < o.tables.length:=by omega
  have r2:=lB.out.az jG.out;obtain ⟨g,cap,hv,se,mo,hrow⟩:=aR r2.tab (by have:=nT.out;omega);obtain ⟨k,rJ⟩:∃ k,o.tables.length=p+1+k:=⟨o.tables.length - p - 1,by omega⟩
  have Br:Value.slice ht.a o.tables.length ht.c=.slice (some ⟨g,0,none⟩) (p+1+k) cap:=by rw [← Rc.out,hv,nT.out,rJ]
  have o2:W'.ownsRow B 53 5 (.slice (some ⟨g,0,none⟩) (p+1+k) cap) (p+1+k) (L.flatMap ay.cells):=by
   have:=r2.tab;rw [hv,nT.out,rJ] at this;exact this
  have oo:cap≤9223372036854775807:=tA r2.tab _ _ _ hv;have CD:=gH (OQ g cap p k B (L.flatMap ay.cells) W' o2 (eO ym _) oo);have kR:=ny.out.az jG.out;have uA:g∈ht.blk:=Hd.au.2 (by rw [hv];rfl);have hgb:g≠n3:=Gu.out g (List.mem_append.2 (.inr (List.mem_append.2 (.inl uA))));have aaf:g < w.heap.size:=(lB.out.lt g (List.mem_append.2 (.inr (List.mem_append.2 (.inl uA))))).2;rw [Br] at x1;have zXX:w.heap.size < X.heap.size:=Lr
  have K2:=gH (show ∀ w3,Kb (fun j=>j=g) W' w3→w3.ownsRow B 53 5 (.slice (some ⟨g,0,none⟩) (p+k) cap) (p+k) ((L.flatMap ay.cells).take (p*5)++(L.flatMap ay.cells).drop ((p+1)*5))→(w3.cell? ⟨n3,1,none⟩=some (.slice (some ⟨g,0,none⟩) (p+1+k) cap)∧w3.frozen? ⟨n3,1,none⟩=false∧n3 < w3.heap.size∧w3.cell? ⟨w.heap.size,0,none⟩=some (.int .i64 0)∧w3.frozen? ⟨w.heap.size,0,none⟩=false∧w.heap.size < w3.heap.size ∧
    Hid (((w3.setCell ⟨n3,1,none⟩ (.slice (some ⟨g,0,none⟩) (p+k) cap)).setCell ⟨w.heap.size,0,none⟩ (.int .i64 0)).heap[D]? = some (.deferred (some [])) ∧
     (((w3.setCell ⟨n3,1,none⟩ (.slice (some ⟨g,0,none⟩) (p+k) cap)).setCell ⟨w.heap.size,0,none⟩ (.int .i64 0)).putObj D (.deferred none)).cell? ⟨w.heap.size,0,none⟩=some (.int .i64 0) ∧
     xI w B n3 (cv s n o) (.returned (.int .i64 0)) (((w3.setCell ⟨n3,1,none⟩ (.slice (some ⟨g,0,none⟩) (p+k) cap)).setCell ⟨w.heap.size,0,none⟩ (.int .i64 0)).putObj D (.deferred none)))) from fun w3 kb o3=>by
   have jv:=kb.row kR (fun e=>hgb e.symm);rw [Br] at jv;have Il:=kb.row ((Vn.out.az gN.out).az S9.out) (fun e=>by have e:w.heap.size=g:=e;omega)
   have e1:(L.eraseIdx p).length=p+k:=by rw [List.length_eraseIdx_of_lt (by have:=nT.out;omega),nT.out];omega
   have S4:w3.ownsRow B 53 5 (Hd.mk (some ⟨g,0,none⟩) (p+k) cap).v (L.eraseIdx p).length ((L.eraseIdx p).flatMap ay.cells):=by
    rw [e1,← fS (size:=5) (fun _=>rfl)];exact o3
   have ks:=Kb.set w3 n3 1 (.slice (some ⟨g,0,none⟩) (p+k) cap);have kr:=Kb.set (w3.setCell ⟨n3,1,none⟩ (.slice (some ⟨g,0,none⟩) (p+k) cap)) w.heap.size 0 (.int .i64 0);have zW3:X.heap.size≤W'.heap.size:=S9.out.size;have hDlt:D < W'.heap.size:=(Array.getElem?_eq_some_iff.1 hK).1
   have hK3:((w3.setCell ⟨n3,1,none⟩ (.slice (some ⟨g,0,none⟩) (p+k) cap)).setCell ⟨w.heap.size,0,none⟩ (.int .i64 0)).heap[D]? = some (.deferred (some [])):=by
    rw [kr.block D (by simp;have:=kb.size;omega) (fun e=>by have e:D=w.heap.size:=e;omega),ks.block D (by have:=kb.size;omega) (fun e=>by have e:D=n3:=e;omega),kb.block D hDlt (fun e=>by have e:D=g:=e;omega)];exact hK
   refine ⟨jv.cell (j:=1) rfl,jv.2.2 1 (by simp),jv.1,Il.cell (j:=0) rfl,Il.2.2 0 (by simp),Il.1,gH ⟨hK3,?_,?_⟩⟩
   ·refine (World.cell?_of_block (World.putObj_heap_other (k:=w.heap.size) (by omega))).trans (World.cell?_setCell_same' _ _ _ ?_)
    rw [ks.cell (Il.cell (j:=0) rfl) (fun e=>by have e:w.heap.size=n3:=e;omega)];rfl
   rw [HE.out,if_neg (show ¬ (p:Int) < 0 by omega),HU.out];simp only [Bool.false_eq_true,if_false,Int.toNat_natCast]
   have S5:=r2.OP kb (h':=⟨some ⟨g,0,none⟩,p+k,cap⟩) (p:=p) uA S4 (fun j hj=>by
    rw [cM,List.mem_singleton] at hj
    exact hj)
   have hbl:∀ a∈hs.blk++((Hd.mk (some ⟨g,0,none⟩) (p+k) cap).blk++(L.eraseIdx p).flatMap ay.bI),a≠n3∧a < w.heap.size:=fun a ha=>by
    have:a∈hs.blk++(ht.blk++L.flatMap ay.bI):=by
     rcases List.mem_append.1 ha with h1 | h1
     ·exact List.mem_append.2 (.inl h1)
     ·rcases List.mem_append.1 h1 with h2 | h2
      ·rw [cM,List.mem_singleton] at h2
       have h2:a=g:=h2;rw [h2];exact List.mem_append.2 (.inr (List.mem_append.2 (.inl uA)))
      ·exact List.mem_append.2 (.inr (List.mem_append.2 (.inr ((jJ ay.bI (List.eraseIdx_sublist L p)).subset h2))))
    exact ⟨Gu.out a this,(lB.out.lt a this).2⟩
   refine ⟨rfl,((((Kb.aH jG.out).trans (kb.mono fun a _ e=>by have e:a=g:=e;omega)).trans (ks.mono fun a _ e=>by have e:a=n3:=e;omega)).trans (kr.mono fun a _ e=>by have e:a=w.heap.size:=e;omega)).trans (Kb.put.mono fun a _ e=>by have e:a=D:=e;omega),fun _=>⟨hs,⟨some ⟨g,0,none⟩,p+k,cap⟩,L.eraseIdx p,?_,?_,?_⟩⟩
   ·rw [← HL.out]
    exact map_eraseIdx ay.t L p
   ·exact ((S5.kb ks fun a ha e=>(hbl a ha).1 e).kb kr fun a ha e=>by have:=(hbl a ha).2;have e:a=w.heap.size:=e;omega).kb Kb.put fun a ha e=>by have:=(hbl a ha).2;have e:a=D:=e;omega
   ·have e2:(o.tables.eraseIdx p).length=p+k:=by rw [List.length_eraseIdx_of_lt hpl];omega
    rw [e2]
    exact Kb.put.row (kr.row (jv.set 1 (.slice (some ⟨g,0,none⟩) (p+k) cap) (by simp)) (fun e=>by have e:n3=w.heap.size:=e;omega)) (fun e=>by have e:n3=D:=e;omega))
  clear r2 hv hrow o2 Br kR rJ hgb uA mo se;go_wp2_with fail;refine CD.out.mono ?_;rintro e w3 ⟨rfl,o3,kb⟩;obtain ⟨f0,f1,f2,f3,f4,f5,HP⟩:=K2.out w3 kb o3
  have hn8:¬ n3=w.heap.size:=by omega
  have hn9:¬ w.heap.size=n3:=by omega
  clear o3 kb;go_wp2_with fail;refine ⟨by simp,.inl ⟨_,_,rfl,run_takeDeferred HP.out.1,?_⟩⟩;exact ⟨_,dv (v:=.int .i64 0) rfl _ rfl (vp HP.out.2.1),HP.out.2.2⟩
end Go.Proofs.YtmflccbnoeaafaaGreat
namespace Go.Proofs.YtmflccbnoeaafaaGreat
set_option maxRecDepth 100000
set_option linter.unusedVariables false
set_option maxHeartbeats 64000000
def dN (ts:List cu) (s n name:ByteArray) (t:cu):cu × Int :=
 if gp t.rules name < 0 then (t,61) else if ((gW s n ts).any fun p=>nV (pP t name) name p.2) then (t,62) else ({ t with rules:=t.rules.eraseIdx (gp t.rules name).toNat },0)
theorem tC {t:cu} {name:ByteArray} {p:Nat} (h:gp t.rules name=p) (hp:p < t.rules.length):pP t name=t.rules[p].kind:=by
 unfold pP;rw [h];simp only [Int.toNat_natCast,List.getElem?_eq_getElem hp]
theorem dE (a b:ByteArray):bk a b=true↔a=b:=⟨fun h=>by
 have h1:a.data.toList=b.data.toList:=(pK _ _).1 ((gu a b).2 h);obtain ⟨a⟩:=a;obtain ⟨b⟩:=b;have h2:a=b:=Array.toList_inj.1 h1
 rw [h2],fun h=>by rw [h];exact df b⟩
theorem iX (a b:ByteArray):bw a b=0↔a=b:=(gu a b).trans (dE a b)
theorem oP {x y:cu}:eG x y=0↔x.aa=y.aa∧x.name=y.name:=by
 unfold eG iQ;by_cases e1:bw x.aa y.aa=0
 ·rw [if_pos (by simpa using e1),iX]
  exact ⟨fun h=>⟨(iX _ _).1 e1,h⟩,fun h=>h.2⟩
 ·rw [if_neg (by simpa using e1)]
  exact ⟨fun h=>absurd h e1,fun h=>absurd ((iX _ _).2 h.1) e1⟩
theorem im {α:Type} (p:α→Bool):∀ l:List α,l.find? p=if bK p l < 0 then none else l[(bK p l).toNat]?
 | []=>by simp [bK]
 | x::l=>by
  have ih:=im p l;have hr:=bg p l;rw [List.find?_cons]
  show _=if (if p x then (0:Int) else if bK p l < 0 then -1 else bK p l+1) < 0 then none else (x::l)[(if p x then (0:Int) else if bK p l < 0 then -1 else bK p l+1).toNat]?
  cases h:p x
  ·simp only [Bool.false_eq_true,if_false]
   rw [ih];by_cases h1:bK p l < 0
   ·rw [if_pos h1,if_pos h1,if_pos (by omega)]
   ·rw [if_neg h1,if_neg h1,if_neg (by omega),show (bK p l+1).toNat=(bK p l).toNat+1 by omega,List.getElem?_cons_succ]
  ·simp
theorem vq {α:Type} (p:α→Bool) (l:List α) (x:α) (hx:x∈l) (hp:p x=true) (hu:∀ y∈l,p y=true→y=x):l.find? p=some x:=by
 cases h:l.find? p with
 | none =>
  have:=List.find?_eq_none.1 h x hx;rw [hp] at this;exact absurd rfl this
 | some y=>rw [hu y (List.mem_of_find?_eq_some h) (List.find?_some h)]
theorem lN {α:Type} {c:α→α→Int} (P:my c) {l:List α} (h:aN c l=true) {x y:α} (hx:x∈l) (hy:y∈l) (e:c x y=0):x=y:=by
 obtain ⟨i,hi,rfl⟩:=List.getElem_of_mem hx;obtain ⟨j,hj,rfl⟩:=List.getElem_of_mem hy
 rcases Nat.lt_trichotomy i j with h1 | h1 | h1
 ·have:=eh P.tr h i j hi hj h1;omega
 ·subst h1;rfl
 ·have:=eh P.tr h j i hj hi h1;have:=P.dU l[i] l[j];omega
def dO (l:List fc) (a:ByteArray):Option Int:=(l.find? fun c=>bk c.name a).map fc.kind
theorem vr (l:List fc) (a:ByteArray):dO l a=if 0≤cA l a then some (ib l (cA l a)) else none:=by
 unfold dO;rw [im];have hr:=bg (fun c:fc=>bk c.name a) l;by_cases h:0≤cA l a
 ·have h':0≤bK (fun c:fc=>bk c.name a) l:=h
  rw [if_pos h,if_neg (by omega),show cA l a=bK (fun c:fc=>bk c.name a) l from rfl];unfold ib;rw [List.getElem?_eq_getElem (show (bK (fun c:fc=>bk c.name a) l).toNat < l.length by omega)];rfl
 ·have h':¬ 0≤bK (fun c:fc=>bk c.name a) l:=h
  rw [if_neg h,if_pos (by omega)];rfl
theorem lO {l:List fc} {a:ByteArray} (h:0≤cA l a):dO l a=some (ib l (cA l a)):=by rw [vr,if_pos h]
theorem jm {l:List fc} {a:ByteArray} {k:Int} (h:dO l a=some k):0≤cA l a∧ib l (cA l a)=k:=by
 rw [vr] at h;by_cases h1:0≤cA l a
 ·rw [if_pos h1] at h;exact ⟨h1,Option.some.inj h⟩
 ·rw [if_neg h1] at h;cases h
theorem vt (l l2:List fc) (a b:ByteArray):DD l l2 a b=true↔∃ k,dO l a=some k∧dO l2 b=some k:=by
 unfold DD;simp only [Bool.and_eq_true,decide_eq_true_eq,beq_iff_eq]
 constructor
 ·rintro ⟨⟨h1,h2⟩,h3⟩
  exact ⟨_,lO h1,by rw [lO h2,h3]⟩
 ·rintro ⟨k,h1,h2⟩
  have h1:=jm h1;have h2:=jm h2;exact ⟨⟨h1.1,h2.1⟩,by rw [h1.2,h2.2]⟩
theorem oQ {l l' l2 YY:List fc}:∀ cs ds:List ByteArray,(∀ a∈cs,∀ k,dO l a=some k→dO l' a=some k)→(∀ a∈ds,∀ k,dO l2 a=some k→dO YY a=some k)→eQ l l2 cs ds=true→eQ l' YY cs ds=true
 | [],[],_,_,_=>rfl
 | [],_::_,_,_,h=>by simp [eQ] at h
 | _::_,[],_,_,h=>by simp [eQ] at h
 | a::xs,b::ys,h1,h2,h=>by
  rw [eQ,Bool.and_eq_true] at h ⊢;obtain ⟨k,e1,e2⟩:=(vt _ _ _ _).1 h.1;exact ⟨(vt _ _ _ _).2 ⟨k,h1 a (by simp) k e1,h2 b (by simp) k e2⟩,oQ xs ys (fun c hc=>h1 c (by simp [hc])) (fun c hc=>h2 c (by simp [hc])) h.2⟩
theorem Bv {l:List fc} {r:gi} (h:dS l r=true):∀ a∈r.ak,∃ k,dO l a=some k:=fun a ha=>by
 unfold dS rS at h;simp only [Bool.and_eq_true,List.all_eq_true,List.mem_range] at h;obtain ⟨i,hi,rfl⟩:=List.getElem_of_mem ha;have:=h.1.1.1 i hi;rw [List.getElem?_eq_getElem hi] at this;simp only [Bool.and_eq_true,decide_eq_true_eq] at this;exact ⟨_,lO this.1⟩
theorem vu {l l':List fc} {r:gi} (hm:∀ a∈r.ak,∀ k,dO l a=some k→dO l' a=some k) (h:dS l r=true):dS l' r=true:=by
 have hc:=Bv h;unfold dS at h ⊢;simp only [Bool.and_eq_true] at h ⊢;obtain ⟨⟨⟨h1,h2⟩,h3⟩,h4⟩:=h;refine ⟨⟨⟨?_,h2⟩,h3⟩,?_⟩
 ·unfold rS at h1 ⊢
  simp only [List.all_eq_true,List.mem_range] at h1 ⊢;intro i hi;have:=h1 i hi;rw [List.getElem?_eq_getElem hi] at this ⊢;simp only [Bool.and_eq_true,decide_eq_true_eq] at this ⊢;exact ⟨(jm (hm _ (List.getElem_mem hi) _ (lO this.1))).1,this.2⟩
 ·unfold jn at h4 ⊢
  by_cases k1:(r.kind==1 || r.kind==2)=true
  ·rw [if_pos k1] at h4 ⊢;exact h4
  ·rw [if_neg k1] at h4 ⊢
   by_cases k3:(r.kind==3)=true
   ·rw [if_pos k3] at h4 ⊢
    simp only [Bool.and_eq_true,beq_iff_eq] at h4 ⊢;obtain ⟨⟨⟨h5,h6⟩,h7⟩,h8⟩:=h4;refine ⟨⟨⟨h5,h6⟩,?_⟩,h8⟩
    have hl:r.ak.length=1:=by omega
    have Rb:r.ak.headD ByteArray.empty∈r.ak:=by
     match r.ak,hl with
     | [x],_=>simp
    obtain ⟨k,hk⟩:=hc _ Rb;have e1:=(jm hk).2;rw [h7] at e1;have e2:=(jm (hm _ Rb _ hk)).2;rw [e2,e1]
   ·rw [if_neg k3] at h4 ⊢;exact h4
theorem lQ (l:List fc):fp l=true↔(1≤l.length∧l.length≤8)∧(∀ c∈l,kh c=true)∧l.Pairwise fun a b=>a.name≠b.name:=by
 unfold fp;simp only [Bool.and_eq_true,decide_eq_true_eq,List.all_eq_true,List.mem_range]
 have key:∀ (i:Nat) (hi:i < l.length),bK (fun d:fc=>bk d.name l[i].name) (l.take i) < 0↔∀ j (hj:j < i),(l[j]'(by omega)).name≠l[i].name:=fun i hi=>by
  constructor
  ·intro h j hj e
   have h1:=im (fun d:fc=>bk d.name l[i].name) (l.take i);rw [if_pos h] at h1;have:=List.find?_eq_none.1 h1 (l[j]'(by omega)) (by rw [List.mem_take_iff_getElem];exact ⟨j,by omega,rfl⟩);exact this ((dE _ _).2 e)
  ·intro h
   have:bK (fun d:fc=>bk d.name l[i].name) (l.take i) = -1:=gJ _ _ fun j hj=>by
    rw [Bool.eq_false_iff];intro e
    have hj':j < i:=by simp at hj;omega
    rw [List.getElem_take] at e;exact h j hj' ((dE _ _).1 e)
   omega
 constructor
 ·rintro ⟨h1,h2⟩
  refine ⟨h1,fun c hc=>?_,List.pairwise_iff_getElem.2 fun i j hi hj px=>?_⟩
  ·obtain ⟨i,hi,rfl⟩:=List.getElem_of_mem hc
   have:=h2 i hi;rw [List.getElem?_eq_getElem hi] at this;simp only [Bool.and_eq_true,decide_eq_true_eq] at this;exact this.1
  ·have:=h2 j hj
   rw [List.getElem?_eq_getElem hj] at this;simp only [Bool.and_eq_true,decide_eq_true_eq] at this;exact (key j hj).1 this.2 i px
 ·rintro ⟨h1,h2,h3⟩
  refine ⟨h1,fun i hi=>?_⟩;rw [List.getElem?_eq_getElem hi];simp only [Bool.and_eq_true,decide_eq_true_eq];exact ⟨h2 _ (List.getElem_mem hi),(key i hi).2 fun j hj=>List.pairwise_iff_getElem.1 h3 j i (by omega) hi hj⟩
def iC (ts:List cu) (l:List fc) (r:gi):Prop:=∃ t∈ts,t.aa=r.aa∧t.name=r.table∧∃ q∈t.rules,q.name=r.key∧q.kind=2∧eQ l t.ak r.ak q.ak=true
theorem vv (ts:List cu) (l:List fc) (r:gi):mH ts l r=match ts.find? (fun t=>bk t.aa r.aa&&bk t.name r.table) with
  | none=>61
  | some t=>match t.rules.find? (fun q=>bk q.name r.key) with
   | none=>61
   | some q=>if q.kind==2 then (if eQ l t.ak r.ak q.ak then 0 else 63) else 61:=by
 have h2:∀ t:cu,pz t l r=match t.rules.find? (fun q=>bk q.name r.key) with | none=>61 | some q=>if q.kind==2 then (if eQ l t.ak r.ak q.ak then 0 else 63) else 61:=fun t=>by
  unfold pz;rw [im];have e:gp t.rules r.key=bK (fun q:gi=>bk q.name r.key) t.rules:=rfl;rw [e];by_cases h:bK (fun q:gi=>bk q.name r.key) t.rules < 0
  ·rw [if_pos h]
   split
   ·rw [if_pos h]
   ·rfl
  ·rw [if_neg h]
   cases hg:t.rules[(bK (fun q:gi=>bk q.name r.key) t.rules).toNat]? with
   | none=>rfl
   | some q=>simp only;rw [if_neg h]
 unfold mH;rw [im];have e:bj ts r.aa r.table=bK (fun t:cu=>bk t.aa r.aa&&bk t.name r.table) ts:=rfl;rw [e];by_cases h:bK (fun t:cu=>bk t.aa r.aa&&bk t.name r.table) ts < 0
 ·rw [if_pos h]
  split
  ·rw [if_pos h]
  ·rfl
 ·rw [if_neg h]
  cases hg:ts[(bK (fun t:cu=>bk t.aa r.aa&&bk t.name r.table) ts).toNat]? with
  | none=>rfl
  | some t=>simp only;rw [if_neg h,h2]
theorem tD {ts:List cu} {l:List fc} {r:gi} (h:mH ts l r=0):iC ts l r:=by
 rw [vv] at h
 cases h1:ts.find? (fun t=>bk t.aa r.aa&&bk t.name r.table) with
 | none=>rw [h1] at h;simp at h
 | some t =>
  rw [h1] at h;simp only at h;have p1:=List.find?_some (p:=fun t:cu=>bk t.aa r.aa&&bk t.name r.table) h1;simp only [Bool.and_eq_true,dE] at p1
  cases h2:t.rules.find? (fun q=>bk q.name r.key) with
  | none=>rw [h2] at h;simp at h
  | some q =>
   rw [h2] at h;simp only at h;have p2:=List.find?_some (p:=fun q:gi=>bk q.name r.key) h2;by_cases k:(q.kind==2)=true
   ·rw [if_pos k] at h
    by_cases k2:eQ l t.ak r.ak q.ak=true
    ·exact ⟨t,List.mem_of_find?_eq_some h1,p1.1,p1.2,q,List.mem_of_find?_eq_some h2,(dE _ _).1 p2,by simpa using k,k2⟩
    ·rw [if_neg k2] at h;exact absurd h (by decide)
   ·rw [if_neg k] at h;exact absurd h (by decide)
theorem Bw {ts:List cu} {l:List fc} {r:gi} (E9:aN eG ts=true) (lp:∀ t∈ts,aN gS t.rules=true) (h:iC ts l r):mH ts l r=0:=by
 obtain ⟨t,ht,e1,e2,q,hq,e3,e4,e5⟩:=h
 rw [vv,vq _ ts t ht (by rw [e1,e2,df,df];rfl) (fun y hy hp=>by
  simp only [Bool.and_eq_true,dE] at hp
  exact lN mM E9 hy ht (oP.2 ⟨hp.1.trans e1.symm,hp.2.trans e2.symm⟩))]
 simp only
 rw [vq _ t.rules q hq (by rw [e3,df]) (fun y hy hp=>lN pL (lp t ht) hy hq ((iX _ _).2 (((dE _ _).1 hp).trans e3.symm)))]
 simp only
 rw [if_pos (by simp [e4]),if_pos e5]
structure Ta (ss:List gj) (ts:List cu) (t:cu):Prop where
 nm:bP t.name=true
 ow:bP t.owner=true
 ak:fp t.ak=true
 nr:t.rules.length≤8
 gQ:∃ s∈ss,s.name=t.aa
 lr:aN gS t.rules=true
 fit:∀ r∈t.rules,dS t.ak r=true
 key:∀ r∈t.rules,r.kind=4→iC ts t.ak r
structure Good (o:bE):Prop where
 ns:o.ae.length≤8
 nt:o.tables.length≤64
 rt:aN eG o.tables=true
 rs:aN jB o.ae=true
 gQ:∀ s∈o.ae,bP s.name=true∧bP s.owner=true∧within o.tables s.name≤8
 tab:∀ t∈o.tables,Ta o.ae o.tables t
theorem lu (l:List gj) (s:ByteArray):0≤cE l s↔∃ x∈l,x.name=s:=by
 have h:=im (fun c:gj=>bk c.name s) l;have hr:=bg (fun c:gj=>bk c.name s) l;have e:cE l s=bK (fun c:gj=>bk c.name s) l:=rfl;rw [e]
 constructor
 ·intro h0
  rw [if_neg (by omega),List.getElem?_eq_getElem (by omega)] at h;exact ⟨_,List.mem_of_find?_eq_some h,(dE _ _).1 (List.find?_some (p:=fun c:gj=>bk c.name s) h)⟩
 ·rintro ⟨x,hx,rfl⟩
  rcases Int.lt_or_le (bK (fun c:gj=>bk c.name x.name) l) 0 with h0 | h0
  ·rw [if_pos h0] at h
   exact absurd (df x.name) (List.find?_eq_none.1 h x hx)
  ·exact h0
theorem ek (o:bE):bF o=true↔Good o:=by
 unfold bF oG;simp only [Bool.and_eq_true,decide_eq_true_eq,List.all_eq_true]
 constructor
 ·rintro ⟨⟨⟨⟨h1,h2⟩,h3⟩,h4⟩,h5,h6⟩
  refine ⟨h1,h2,h3,h4,fun s hs=>?_,fun t ht=>?_⟩
  ·have:=h5 s hs
   unfold pC at this;simp only [Bool.and_eq_true,decide_eq_true_eq] at this;exact ⟨this.1.1,this.1.2,this.2⟩
  ·have:=h6 t ht
   unfold dB at this;simp only [Bool.and_eq_true,decide_eq_true_eq,List.all_eq_true] at this;obtain ⟨⟨⟨⟨⟨a1,a2⟩,a3⟩,a4⟩,a5⟩,a6,a7⟩:=this;refine ⟨a1,a2,a3,a4,(lu _ _).1 a5,a7,fun r hr=>?_,fun r hr hk=>?_⟩
   ·have:=a6 r hr
    unfold iR at this;simp only [Bool.and_eq_true] at this;exact this.1
   ·have:=a6 r hr
    unfold iR at this;simp only [Bool.and_eq_true,Bool.not_eq_true',Bool.and_eq_false_iff,beq_eq_false_iff_ne,bne_eq_false_iff_eq] at this;exact tD (this.2.resolve_left fun h=>h hk)
 ·intro g
  have lp:∀ t∈o.tables,aN gS t.rules=true:=fun t ht=>(g.tab t ht).lr
  refine ⟨⟨⟨⟨g.ns,g.nt⟩,g.rt⟩,g.rs⟩,fun s hs=>?_,fun t ht=>?_⟩
  ·have:=g.gQ s hs
   unfold pC;simp only [Bool.and_eq_true,decide_eq_true_eq];exact ⟨⟨this.1,this.2.1⟩,this.2.2⟩
  ·have a:=g.tab t ht
   unfold dB;simp only [Bool.and_eq_true,decide_eq_true_eq,List.all_eq_true];refine ⟨⟨⟨⟨⟨a.nm,a.ow⟩,a.ak⟩,a.nr⟩,(lu _ _).2 a.gQ⟩,fun r hr=>?_,a.lr⟩;unfold iR;simp only [Bool.and_eq_true,Bool.not_eq_true',Bool.and_eq_false_iff,beq_eq_false_iff_ne,bne_eq_false_iff_eq];refine ⟨a.fit r hr,?_⟩;by_cases hk:r.kind=4
   ·exact .inr (Bw g.rt lp (a.key r hr hk))
   ·exact .inl hk
end Go.Proofs.YtmflccbnoeaafaaGreat
namespace Go.Proofs.YtmflccbnoeaafaaGreat
open Go.RowKit Go.Deep
set_option maxRecDepth 100000
set_option linter.unusedVariables false
set_option maxHeartbeats 64000000
end Go.Proofs.YtmflccbnoeaafaaGreat
