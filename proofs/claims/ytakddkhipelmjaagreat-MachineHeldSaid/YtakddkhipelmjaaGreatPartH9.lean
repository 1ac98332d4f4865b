import Derived.Test.YtakddkhipelmjaaGreatPartH8
set_option maxRecDepth 100000
set_option linter.unusedVariables false
set_option maxHeartbeats 64000000
namespace Go.Proofs.YtakddkhipelmjaaGreat
open Go.Deep Go.RowKit
theorem Vs (w0:World) (Q:Nat→Prop) (b:Nat) (l:Bt) (w:World) (h:gj w0 Q b l w) :
  Calls Tryz.prog 172 #[.pointer (some ⟨b,0,none⟩)] w (dZ 2 fg w0 Q b w (jW l)):=by
 have B0:=gH (mf.start h [.string ⟨#[]⟩,.string ⟨#[]⟩] 174);clear h
 go_in
 go_wp2_with (first
  | (go_at_call 170;(with_reducible refine (iA w0 _ b _ _ B0.out.rd).mono ?_);rintro e w1 q;rcases q.cases with ⟨n,he,k⟩ | ⟨x1,r1,n,rfl,k,d⟩;all_goals (have N1:=gH n;(try (unfold dM at he;subst he;have K1:=gH (B0.out.fail k);clear n q k));try (have B1:=B0.out.call k d;have ME:=B1.row.1;have Od:=B1.row.2.2 0 (by simp);have Oe:=B1.row.cell (j:=0) rfl;have B1:=B1.set 0 (.string x1) (by simp);simp only [List.set_cons_zero] at B1;have B1:=gH B1;clear n q k d)))
  | (go_at_call 170;(with_reducible refine (iA w0 _ b _ _ B1.out.rd).mono ?_);rintro e w2 q;rcases q.cases with ⟨n,he,k⟩ | ⟨x2,r2,n,rfl,k,d⟩;all_goals (have N2:=gH n;(try (unfold dM at he;subst he;have K2:=gH (B1.out.fail k);clear n q k));try (have B2:=B1.out.call k d;have MG:=B2.row.1;have MH:=B2.row.2.2 1 (by simp);have MI:=B2.row.cell (j:=1) rfl;have B2:=B2.set 1 (.string x2) (by simp);simp only [List.set_cons_succ,List.set_cons_zero] at B2;obtain ⟨e1,e2,e3,B2⟩:=B2.ends 174 Tryz.underlying174 (by kernel_rfl) rfl (by simp [Value.oneCell']);rw [F6] at e1;rw [F7] at e2;have E3:=gH e3;clear e3;have B2:=gH B2;clear n q k d))))
 ·exact ⟨rfl,K1.out,by rw [show jW l=none from by simp only [jW,N1.out,Option.bind_none]];rfl⟩
 ·exact ⟨rfl,K2.out,by rw [show jW l=none from by simp only [jW,N1.out,N2.out,Option.bind_some,Option.map_none]];rfl⟩
 ·refine bodyPost_ret (bB rfl _ rfl E3.out) rfl ?_
  have h1:lU x1:=fJ N1.out;have h2:lU x2:=fJ N2.out;exact B2.out.done (R:=fg) (size:=2) (x:=⟨x1,x2⟩) rfl (by simp [Value.oneCell']) (fun V hV=>⟨rfl,h1,h2⟩) (by simp only [jW,N1.out,N2.out,Option.bind_some,Option.map_some])
theorem Vt (w0:World) (Q:Nat→Prop) (b:Nat) (l:Bt) (w:World) (h:gj w0 Q b l w) :
  Calls Tryz.prog 171 #[.pointer (some ⟨b,0,none⟩),.func (.func 172) #[] #[]] w (FW 2 fg w0 Q b w (bT jW l)):=by
 have HN:=gH (fd w0 Q b l w h);have HZ:=gH h.qz;have hb0:=h.lb;have yX:=gH h.aA.size;clear h
 cases hd:cH l with
 | none =>
  have HN:=gH (HN.out.mono fun e w' (h:jn w0 Q b w (fun n:Int=>.int .i64 n) (cH l) e w')=>(show e=dM∧Kb (fun j=>¬ Q j) w w' from by unfold jn at h;rw [hd] at h;exact ⟨h.2,h.1⟩));have HD:=gH (show bT jW l=none from by unfold bT;rw [hd];rfl);clear hd
  go_in
  go_wp2_with (first
   | (go_at_call 105;(with_reducible refine HN.out.mono ?_);rintro e w1 ⟨he,k1⟩;unfold dM at he;subst he;have K1:=gH k1;clear k1))
  rw [HD.out];exact ⟨rfl,K1.out,rfl⟩
 | some p =>
  obtain ⟨n,r⟩:=p
  have vO:0≤n∧n≤1000000000:=by
   unfold cH at hd
   split at hd
   ·rename_i h;cases hd;exact ⟨by omega,by omega⟩
   ·cases hd
  have HN:=gH (HN.out.mono fun e w' (h:jn w0 Q b w (fun n:Int=>.int .i64 n) (cH l) e w')=>(show e=.returned (.int .i64 n)∧Kb (fun j=>¬ Q j) w w'∧gj w0 Q b r w' from by unfold jn at h;rw [hd] at h;exact ⟨h.2.1,h.1,h.2.2⟩));by_cases hm:n≤4096
  ·have HB:=gH (show decide (n≤4096)=true from decide_eq_true hm)
   have HD:=gH (show bT jW l=gi jW n.toNat r from by unfold bT;rw [hd];simp only [Option.bind_some];rw [if_pos hm]);obtain ⟨m,rfl⟩:∃ m:Nat,n=m:=⟨n.toNat,by omega⟩
   have qj:m≤4096:=by omega
   have HD:=gH (show bT jW l=gi jW m r from HD.out);clear hd
   go_in
   go_wp2_with (first
    | (go_at_call 105;(with_reducible refine HN.out.mono ?_);rintro e w1 ⟨rfl,k1,d1⟩;have K1:=gH (And.intro k1 d1);clear k1 d1)
    | (go_at_call 98;(try rw [HB.out]);(with_reducible refine (fX _).mono ?_);rintro e w2 ⟨rfl,rfl⟩))
   have wl:=gH (px.start (tid:=174) (size:=2) (R:=fg) (d:=jW) (n:=m) K1.out.2 K1.out.1 HZ.out yX.out)
   go_loopw [6,13] (fun v i wr=>∃ k:Nat,k≤m∧i=.int .i64 k∧Hid (∃ h:Hd,v=.slice h.a k h.c)∧Hid (∃ xs bw S rest,px 174 2 fg w0 w Q b jW m r k v xs bw S rest wr)) (fun v i _=>m - (intOf i).toNat)
   case atStart=>exact ⟨0,Nat.zero_le _,rfl,gH ⟨⟨none,0,0⟩,rfl⟩,gH ⟨_,_,_,_,wl.out⟩⟩
   case round =>
    obtain ⟨k,hk,rfl,HV,HF⟩:=hrel;by_cases hlt:k < m
    ·have eH:(k:Int) < (m:Int):=by omega
     obtain ⟨xs,bw,S,rest,F⟩:=HF.out;have hsz:=F.kb.size;have HC:=gH (Vs w0 _ b rest wr F.rd)
     cases hx:jW rest with
     | none =>
      have HC:=gH (HC.out.mono fun e w' (h:dZ 2 fg w0 _ b wr (jW rest) e w')=>(show e=dM∧Kb (fun j=>¬ Q j) wr w' from by unfold dZ at h;rw [hx] at h;exact ⟨h.2,h.1.mono fun j _ e e'=>e (.inl (.inl e'))⟩));have HE:=gH (F.fails hlt hx);have HF:=gH F.kb;clear F hx
      go_wp2_with (first
       | (go_at_call 172;(with_reducible refine HC.out.mono ?_);rintro e w2 ⟨he,k2⟩;unfold dM at he;subst he;have K2:=gH k2;clear k2))
      rw [HD.out,HE.out];exact ⟨rfl,HF.out.trans K2.out,rfl⟩
     | some p =>
      obtain ⟨x,r2⟩:=p;have HC:=gH (HC.out.mono fun e w' (h:dZ 2 fg w0 _ b wr (jW rest) e w')=>(show Kb (fun j=>¬ ((Q j∨S j)∨u6.ownBlock=some j)) wr w'∧∃ (S2:Nat→Prop) (cs:List Value),(∀ j,S2 j→wr.heap.size≤j)∧gj w0 (fun j=>((Q j∨S j)∨u6.ownBlock=some j)∨S2 j) b r2 w'∧e=.returned (.agg cs.toArray)∧cs.length=2∧(∀ u∈cs,u.oneCell'=true)∧fN S2 fg w' cs x from by unfold dZ at h;rw [hx] at h;exact h));have HX:=gH hx;have HF:=gH F;clear F hx
      go_wp2_with (first
       | (go_at_call 172;(with_reducible refine HC.out.mono ?_);rintro e w2 ⟨k2,S2,cs,sn,d2,rfl,hl,h1,hr⟩;obtain ⟨hcs,-⟩:=hr w2 (Kb.refl _ _);subst hcs;have hz2:=k2.size;have K2:=gH (And.intro k2 (And.intro sn (And.intro d2 (And.intro h1 hr))));have O2:=gH (fun o:Obj=>br (P:=fun _=>False) (br HF.out.own k2 fun g hg e=>e (.inr hg)) (Kb.aO ((ag.refl w2).alloc o)) (fun _ _=>id));clear k2 d2 sn h1 hr hl)
       | (at_builtin;go_must (refine pR 174 27 2 (by decide) Tryz.underlying27 (by kernel_rfl) rfl _ _ rfl w.heap.size u6 k bw.flatten rfl (O2.out _) w2.heap.size [.string x.role,.string x.of] rfl (heap_alloc_new w2 _) rfl (by simp [Value.oneCell']) (by omega) (by simp;omega) ?_);intro g cap w5 o5 g5 t5 z5;have G5:=gH (And.intro o5 (And.intro g5 (And.intro t5 z5)));clear o5 g5 t5 z5))
      obtain ⟨k2,sn,d2,h1,hr⟩:=K2.out;obtain ⟨o5,g5,t5,z5⟩:=G5.out;refine ⟨⟨k+1,by omega,by go_num,gH ⟨⟨some ⟨g,0,none⟩,0,cap⟩,rfl⟩,gH ⟨_,_,_,_,HF.out.step (S2:=S2) hlt HX.out k2 sn d2 rfl hr g5 t5 o5 z5⟩⟩,?_⟩;simp [intOf];omega
    ·have eH:¬ (k:Int) < (m:Int):=by omega
     go_wp2;go_ret
     have e:k=m:=by omega
     subst e;obtain ⟨xs,bw,S,rest,F⟩:=HF.out;obtain ⟨hd,hv⟩:=HV.out;rw [HD.out];exact F.done hv qj
  ·have HB:=gH (show decide (n≤4096)=false from decide_eq_false hm)
   have HD:=gH (show bT jW l=none from by unfold bT;rw [hd];simp only [Option.bind_some];rw [if_neg hm]);clear hd
   go_in
   go_wp2_with (first
    | (go_at_call 105;(with_reducible refine HN.out.mono ?_);rintro e w1 ⟨rfl,k1,d1⟩;have K1:=gH (And.intro k1 d1);clear k1 d1)
    | (go_at_call 98;(try rw [HB.out]);(with_reducible refine (fW _).mono ?_);rintro e w2 ⟨he,rfl⟩;unfold dM at he;subst he))
   rw [HD.out];exact ⟨rfl,K1.out.1,rfl⟩
theorem Vu (w0:World) (Q:Nat→Prop) (b:Nat) (l:Bt) (w:World) (h:gj w0 Q b l w) :
  Calls Tryz.prog 174 #[.pointer (some ⟨b,0,none⟩)] w (dZ 6 gy w0 Q b w (gN l)):=by
 have B0:=gH (mf.start h [.string ⟨#[]⟩,.string ⟨#[]⟩,.int .i64 0,.string ⟨#[]⟩,.string ⟨#[]⟩,.bool false] 177);clear h
 go_in
 go_wp2_with (first
  | (go_at_call 170;(with_reducible refine (iA w0 _ b _ _ B0.out.rd).mono ?_);rintro e w1 q;rcases q.cases with ⟨n,he,k⟩ | ⟨x1,r1,n,rfl,k,d⟩;all_goals (have N1:=gH n;(try (unfold dM at he;subst he;have K1:=gH (B0.out.fail k);clear n q k));try (have B1:=B0.out.call k d;have ME:=B1.row.1;have Od:=B1.row.2.2 0 (by simp);have Oe:=B1.row.cell (j:=0) rfl;have B1:=B1.set 0 (.string x1) (by simp);simp only [List.set_cons_zero] at B1;have B1:=gH B1;clear n q k d)))
  | (go_at_call 170;(with_reducible refine (iA w0 _ b _ _ B1.out.rd).mono ?_);rintro e w2 q;rcases q.cases with ⟨n,he,k⟩ | ⟨x2,r2,n,rfl,k,d⟩;all_goals (have N2:=gH n;(try (unfold dM at he;subst he;have K2:=gH (B1.out.fail k);clear n q k));try (have B2:=B1.out.call k d;have MG:=B2.row.1;have MH:=B2.row.2.2 1 (by simp);have MI:=B2.row.cell (j:=1) rfl;have B2:=B2.set 1 (.string x2) (by simp);simp only [List.set_cons_succ,List.set_cons_zero] at B2;have B2:=gH B2;clear n q k d)))
  | (go_at_call 105;(with_reducible refine (fd w0 _ b _ _ B2.out.rd).mono ?_);rintro e w3 q;rcases q.cases with ⟨n,he,k⟩ | ⟨x3,r3,n,rfl,k,d⟩;all_goals (have N3:=gH n;(try (unfold dM at he;subst he;have K3:=gH (B2.out.fail k);clear n q k));try (have B3:=B2.out.call k d;have QF:=B3.row.1;have QG:=B3.row.2.2 2 (by simp);have QH:=B3.row.cell (j:=2) rfl;have B3:=B3.set 2 (.int .i64 x3) (by simp);simp only [List.set_cons_succ,List.set_cons_zero] at B3;have B3:=gH B3;clear n q k d)))
  | (go_at_call 170;(with_reducible refine (iA w0 _ b _ _ B3.out.rd).mono ?_);rintro e w4 q;rcases q.cases with ⟨n,he,k⟩ | ⟨x4,r4,n,rfl,k,d⟩;all_goals (have N4:=gH n;(try (unfold dM at he;subst he;have K4:=gH (B3.out.fail k);clear n q k));try (have B4:=B3.out.call k d;have Rw:=B4.row.1;have Rx:=B4.row.2.2 3 (by simp);have Ry:=B4.row.cell (j:=3) rfl;have B4:=B4.set 3 (.string x4) (by simp);simp only [List.set_cons_succ,List.set_cons_zero] at B4;have B4:=gH B4;clear n q k d)))
  | (go_at_call 170;(with_reducible refine (iA w0 _ b _ _ B4.out.rd).mono ?_);rintro e w5 q;rcases q.cases with ⟨n,he,k⟩ | ⟨x5,r5,n,rfl,k,d⟩;all_goals (have N5:=gH n;(try (unfold dM at he;subst he;have K5:=gH (B4.out.fail k);clear n q k));try (have B5:=B4.out.call k d;have Wq:=B5.row.1;have Ws:=B5.row.2.2 4 (by simp);have Wt:=B5.row.cell (j:=4) rfl;have B5:=B5.set 4 (.string x5) (by simp);simp only [List.set_cons_succ,List.set_cons_zero] at B5;have B5:=gH B5;clear n q k d)))
  | (go_at_call 242;(with_reducible refine (N0 w0 _ b _ _ B5.out.rd).mono ?_);rintro e w6 q;rcases q.cases with ⟨n,he,k⟩ | ⟨x6,r6,n,rfl,k,d⟩;all_goals (have N6:=gH n;(try (unfold dM at he;subst he;have K6:=gH (B5.out.fail k);clear n q k));try (have B6:=B5.out.call k d;have b6y:=B6.row.1;have b6f:=B6.row.2.2 5 (by simp);have b6c:=B6.row.cell (j:=5) rfl;have B6:=B6.set 5 (.bool x6) (by simp);simp only [List.set_cons_succ,List.set_cons_zero] at B6;obtain ⟨e1,e2,e3,B6⟩:=B6.ends 177 Tryz.underlying177 (by kernel_rfl) rfl (by simp [Value.oneCell']);rw [Gc] at e1;rw [Gd] at e2;have E3:=gH e3;clear e3;have B6:=gH B6;clear n q k d))))
 ·exact ⟨rfl,K1.out,by rw [show gN l=none from by simp only [gN,N1.out,Option.bind_none]];rfl⟩
 ·exact ⟨rfl,K2.out,by rw [show gN l=none from by simp only [gN,N1.out,N2.out,Option.bind_some,Option.bind_none]];rfl⟩
 ·exact ⟨rfl,K3.out,by rw [show gN l=none from by simp only [gN,N1.out,N2.out,N3.out,Option.bind_some,Option.bind_none]];rfl⟩
 ·exact ⟨rfl,K4.out,by rw [show gN l=none from by simp only [gN,N1.out,N2.out,N3.out,N4.out,Option.bind_some,Option.bind_none]];rfl⟩
 ·exact ⟨rfl,K5.out,by rw [show gN l=none from by simp only [gN,N1.out,N2.out,N3.out,N4.out,N5.out,Option.bind_some,Option.bind_none]];rfl⟩
 ·exact ⟨rfl,K6.out,by rw [show gN l=none from by simp only [gN,N1.out,N2.out,N3.out,N4.out,N5.out,N6.out,Option.bind_some,Option.map_none]];rfl⟩
 ·refine bodyPost_ret (bB rfl _ rfl E3.out) rfl ?_
  have h1:lU x1:=fJ N1.out;have h2:lU x2:=fJ N2.out;have h4:lU x4:=fJ N4.out;have h5:lU x5:=fJ N5.out;exact B6.out.done (R:=gy) (size:=6) (x:=⟨x1,x2,x3,x4,x5,x6⟩) rfl (by simp [Value.oneCell']) (fun V hV=>⟨rfl,h1,h2,h4,h5,QE N3.out⟩) (by simp only [gN,N1.out,N2.out,N3.out,N4.out,N5.out,N6.out,Option.bind_some,Option.map_some])
theorem Vv (w0:World) (Q:Nat→Prop) (b:Nat) (l:Bt) (w:World) (h:gj w0 Q b l w) :
  Calls Tryz.prog 173 #[.pointer (some ⟨b,0,none⟩),.func (.func 174) #[] #[]] w (FW 6 gy w0 Q b w (bT gN l)):=by
 have HN:=gH (fd w0 Q b l w h);have HZ:=gH h.qz;have hb0:=h.lb;have yX:=gH h.aA.size;clear h
 cases hd:cH l with
 | none =>
  have HN:=gH (HN.out.mono fun e w' (h:jn w0 Q b w (fun n:Int=>.int .i64 n) (cH l) e w')=>(show e=dM∧Kb (fun j=>¬ Q j) w w' from by unfold jn at h;rw [hd] at h;exact ⟨h.2,h.1⟩));have HD:=gH (show bT gN l=none from by unfold bT;rw [hd];rfl);clear hd
  go_in
  go_wp2_with (first
   | (go_at_call 105;(with_reducible refine HN.out.mono ?_);rintro e w1 ⟨he,k1⟩;unfold dM at he;subst he;have K1:=gH k1;clear k1))
  rw [HD.out];exact ⟨rfl,K1.out,rfl⟩
 | some p =>
  obtain ⟨n,r⟩:=p
  have vO:0≤n∧n≤1000000000:=by
   unfold cH at hd
   split at hd
   ·rename_i h;cases hd;exact ⟨by omega,by omega⟩
   ·cases hd
  have HN:=gH (HN.out.mono fun e w' (h:jn w0 Q b w (fun n:Int=>.int .i64 n) (cH l) e w')=>(show e=.returned (.int .i64 n)∧Kb (fun j=>¬ Q j) w w'∧gj w0 Q b r w' from by unfold jn at h;rw [hd] at h;exact ⟨h.2.1,h.1,h.2.2⟩));by_cases hm:n≤4096
  ·have HB:=gH (show decide (n≤4096)=true from decide_eq_true hm)
   have HD:=gH (show bT gN l=gi gN n.toNat r from by unfold bT;rw [hd];simp only [Option.bind_some];rw [if_pos hm]);obtain ⟨m,rfl⟩:∃ m:Nat,n=m:=⟨n.toNat,by omega⟩
   have qj:m≤4096:=by omega
   have HD:=gH (show bT gN l=gi gN m r from HD.out);clear hd
   go_in
   go_wp2_with (first
    | (go_at_call 105;(with_reducible refine HN.out.mono ?_);rintro e w1 ⟨rfl,k1,d1⟩;have K1:=gH (And.intro k1 d1);clear k1 d1)
    | (go_at_call 98;(try rw [HB.out]);(with_reducible refine (fX _).mono ?_);rintro e w2 ⟨rfl,rfl⟩))
   have wl:=gH (px.start (tid:=177) (size:=6) (R:=gy) (d:=gN) (n:=m) K1.out.2 K1.out.1 HZ.out yX.out)
   go_loopw [6,13] (fun v i wr=>∃ k:Nat,k≤m∧i=.int .i64 k∧Hid (∃ h:Hd,v=.slice h.a k h.c)∧Hid (∃ xs bw S rest,px 177 6 gy w0 w Q b gN m r k v xs bw S rest wr)) (fun v i _=>m - (intOf i).toNat)
   case atStart=>exact ⟨0,Nat.zero_le _,rfl,gH ⟨⟨none,0,0⟩,rfl⟩,gH ⟨_,_,_,_,wl.out⟩⟩
   case round =>
    obtain ⟨k,hk,rfl,HV,HF⟩:=hrel;by_cases hlt:k < m
    ·have eH:(k:Int) < (m:Int):=by omega
     obtain ⟨xs,bw,S,rest,F⟩:=HF.out;have hsz:=F.kb.size;have HC:=gH (Vu w0 _ b rest wr F.rd)
     cases hx:gN rest with
     | none =>
      have HC:=gH (HC.out.mono fun e w' (h:dZ 6 gy w0 _ b wr (gN rest) e w')=>(show e=dM∧Kb (fun j=>¬ Q j) wr w' from by unfold dZ at h;rw [hx] at h;exact ⟨h.2,h.1.mono fun j _ e e'=>e (.inl (.inl e'))⟩));have HE:=gH (F.fails hlt hx);have HF:=gH F.kb;clear F hx
      go_wp2_with (first
       | (go_at_call 174;(with_reducible refine HC.out.mono ?_);rintro e w2 ⟨he,k2⟩;unfold dM at he;subst he;have K2:=gH k2;clear k2))
      rw [HD.out,HE.out];exact ⟨rfl,HF.out.trans K2.out,rfl⟩
     | some p =>
      obtain ⟨x,r2⟩:=p;have HC:=gH (HC.out.mono fun e w' (h:dZ 6 gy w0 _ b wr (gN rest) e w')=>(show Kb (fun j=>¬ ((Q j∨S j)∨u6.ownBlock=some j)) wr w'∧∃ (S2:Nat→Prop) (cs:List Value),(∀ j,S2 j→wr.heap.size≤j)∧gj w0 (fun j=>((Q j∨S j)∨u6.ownBlock=some j)∨S2 j) b r2 w'∧e=.returned (.agg cs.toArray)∧cs.length=6∧(∀ u∈cs,u.oneCell'=true)∧fN S2 gy w' cs x from by unfold dZ at h;rw [hx] at h;exact h));have HX:=gH hx;have HF:=gH F;clear F hx
      go_wp2_with (first
       | (go_at_call 174;(with_reducible refine HC.out.mono ?_);rintro e w2 ⟨k2,S2,cs,sn,d2,rfl,hl,h1,hr⟩;obtain ⟨hcs,-⟩:=hr w2 (Kb.refl _ _);unfold eR at hcs;subst hcs;have hz2:=k2.size;have K2:=gH (And.intro k2 (And.intro sn (And.intro d2 (And.intro h1 hr))));have O2:=gH (fun o:Obj=>br (P:=fun _=>False) (br HF.out.own k2 fun g hg e=>e (.inr hg)) (Kb.aO ((ag.refl w2).alloc o)) (fun _ _=>id));clear k2 d2 sn h1 hr hl)
       | (at_builtin;go_must (refine pR 177 30 6 (by decide) Tryz.underlying30 (by kernel_rfl) rfl _ _ rfl w.heap.size u6 k bw.flatten rfl (O2.out _) w2.heap.size [.string x.af,.string x.table,.int .i64 x.right,.string x.aI,.string x.to,.bool x.opt] rfl (heap_alloc_new w2 _) rfl (by simp [Value.oneCell']) (by omega) (by simp;omega) ?_);intro g cap w5 o5 g5 t5 z5;have G5:=gH (And.intro o5 (And.intro g5 (And.intro t5 z5)));clear o5 g5 t5 z5))
      obtain ⟨k2,sn,d2,h1,hr⟩:=K2.out;obtain ⟨o5,g5,t5,z5⟩:=G5.out;refine ⟨⟨k+1,by omega,by go_num,gH ⟨⟨some ⟨g,0,none⟩,0,cap⟩,rfl⟩,gH ⟨_,_,_,_,HF.out.step (S2:=S2) hlt HX.out k2 sn d2 rfl hr g5 t5 o5 z5⟩⟩,?_⟩;simp [intOf];omega
    ·have eH:¬ (k:Int) < (m:Int):=by omega
     go_wp2;go_ret
     have e:k=m:=by omega
     subst e;obtain ⟨xs,bw,S,rest,F⟩:=HF.out;obtain ⟨hd,hv⟩:=HV.out;rw [HD.out];exact F.done hv qj
  ·have HB:=gH (show decide (n≤4096)=false from decide_eq_false hm)
   have HD:=gH (show bT gN l=none from by unfold bT;rw [hd];simp only [Option.bind_some];rw [if_neg hm]);clear hd
   go_in
   go_wp2_with (first
    | (go_at_call 105;(with_reducible refine HN.out.mono ?_);rintro e w1 ⟨rfl,k1,d1⟩;have K1:=gH (And.intro k1 d1);clear k1 d1)
    | (go_at_call 98;(try rw [HB.out]);(with_reducible refine (fW _).mono ?_);rintro e w2 ⟨he,rfl⟩;unfold dM at he;subst he))
   rw [HD.out];exact ⟨rfl,K1.out.1,rfl⟩
def kU (w:World) (cs:List Value) (x:bS):Prop:=∃ As c1 At c2 An c3 Am c4 Ag c5,cs=[.int .i64 x.av,.int .i64 x.version,.slice As x.aj.ae.length c1,.slice At x.aj.tables.length c2,.slice An x.ar.names.length c3,.slice Am x.ar.members.length c4,.slice Ag x.ah.length c5]∧az w 2 eE As c1 x.aj.ae∧az w 5 dE At c2 x.aj.tables∧az w 1 dC An c3 x.ar.names∧az w 2 fg Am c4 x.ar.members∧az w 6 gy Ag c5 x.ah
theorem Vw (w0:World) (Q:Nat→Prop) (b:Nat) (l:Bt) (w:World) (h:gj w0 Q b l w) :
  Calls Tryz.prog 100 #[.pointer (some ⟨b,0,none⟩)] w (dZ 7 kU w0 Q b w (kH l)):=by
 have B0:=gH (mf.start h [.int .i64 0,.int .i64 0,.slice none 0 0,.slice none 0 0,.slice none 0 0,.slice none 0 0,.slice none 0 0] 32);clear h
 go_in
 go_wp2_with (first
  | (go_at_call 105;(with_reducible refine (fd w0 _ b _ _ B0.out.rd).mono ?_);rintro e w1 q;rcases q.cases with ⟨n,he,k⟩ | ⟨x1,r1,n,rfl,k,d⟩;all_goals (have N1:=gH n;(try (unfold dM at he;subst he;have K1:=gH (B0.out.fail k);clear n q k));try (have B1:=B0.out.call k d;have ME:=B1.row.1;have Od:=B1.row.2.2 0 (by simp);have Oe:=B1.row.cell (j:=0) rfl;have B1:=B1.set 0 (.int .i64 x1) (by simp);simp only [List.set_cons_zero] at B1;have B1:=gH B1;clear n q k d)))
  | (go_at_call 105;(with_reducible refine (fd w0 _ b _ _ B1.out.rd).mono ?_);rintro e w2 q;rcases q.cases with ⟨n,he,k⟩ | ⟨x2,r2,n,rfl,k,d⟩;all_goals (have N2:=gH n;(try (unfold dM at he;subst he;have K2:=gH (B1.out.fail k);clear n q k));try (have B2:=B1.out.call k d;have MG:=B2.row.1;have MH:=B2.row.2.2 1 (by simp);have MI:=B2.row.cell (j:=1) rfl;have B2:=B2.set 1 (.int .i64 x2) (by simp);simp only [List.set_cons_succ,List.set_cons_zero] at B2;have B2:=gH B2;clear n q k d)))
  | (go_at_call 165;(with_reducible refine (Vl w0 _ b _ _ B2.out.rd).mono ?_);rintro e w3 q;rcases q.cases with ⟨n,he,k⟩ | ⟨S3,a3,c3,x3,r3,n,rfl,sn,k,d,hs⟩;all_goals (have N3:=gH n;(try (unfold dM at he;subst he;have K3:=gH (B2.out.fail k);clear n q k));try (have B3:=B2.out.mP sn k d hs;clear sn hs;have QF:=B3.row.1;have QG:=B3.row.2.2 2 (by simp);have QH:=B3.row.cell (j:=2) rfl;have B3:=B3.set 2 (.slice a3 x3.length c3) (by simp);simp only [List.set_cons_succ,List.set_cons_zero] at B3;have B3:=gH B3;clear n q k d)))
  | (go_at_call 167;(with_reducible refine (Vr w0 _ b _ _ B3.out.rd).mono ?_);rintro e w4 q;rcases q.cases with ⟨n,he,k⟩ | ⟨S4,a4,c4,x4,r4,n,rfl,sn,k,d,hs⟩;all_goals (have N4:=gH n;(try (unfold dM at he;subst he;have K4:=gH (B3.out.fail k);clear n q k));try (have B4:=B3.out.mP sn k d hs;clear sn hs;have Rw:=B4.row.1;have Rx:=B4.row.2.2 3 (by simp);have Ry:=B4.row.cell (j:=3) rfl;have B4:=B4.set 3 (.slice a4 x4.length c4) (by simp);simp only [List.set_cons_succ,List.set_cons_zero] at B4;have B4:=gH B4;clear n q k d)))
  | (go_at_call 169;(with_reducible refine (N9 w0 _ b _ _ B4.out.rd).mono ?_);rintro e w5 q;rcases q.cases with ⟨n,he,k⟩ | ⟨S5,a5,c5,x5,r5,n,rfl,sn,k,d,hs⟩;all_goals (have N5:=gH n;(try (unfold dM at he;subst he;have K5:=gH (B4.out.fail k);clear n q k));try (have B5:=B4.out.mP sn k d hs;clear sn hs;have Wq:=B5.row.1;have Ws:=B5.row.2.2 4 (by simp);have Wt:=B5.row.cell (j:=4) rfl;have B5:=B5.set 4 (.slice a5 x5.length c5) (by simp);simp only [List.set_cons_succ,List.set_cons_zero] at B5;have B5:=gH B5;clear n q k d)))
  | (go_at_call 171;(with_reducible refine (Vt w0 _ b _ _ B5.out.rd).mono ?_);rintro e w6 q;rcases q.cases with ⟨n,he,k⟩ | ⟨S6,a6,c6,x6,r6,n,rfl,sn,k,d,hs⟩;all_goals (have N6:=gH n;(try (unfold dM at he;subst he;have K6:=gH (B5.out.fail k);clear n q k));try (have B6:=B5.out.mP sn k d hs;clear sn hs;have b6y:=B6.row.1;have b6f:=B6.row.2.2 5 (by simp);have b6c:=B6.row.cell (j:=5) rfl;have B6:=B6.set 5 (.slice a6 x6.length c6) (by simp);simp only [List.set_cons_succ,List.set_cons_zero] at B6;have B6:=gH B6;clear n q k d)))
  | (go_at_call 173;(with_reducible refine (Vv w0 _ b _ _ B6.out.rd).mono ?_);rintro e w7 q;rcases q.cases with ⟨n,he,k⟩ | ⟨S7,a7,c7,x7,r7,n,rfl,sn,k,d,hs⟩;all_goals (have N7:=gH n;(try (unfold dM at he;subst he;have K7:=gH (B6.out.fail k);clear n q k));try (have B7:=B6.out.mP sn k d hs;clear sn hs;have b7y:=B7.row.1;have b7f:=B7.row.2.2 6 (by simp);have b7c:=B7.row.cell (j:=6) rfl;have B7:=B7.set 6 (.slice a7 x7.length c7) (by simp);simp only [List.set_cons_succ,List.set_cons_zero] at B7;obtain ⟨e1,e2,e3,B7⟩:=B7.ends 32 Tryz.underlying32 (by kernel_rfl) rfl (by simp [Value.oneCell']);rw [Ge] at e1;rw [nE] at e2;have E3:=gH e3;clear e3;have B7:=gH B7;clear n q k d))))
 ·exact ⟨rfl,K1.out,by rw [show kH l=none from by simp only [kH,N1.out,Option.bind_none]];rfl⟩
 ·exact ⟨rfl,K2.out,by rw [show kH l=none from by simp only [kH,N1.out,N2.out,Option.bind_some,Option.bind_none]];rfl⟩
 ·exact ⟨rfl,K3.out,by rw [show kH l=none from by simp only [kH,N1.out,N2.out,N3.out,Option.bind_some,Option.bind_none]];rfl⟩
 ·exact ⟨rfl,K4.out,by rw [show kH l=none from by simp only [kH,N1.out,N2.out,N3.out,N4.out,Option.bind_some,Option.bind_none]];rfl⟩
 ·exact ⟨rfl,K5.out,by rw [show kH l=none from by simp only [kH,N1.out,N2.out,N3.out,N4.out,N5.out,Option.bind_some,Option.bind_none]];rfl⟩
 ·exact ⟨rfl,K6.out,by rw [show kH l=none from by simp only [kH,N1.out,N2.out,N3.out,N4.out,N5.out,N6.out,Option.bind_some,Option.bind_none]];rfl⟩
 ·exact ⟨rfl,K7.out,by rw [show kH l=none from by simp only [kH,N1.out,N2.out,N3.out,N4.out,N5.out,N6.out,N7.out,Option.bind_some,Option.map_none]];rfl⟩
 ·refine bodyPost_ret (bB rfl _ rfl E3.out) rfl ?_
  exact B7.out.done (R:=kU) (size:=7) (x:=⟨x1,x2,⟨x3,x4⟩,⟨x5,x6⟩,x7⟩) rfl (by simp [Value.oneCell']) (fun V hV=>⟨a3,c3,a4,c4,a5,c5,a6,c6,a7,c7,rfl,hV.1.1.1.1.2,hV.1.1.1.2,hV.1.1.2,hV.1.2,hV.2⟩) (by simp only [kH,N1.out,N2.out,N3.out,N4.out,N5.out,N6.out,N7.out,Option.bind_some,Option.map_some])
theorem Vx (w0:World) (Q:Nat→Prop) (b:Nat) (l:Bt) (w:World) (h:gj w0 Q b l w) :
  Calls Tryz.prog 102 #[.pointer (some ⟨b,0,none⟩)] w (dZ 5 fj w0 Q b w (ib l)):=by
 have B0:=gH (mf.start h [.int .i64 0,.int .i64 0,.int .i64 0,.int .i64 0,.int .i64 0] 48);clear h
 go_in
 go_wp2_with (first
  | (go_at_call 105;(with_reducible refine (fd w0 _ b _ _ B0.out.rd).mono ?_);rintro e w1 q;rcases q.cases with ⟨n,he,k⟩ | ⟨x1,r1,n,rfl,k,d⟩;all_goals (have N1:=gH n;(try (unfold dM at he;subst he;have K1:=gH (B0.out.fail k);clear n q k));try (have B1:=B0.out.call k d;have ME:=B1.row.1;have Od:=B1.row.2.2 0 (by simp);have Oe:=B1.row.cell (j:=0) rfl;have B1:=B1.set 0 (.int .i64 x1) (by simp);simp only [List.set_cons_zero] at B1;have B1:=gH B1;clear n q k d)))
  | (go_at_call 105;(with_reducible refine (fd w0 _ b _ _ B1.out.rd).mono ?_);rintro e w2 q;rcases q.cases with ⟨n,he,k⟩ | ⟨x2,r2,n,rfl,k,d⟩;all_goals (have N2:=gH n;(try (unfold dM at he;subst he;have K2:=gH (B1.out.fail k);clear n q k));try (have B2:=B1.out.call k d;have MG:=B2.row.1;have MH:=B2.row.2.2 1 (by simp);have MI:=B2.row.cell (j:=1) rfl;have B2:=B2.set 1 (.int .i64 x2) (by simp);simp only [List.set_cons_succ,List.set_cons_zero] at B2;have B2:=gH B2;clear n q k d)))
  | (go_at_call 105;(with_reducible refine (fd w0 _ b _ _ B2.out.rd).mono ?_);rintro e w3 q;rcases q.cases with ⟨n,he,k⟩ | ⟨x3,r3,n,rfl,k,d⟩;all_goals (have N3:=gH n;(try (unfold dM at he;subst he;have K3:=gH (B2.out.fail k);clear n q k));try (have B3:=B2.out.call k d;have QF:=B3.row.1;have QG:=B3.row.2.2 2 (by simp);have QH:=B3.row.cell (j:=2) rfl;have B3:=B3.set 2 (.int .i64 x3) (by simp);simp only [List.set_cons_succ,List.set_cons_zero] at B3;have B3:=gH B3;clear n q k d)))
  | (go_at_call 105;(with_reducible refine (fd w0 _ b _ _ B3.out.rd).mono ?_);rintro e w4 q;rcases q.cases with ⟨n,he,k⟩ | ⟨x4,r4,n,rfl,k,d⟩;all_goals (have N4:=gH n;(try (unfold dM at he;subst he;have K4:=gH (B3.out.fail k);clear n q k));try (have B4:=B3.out.call k d;have Rw:=B4.row.1;have Rx:=B4.row.2.2 3 (by simp);have Ry:=B4.row.cell (j:=3) rfl;have B4:=B4.set 3 (.int .i64 x4) (by simp);simp only [List.set_cons_succ,List.set_cons_zero] at B4;have B4:=gH B4;clear n q k d)))
  | (go_at_call 105;(with_reducible refine (fd w0 _ b _ _ B4.out.rd).mono ?_);rintro e w5 q;rcases q.cases with ⟨n,he,k⟩ | ⟨x5,r5,n,rfl,k,d⟩;all_goals (have N5:=gH n;(try (unfold dM at he;subst he;have K5:=gH (B4.out.fail k);clear n q k));try (have B5:=B4.out.call k d;have Wq:=B5.row.1;have Ws:=B5.row.2.2 4 (by simp);have Wt:=B5.row.cell (j:=4) rfl;have B5:=B5.set 4 (.int .i64 x5) (by simp);simp only [List.set_cons_succ,List.set_cons_zero] at B5;obtain ⟨e1,e2,e3,B5⟩:=B5.ends 48 Tryz.underlying48 (by kernel_rfl) rfl (by simp [Value.oneCell']);rw [JG] at e1;rw [JH] at e2;have E3:=gH e3;clear e3;have B5:=gH B5;clear n q k d))))
 ·exact ⟨rfl,K1.out,by rw [show ib l=none from by simp only [ib,N1.out,Option.bind_none]];rfl⟩
 ·exact ⟨rfl,K2.out,by rw [show ib l=none from by simp only [ib,N1.out,N2.out,Option.bind_some,Option.bind_none]];rfl⟩
 ·exact ⟨rfl,K3.out,by rw [show ib l=none from by simp only [ib,N1.out,N2.out,N3.out,Option.bind_some,Option.bind_none]];rfl⟩
 ·exact ⟨rfl,K4.out,by rw [show ib l=none from by simp only [ib,N1.out,N2.out,N3.out,N4.out,Option.bind_some,Option.bind_none]];rfl⟩
 ·exact ⟨rfl,K5.out,by rw [show ib l=none from by simp only [ib,N1.out,N2.out,N3.out,N4.out,N5.out,Option.bind_some,Option.map_none]];rfl⟩
 ·refine bodyPost_ret (bB rfl _ rfl E3.out) rfl ?_
  exact B5.out.done (R:=fj) (size:=5) (x:=⟨x1,x2,x3,x4,x5⟩) rfl (by simp [Value.oneCell']) (fun V hV=>rfl) (by simp only [ib,N1.out,N2.out,N3.out,N4.out,N5.out,Option.bind_some,Option.map_some])
theorem Vy (w0:World) (Q:Nat→Prop) (b:Nat) (l:Bt) (w:World) (h:gj w0 Q b l w) :
  Calls Tryz.prog 101 #[.pointer (some ⟨b,0,none⟩),.func (.func 102) #[] #[]] w (FW 5 fj w0 Q b w (bT ib l)):=by
 have HN:=gH (fd w0 Q b l w h);have HZ:=gH h.qz;have hb0:=h.lb;have yX:=gH h.aA.size;clear h
 cases hd:cH l with
 | none =>
  have HN:=gH (HN.out.mono fun e w' (h:jn w0 Q b w (fun n:Int=>.int .i64 n) (cH l) e w')=>(show e=dM∧Kb (fun j=>¬ Q j) w w' from by unfold jn at h;rw [hd] at h;exact ⟨h.2,h.1⟩));have HD:=gH (show bT ib l=none from by unfold bT;rw [hd];rfl);clear hd
  go_in
  go_wp2_with (first
   | (go_at_call 105;(with_reducible refine HN.out.mono ?_);rintro e w1 ⟨he,k1⟩;unfold dM at he;subst he;have K1:=gH k1;clear k1))
  rw [HD.out];exact ⟨rfl,K1.out,rfl⟩
 | some p =>
  obtain ⟨n,r⟩:=p
  have vO:0≤n∧n≤1000000000:=by
   unfold cH at hd
   split at hd
   ·rename_i h;cases hd;exact ⟨by omega,by omega⟩
   ·cases hd
  have HN:=gH (HN.out.mono fun e w' (h:jn w0 Q b w (fun n:Int=>.int .i64 n) (cH l) e w')=>(show e=.returned (.int .i64 n)∧Kb (fun j=>¬ Q j) w w'∧gj w0 Q b r w' from by unfold jn at h;rw [hd] at h;exact ⟨h.2.1,h.1,h.2.2⟩));by_cases hm:n≤4096
  ·have HB:=gH (show decide (n≤4096)=true from decide_eq_true hm)
   have HD:=gH (show bT ib l=gi ib n.toNat r from by unfold bT;rw [hd];simp only [Option.bind_some];rw [if_pos hm]);obtain ⟨m,rfl⟩:∃ m:Nat,n=m:=⟨n.toNat,by omega⟩
   have qj:m≤4096:=by omega
   have HD:=gH (show bT ib l=gi ib m r from HD.out);clear hd
   go_in
   go_wp2_with (first
    | (go_at_call 105;(with_reducible refine HN.out.mono ?_);rintro e w1 ⟨rfl,k1,d1⟩;have K1:=gH (And.intro k1 d1);clear k1 d1)
    | (go_at_call 98;(try rw [HB.out]);(with_reducible refine (fX _).mono ?_);rintro e w2 ⟨rfl,rfl⟩))
   have wl:=gH (px.start (tid:=48) (size:=5) (R:=fj) (d:=ib) (n:=m) K1.out.2 K1.out.1 HZ.out yX.out)
   go_loopw [6,13] (fun v i wr=>∃ k:Nat,k≤m∧i=.int .i64 k∧Hid (∃ h:Hd,v=.slice h.a k h.c)∧Hid (∃ xs bw S rest,px 48 5 fj w0 w Q b ib m r k v xs bw S rest wr)) (fun v i _=>m - (intOf i).toNat)
   case atStart=>exact ⟨0,Nat.zero_le _,rfl,gH ⟨⟨none,0,0⟩,rfl⟩,gH ⟨_,_,_,_,wl.out⟩⟩
   case round =>
    obtain ⟨k,hk,rfl,HV,HF⟩:=hrel;by_cases hlt:k < m
    ·have eH:(k:Int) < (m:Int):=by omega
     obtain ⟨xs,bw,S,rest,F⟩:=HF.out;have hsz:=F.kb.size;have HC:=gH (Vx w0 _ b rest wr F.rd)
     cases hx:ib rest with
     | none =>
      have HC:=gH (HC.out.mono fun e w' (h:dZ 5 fj w0 _ b wr (ib rest) e w')=>(show e=dM∧Kb (fun j=>¬ Q j) wr w' from by unfold dZ at h;rw [hx] at h;exact ⟨h.2,h.1.mono fun j _ e e'=>e (.inl (.inl e'))⟩));have HE:=gH (F.fails hlt hx);have HF:=gH F.kb;clear F hx
      go_wp2_with (first
       | (go_at_call 102;(with_reducible refine HC.out.mono ?_);rintro e w2 ⟨he,k2⟩;unfold dM at he;subst he;have K2:=gH k2;clear k2))
      rw [HD.out,HE.out];exact ⟨rfl,HF.out.trans K2.out,rfl⟩
     | some p =>
      obtain ⟨x,r2⟩:=p;have HC:=gH (HC.out.mono fun e w' (h:dZ 5 fj w0 _ b wr (ib rest) e w')=>(show Kb (fun j=>¬ ((Q j∨S j)∨u6.ownBlock=some j)) wr w'∧∃ (S2:Nat→Prop) (cs:List Value),(∀ j,S2 j→wr.heap.size≤j)∧gj w0 (fun j=>((Q j∨S j)∨u6.ownBlock=some j)∨S2 j) b r2 w'∧e=.returned (.agg cs.toArray)∧cs.length=5∧(∀ u∈cs,u.oneCell'=true)∧fN S2 fj w' cs x from by unfold dZ at h;rw [hx] at h;exact h));have HX:=gH hx;have HF:=gH F;clear F hx
      go_wp2_with (first
       | (go_at_call 102;(with_reducible refine HC.out.mono ?_);rintro e w2 ⟨k2,S2,cs,sn,d2,rfl,hl,h1,hr⟩;have hcs:=hr w2 (Kb.refl _ _);unfold fj cj at hcs;subst hcs;have hz2:=k2.size;have K2:=gH (And.intro k2 (And.intro sn (And.intro d2 (And.intro h1 hr))));have O2:=gH (fun o:Obj=>br (P:=fun _=>False) (br HF.out.own k2 fun g hg e=>e (.inr hg)) (Kb.aO ((ag.refl w2).alloc o)) (fun _ _=>id));clear k2 d2 sn h1 hr hl)
       | (at_builtin;go_must (refine pR 48 33 5 (by decide) Tryz.underlying33 (by kernel_rfl) rfl _ _ rfl w.heap.size u6 k bw.flatten rfl (O2.out _) w2.heap.size [.int .i64 x.aC,.int .i64 x.number,.int .i64 x.code,.int .i64 x.fence,.int .i64 x.version] rfl (heap_alloc_new w2 _) rfl (by simp [Value.oneCell']) (by omega) (by simp;omega) ?_);intro g cap w5 o5 g5 t5 z5;have G5:=gH (And.intro o5 (And.intro g5 (And.intro t5 z5)));clear o5 g5 t5 z5))
      obtain ⟨k2,sn,d2,h1,hr⟩:=K2.out;obtain ⟨o5,g5,t5,z5⟩:=G5.out;refine ⟨⟨k+1,by omega,by go_num,gH ⟨⟨some ⟨g,0,none⟩,0,cap⟩,rfl⟩,gH ⟨_,_,_,_,HF.out.step (S2:=S2) hlt HX.out k2 sn d2 rfl hr g5 t5 o5 z5⟩⟩,?_⟩;simp [intOf];omega
    ·have eH:¬ (k:Int) < (m:Int):=by omega
     go_wp2;go_ret
     have e:k=m:=by omega
     subst e;obtain ⟨xs,bw,S,rest,F⟩:=HF.out;obtain ⟨hd,hv⟩:=HV.out;rw [HD.out];exact F.done hv qj
  ·have HB:=gH (show decide (n≤4096)=false from decide_eq_false hm)
   have HD:=gH (show bT ib l=none from by unfold bT;rw [hd];simp only [Option.bind_some];rw [if_neg hm]);clear hd
   go_in
   go_wp2_with (first
    | (go_at_call 105;(with_reducible refine HN.out.mono ?_);rintro e w1 ⟨rfl,k1,d1⟩;have K1:=gH (And.intro k1 d1);clear k1 d1)
    | (go_at_call 98;(try rw [HB.out]);(with_reducible refine (fW _).mono ?_);rintro e w2 ⟨he,rfl⟩;unfold dM at he;subst he))
   rw [HD.out];exact ⟨rfl,K1.out.1,rfl⟩
theorem Vz (w0:World) (Q:Nat→Prop) (b:Nat) (l:Bt) (w:World) (h:gj w0 Q b l w) :
  Calls Tryz.prog 104 #[.pointer (some ⟨b,0,none⟩)] w (dZ 4 fq w0 Q b w (iE l)):=by
 have B0:=gH (mf.start h [.int .i64 0,.int .i64 0,.int .i64 0,.int .i64 0] 55);clear h
 go_in
 go_wp2_with (first
  | (go_at_call 105;(with_reducible refine (fd w0 _ b _ _ B0.out.rd).mono ?_);rintro e w1 q;rcases q.cases with ⟨n,he,k⟩ | ⟨x1,r1,n,rfl,k,d⟩;all_goals (have N1:=gH n;(try (unfold dM at he;subst he;have K1:=gH (B0.out.fail k);clear n q k));try (have B1:=B0.out.call k d;have ME:=B1.row.1;have Od:=B1.row.2.2 0 (by simp);have Oe:=B1.row.cell (j:=0) rfl;have B1:=B1.set 0 (.int .i64 x1) (by simp);simp only [List.set_cons_zero] at B1;have B1:=gH B1;clear n q k d)))
  | (go_at_call 105;(with_reducible refine (fd w0 _ b _ _ B1.out.rd).mono ?_);rintro e w2 q;rcases q.cases with ⟨n,he,k⟩ | ⟨x2,r2,n,rfl,k,d⟩;all_goals (have N2:=gH n;(try (unfold dM at he;subst he;have K2:=gH (B1.out.fail k);clear n q k));try (have B2:=B1.out.call k d;have MG:=B2.row.1;have MH:=B2.row.2.2 1 (by simp);have MI:=B2.row.cell (j:=1) rfl;have B2:=B2.set 1 (.int .i64 x2) (by simp);simp only [List.set_cons_succ,List.set_cons_zero] at B2;have B2:=gH B2;clear n q k d)))
  | (go_at_call 105;(with_reducible refine (fd w0 _ b _ _ B2.out.rd).mono ?_);rintro e w3 q;rcases q.cases with ⟨n,he,k⟩ | ⟨x3,r3,n,rfl,k,d⟩;all_goals (have N3:=gH n;(try (unfold dM at he;subst he;have K3:=gH (B2.out.fail k);clear n q k));try (have B3:=B2.out.call k d;have QF:=B3.row.1;have QG:=B3.row.2.2 2 (by simp);have QH:=B3.row.cell (j:=2) rfl;have B3:=B3.set 2 (.int .i64 x3) (by simp);simp only [List.set_cons_succ,List.set_cons_zero] at B3;have B3:=gH B3;clear n q k d)))
  | (go_at_call 105;(with_reducible refine (fd w0 _ b _ _ B3.out.rd).mono ?_);rintro e w4 q;rcases q.cases with ⟨n,he,k⟩ | ⟨x4,r4,n,rfl,k,d⟩;all_goals (have N4:=gH n;(try (unfold dM at he;subst he;have K4:=gH (B3.out.fail k);clear n q k));try (have B4:=B3.out.call k d;have Rw:=B4.row.1;have Rx:=B4.row.2.2 3 (by simp);have Ry:=B4.row.cell (j:=3) rfl;have B4:=B4.set 3 (.int .i64 x4) (by simp);simp only [List.set_cons_succ,List.set_cons_zero] at B4;obtain ⟨e1,e2,e3,B4⟩:=B4.ends 55 Tryz.underlying55 (by kernel_rfl) rfl (by simp [Value.oneCell']);rw [JI] at e1;rw [JJ] at e2;have E3:=gH e3;clear e3;have B4:=gH B4;clear n q k d))))
 ·exact ⟨rfl,K1.out,by rw [show iE l=none from by simp only [iE,N1.out,Option.bind_none]];rfl⟩
 ·exact ⟨rfl,K2.out,by rw [show iE l=none from by simp only [iE,N1.out,N2.out,Option.bind_some,Option.bind_none]];rfl⟩
 ·exact ⟨rfl,K3.out,by rw [show iE l=none from by simp only [iE,N1.out,N2.out,N3.out,Option.bind_some,Option.bind_none]];rfl⟩
 ·exact ⟨rfl,K4.out,by rw [show iE l=none from by simp only [iE,N1.out,N2.out,N3.out,N4.out,Option.bind_some,Option.map_none]];rfl⟩
 ·refine bodyPost_ret (bB rfl _ rfl E3.out) rfl ?_
  exact B4.out.done (R:=fq) (size:=4) (x:=⟨x1,x2,x3,x4⟩) rfl (by simp [Value.oneCell']) (fun V hV=>rfl) (by simp only [iE,N1.out,N2.out,N3.out,N4.out,Option.bind_some,Option.map_some])
theorem VA (w0:World) (Q:Nat→Prop) (b:Nat) (l:Bt) (w:World) (h:gj w0 Q b l w) :
  Calls Tryz.prog 103 #[.pointer (some ⟨b,0,none⟩),.func (.func 104) #[] #[]] w (FW 4 fq w0 Q b w (bT iE l)):=by
 have HN:=gH (fd w0 Q b l w h);have HZ:=gH h.qz;have hb0:=h.lb;have yX:=gH h.aA.size;clear h
 cases hd:cH l with
 | none =>
  have HN:=gH (HN.out.mono fun e w' (h:jn w0 Q b w (fun n:Int=>.int .i64 n) (cH l) e w')=>(show e=dM∧Kb (fun j=>¬ Q j) w w' from by unfold jn at h;rw [hd] at h;exact ⟨h.2,h.1⟩));have HD:=gH (show bT iE l=none from by unfold bT;rw [hd];rfl);clear hd
  go_in
  go_wp2_with (first
   | (go_at_call 105;(with_reducible refine HN.out.mono ?_);rintro e w1 ⟨he,k1⟩;unfold dM at he;subst he;have K1:=gH k1;clear k1))
  rw [HD.out];exact ⟨rfl,K1.out,rfl⟩
 | some p =>
  obtain ⟨n,r⟩:=p
  have vO:0≤n∧n≤1000000000:=by
   unfold cH at hd
   split at hd
   ·rename_i h;cases hd;exact ⟨by omega,by omega⟩
   ·cases hd
  have HN:=gH (HN.out.mono fun e w' (h:jn w0 Q b w (fun n:Int=>.int .i64 n) (cH l) e w')=>(show e=.returned (.int .i64 n)∧Kb (fun j=>¬ Q j) w w'∧gj w0 Q b r w' from by unfold jn at h;rw [hd] at h;exact ⟨h.2.1,h.1,h.2.2⟩));by_cases hm:n≤4096
  ·have HB:=gH (show decide (n≤4096)=true from decide_eq_true hm)
   have HD:=gH (show bT iE l=gi iE n.toNat r from by unfold bT;rw [hd];simp only [Option.bind_some];rw [if_pos hm]);obtain ⟨m,rfl⟩:∃ m:Nat,n=m:=⟨n.toNat,by omega⟩
   have qj:m≤4096:=by omega
   have HD:=gH (show bT iE l=gi iE m r from HD.out);clear hd
   go_in
   go_wp2_with (first
    | (go_at_call 105;(with_reducible refine HN.out.mono ?_);rintro e w1 ⟨rfl,k1,d1⟩;have K1:=gH (And.intro k1 d1);clear k1 d1)
    | (go_at_call 98;(try rw [HB.out]);(with_reducible refine (fX _).mono ?_);rintro e w2 ⟨rfl,rfl⟩))
   have wl:=gH (px.start (tid:=55) (size:=4) (R:=fq) (d:=iE) (n:=m) K1.out.2 K1.out.1 HZ.out yX.out)
   go_loopw [6,13] (fun v i wr=>∃ k:Nat,k≤m∧i=.int .i64 k∧Hid (∃ h:Hd,v=.slice h.a k h.c)∧Hid (∃ xs bw S rest,px 55 4 fq w0 w Q b iE m r k v xs bw S rest wr)) (fun v i _=>m - (intOf i).toNat)
   case atStart=>exact ⟨0,Nat.zero_le _,rfl,gH ⟨⟨none,0,0⟩,rfl⟩,gH ⟨_,_,_,_,wl.out⟩⟩
   case round =>
    obtain ⟨k,hk,rfl,HV,HF⟩:=hrel;by_cases hlt:k < m
    ·have eH:(k:Int) < (m:Int):=by omega
     obtain ⟨xs,bw,S,rest,F⟩:=HF.out;have hsz:=F.kb.size;have HC:=gH (Vz w0 _ b rest wr F.rd)
     cases hx:iE rest with
     | none =>
      have HC:=gH (HC.out.mono fun e w' (h:dZ 4 fq w0 _ b wr (iE rest) e w')=>(show e=dM∧Kb (fun j=>¬ Q j) wr w' from by unfold dZ at h;rw [hx] at h;exact ⟨h.2,h.1.mono fun j _ e e'=>e (.inl (.inl e'))⟩));have HE:=gH (F.fails hlt hx);have HF:=gH F.kb;clear F hx
      go_wp2_with (first
       | (go_at_call 104;(with_reducible refine HC.out.mono ?_);rintro e w2 ⟨he,k2⟩;unfold dM at he;subst he;have K2:=gH k2;clear k2))
      rw [HD.out,HE.out];exact ⟨rfl,HF.out.trans K2.out,rfl⟩
     | some p =>
      obtain ⟨x,r2⟩:=p;have HC:=gH (HC.out.mono fun e w' (h:dZ 4 fq w0 _ b wr (iE rest) e w')=>(show Kb (fun j=>¬ ((Q j∨S j)∨u6.ownBlock=some j)) wr w'∧∃ (S2:Nat→Prop) (cs:List Value),(∀ j,S2 j→wr.heap.size≤j)∧gj w0 (fun j=>((Q j∨S j)∨u6.ownBlock=some j)∨S2 j) b r2 w'∧e=.returned (.agg cs.toArray)∧cs.length=4∧(∀ u∈cs,u.oneCell'=true)∧fN S2 fq w' cs x from by unfold dZ at h;rw [hx] at h;exact h));have HX:=gH hx;have HF:=gH F;clear F hx
      go_wp2_with (first
       | (go_at_call 104;(with_reducible refine HC.out.mono ?_);rintro e w2 ⟨k2,S2,cs,sn,d2,rfl,hl,h1,hr⟩;have hcs:=hr w2 (Kb.refl _ _);unfold fq eA at hcs;subst hcs;have hz2:=k2.size;have K2:=gH (And.intro k2 (And.intro sn (And.intro d2 (And.intro h1 hr))));have O2:=gH (fun o:Obj=>br (P:=fun _=>False) (br HF.out.own k2 fun g hg e=>e (.inr hg)) (Kb.aO ((ag.refl w2).alloc o)) (fun _ _=>id));clear k2 d2 sn h1 hr hl)
       | (at_builtin;go_must (refine pR 55 34 4 (by decide) Tryz.underlying34 (by kernel_rfl) rfl _ _ rfl w.heap.size u6 k bw.flatten rfl (O2.out _) w2.heap.size [.int .i64 x.seq,.int .i64 x.node,.int .i64 x.ask,.int .i64 x.av] rfl (heap_alloc_new w2 _) rfl (by simp [Value.oneCell']) (by omega) (by simp;omega) ?_);intro g cap w5 o5 g5 t5 z5;have G5:=gH (And.intro o5 (And.intro g5 (And.intro t5 z5)));clear o5 g5 t5 z5))
      obtain ⟨k2,sn,d2,h1,hr⟩:=K2.out;obtain ⟨o5,g5,t5,z5⟩:=G5.out;refine ⟨⟨k+1,by omega,by go_num,gH ⟨⟨some ⟨g,0,none⟩,0,cap⟩,rfl⟩,gH ⟨_,_,_,_,HF.out.step (S2:=S2) hlt HX.out k2 sn d2 rfl hr g5 t5 o5 z5⟩⟩,?_⟩;simp [intOf];omega
    ·have eH:¬ (k:Int) < (m:Int):=by omega
     go_wp2;go_ret
     have e:k=m:=by omega
     subst e;obtain ⟨xs,bw,S,rest,F⟩:=HF.out;obtain ⟨hd,hv⟩:=HV.out;rw [HD.out];exact F.done hv qj
  ·have HB:=gH (show decide (n≤4096)=false from decide_eq_false hm)
   have HD:=gH (show bT iE l=none from by unfold bT;rw [hd];simp only [Option.bind_some];rw [if_neg hm]);clear hd
   go_in
   go_wp2_with (first
    | (go_at_call 105;(with_reducible refine HN.out.mono ?_);rintro e w1 ⟨rfl,k1,d1⟩;have K1:=gH (And.intro k1 d1);clear k1 d1)
    | (go_at_call 98;(try rw [HB.out]);(with_reducible refine (fW _).mono ?_);rintro e w2 ⟨he,rfl⟩;unfold dM at he;subst he))
   rw [HD.out];exact ⟨rfl,K1.out.1,rfl⟩
theorem dZ.cases {α:Type} {size:Nat} {R:World→List Value→α→Prop} {w0:World} {Q:Nat→Prop} {b:Nat} {w:World} {d:Option (α × Bt)} {e:Ending} {w':World} (h:dZ size R w0 Q b w d e w'):(d=none∧e=dM∧Kb (fun j=>¬ Q j) w w')∨∃ (S:Nat→Prop) (cs:List Value) (x:α) (r:Bt),d=some (x,r)∧e=.returned (.agg cs.toArray)∧(∀ j,S j→w.heap.size≤j)∧Kb (fun j=>¬ Q j) w w'∧gj w0 (fun j=>Q j∨S j) b r w'∧cs.length=size∧(∀ u∈cs,u.oneCell'=true)∧fN S R w' cs x:=by
 obtain ⟨k,h⟩:=h
 cases d with
 | none=>exact .inl ⟨rfl,h,k⟩
 | some p =>
  obtain ⟨S,cs,h1,h2,h3,h4,h5,h6⟩:=h;exact .inr ⟨S,cs,p.1,p.2,rfl,h3,h1,k,h2,h4,h5,h6⟩
theorem mf.VB {G:World→Prop} {w0 w wr w2:World} {Q S S':Nat→Prop} {F:World→Prop} {b:Nat} {cs:List Value} {rest r:Bt} (h:mf w0 w Q b S F cs rest wr) (sn:∀ j,S' j→wr.heap.size≤j) (k:Kb (fun j=>¬ ((Q j∨S j)∨j=w.heap.size)) wr w2) (d:gj w0 (fun j=>((Q j∨S j)∨j=w.heap.size)∨S' j) b r w2) (hs:∀ V,Kb (fun j=>¬ S' j) w2 V→G V) :
  mf w0 w Q b (fun j=>S j∨S' j) (fun V=>F V∧G V) cs r w2:=by
 have hz:=h.row.1;refine ⟨d.step (Kb.refl _ _) fun j e=>.inl ?_,k.row h.row fun e=>e (.inr rfl),h.kb.trans (k.mono fun j _ e e'=>e (.inl (.inl e'))),fun j e=>e.elim (h.sn j) fun e=>by have:=sn j e;omega,h.qw,h.wz,fun V kv=>⟨h.hf V ((k.mono fun j _ e e'=>e (.inl (.inr e'))).trans (kv.mono fun j _ e e'=>e (.inl e'))),hs V (kv.mono fun j _ e e'=>e (.inr e'))⟩⟩
 rcases e with (e | e | e) | e
 ·exact .inl (.inl (.inl e))
 ·exact .inl (.inl (.inr e))
 ·exact .inr e
 ·exact .inl (.inr e)
theorem se {x:Nat}:∀ (vs:List Value) (V:World) (pre zs tl:List Value),ai V x (pre++(zs++tl))→zs.length=vs.length→ai (V.setCells x pre.length vs) x (pre++(vs++tl))
 | [],V,pre,zs,tl,h,hl=>by
  have:zs=[]:=List.eq_nil_of_length_eq_zero hl;subst this;exact h
 | v::vs,V,pre,[],tl,h,hl=>by simp at hl
 | v::vs,V,pre,z::zs,tl,h,hl=>by
  have h1:=h.set pre.length v (by simp);rw [List.set_append_right _ _ (Nat.le_refl _),Nat.sub_self] at h1;have h2:=se vs (V.setCell ⟨x,pre.length,none⟩ v) (pre++[v]) zs tl (by simpa using h1) (by simpa using hl);rw [show (pre++[v]).length=pre.length+1 by simp,List.append_assoc] at h2;exact h2
theorem mf.Zn {w0 w wr:World} {Q S:Nat→Prop} {F:World→Prop} {b:Nat} {zs tl vs:List Value} {rest:Bt} (h:mf w0 w Q b S F (zs++tl) rest wr) (T:TypeId) {k:Nat} (hi:(Tryz.prog.info? T).map (·.size)=some k) (hz:zs.length=k) (hv:vs.length=k) (h1:∀ v∈vs,v.oneCell'=true) :
  (storeVar T ⟨w.heap.size,0,none⟩ (.agg vs.toArray)).run Tryz.prog wr=.ok () (wr.setCells w.heap.size 0 vs)∧mf w0 w Q b S F (vs++tl) rest (wr.setCells w.heap.size 0 vs):=by
 have kb:=cF w.heap.size vs wr 0;have r0:ai wr w.heap.size zs:=⟨h.row.1,fun j hj=>by rw [h.row.2.1 j (by simp;omega),List.getElem?_append_left hj],fun j hj=>h.row.2.2 j (by simp;omega)⟩
 have r2:ai (wr.setCells w.heap.size 0 vs) w.heap.size (vs++tl):=by simpa using se vs wr [] zs tl (by simpa using h.row) (by omega)
 exact ⟨ju hi r0 hz hv h1,h.rd.step (kb.mono fun j _ e=>⟨.inr e,by have:=h.wz;omega⟩) fun j e=>.inl e,r2,h.kb.trans (kb.mono fun j _ e e'=>by have:=h.qw j e';omega),h.sn,h.qw,h.wz,fun V kv=>h.hf V ((kb.mono fun j _ e e'=>by have:=h.sn j e';omega).trans kv)⟩
def dD (w:World) (cs:List Value) (x:fo):Prop:=∃ c7 Ad c6 Al Yr,cs=c7++[.slice Ad x.aQ.length c6,.slice Al x.bp.length Yr,.int .i64 x.last]∧kU w c7 x.cat∧az w 5 fj Ad c6 x.aQ∧az w 4 fq Al Yr x.bp
theorem VC {w:World} {c7:List Value} {x:bS} {d:List iF} {l:List eZ} {n:Int} {Ad Al:Option Addr} {c d':Nat} (h1:kU w c7 x) (h2:az w 5 fj Ad c d) (h3:az w 4 fq Al d' l):dD w (c7++[.slice Ad d.length c,.slice Al l.length d',.int .i64 n]) ⟨x,d,l,n⟩:=⟨c7,Ad,c,Al,d',rfl,h1,h2,h3⟩
theorem SC (w0:World) (Q:Nat→Prop) (b:Nat) (l:Bt) (w:World) (h:gj w0 Q b l w) :
  Calls Tryz.prog 64 #[.pointer (some ⟨b,0,none⟩)] w (dZ 10 dD w0 Q b w (mj l)):=by
 have B0:=gH (mf.start h [.int .i64 0,.int .i64 0,.slice none 0 0,.slice none 0 0,.slice none 0 0,.slice none 0 0,.slice none 0 0,.slice none 0 0,.slice none 0 0,.int .i64 0] 36);clear h
 go_in
 go_wp2_with (first
  | (go_at_call 100;(with_reducible refine (Vw w0 _ b _ _ B0.out.rd).mono ?_);rintro e w1 q;rcases q.cases with ⟨n,he,k⟩ | ⟨S1,cs1,x1,r1,n,rfl,sn,k,d,Ta,mm,hs⟩;all_goals (have N1:=gH n;(try (unfold dM at he;subst he;have K1:=gH (B0.out.fail k);clear n q k));try (obtain ⟨As,k1,At,k2,An,k3,Am,k4,Ag,k5,Zo,-⟩:=hs w1 (Kb.refl _ _);subst Zo;have B1:=B0.out.VB sn k d hs;clear sn hs;have ME:=B1.row.1;obtain ⟨s1,B1⟩:=B1.Zn (zs:=[.int .i64 0,.int .i64 0,.slice none 0 0,.slice none 0 0,.slice none 0 0,.slice none 0 0,.slice none 0 0]) (tl:=[.slice none 0 0,.slice none 0 0,.int .i64 0]) (vs:=[.int .i64 x1.av,.int .i64 x1.version,.slice As x1.aj.ae.length k1,.slice At x1.aj.tables.length k2,.slice An x1.ar.names.length k3,.slice Am x1.ar.members.length k4,.slice Ag x1.ah.length k5]) 32 (by kernel_rfl) rfl rfl mm;rw [nE] at s1;simp only [List.cons_append,List.nil_append] at B1;have B1:=gH B1;clear n q k d Ta mm)))
  | (go_at_call 101;(with_reducible refine (Vy w0 _ b _ _ B1.out.rd).mono ?_);rintro e w2 q;rcases q.cases with ⟨n,he,k⟩ | ⟨S2,a2,c2,x2,r2,n,rfl,sn,k,d,hs⟩;all_goals (have N2:=gH n;(try (unfold dM at he;subst he;have K2:=gH (B1.out.fail k);clear n q k));try (have B2:=B1.out.mP sn k d hs;clear sn hs;have MG:=B2.row.1;have MH:=B2.row.2.2 7 (by simp);have MI:=B2.row.cell (j:=7) rfl;have B2:=B2.set 7 (.slice a2 x2.length c2) (by simp);simp only [List.set_cons_succ,List.set_cons_zero] at B2;have B2:=gH B2;clear n q k d)))
  | (go_at_call 103;(with_reducible refine (VA w0 _ b _ _ B2.out.rd).mono ?_);rintro e w3 q;rcases q.cases with ⟨n,he,k⟩ | ⟨S3,a3,c3,x3,r3,n,rfl,sn,k,d,hs⟩;all_goals (have N3:=gH n;(try (unfold dM at he;subst he;have K3:=gH (B2.out.fail k);clear n q k));try (have B3:=B2.out.mP sn k d hs;clear sn hs;have QF:=B3.row.1;have QG:=B3.row.2.2 8 (by simp);have QH:=B3.row.cell (j:=8) rfl;have B3:=B3.set 8 (.slice a3 x3.length c3) (by simp);simp only [List.set_cons_succ,List.set_cons_zero] at B3;have B3:=gH B3;clear n q k d)))
  | (go_at_call 105;(with_reducible refine (fd w0 _ b _ _ B3.out.rd).mono ?_);rintro e w4 q;rcases q.cases with ⟨n,he,k⟩ | ⟨x4,r4,n,rfl,k,d⟩;all_goals (have N4:=gH n;(try (unfold dM at he;subst he;have K4:=gH (B3.out.fail k);clear n q k));try (have B4:=B3.out.call k d;have Rw:=B4.row.1;have Rx:=B4.row.2.2 9 (by simp);have Ry:=B4.row.cell (j:=9) rfl;have B4:=B4.set 9 (.int .i64 x4) (by simp);simp only [List.set_cons_succ,List.set_cons_zero] at B4;obtain ⟨e1,e2,e3,B4⟩:=B4.ends 36 Tryz.underlying36 (by kernel_rfl) rfl (by simp [Value.oneCell']);rw [JE] at e1;rw [JF] at e2;have E3:=gH e3;clear e3;have B4:=gH B4;clear n q k d))))
 ·exact ⟨rfl,K1.out,by rw [show mj l=none from by simp only [mj,N1.out,Option.bind_none]];rfl⟩
 ·exact ⟨rfl,K2.out,by rw [show mj l=none from by simp only [mj,N1.out,N2.out,Option.bind_some,Option.bind_none]];rfl⟩
 ·exact ⟨rfl,K3.out,by rw [show mj l=none from by simp only [mj,N1.out,N2.out,N3.out,Option.bind_some,Option.bind_none]];rfl⟩
 ·exact ⟨rfl,K4.out,by rw [show mj l=none from by simp only [mj,N1.out,N2.out,N3.out,N4.out,Option.bind_some,Option.map_none]];rfl⟩
 ·refine bodyPost_ret (bB rfl _ rfl E3.out) rfl ?_
  exact B4.out.done (R:=dD) (size:=10) (x:=⟨x1,x2,x3,x4⟩) rfl (by simp [Value.oneCell']) (fun V hV=>VC hV.1.1.2 hV.1.2 hV.2) (by simp only [mj,N1.out,N2.out,N3.out,N4.out,Option.bind_some,Option.map_some])
structure gO (w0:World) (Q:List (Nat × Obj)) (b:Nat) (l:Bt) (w:World):Prop where
 ex:∃ A c,ai w b [.slice A l.length c]∧w.ownsRow w0.heap.size 5 1 (.slice A l.length c) l.length (i7 l)∧(Value.slice A l.length c).ownBlock≠some b∧∀ x∈Q,(Value.slice A l.length c).ownBlock≠some x.1
 aA:ag w0 w
 lb:w0.heap.size≤b
 Zp:∀ x∈Q,x.1 < w.heap.size∧w.heap[x.1]? = some x.2∧x.1≠b
theorem gO.trans {w0 w w':World} {Q:List (Nat × Obj)} {b:Nat} {l:Bt} (h:gO w0 Q b l w) (a:ag w w'):gO w0 Q b l w':=by
 obtain ⟨⟨A,c,r,o,n⟩,a0,lb,p⟩:=h;exact ⟨⟨A,c,r.aA a,br (P:=fun _=>False) o (Kb.aO a) (fun _ _=>id),n⟩,a0.trans a,lb,fun x hx=>⟨Nat.lt_of_lt_of_le (p x hx).1 a.size,(a.block x.1 (p x hx).1).trans (p x hx).2.1,(p x hx).2.2⟩⟩
theorem gO.push {w0 w:World} {Q:List (Nat × Obj)} {b:Nat} {l:Bt} (h:gO w0 Q b l w) (o:Obj):gO w0 ((w.heap.size,o)::Q) b l (w.alloc o):=by
 obtain ⟨⟨A,c,r,ow,n,n2⟩,a0,lb,p⟩:=h;have a:=(ag.refl w).alloc o;refine ⟨⟨A,c,r.aA a,br (P:=fun _=>False) ow (Kb.aO a) (fun _ _=>id),n,fun x hx=>?_⟩,a0.trans a,lb,fun x hx=>?_⟩
 ·rcases List.mem_cons.1 hx with rfl | hx
  ·intro e
   have:=(ow.lt _ e).2;simp at this
  ·exact n2 x hx
 ·rcases List.mem_cons.1 hx with rfl | hx
  ·exact ⟨by simp,heap_alloc_new w o,by have:=r.1;simp;omega⟩
  ·exact ⟨Nat.lt_of_lt_of_le (p x hx).1 a.size,(a.block x.1 (p x hx).1).trans (p x hx).2.1,(p x hx).2.2⟩
theorem gO.pop {w0 w:World} {Q:List (Nat × Obj)} {y:Nat × Obj} {b:Nat} {l:Bt} (h:gO w0 (y::Q) b l w):gO w0 Q b l w:=by
 obtain ⟨⟨A,c,r,o,n,n2⟩,a0,lb,p⟩:=h;exact ⟨⟨A,c,r,o,n,fun x hx=>n2 x (List.mem_cons_of_mem _ hx)⟩,a0,lb,fun x hx=>p x (List.mem_cons_of_mem _ hx)⟩
theorem gO.same {w0 w:World} {Q:List (Nat × Obj)} {b:Nat} {l:Bt} (h:gO w0 Q b l w) {q:Nat} {cs:List Value} {t:TypeId} (hq:(q,Obj.cells cs.toArray t)∈Q):ai w q cs:=by
 obtain ⟨h1,h2,_⟩:=h.Zp _ hq;exact ⟨h1,fun j _=>by simp [World.cell?,h2],fun j _=>by simp [World.frozen?,h2]⟩
theorem gO.put {w0 w w1:World} {Q:List (Nat × Obj)} {b m c:Nat} {l l':Bt} (h:gO w0 Q b l w) (a:ag w w1) (o:w1.ownsRow w.heap.size 5 1 (.slice (some ⟨m,0,none⟩) l'.length c) l'.length (i7 l')) :
  gO w0 Q b l' (w1.setCell ⟨b,0,none⟩ (.slice (some ⟨m,0,none⟩) l'.length c)):=by
 obtain ⟨⟨A,c0,r,ow,n,n2⟩,a0,lb,p⟩:=h;have hm:=(o.lt m rfl).1;have hb:=r.1;have kb:=Kb.set w1 b 0 (.slice (some ⟨m,0,none⟩) l'.length c);refine ⟨⟨some ⟨m,0,none⟩,c,(r.aA a).set 0 _ (by simp),?_,?_,fun x hx e=>?_⟩,kb.aJ (a0.trans a) (fun k hk e=>by omega),lb,fun x hx=>?_⟩
 ·exact bM (br o kb fun g hg e=>by
   have:m=g:=by simpa [Value.ownBlock] using hg
   omega) a0.size
 ·intro e
  have:m=b:=by simpa [Value.ownBlock] using e
  omega
 ·have:m=x.1:=by simpa [Value.ownBlock] using e
  have:=(p x hx).1;omega
 ·obtain ⟨p1,p2,p3⟩:=p x hx
  have h1:=a.block x.1 p1;have h2:=a.size;have h3:=kb.block x.1 (by omega) p3;exact ⟨by simp;omega,h3.trans (h1.trans p2),p3⟩
theorem gO.read {w0 w:World} {Q:List (Nat × Obj)} {b:Nat} {l:Bt} (h:gO w0 Q b l w) (hl:l.length≤100000000):∃ A c,w.cell? ⟨b,0,none⟩=some (.slice A l.length c)∧w.frozen? ⟨b,0,none⟩=false∧b < w.heap.size∧az w 1 vt A c l:=by
 obtain ⟨⟨A,c,r,ow,n,n2⟩,a0,lb,p⟩:=h;obtain ⟨A',c',e,_⟩:=qM ow
 injection e with e1 _ e2
 exact ⟨A,c,r.cell (j:=0) rfl,r.2.2 0 (by simp),r.1,NY (h:=⟨A,l.length,c⟩) ow (by omega)⟩
def qo (w0:World) (Q:List (Nat × Obj)) (b:Nat) (l:Bt) (e:Ending) (w':World):Prop:=e=.returned (.tuple #[])∧gO w0 Q b l w'
theorem w_num (w0:World) (Q:List (Nat × Obj)) (b:Nat) (l:Bt) (n:Int) (w:World) (h:gO w0 Q b l w) (hn:wK n) (hl:l.length≤90000000) :
  Calls Tryz.prog 95 #[.pointer (some ⟨b,0,none⟩),.int .i64 n] w (qo w0 Q b (l++bF n)):=by
 obtain ⟨A,c,y0,y1,yb,hx⟩:=h.read (by omega);have HP:=gH (FA l A c n hn (by omega) w hx);have HH:=gH h;clear h hx
 go_in
 go_wp2_with (first
  | (go_at_call 164;(with_reducible refine HP.out.mono ?_);rintro e w1 ⟨a1,m,c1,rfl,o1⟩;have y2:=a1.cell_kept y0;have y3:w1.frozen? ⟨b,0,none⟩=false:=(Below.frozen a1 (p:=⟨b,0,none⟩) yb).trans y1;have yc:=Nat.lt_of_lt_of_le yb a1.size;have H1:=gH (And.intro a1 o1);clear a1 o1))
 go_end0
 have H:=HH.out.put H1.out.1 H1.out.2;rw [List.length_append] at H;exact ⟨rfl,H⟩
theorem io (w0:World) (Q:List (Nat × Obj)) (b:Nat) (l:Bt) (t:ByteArray) (w:World) (h:gO w0 Q b l w) (ht:oF t) (hl:l.length≤90000000) :
  Calls Tryz.prog 159 #[.pointer (some ⟨b,0,none⟩),.string t] w (qo w0 Q b (l++bR t)):=by
 obtain ⟨A,c,y0,y1,yb,hx⟩:=h.read (by omega);have HP:=gH (FC l A c t ht (by omega) w hx);have HH:=gH h;clear h hx
 go_in
 go_wp2_with (first
  | (go_at_call 234;(with_reducible refine HP.out.mono ?_);rintro e w1 ⟨a1,m,c1,rfl,o1⟩;have y2:=a1.cell_kept y0;have y3:w1.frozen? ⟨b,0,none⟩=false:=(Below.frozen a1 (p:=⟨b,0,none⟩) yb).trans y1;have yc:=Nat.lt_of_lt_of_le yb a1.size;have H1:=gH (And.intro a1 o1);clear a1 o1))
 go_end0
 have H:=HH.out.put H1.out.1 H1.out.2;rw [List.length_append] at H;exact ⟨rfl,H⟩
theorem Nf (w0:World) (Q:List (Nat × Obj)) (b:Nat) (l:Bt) (n:Int) (w:World) (h:gO w0 Q b l w) (hn:Dq n) (hl:l.length≤90000000) :
  Calls Tryz.prog 322 #[.pointer (some ⟨b,0,none⟩),.int .i64 n] w (qo w0 Q b (l++ky n)):=by
 obtain ⟨A,c,y0,y1,yb,hx⟩:=h.read (by omega);have HP:=gH (FB l A c n hn (by omega) w hx);have HH:=gH h;clear h hx
 go_in
 go_wp2_with (first
  | (go_at_call 363;(with_reducible refine HP.out.mono ?_);rintro e w1 ⟨a1,m,c1,rfl,o1⟩;have y2:=a1.cell_kept y0;have y3:w1.frozen? ⟨b,0,none⟩=false:=(Below.frozen a1 (p:=⟨b,0,none⟩) yb).trans y1;have yc:=Nat.lt_of_lt_of_le yb a1.size;have H1:=gH (And.intro a1 o1);clear a1 o1))
 go_end0
 have H:=HH.out.put H1.out.1 H1.out.2;rw [List.length_append] at H;exact ⟨rfl,H⟩
theorem JK {ops:Array Oper} {rest:List Oper} {o:Oper} {a:Act} {w:World} {Q:Exit→Act→World→Prop} (hgd:o.guard=none) (s x:Operand)
  (ho:o.op=.call { callee:=.builtin .append,args:=#[s,x],argTypes:=#[84,84] }) (base:Nat) (v:Value) (n:Nat) (xs:List Value) (hs:a.eval s=v) (hown:w.ownsRow base 5 1 v n xs)
  (b:Nat) (y:Value) (hx:a.eval x=.slice (some ⟨b,0,none⟩) 1 1) (hb:w.heap[b]? = some (.cells #[y] 5)) (hy:y.oneCell'=true) (hn:n≤100000000) (hbase:base≤w.heap.size)
  (h:∀ g cap w',w'.ownsRow base 5 1 (.slice (some ⟨g,0,none⟩) (n+1) cap) (n+1) (xs++[y])→w.grownBy w' v.ownBlock→(v.ownBlock=some g∨g=w.heap.size)→wpList Tryz.prog ops Q rest (a.put o.dst (.slice (some ⟨g,0,none⟩) (n+1) cap)) w'):wpList Tryz.prog ops Q (o::rest) a w:=by
 obtain ⟨i,hi,hz,hs1,hb1⟩:=lT
 exact wpList_append_lies w hgd s x 84 ho base 5 i (.int .u8 0) 1 1 Tryz.underlying84 hi hz hs1 hb1 rfl (by decide) v n xs hs hown ⟨b,0,none⟩ 1 1 [y] hx rfl (World.news_of_block (cs:=#[y]) (t:=5) (fr:=(0,0)) hb) (by simpa using hy) (by omega) (by unfold maxLen;omega)
  (by omega) hbase _ rfl fun g cap w' h1 h2 h3 _=>h g cap w' h1 h2 h3
theorem gO.grow {w0 w w5:World} {Q:List (Nat × Obj)} {b g n c:Nat} {A:Option Addr} {l:Bt} {y:UInt8} {o:Obj} (h:gO w0 Q b l w) (hy:w.cell? ⟨b,0,none⟩=some (.slice A n c)) (hg:(w.alloc o).grownBy w5 (Value.slice A n c).ownBlock) (hat:(Value.slice A n c).ownBlock=some g∨g=(w.alloc o).heap.size) (cap:Nat) (ho:w5.ownsRow w0.heap.size 5 1 (.slice (some ⟨g,0,none⟩) (n+1) cap) (n+1) (i7 l++Ei y)) :
  gO w0 Q b (l++[y]) (w5.setCell ⟨b,0,none⟩ (.slice (some ⟨g,0,none⟩) (n+1) cap)):=by
 obtain ⟨⟨A',c',r,ow,nb,nq⟩,a0,lb,p⟩:=h;have e:=r.cell (j:=0) rfl;rw [e] at hy
 injection hy with hy
 injection hy with e1 e2 e3
 subst e1;subst e2;subst e3;have a1:=(ag.refl w).alloc o;have K:=Kb.cZ hg;have r5:=K.row (r.aA a1) (fun e=>nb e);have hb:=r.1
 have hz:(w.alloc o).heap.size=w.heap.size+1:=by simp
 have ks:=Kb.set w5 b 0 (.slice (some ⟨g,0,none⟩) (l.length+1) cap)
 have hgb:g≠b:=by
  rcases hat with h | h
  ·exact fun e=>nb (by rw [h,e])
  ·omega
 have hgq:∀ x∈Q,g≠x.1:=fun x hx=>by
  have:=(p x hx).1
  rcases hat with h | h
  ·exact fun e=>nq x hx (by rw [h,e])
  ·omega
 have el:(l++[y]).length=l.length+1:=by simp
 refine ⟨⟨some ⟨g,0,none⟩,cap,?_,?_,?_,fun x hx e=>?_⟩,?_,lb,fun x hx=>?_⟩
 ·rw [el];exact r5.set 0 _ (by simp)
 ·rw [el,qJ]
  exact br (by simpa [i7] using ho) ks fun g' yq e=>by
   have:g=g':=by simpa [Value.ownBlock] using yq
   omega
 ·intro e
  have:g=b:=by simpa [Value.ownBlock] using e
  exact hgb this
 ·have:g=x.1:=by simpa [Value.ownBlock] using e
  exact hgq x hx this
 ·exact ks.aJ (K.aJ (a0.trans a1) (fun k hk e=>by have:=(ow.lt k e).1;omega)) (fun k hk e=>by omega)
 ·obtain ⟨p1,p2,p3⟩:=p x hx
  have h1:=(a1.block x.1 p1).trans p2;have h2:=K.block x.1 (by omega) (fun e=>nq x hx e);have h3:=ks.block x.1 (by have:=K.size;omega) p3;exact ⟨by have:=K.size;simp;omega,h3.trans (h2.trans h1),p3⟩
theorem Nd (w0:World) (Q:List (Nat × Obj)) (b:Nat) (l:Bt) (u:Bool) (w:World) (h:gO w0 Q b l w) (hl:l.length≤90000000) :
  Calls Tryz.prog 235 #[.pointer (some ⟨b,0,none⟩),.bool u] w (qo w0 Q b (l++II u)):=by
 obtain ⟨A,c,y0,y1,yb,-⟩:=h.read (by omega);have hA:=h.aA.size;have HH:=gH h
 have HO:=gH (show w.ownsRow w0.heap.size 5 1 (.slice A l.length c) l.length (i7 l) from by
  obtain ⟨A',c',r,o,_⟩:=h.ex;have e:=r.cell (j:=0) rfl;rw [y0] at e
  injection e with e
  injection e with e1 _ e2
  subst e1;subst e2;exact o)
 have HN:=gH (show (Value.slice A l.length c).ownBlock≠some b from by
  obtain ⟨A',c',r,o,n,_⟩:=h.ex;have e:=r.cell (j:=0) rfl;rw [y0] at e
  injection e with e
  injection e with e1 _ e2
  subst e1;subst e2;exact n)
 have HY:=gH y0
 have H2:=gH (show ∀ (o:Obj),ai (w.alloc o) b [.slice A l.length c] from fun o=>by
  obtain ⟨A',c',r,_⟩:=h.ex;have e:=r.cell (j:=0) rfl;rw [y0] at e
  injection e with e
  injection e with e1 _ e2
  subst e1;subst e2;exact r.aA ((ag.refl w).alloc o))
 clear h
 cases u
 all_goals
  go_in
  go_wp2_with (first
   | (at_builtin;go_must (refine JK rfl _ _ rfl w0.heap.size (.slice A l.length c) l.length (i7 l) rfl (br (P:=fun _=>False) HO.out (Kb.aO ((ag.refl w).alloc _)) (fun _ _=>id)) w.heap.size _ rfl (heap_alloc_new w _) rfl (by omega) (by simp;omega) ?_);intro g cap w5 o5 g5 t5;have r5:=(Kb.cZ g5).row (H2.out _) (fun e=>HN.out e);have z0:=r5.cell (j:=0) rfl;have z1:=r5.2.2 0 (by simp);have zb:=r5.1;have G5:=gH (And.intro o5 (And.intro g5 t5));clear o5 g5 t5 r5))
  go_end0
  exact ⟨rfl,HH.out.grow HY.out G5.out.2.1 G5.out.2.2 _ G5.out.1⟩
end Go.Proofs.YtakddkhipelmjaaGreat
