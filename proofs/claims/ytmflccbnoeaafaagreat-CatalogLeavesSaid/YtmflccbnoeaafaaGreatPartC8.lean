import Derived.Lib.AppendZerosOnto
import Derived.Lib.Overlaps
import Derived.Test.YtmflccbnoeaafaaGreatPartC7
namespace Go.Proofs.YtmflccbnoeaafaaGreat
open Go.RowKit Go.Lib
set_option maxRecDepth 100000
set_option linter.unusedVariables false
set_option maxHeartbeats 64000000
theorem ew {P:Program} (w:World) (dT sT ty elem:TypeId) (size b o UU Yk:Nat) (a:Addr) (UV Yl m:Nat) (cs:List Value)
  (hu:P.underlying dT=some (.slice elem)) (hs:(P.info? elem).map (·.size)=some size) (hm:Nat.min UV UU=m) (hn:cs.length=m*size)
  (jy:∀ j v,cs[j]? = some v→w.cell? (a.add j)=some v) (hc:∀ j,j < cs.length→(w.cell? ⟨b,o+j,none⟩).isSome=true) (hf:∀ j,j < cs.length→w.frozen? ⟨b,o+j,none⟩=false) (h1:∀ v∈cs,v.oneCell'=true) :
  (Builtin.copy_ #[dT,sT] ty #[.slice (some ⟨b,o,none⟩) UU Yk,.slice (some a) UV Yl]).run P w=.ok (goInt m) (w.setCells b o cs):=by
 have hl:=run_loadCells_list (P:=P) w a cs jy;have hst:=run_storeCells_cells (P:=P) b o cs 0 w (by simpa using hc) (by simpa using hf) h1;rw [hn] at hl
 cases hq:P.info? elem with
 | none=>simp [hq] at hs
 | some i =>
  have hi:i.size=size:=by simpa [hq] using hs
  simp [Builtin.copy_,run_underlying hu,Builtin.lenOf,Builtin.firstCells,sizeOf,typeInfo,hq,hi,hm,hl,hst]
theorem lY {P:Program} (w:World) (B:Nat) (t tn ty e:TypeId) (i:TypeInfo) (z:Value) (size bytes:Nat) (kn:IntKind) (ht:P.underlying t=some (.slice e)) (NI:P.underlying tn=some (.int kn)) (hi:P.info? e=some i) (hz:i.zero=some z)
  (hsize:i.size=size) (hby:i.bytes=bytes) (hzs:z.cells.size=size) (hsz:0 < size) (g n cap k m:Nat) (xs:List Value) (ho:w.ownsRow B e size (.slice (some ⟨g,0,none⟩) n cap) n xs) (hk:k≤n) (hm:0 < m) (hg:cap < k+m) (hb:(k+m)*bytes≤140737488355328) (h63:k+m≤maxLen) (iu:cap≤n) :
  ∃ c2 w',(Builtin.append_ #[t,tn] ty #[.slice (some ⟨g,0,none⟩) k cap,.int .i64 m]).run P w=.ok (.slice (some ⟨w.heap.size,0,none⟩) (k+m) c2) w'∧w'.ownsRow w.heap.size e size (.slice (some ⟨w.heap.size,0,none⟩) (k+m) c2) (k+m) (xs.take (k*size)++(Builtin.zeroCells z.cells m).toList)∧ag w w'∧w'.heap.size=w.heap.size+1∧k+m≤c2∧c2≤maxLen:=by
 subst hsize
 subst hby
 have hx:=ho.1;have Gl:k*i.size≤n*i.size:=Nat.mul_le_mul_right _ hk
 have Ev:(xs.take (k*i.size)).length=k*i.size:=by rw [List.length_take,hx];omega
 have Ki:=grownCap_ge w (k+m) cap e;have hcm:=grownCap_le_maxLen w (k+m) cap e h63
 have hold:(Builtin.firstCells i.size k (.slice (some ⟨g,0,none⟩) k cap)).run P w.drew=.ok (xs.take (k*i.size)).toArray w.drew:=by
  have hl:=run_loadCells_list (P:=P) w.drew ⟨g,0,none⟩ (xs.take (k*i.size)) (fun j v hj=>by
   have hj':xs[j]? = some v:=by
    rw [List.getElem?_take] at hj
    split at hj
    ·exact hj
    ·cases hj
   have:=ho.cells (g:=g) rfl j v hj'
   simpa using this)
  rw [Ev] at hl
  simpa [Builtin.firstCells] using hl
 have iH:m*i.bytes≤281474976710656:=by
  have:m*i.bytes≤(k+m)*i.bytes:=Nat.mul_le_mul_right _ (by omega);omega
 have hr:=run_append_grow_zeros (P:=P) w t tn ty e i z .i64 kn ht NI hi hz (some ⟨g,0,none⟩) k cap (xs.take (k*i.size)) hold m hm hsz hg (by simp only [maxLen] at h63;omega) iH (growslice_fits (by omega) hb);refine ⟨_,_,hr,⟨?_,.inr ⟨w.heap.size,_,_,rfl,Nat.le_refl _,heap_alloc_new w.drew _,Ki,hcm,?_,?_⟩⟩,((ag.refl w).drew).alloc _,by simp,Ki,hcm⟩
 ·rw [List.length_append,Ev,ed,hzs,Nat.add_mul]
 ·simp only [Array.size_append,List.size_toArray,size_zeroCells,hzs,Ev,← Nat.add_mul]
  congr 1
  omega
 ·simp only [Array.toList_append,List.append_assoc]
  rw [← List.append_assoc]
  have hl2:(k+m)*i.size=(xs.take (k*i.size)++(Builtin.zeroCells z.cells m).toList).length:=by rw [List.length_append,Ev,ed,hzs,Nat.add_mul]
  rw [hl2];exact List.take_left
theorem nh (A v R vs:List Value) (h:vs.length=v.length):fu (A++v++R) A.length vs=A++vs++R:=by
 rw [lF _ _ _ (by simp only [List.length_append];omega),List.append_assoc A v R,List.take_left,h]
 congr 1
 rw [← List.append_assoc,← List.length_append,List.drop_left]
theorem xj (xs ne zs:List Value) (a s d:Nat) (hx:xs.length=a+d) (hn:ne.length=s) (hz:zs.length=s+d):fu (fu (xs.take a++zs) a ne) (a+s) (xs.drop a)=xs.take a++ne++xs.drop a:=by
 obtain ⟨A,hA⟩:∃ A,xs.take a=A:=⟨_,rfl⟩;obtain ⟨D,hD⟩:∃ D,xs.drop a=D:=⟨_,rfl⟩
 have la:A.length=a:=by rw [← hA,List.length_take,hx];omega
 have ld:D.length=d:=by rw [← hD,List.length_drop,hx];omega
 rw [hA,hD]
 have e1:A++zs=A++zs.take s++zs.drop s:=by rw [List.append_assoc,List.take_append_drop]
 have h1:=nh A (zs.take s) (zs.drop s) ne (by rw [List.length_take,hz,hn];omega);rw [la] at h1;have h2:=nh (A++ne) (zs.drop s) [] D (by rw [List.length_drop,hz,ld];omega);rw [List.length_append,la,hn,List.append_nil,List.append_nil] at h2;rw [e1,h1,h2]
theorem tS (xs ne ts:List Value) (a s d:Nat) (hx:xs.length=a+d) (hn:ne.length=s) (ht:ts.length=s):fu (fu (xs++ts) (a+s) (xs.drop a)) a ne=xs.take a++ne++xs.drop a:=by
 obtain ⟨A,hA⟩:∃ A,xs.take a=A:=⟨_,rfl⟩;obtain ⟨D,hD⟩:∃ D,xs.drop a=D:=⟨_,rfl⟩
 have la:A.length=a:=by rw [← hA,List.length_take,hx];omega
 have ld:D.length=d:=by rw [← hD,List.length_drop,hx];omega
 have Bu:xs=A++D:=by rw [← hA,← hD,List.take_append_drop]
 rw [hD,hA]
 have lP:((D++ts).take s).length=s:=by rw [List.length_take,List.length_append,ld,ht];omega
 have e1:xs++ts=(A++(D++ts).take s)++(D++ts).drop s++[]:=by rw [Bu,List.append_nil,List.append_assoc,List.append_assoc,List.take_append_drop]
 have h1:=nh (A++(D++ts).take s) ((D++ts).drop s) [] D (by rw [List.length_drop,List.length_append,ld,ht];omega);rw [List.length_append,la,lP] at h1;have h2:=nh A ((D++ts).take s) D ne (by rw [lP,hn]);rw [la] at h2;rw [e1,h1,List.append_nil,h2]
theorem eJ {P:Program} (w:World) {ops:Array Oper} {rest:List Oper} {o:Oper} {a:Act} {Q:Exit→Act→World→Prop} (hgd:o.guard=none) (d s:Operand) (t t':TypeId)
  (ho:o.op=.call { callee:=.builtin .copy,args:=#[d,s],argTypes:=#[t,t'] }) (v u:Value) (hd:a.eval d=v) (hs:a.eval s=u) {v':Value} {w':World}
  (hr:(Builtin.copy_ #[t,t'] o.type #[v,u]).run P w=.ok v' w') (h:wpList P ops Q rest (a.put o.dst v') w'):wpList P ops Q (o::rest) a w :=
 wpList_plain hgd fun _ hK=>by
  unfold Oper.wp execOp;simp only [ho,resolve,invoke,builtin,Sem.run_bind,Sem.run_pure,Result.andThen_ok,List.map_toArray,List.map_cons,List.map_nil,hd,hs,hr];exact hK _ _ h
theorem ie {P:Program} (w:World) {ops:Array Oper} {rest:List Oper} {o:Oper} {a:Act} {Q:Exit→Act→World→Prop} (hgd:o.guard=none) (d s:Operand) (t t':TypeId)
  (ho:o.op=.call { callee:=.builtin .append,args:=#[d,s],argTypes:=#[t,t'] }) (v u:Value) (hd:a.eval d=v) (hs:a.eval s=u) {v':Value} {w':World}
  (hr:(Builtin.append_ #[t,t'] o.type #[v,u]).run P w=.ok v' w') (h:wpList P ops Q rest (a.put o.dst v') w'):wpList P ops Q (o::rest) a w :=
 wpList_plain hgd fun _ hK=>by
  unfold Oper.wp execOp;simp only [ho,resolve,invoke,builtin,Sem.run_bind,Sem.run_pure,Result.andThen_ok,List.map_toArray,List.map_cons,List.map_nil,hd,hs,hr];exact hK _ _ h
theorem fw {P:Program} {ops:Array Oper} {o:Oper} {a:Act} {w:World} {K:Act→World→Prop} {Q:Exit→Act→World→Prop} {E:Prop}
  (hg:o.guard=none) (d x:Operand) (dT sT:TypeId) (hop:o.op=Op.call { callee:=Callee.builtin Builtin.copy,args:=#[d,x],argTypes:=#[dT,sT] })
  (v u:Value) (hd:a.eval d=v) (hx:a.eval x=u) {v':Value} {w':World} (hr:(Builtin.copy_ #[dT,sT] o.type #[v,u]).run P w=.ok v' w') (hK:K (a.put o.dst v') w') :
  if Region.wanted o (yielded ops a.tmps)=true then Oper.wp P o a w K Q else E:=by
 have hw:Region.wanted o (yielded ops a.tmps)=true:=by simp [Region.wanted,hg]
 rw [if_pos hw];unfold Oper.wp;simp [execOp,hop,resolve,invoke,builtin,hd,hx,hr,Result.andThen];exact hK
def kU (ty:TypeId) (size:Nat) (w:World) (B:Nat) (v:Value) (n k:Nat) (xs ne:List Value) (e:Ending) (w':World):Prop :=
 ∃ h:Hd,e=.returned h.v∧w'.ownsRow B ty size h.v (n+1) (xs.take (k*size)++ne++xs.drop (k*size))∧Kb (fN v) w w'∧∀ g∈h.blk,v.ownBlock=some g∨w.heap.size≤g
end Go.Proofs.YtmflccbnoeaafaaGreat
namespace Go.Proofs.YtmflccbnoeaafaaGreat
open Go.RowKit Go.Deep Go.Lib
set_option maxRecDepth 100000
set_option linter.unusedVariables false
set_option maxHeartbeats 64000000
theorem Dd (A:Option Addr) (n cap B nb:Nat) (xs:List Value) (x:ByteArray) (w:World) (ho:w.ownsRow B 9 1 (.slice A n cap) n xs) (iH:w.heap[nb]? = some (.cells #[.string x] 9 (0,0))) (hn:n≤1000000) (hB:B≤w.heap.size) :
  Calls Tryz.prog 145 #[.slice A n cap,.int .i64 n,.slice (some ⟨nb,0,none⟩) 1 1] w (kU 9 1 w B (.slice A n cap) n n xs [.string x]):=by
 obtain ⟨i0,eU,hz0,hz1,hz2⟩:=info_parts nL;have HI:=gH eU;have HZ:=gH (And.intro hz0 (And.intro hz1 hz2));have HO:=gH ho;have TD:=gH iH;have hx:=ho.1
 have TE:n+1≤maxLen:=by unfold maxLen;omega
 have La:(n+1)*16≤140737488355328:=by omega
 have mo:n≤cap:=by
  rcases ho.2 with ⟨hv,Gx⟩ | ⟨g,c,cur,hv,_,_,hc,_⟩
  ·omega
  ·simp only [Value.slice.injEq] at hv;omega
 have hcm:cap≤9223372036854775807:=by
  rcases ho.2 with ⟨hv,Gx⟩ | ⟨g,c,cur,hv,_,_,hc,hm,_⟩
  ·simp only [Value.slice.injEq] at hv;omega
  ·simp only [Value.slice.injEq] at hv;simp only [maxLen] at hm;omega
 have HF:=gH (show ∀ gg cap' w5,w5.ownsRow B 9 1 (.slice (some ⟨gg,0,none⟩) (n+1) cap') (n+1) (xs++[.string x])→w.grownBy w5 (Value.slice A n cap).ownBlock→((Value.slice A n cap).ownBlock=some gg∨gg=w.heap.size)→kU 9 1 w B (.slice A n cap) n n xs [.string x] (.returned (.slice (some ⟨gg,0,none⟩) (n+1) cap')) w5 from fun gg cap' w5 h2 h3 h4=>by
  refine ⟨⟨some ⟨gg,0,none⟩,n+1,cap'⟩,rfl,?_,jD h3,fun g hg=>?_⟩
  ·rw [List.take_of_length_le (by omega),List.drop_of_length_le (by omega),List.append_nil];exact h2
  ·rw [cM,List.mem_singleton] at hg
   have hg:g=gg:=hg;subst hg
   rcases h4 with h | h
   ·exact .inl h
   ·exact .inr (by omega))
 clear eU hz0 hz1 hz2 ho iH hx
 have k1:(n:Int)≤(cap:Int):=by omega
 have k2:(n:Int)≤(n:Int):=Int.le_refl _
 go_enter Tryz.func145,Tryz.ntmps145
 by_cases hc:cap=n
 focus
  subst hc
 rotate_left
 rotate_left
 all_goals
  cases A
  all_goals
   go_wp2_with (at_builtin;go_must (refine wpList_append_lies _ rfl _ _ 26 rfl B 9 i0 _ 1 16 Tryz.underlying26 HI.out HZ.out.1 HZ.out.2.1 HZ.out.2.2 rfl (by decide) _ _ xs rfl HO.out ⟨nb,0,none⟩ 1 1 [.string x] rfl rfl (World.news_of_block (cs:=#[.string x]) (t:=9) (fr:=(0,0)) TD.out) (by simp [Value.oneCell']) (by omega) TE La hB w.heap.size rfl ?_);intro gg cap' w5 eX hgrow hat nR;have HP:=gH (HF.out gg cap' w5 eX hgrow hat);clear eX hgrow hat nR)
   go_ret;exact HP.out
theorem De (g n k m B nb:Nat) (xs:List Value) (x:ByteArray) (w:World) (ho:w.ownsRow B 9 1 (.slice (some ⟨g,0,none⟩) n n) n xs) (I5:n=k+1+m) (h1:∀ u∈xs,u.oneCell'=true) (iH:w.heap[nb]? = some (.cells #[.string x] 9 (0,0))) (hn:n≤1000000) (hB:B≤w.heap.size) :
  Calls Tryz.prog 145 #[.slice (some ⟨g,0,none⟩) n n,.int .i64 k,.slice (some ⟨nb,0,none⟩) 1 1] w (kU 9 1 w B (.slice (some ⟨g,0,none⟩) n n) n k xs [.string x]):=by
 obtain ⟨i0,eU,hz0,hz1,hz2⟩:=info_parts nL;obtain ⟨q,hq⟩:∃ q,q=m+2:=⟨_,rfl⟩;have hx:=ho.1
 have D3:k+q=n+1:=by omega
 have hap:=lY (P:=Tryz.prog) w B 26 3 26 9 i0 _ 1 16 .i64 Tryz.underlying26 Tryz.underlying3 eU hz0 hz1 hz2 rfl (by decide) g n n k q xs ho (by omega) (by omega) (by omega) (by rw [D3];omega) (by rw [D3];unfold maxLen;omega) (Nat.le_refl _);rw [D3] at hap;obtain ⟨c2,W2,hap,o2,a2,z2,hc2,ux⟩:=hap;obtain ⟨G,hG⟩:∃ G,w.heap.size=G:=⟨_,rfl⟩;have B9:k*1≤n*1:=Nat.mul_le_mul_right _ (by omega);obtain ⟨zs,hzs⟩:∃ zs,(Builtin.zeroCells (Value.cells (.string ByteArray.empty)) q).toList=zs:=⟨_,rfl⟩
 have lz:zs.length=1+(n - k)*1:=by
  rw [← hzs,ed]
  show q*1=_
  omega
 rw [hG] at hap o2;rw [hzs] at o2;obtain ⟨_,_,hv2,_,_,r2⟩:=aR o2 (by omega);simp only [Value.slice.injEq,true_and,Option.some.injEq,Addr.mk.injEq,and_true] at hv2;obtain ⟨rfl,rfl⟩:=hv2;have l2:(xs.take (k*1)++zs).length=(n+1)*1:=o2.1;have zG:W2.heap[nb]? = some (.cells #[.string x] 9 (0,0)):=(a2.block nb (lt_of_block iH)).trans iH;obtain ⟨W3,hW3⟩:∃ W3,W3=W2.setCells G (k*1) [.string x]:=⟨_,rfl⟩
 have ko:∀ ty,(Builtin.copy_ #[26,26] ty #[.slice (some ⟨G,k*1,none⟩) (n+1 - k) (c2 - k),.slice (some ⟨nb,0,none⟩) 1 1]).run Tryz.prog W2=.ok (goInt 1) W3:=fun ty=>by
  rw [hW3];refine ew W2 _ _ ty 9 1 G (k*1) (n+1 - k) (c2 - k) ⟨nb,0,none⟩ 1 1 1 [.string x] Tryz.underlying26 (by rw [eU];simp [hz1]) (by show min 1 (n+1 - k)=1;omega) rfl (World.news_of_block (cs:=#[.string x]) (t:=9) (fr:=(0,0)) zG) (fun j hj=>?_) (fun j hj=>?_) (by simp [Value.oneCell'])
  ·have hj':j < 1:=hj
   have hl:k*1+j < (xs.take (k*1)++zs).length:=by rw [l2];omega
   rw [r2.2.1 _ hl,List.getElem?_eq_getElem hl];rfl
  ·have hj':j < 1:=hj
   exact r2.2.2 _ (by rw [l2];omega)
 have o3:=bu (bG (g:=G) rfl [.string x] (k*1) o2) (ag.refl (W2.setCells G (k*1) [.string x])).drew;rw [← hW3] at o3;obtain ⟨_,_,hv3,_,_,r3⟩:=aR o3 (by omega);simp only [Value.slice.injEq,true_and,Option.some.injEq,Addr.mk.injEq,and_true] at hv3;obtain ⟨rfl,rfl⟩:=hv3;have l3:(fu (xs.take (k*1)++zs) (k*1) [.string x]).length=(n+1)*1:=o3.1;have nR:=ho.lt g rfl
 have I6:Kb (fun x=>x=G) w W3.drew:=by
  rw [hW3];exact ((Kb.aH a2).trans (bA G _ _ _)).trans (Kb.aH (ag.refl _).drew)
 have og:W3.drew.ownsRow B 9 1 (.slice (some ⟨g,0,none⟩) n n) n xs:=aP ho I6 (fun x hx e=>by have e:x=G:=e;have h5:x=g:=(by simpa [Value.ownBlock,eq_comm] using hx);omega);obtain ⟨ds,lD⟩:∃ ds,xs.drop (k*1)=ds:=⟨_,rfl⟩
 have ld:ds.length=(n - k)*1:=by rw [← lD,List.length_drop,hx];omega
 obtain ⟨W4,D4⟩:∃ W4,W4=W3.drew.setCells G ((k+1)*1) ds:=⟨_,rfl⟩
 have kp:∀ ty,(Builtin.copy_ #[26,26] ty #[.slice (some ⟨G,(k+1)*1,none⟩) (n - k) (c2 - (k+1)),.slice (some ⟨g,k*1,none⟩) (n - k) (n - k)]).run Tryz.prog W3.drew=.ok (goInt ((n - k:Nat):Int)) W4:=fun ty=>by
  rw [D4];refine ew W3.drew _ _ ty 9 1 G ((k+1)*1) (n - k) (c2 - (k+1)) ⟨g,k*1,none⟩ (n - k) (n - k) (n - k) ds Tryz.underlying26 (by rw [eU];simp [hz1]) (by show min (n - k) (n - k)=n - k;omega) ld (fun j u hj=>?_) (fun j hj=>?_) (fun j hj=>?_) (fun u hu=>h1 u (by rw [← lD] at hu;exact List.mem_of_mem_drop hu))
  ·rw [← lD,List.getElem?_drop] at hj
   rw [Addr.add_lit];have h5:=og.cells (g:=g) rfl _ u hj;rw [Addr.add_lit] at h5
   simpa using h5
  ·rw [ld] at hj
   have hl:(k+1)*1+j < (fu (xs.take (k*1)++zs) (k*1) [.string x]).length:=by rw [l3];omega
   rw [r3.2.1 _ hl,List.getElem?_eq_getElem hl];rfl
  ·rw [ld] at hj
   exact r3.2.2 _ (by rw [l3];omega)
 have HP:=gH (show kU 9 1 w B (.slice (some ⟨g,0,none⟩) n n) n k xs [.string x] (.returned (.slice (some ⟨G,0,none⟩) (n+1) c2)) W4 from by
  have o4:=bG (g:=G) rfl ds ((k+1)*1) o3;rw [← D4] at o4
  have e1:(k+1)*1=k*1+1:=by omega
  rw [e1,← lD,xj xs [.string x] zs (k*1) 1 ((n - k)*1) (by rw [hx];omega) rfl lz] at o4;refine ⟨⟨some ⟨G,0,none⟩,n+1,c2⟩,rfl,bV o4 (by omega),?_,fun x hx=>?_⟩
  ·rw [D4]
   exact (I6.trans (bA G _ _ _)).mono fun x hx e=>by have e:x=G:=e;omega
  ·rw [cM,List.mem_singleton] at hx
   have hx:x=G:=hx
   exact .inr (by omega))
 have DY:(q:Int)=(n:Int)+1 - (k:Int):=by omega
 rw [DY] at hap;clear DY
 have Gl:¬ n=k:=by omega
 have Pv:¬ c2=k:=by omega
 have I7:¬ c2=k+1:=by omega
 have hne:((k:Int)==(n:Int))=false:=by rw [beq_eq_false_iff_ne];omega
 have j1:(k:Int)≤(n:Int):=by omega
 have j2:(k:Int)≤(n:Int)+1:=by omega
 have j3:(k:Int)+1≤(n:Int)+1:=by omega
 have j4:(0:Int)≤(k:Int)+1:=by omega
 have j5:((n:Int) < (n:Int)+1):=by omega
 have j6:(n:Int)+1≤(c2:Int):=by omega
 have w2:IntKind.i64.wrap ((k:Int)+1)=(k:Int)+1:=IntWalk.i64_in _ (by omega)
 have TF:k < n:=by omega
 clear I5 hq D3 ux hW3 D4 o2 o3 r2 r3 og I6 nR zG iH ho h1 hx lz l2 l3 ld lD hzs a2 z2 eU hz0 hz1 hz2 hG B9
 go_enter Tryz.func145,Tryz.ntmps145
 (try simp only [Nat.mul_one] at ko kp)
 have I8:=gH hap;have yK:=gH ko;have xL:=gH kp;clear hap ko kp
 go_wp2_with (first
  | (at_builtin;refine ie _ rfl _ _ 26 3 rfl _ _ rfl rfl I8.out ?_)
  | (refine eJ _ rfl _ _ 26 26 rfl _ _ rfl rfl (yK.out _) ?_))
 go_region_law (refine fw rfl _ _ 26 26 rfl _ _ (by simp [Act.eval,Act.put]) (by simp [Act.eval,Act.put]) (xL.out _) ?_)
 go_wp2_with fail;go_ret;exact HP.out
theorem Gc (g n cap k m B nb:Nat) (xs:List Value) (x:ByteArray) (w:World) (ho:w.ownsRow B 9 1 (.slice (some ⟨g,0,none⟩) n cap) n xs) (I5:n=k+1+m) (iu:n < cap) (h1:∀ u∈xs,u.oneCell'=true) (iH:w.heap[nb]? = some (.cells #[.string x] 9 (0,0))) (xO:nb≠g) (hn:n≤1000000) :
  Calls Tryz.prog 145 #[.slice (some ⟨g,0,none⟩) n cap,.int .i64 k,.slice (some ⟨nb,0,none⟩) 1 1] w (kU 9 1 w B (.slice (some ⟨g,0,none⟩) n cap) n k xs [.string x]):=by
 obtain ⟨i0,eU,hz0,hz1,hz2⟩:=info_parts nL;have hx:=ho.1
 obtain ⟨cur,se,nv,tR,hcs,Ax⟩:∃ cur:Array Value,B≤g∧w.heap[g]? = some (.cells cur 9 (0,0))∧cap≤maxLen∧cur.size=cap*1∧cur.toList.take (n*1)=xs:=by
  rcases ho.2 with ⟨hv,_⟩ | ⟨g',c',cur,hv,hb,hg,hc,hm,hs,ht⟩
  ·simp at hv
  ·simp only [Value.slice.injEq,Option.some.injEq,Addr.mk.injEq,and_true,true_and] at hv
   obtain ⟨rfl,rfl⟩:=hv;exact ⟨cur,hb,hg,hm,hs,ht⟩
 obtain ⟨ts,E9⟩:∃ ts,(cur.toList.drop (n*1)).take 1=ts:=⟨_,rfl⟩
 have I9:ts.length=1:=by rw [← E9,List.length_take,List.length_drop,Array.length_toList,hcs];omega
 have o1:w.ownsRow B 9 1 (.slice (some ⟨g,0,none⟩) (n+1) cap) (n+1) (xs++ts):=by
  refine ⟨by rw [List.length_append,hx,I9];omega,.inr ⟨g,cap,cur,rfl,se,nv,by omega,tR,hcs,?_⟩⟩;rw [← Ax,← E9,Nat.add_mul,Nat.one_mul,← List.take_add]
 have Ja:=bu o1 (ag.refl w).drew;obtain ⟨_,_,i5,_,_,r1⟩:=aR Ja (by omega);simp only [Value.slice.injEq,true_and,Option.some.injEq,Addr.mk.injEq,and_true] at i5;obtain ⟨rfl,rfl⟩:=i5;have l1:(xs++ts).length=(n+1)*1:=o1.1;obtain ⟨ds,lD⟩:∃ ds,xs.drop (k*1)=ds:=⟨_,rfl⟩
 have ld:ds.length=(n - k)*1:=by rw [← lD,List.length_drop,hx];omega
 obtain ⟨W1,hW1⟩:∃ W1,W1=w.drew.setCells g ((k+1)*1) ds:=⟨_,rfl⟩
 have ko:∀ ty,(Builtin.copy_ #[26,26] ty #[.slice (some ⟨g,(k+1)*1,none⟩) (n - k) (cap - (k+1)),.slice (some ⟨g,k*1,none⟩) (n+1 - k) (cap - k)]).run Tryz.prog w.drew=.ok (goInt ((n - k:Nat):Int)) W1:=fun ty=>by
  rw [hW1];refine ew w.drew _ _ ty 9 1 g ((k+1)*1) (n - k) (cap - (k+1)) ⟨g,k*1,none⟩ (n+1 - k) (cap - k) (n - k) ds Tryz.underlying26 (by rw [eU];simp [hz1]) (by show min (n+1 - k) (n - k)=n - k;omega) ld (fun j u hj=>?_) (fun j hj=>?_) (fun j hj=>?_) (fun u hu=>h1 u (by rw [← lD] at hu;exact List.mem_of_mem_drop hu))
  ·rw [← lD,List.getElem?_drop] at hj
   rw [Addr.add_lit];have h5:=ho.cells (g:=g) rfl _ u hj;rw [Addr.add_lit] at h5
   simpa using h5
  ·rw [ld] at hj
   have hl:(k+1)*1+j < (xs++ts).length:=by rw [l1];omega
   rw [r1.2.1 _ hl,List.getElem?_eq_getElem hl];rfl
  ·rw [ld] at hj
   exact r1.2.2 _ (by rw [l1];omega)
 have o2:=bG (g:=g) rfl ds ((k+1)*1) Ja;rw [← hW1] at o2;obtain ⟨_,_,hv2,_,_,r2⟩:=aR o2 (by omega);simp only [Value.slice.injEq,true_and,Option.some.injEq,Addr.mk.injEq,and_true] at hv2;obtain ⟨rfl,rfl⟩:=hv2;have l2:(fu (xs++ts) ((k+1)*1) ds).length=(n+1)*1:=o2.1
 have Jb:Kb (fun x=>x=g) w W1:=by rw [hW1];exact (Kb.aH (ag.refl w).drew).trans (bA g _ _ _)
 have zH:W1.heap[nb]? = some (.cells #[.string x] 9 (0,0)):=(Jb.block nb (lt_of_block iH) xO).trans iH;obtain ⟨W2,hW2⟩:∃ W2,W2=W1.setCells g (k*1) [.string x]:=⟨_,rfl⟩
 have kp:∀ ty,(Builtin.copy_ #[26,26] ty #[.slice (some ⟨g,k*1,none⟩) (n+1 - k) (cap - k),.slice (some ⟨nb,0,none⟩) 1 1]).run Tryz.prog W1=.ok (goInt 1) W2:=fun ty=>by
  rw [hW2];refine ew W1 _ _ ty 9 1 g (k*1) (n+1 - k) (cap - k) ⟨nb,0,none⟩ 1 1 1 [.string x] Tryz.underlying26 (by rw [eU];simp [hz1]) (by show min 1 (n+1 - k)=1;omega) rfl (World.news_of_block (cs:=#[.string x]) (t:=9) (fr:=(0,0)) zH) (fun j hj=>?_) (fun j hj=>?_) (by simp [Value.oneCell'])
  ·have hj':j < 1:=hj
   have hl:k*1+j < (fu (xs++ts) ((k+1)*1) ds).length:=by rw [l2];omega
   rw [r2.2.1 _ hl,List.getElem?_eq_getElem hl];rfl
  ·have hj':j < 1:=hj
   exact r2.2.2 _ (by rw [l2];omega)
 have Jc:(callFunc 205 #[.slice (some ⟨nb,0,none⟩) 1 1,.slice (some ⟨g,(k+1)*1,none⟩) (n - k) (cap - (k+1))]).run Tryz.prog w=.ok (.value (.bool false)) w:=by
  rw [run_callFunc_extern Tryz.func205 (by kernel_rfl) (by kernel_rfl) (by kernel_rfl) (e:=Extern.SlicesOverlaps.overlaps #[26,26] #[4]) (by kernel_rfl),
   Lib.run_overlaps_apart w 26 4 9 Tryz.underlying26 1 (fun w=>by simp [sizeOf,typeInfo,eU,hz1]) ⟨nb,0,none⟩ ⟨g,(k+1)*1,none⟩ 1 1 (n - k) (cap - (k+1)) xO 9 9 1 (cap*1) (by simp [World.shape?,iH]) (by simp [World.shape?,nv,hcs]) (by omega) (by simp [World.frozen?,iH]) (by simp [World.frozen?,iH])]
  rfl
 have HP:=gH (show kU 9 1 w B (.slice (some ⟨g,0,none⟩) n cap) n k xs [.string x] (.returned (.slice (some ⟨g,0,none⟩) (n+1) cap)) W2 from by
  have o3:=bG (g:=g) rfl [.string x] (k*1) o2;rw [← hW2] at o3
  have e1:(k+1)*1=k*1+1:=by omega
  rw [e1,← lD,tS xs [.string x] ts (k*1) 1 ((n - k)*1) (by rw [hx];omega) rfl I9] at o3;refine ⟨⟨some ⟨g,0,none⟩,n+1,cap⟩,rfl,o3,?_,fun x hx=>.inl (Hd.au.1 hx)⟩;rw [hW2]
  exact (Jb.trans (bA g _ _ _)).mono fun x _ e=>by have e:x=g:=e;subst e;rfl)
 (try simp only [Nat.mul_one] at ko kp Jc)
 have yK:=gH ko;have xL:=gH kp
 have Jd:cap≤9223372036854775807:=by simp only [maxLen] at tR;omega
 have Pv:¬ cap=k:=by omega
 have I7:¬ cap=k+1:=by omega
 have hne:((k:Int)==(n:Int))=false:=by rw [beq_eq_false_iff_ne];omega
 have j1:(k:Int)≤(n:Int):=by omega
 have j2:(k:Int)≤(n:Int)+1:=by omega
 have j3:(k:Int)+1≤(n:Int)+1:=by omega
 have j4:(0:Int)≤(k:Int)+1:=by omega
 have j5:¬ ((cap:Int) < (n:Int)+1):=by omega
 have j6:(n:Int)+1≤(cap:Int):=by omega
 have j7:(n:Int)≤(cap:Int):=by omega
 have j8:k < n:=by omega
 have w2:IntKind.i64.wrap ((k:Int)+1)=(k:Int)+1:=IntWalk.i64_in _ (by omega)
 have t1:((k:Int)+1).toNat=k+1:=by omega
 clear I5 ko kp hW1 hW2 o1 Ja o2 r1 r2 Jb zH iH ho h1 hx l1 l2 ld lD eU hz0 hz1 hz2 Ax E9 I9 nv hcs tR se
 go_enter Tryz.func145,Tryz.ntmps145
 go_wp2_with (simp only [Jc])
 go_region_law (refine fw rfl _ _ 26 26 rfl _ _ (by simp [Act.eval,Act.put]) (by simp [Act.eval,Act.put]) (yK.out _) ?_)
 go_wp2_with (refine eJ _ rfl _ _ 26 26 rfl _ _ rfl rfl (xL.out _) ?_)
 go_ret;exact HP.out
theorem Qx (A:Option Addr) (n cap k B nb:Nat) (xs:List Value) (x:ByteArray) (w:World) (ho:w.ownsRow B 9 1 (.slice A n cap) n xs) (hk:k≤n) (h1:∀ u∈xs,u.oneCell'=true) (iH:w.heap[nb]? = some (.cells #[.string x] 9 (0,0))) (xO:(Value.slice A n cap).ownBlock≠some nb) (hn:n≤1000000) (hB:B≤w.heap.size) :
  Calls Tryz.prog 145 #[.slice A n cap,.int .i64 k,.slice (some ⟨nb,0,none⟩) 1 1] w (kU 9 1 w B (.slice A n cap) n k xs [.string x]):=by
 rcases Nat.lt_or_ge k n with hlt | Ki
 ·obtain ⟨g,cap',hv,se,mo,hr⟩:=aR ho (by omega)
  simp only [Value.slice.injEq,true_and] at hv;obtain ⟨rfl,rfl⟩:=hv
  rcases Nat.lt_or_ge n cap with hc | hc
  ·exact Gc g n cap k (n - k - 1) B nb xs x w ho (by omega) hc h1 iH (fun e=>xO (by rw [e];rfl)) hn
  ·have:cap=n:=by omega
   subst this;exact De g cap k (cap - k - 1) B nb xs x w ho (by omega) h1 iH hn hB
 ·have:k=n:=by omega
  subst this;exact Dd A k cap B nb xs x w ho iH hn hB
theorem Df (A:Option Addr) (n cap B nb:Nat) (xs:List Value) (x:em) (w:World) (ho:w.ownsRow B 103 2 (.slice A n cap) n xs) (iH:w.heap[nb]? = some (.cells #[.string x.role,.string x.of] 103 (0,0))) (hn:n≤1000000) (hB:B≤w.heap.size) :
  Calls Tryz.prog 148 #[.slice A n cap,.int .i64 n,.slice (some ⟨nb,0,none⟩) 1 1] w (kU 103 2 w B (.slice A n cap) n n xs [.string x.role,.string x.of]):=by
 obtain ⟨i0,eU,hz0,hz1,hz2⟩:=info_parts qi;have HI:=gH eU;have HZ:=gH (And.intro hz0 (And.intro hz1 hz2));have HO:=gH ho;have TD:=gH iH;have hx:=ho.1
 have TE:n+1≤maxLen:=by unfold maxLen;omega
 have La:(n+1)*32≤140737488355328:=by omega
 have mo:n≤cap:=by
  rcases ho.2 with ⟨hv,Gx⟩ | ⟨g,c,cur,hv,_,_,hc,_⟩
  ·omega
  ·simp only [Value.slice.injEq] at hv;omega
 have hcm:cap≤9223372036854775807:=by
  rcases ho.2 with ⟨hv,Gx⟩ | ⟨g,c,cur,hv,_,_,hc,hm,_⟩
  ·simp only [Value.slice.injEq] at hv;omega
  ·simp only [Value.slice.injEq] at hv;simp only [maxLen] at hm;omega
 have HF:=gH (show ∀ gg cap' w5,w5.ownsRow B 103 2 (.slice (some ⟨gg,0,none⟩) (n+1) cap') (n+1) (xs++[.string x.role,.string x.of])→w.grownBy w5 (Value.slice A n cap).ownBlock→((Value.slice A n cap).ownBlock=some gg∨gg=w.heap.size)→kU 103 2 w B (.slice A n cap) n n xs [.string x.role,.string x.of] (.returned (.slice (some ⟨gg,0,none⟩) (n+1) cap')) w5 from fun gg cap' w5 h2 h3 h4=>by
  refine ⟨⟨some ⟨gg,0,none⟩,n+1,cap'⟩,rfl,?_,jD h3,fun g hg=>?_⟩
  ·rw [List.take_of_length_le (by omega),List.drop_of_length_le (by omega),List.append_nil];exact h2
  ·rw [cM,List.mem_singleton] at hg
   have hg:g=gg:=hg;subst hg
   rcases h4 with h | h
   ·exact .inl h
   ·exact .inr (by omega))
 clear eU hz0 hz1 hz2 ho iH hx
 have k1:(n:Int)≤(cap:Int):=by omega
 have k2:(n:Int)≤(n:Int):=Int.le_refl _
 go_enter Tryz.func148,Tryz.ntmps148
 by_cases hc:cap=n
 focus
  subst hc
 rotate_left
 rotate_left
 all_goals
  cases A
  all_goals
   go_wp2_with (at_builtin;go_must (refine wpList_append_lies _ rfl _ _ 27 rfl B 103 i0 _ 2 32 Tryz.underlying27 HI.out HZ.out.1 HZ.out.2.1 HZ.out.2.2 rfl (by decide) _ _ xs rfl HO.out ⟨nb,0,none⟩ 1 1 [.string x.role,.string x.of] rfl rfl (World.news_of_block (cs:=#[.string x.role,.string x.of]) (t:=103) (fr:=(0,0)) TD.out) (by simp [Value.oneCell']) (by omega) TE La hB w.heap.size rfl ?_);intro gg cap' w5 eX hgrow hat nR;have HP:=gH (HF.out gg cap' w5 eX hgrow hat);clear eX hgrow hat nR)
   go_ret;exact HP.out
theorem Dg (g n k m B nb:Nat) (xs:List Value) (x:em) (w:World) (ho:w.ownsRow B 103 2 (.slice (some ⟨g,0,none⟩) n n) n xs) (I5:n=k+1+m) (h1:∀ u∈xs,u.oneCell'=true) (iH:w.heap[nb]? = some (.cells #[.string x.role,.string x.of] 103 (0,0))) (hn:n≤1000000) (hB:B≤w.heap.size) :
  Calls Tryz.prog 148 #[.slice (some ⟨g,0,none⟩) n n,.int .i64 k,.slice (some ⟨nb,0,none⟩) 1 1] w (kU 103 2 w B (.slice (some ⟨g,0,none⟩) n n) n k xs [.string x.role,.string x.of]):=by
 obtain ⟨i0,eU,hz0,hz1,hz2⟩:=info_parts qi;obtain ⟨q,hq⟩:∃ q,q=m+2:=⟨_,rfl⟩;have hx:=ho.1
 have D3:k+q=n+1:=by omega
 have hap:=lY (P:=Tryz.prog) w B 27 3 27 103 i0 _ 2 32 .i64 Tryz.underlying27 Tryz.underlying3 eU hz0 hz1 hz2 rfl (by decide) g n n k q xs ho (by omega) (by omega) (by omega) (by rw [D3];omega) (by rw [D3];unfold maxLen;omega) (Nat.le_refl _);rw [D3] at hap;obtain ⟨c2,W2,hap,o2,a2,z2,hc2,ux⟩:=hap;obtain ⟨G,hG⟩:∃ G,w.heap.size=G:=⟨_,rfl⟩;have B9:k*2≤n*2:=Nat.mul_le_mul_right _ (by omega);obtain ⟨zs,hzs⟩:∃ zs,(Builtin.zeroCells (Value.cells (.agg #[.string ByteArray.empty,.string ByteArray.empty])) q).toList=zs:=⟨_,rfl⟩
 have lz:zs.length=2+(n - k)*2:=by
  rw [← hzs,ed]
  show q*2=_
  omega
 rw [hG] at hap o2;rw [hzs] at o2;obtain ⟨_,_,hv2,_,_,r2⟩:=aR o2 (by omega);simp only [Value.slice.injEq,true_and,Option.some.injEq,Addr.mk.injEq,and_true] at hv2;obtain ⟨rfl,rfl⟩:=hv2;have l2:(xs.take (k*2)++zs).length=(n+1)*2:=o2.1;have zG:W2.heap[nb]? = some (.cells #[.string x.role,.string x.of] 103 (0,0)):=(a2.block nb (lt_of_block iH)).trans iH;obtain ⟨W3,hW3⟩:∃ W3,W3=W2.setCells G (k*2) [.string x.role,.string x.of]:=⟨_,rfl⟩
 have ko:∀ ty,(Builtin.copy_ #[27,27] ty #[.slice (some ⟨G,k*2,none⟩) (n+1 - k) (c2 - k),.slice (some ⟨nb,0,none⟩) 1 1]).run Tryz.prog W2=.ok (goInt 1) W3:=fun ty=>by
  rw [hW3];refine ew W2 _ _ ty 103 2 G (k*2) (n+1 - k) (c2 - k) ⟨nb,0,none⟩ 1 1 1 [.string x.role,.string x.of] Tryz.underlying27 (by rw [eU];simp [hz1]) (by show min 1 (n+1 - k)=1;omega) rfl (World.news_of_block (cs:=#[.string x.role,.string x.of]) (t:=103) (fr:=(0,0)) zG) (fun j hj=>?_) (fun j hj=>?_) (by simp [Value.oneCell'])
  ·have hj':j < 2:=hj
   have hl:k*2+j < (xs.take (k*2)++zs).length:=by rw [l2];omega
   rw [r2.2.1 _ hl,List.getElem?_eq_getElem hl];rfl
  ·have hj':j < 2:=hj
   exact r2.2.2 _ (by rw [l2];omega)
 have o3:=bu (bG (g:=G) rfl [.string x.role,.string x.of] (k*2) o2) (ag.refl (W2.setCells G (k*2) [.string x.role,.string x.of])).drew;rw [← hW3] at o3;obtain ⟨_,_,hv3,_,_,r3⟩:=aR o3 (by omega);simp only [Value.slice.injEq,true_and,Option.some.injEq,Addr.mk.injEq,and_true] at hv3;obtain ⟨rfl,rfl⟩:=hv3;have l3:(fu (xs.take (k*2)++zs) (k*2) [.string x.role,.string x.of]).length=(n+1)*2:=o3.1;have nR:=ho.lt g rfl
 have I6:Kb (fun x=>x=G) w W3.drew:=by
  rw [hW3];exact ((Kb.aH a2).trans (bA G _ _ _)).trans (Kb.aH (ag.refl _).drew)
 have og:W3.drew.ownsRow B 103 2 (.slice (some ⟨g,0,none⟩) n n) n xs:=aP ho I6 (fun x hx e=>by have e:x=G:=e;have h5:x=g:=(by simpa [Value.ownBlock,eq_comm] using hx);omega);obtain ⟨ds,lD⟩:∃ ds,xs.drop (k*2)=ds:=⟨_,rfl⟩
 have ld:ds.length=(n - k)*2:=by rw [← lD,List.length_drop,hx];omega
 obtain ⟨W4,D4⟩:∃ W4,W4=W3.drew.setCells G ((k+1)*2) ds:=⟨_,rfl⟩
 have kp:∀ ty,(Builtin.copy_ #[27,27] ty #[.slice (some ⟨G,(k+1)*2,none⟩) (n - k) (c2 - (k+1)),.slice (some ⟨g,k*2,none⟩) (n - k) (n - k)]).run Tryz.prog W3.drew=.ok (goInt ((n - k:Nat):Int)) W4:=fun ty=>by
  rw [D4];refine ew W3.drew _ _ ty 103 2 G ((k+1)*2) (n - k) (c2 - (k+1)) ⟨g,k*2,none⟩ (n - k) (n - k) (n - k) ds Tryz.underlying27 (by rw [eU];simp [hz1]) (by show min (n - k) (n - k)=n - k;omega) ld (fun j u hj=>?_) (fun j hj=>?_) (fun j hj=>?_) (fun u hu=>h1 u (by rw [← lD] at hu;exact List.mem_of_mem_drop hu))
  ·rw [← lD,List.getElem?_drop] at hj
   rw [Addr.add_lit];have h5:=og.cells (g:=g) rfl _ u hj;rw [Addr.add_lit] at h5
   simpa using h5
  ·rw [ld] at hj
   have hl:(k+1)*2+j < (fu (xs.take (k*2)++zs) (k*2) [.string x.role,.string x.of]).length:=by rw [l3];omega
   rw [r3.2.1 _ hl,List.getElem?_eq_getElem hl];rfl
  ·rw [ld] at hj
   exact r3.2.2 _ (by rw [l3];omega)
 have HP:=gH (show kU 103 2 w B (.slice (some ⟨g,0,none⟩) n n) n k xs [.string x.role,.string x.of] (.returned (.slice (some ⟨G,0,none⟩) (n+1) c2)) W4 from by
  have o4:=bG (g:=G) rfl ds ((k+1)*2) o3;rw [← D4] at o4
  have e1:(k+1)*2=k*2+2:=by omega
  rw [e1,← lD,xj xs [.string x.role,.string x.of] zs (k*2) 2 ((n - k)*2) (by rw [hx];omega) rfl lz] at o4;refine ⟨⟨some ⟨G,0,none⟩,n+1,c2⟩,rfl,bV o4 (by omega),?_,fun x hx=>?_⟩
  ·rw [D4]
   exact (I6.trans (bA G _ _ _)).mono fun x hx e=>by have e:x=G:=e;omega
  ·rw [cM,List.mem_singleton] at hx
   have hx:x=G:=hx
   exact .inr (by omega))
 have DY:(q:Int)=(n:Int)+1 - (k:Int):=by omega
 rw [DY] at hap;clear DY
 have Gl:¬ n=k:=by omega
 have Pv:¬ c2=k:=by omega
 have I7:¬ c2=k+1:=by omega
 have hne:((k:Int)==(n:Int))=false:=by rw [beq_eq_false_iff_ne];omega
 have j1:(k:Int)≤(n:Int):=by omega
 have j2:(k:Int)≤(n:Int)+1:=by omega
 have j3:(k:Int)+1≤(n:Int)+1:=by omega
 have j4:(0:Int)≤(k:Int)+1:=by omega
 have j5:((n:Int) < (n:Int)+1):=by omega
 have j6:(n:Int)+1≤(c2:Int):=by omega
 have w2:IntKind.i64.wrap ((k:Int)+1)=(k:Int)+1:=IntWalk.i64_in _ (by omega)
 have TF:k < n:=by omega
 clear I5 hq D3 ux hW3 D4 o2 o3 r2 r3 og I6 nR zG iH ho h1 hx lz l2 l3 ld lD hzs a2 z2 eU hz0 hz1 hz2 hG B9
 go_enter Tryz.func148,Tryz.ntmps148
 (try simp only [Nat.mul_one] at ko kp)
 have I8:=gH hap;have yK:=gH ko;have xL:=gH kp;clear hap ko kp
 go_wp2_with (first
  | (at_builtin;refine ie _ rfl _ _ 27 3 rfl _ _ rfl rfl I8.out ?_)
  | (refine eJ _ rfl _ _ 27 27 rfl _ _ rfl rfl (yK.out _) ?_))
 go_region_law (refine fw rfl _ _ 27 27 rfl _ _ (by simp [Act.eval,Act.put]) (by simp [Act.eval,Act.put]) (xL.out _) ?_)
 go_wp2_with fail;go_ret;exact HP.out
theorem Gd (g n cap k m B nb:Nat) (xs:List Value) (x:em) (w:World) (ho:w.ownsRow B 103 2 (.slice (some ⟨g,0,none⟩) n cap) n xs) (I5:n=k+1+m) (iu:n < cap) (h1:∀ u∈xs,u.oneCell'=true) (iH:w.heap[nb]? = some (.cells #[.string x.role,.string x.of] 103 (0,0))) (xO:nb≠g) (hn:n≤1000000) :
  Calls Tryz.prog 148 #[.slice (some ⟨g,0,none⟩) n cap,.int .i64 k,.slice (some ⟨nb,0,none⟩) 1 1] w (kU 103 2 w B (.slice (some ⟨g,0,none⟩) n cap) n k xs [.string x.role,.string x.of]):=by
 obtain ⟨i0,eU,hz0,hz1,hz2⟩:=info_parts qi;have hx:=ho.1
 obtain ⟨cur,se,nv,tR,hcs,Ax⟩:∃ cur:Array Value,B≤g∧w.heap[g]? = some (.cells cur 103 (0,0))∧cap≤maxLen∧cur.size=cap*2∧cur.toList.take (n*2)=xs:=by
  rcases ho.2 with ⟨hv,_⟩ | ⟨g',c',cur,hv,hb,hg,hc,hm,hs,ht⟩
  ·simp at hv
  ·simp only [Value.slice.injEq,Option.some.injEq,Addr.mk.injEq,and_true,true_and] at hv
   obtain ⟨rfl,rfl⟩:=hv;exact ⟨cur,hb,hg,hm,hs,ht⟩
 obtain ⟨ts,E9⟩:∃ ts,(cur.toList.drop (n*2)).take 2=ts:=⟨_,rfl⟩
 have I9:ts.length=2:=by rw [← E9,List.length_take,List.length_drop,Array.length_toList,hcs];omega
 have o1:w.ownsRow B 103 2 (.slice (some ⟨g,0,none⟩) (n+1) cap) (n+1) (xs++ts):=by
  refine ⟨by rw [List.length_append,hx,I9];omega,.inr ⟨g,cap,cur,rfl,se,nv,by omega,tR,hcs,?_⟩⟩;rw [← Ax,← E9,Nat.add_mul,Nat.one_mul,← List.take_add]
 have Ja:=bu o1 (ag.refl w).drew;obtain ⟨_,_,i5,_,_,r1⟩:=aR Ja (by omega);simp only [Value.slice.injEq,true_and,Option.some.injEq,Addr.mk.injEq,and_true] at i5;obtain ⟨rfl,rfl⟩:=i5;have l1:(xs++ts).length=(n+1)*2:=o1.1;obtain ⟨ds,lD⟩:∃ ds,xs.drop (k*2)=ds:=⟨_,rfl⟩
 have ld:ds.length=(n - k)*2:=by rw [← lD,List.length_drop,hx];omega
 obtain ⟨W1,hW1⟩:∃ W1,W1=w.drew.setCells g ((k+1)*2) ds:=⟨_,rfl⟩
 have ko:∀ ty,(Builtin.copy_ #[27,27] ty #[.slice (some ⟨g,(k+1)*2,none⟩) (n - k) (cap - (k+1)),.slice (some ⟨g,k*2,none⟩) (n+1 - k) (cap - k)]).run Tryz.prog w.drew=.ok (goInt ((n - k:Nat):Int)) W1:=fun ty=>by
  rw [hW1];refine ew w.drew _ _ ty 103 2 g ((k+1)*2) (n - k) (cap - (k+1)) ⟨g,k*2,none⟩ (n+1 - k) (cap - k) (n - k) ds Tryz.underlying27 (by rw [eU];simp [hz1]) (by show min (n+1 - k) (n - k)=n - k;omega) ld (fun j u hj=>?_) (fun j hj=>?_) (fun j hj=>?_) (fun u hu=>h1 u (by rw [← lD] at hu;exact List.mem_of_mem_drop hu))
  ·rw [← lD,List.getElem?_drop] at hj
   rw [Addr.add_lit];have h5:=ho.cells (g:=g) rfl _ u hj;rw [Addr.add_lit] at h5
   simpa using h5
  ·rw [ld] at hj
   have hl:(k+1)*2+j < (xs++ts).length:=by rw [l1];omega
   rw [r1.2.1 _ hl,List.getElem?_eq_getElem hl];rfl
  ·rw [ld] at hj
   exact r1.2.2 _ (by rw [l1];omega)
 have o2:=bG (g:=g) rfl ds ((k+1)*2) Ja;rw [← hW1] at o2;obtain ⟨_,_,hv2,_,_,r2⟩:=aR o2 (by omega);simp only [Value.slice.injEq,true_and,Option.some.injEq,Addr.mk.injEq,and_true] at hv2;obtain ⟨rfl,rfl⟩:=hv2;have l2:(fu (xs++ts) ((k+1)*2) ds).length=(n+1)*2:=o2.1
 have Jb:Kb (fun x=>x=g) w W1:=by rw [hW1];exact (Kb.aH (ag.refl w).drew).trans (bA g _ _ _)
 have zH:W1.heap[nb]? = some (.cells #[.string x.role,.string x.of] 103 (0,0)):=(Jb.block nb (lt_of_block iH) xO).trans iH;obtain ⟨W2,hW2⟩:∃ W2,W2=W1.setCells g (k*2) [.string x.role,.string x.of]:=⟨_,rfl⟩
 have kp:∀ ty,(Builtin.copy_ #[27,27] ty #[.slice (some ⟨g,k*2,none⟩) (n+1 - k) (cap - k),.slice (some ⟨nb,0,none⟩) 1 1]).run Tryz.prog W1=.ok (goInt 1) W2:=fun ty=>by
  rw [hW2];refine ew W1 _ _ ty 103 2 g (k*2) (n+1 - k) (cap - k) ⟨nb,0,none⟩ 1 1 1 [.string x.role,.string x.of] Tryz.underlying27 (by rw [eU];simp [hz1]) (by show min 1 (n+1 - k)=1;omega) rfl (World.news_of_block (cs:=#[.string x.role,.string x.of]) (t:=103) (fr:=(0,0)) zH) (fun j hj=>?_) (fun j hj=>?_) (by simp [Value.oneCell'])
  ·have hj':j < 2:=hj
   have hl:k*2+j < (fu (xs++ts) ((k+1)*2) ds).length:=by rw [l2];omega
   rw [r2.2.1 _ hl,List.getElem?_eq_getElem hl];rfl
  ·have hj':j < 2:=hj
   exact r2.2.2 _ (by rw [l2];omega)
 have Jc:(callFunc 207 #[.slice (some ⟨nb,0,none⟩) 1 1,.slice (some ⟨g,(k+1)*2,none⟩) (n - k) (cap - (k+1))]).run Tryz.prog w=.ok (.value (.bool false)) w:=by
  rw [run_callFunc_extern Tryz.func207 (by kernel_rfl) (by kernel_rfl) (by kernel_rfl) (e:=Extern.SlicesOverlaps.overlaps #[27,27] #[4]) (by kernel_rfl),
   Lib.run_overlaps_apart w 27 4 103 Tryz.underlying27 2 (fun w=>by simp [sizeOf,typeInfo,eU,hz1]) ⟨nb,0,none⟩ ⟨g,(k+1)*2,none⟩ 1 1 (n - k) (cap - (k+1)) xO 103 103 2 (cap*2) (by simp [World.shape?,iH]) (by simp [World.shape?,nv,hcs]) (by omega) (by simp [World.frozen?,iH]) (by simp [World.frozen?,iH])]
  rfl
 have HP:=gH (show kU 103 2 w B (.slice (some ⟨g,0,none⟩) n cap) n k xs [.string x.role,.string x.of] (.returned (.slice (some ⟨g,0,none⟩) (n+1) cap)) W2 from by
  have o3:=bG (g:=g) rfl [.string x.role,.string x.of] (k*2) o2;rw [← hW2] at o3
  have e1:(k+1)*2=k*2+2:=by omega
  rw [e1,← lD,tS xs [.string x.role,.string x.of] ts (k*2) 2 ((n - k)*2) (by rw [hx];omega) rfl I9] at o3;refine ⟨⟨some ⟨g,0,none⟩,n+1,cap⟩,rfl,o3,?_,fun x hx=>.inl (Hd.au.1 hx)⟩;rw [hW2]
  exact (Jb.trans (bA g _ _ _)).mono fun x _ e=>by have e:x=g:=e;subst e;rfl)
 (try simp only [Nat.mul_one] at ko kp Jc)
 have yK:=gH ko;have xL:=gH kp
 have Jd:cap≤9223372036854775807:=by simp only [maxLen] at tR;omega
 have Pv:¬ cap=k:=by omega
 have I7:¬ cap=k+1:=by omega
 have hne:((k:Int)==(n:Int))=false:=by rw [beq_eq_false_iff_ne];omega
 have j1:(k:Int)≤(n:Int):=by omega
 have j2:(k:Int)≤(n:Int)+1:=by omega
 have j3:(k:Int)+1≤(n:Int)+1:=by omega
 have j4:(0:Int)≤(k:Int)+1:=by omega
 have j5:¬ ((cap:Int) < (n:Int)+1):=by omega
 have j6:(n:Int)+1≤(cap:Int):=by omega
 have j7:(n:Int)≤(cap:Int):=by omega
 have j8:k < n:=by omega
 have w2:IntKind.i64.wrap ((k:Int)+1)=(k:Int)+1:=IntWalk.i64_in _ (by omega)
 have t1:((k:Int)+1).toNat=k+1:=by omega
 clear I5 ko kp hW1 hW2 o1 Ja o2 r1 r2 Jb zH iH ho h1 hx l1 l2 ld lD eU hz0 hz1 hz2 Ax E9 I9 nv hcs tR se
 go_enter Tryz.func148,Tryz.ntmps148
 go_wp2_with (simp only [Jc])
 go_region_law (refine fw rfl _ _ 27 27 rfl _ _ (by simp [Act.eval,Act.put]) (by simp [Act.eval,Act.put]) (yK.out _) ?_)
 go_wp2_with (refine eJ _ rfl _ _ 27 27 rfl _ _ rfl rfl (xL.out _) ?_)
 go_ret;exact HP.out
theorem Qy (A:Option Addr) (n cap k B nb:Nat) (xs:List Value) (x:em) (w:World) (ho:w.ownsRow B 103 2 (.slice A n cap) n xs) (hk:k≤n) (h1:∀ u∈xs,u.oneCell'=true) (iH:w.heap[nb]? = some (.cells #[.string x.role,.string x.of] 103 (0,0))) (xO:(Value.slice A n cap).ownBlock≠some nb) (hn:n≤1000000) (hB:B≤w.heap.size) :
  Calls Tryz.prog 148 #[.slice A n cap,.int .i64 k,.slice (some ⟨nb,0,none⟩) 1 1] w (kU 103 2 w B (.slice A n cap) n k xs [.string x.role,.string x.of]):=by
 rcases Nat.lt_or_ge k n with hlt | Ki
 ·obtain ⟨g,cap',hv,se,mo,hr⟩:=aR ho (by omega)
  simp only [Value.slice.injEq,true_and] at hv;obtain ⟨rfl,rfl⟩:=hv
  rcases Nat.lt_or_ge n cap with hc | hc
  ·exact Gd g n cap k (n - k - 1) B nb xs x w ho (by omega) hc h1 iH (fun e=>xO (by rw [e];rfl)) hn
  ·have:cap=n:=by omega
   subst this;exact Dg g cap k (cap - k - 1) B nb xs x w ho (by omega) h1 iH hn hB
 ·have:k=n:=by omega
  subst this;exact Df A k cap B nb xs x w ho iH hn hB
end Go.Proofs.YtmflccbnoeaafaaGreat
namespace Go.Proofs.YtmflccbnoeaafaaGreat
open Go.RowKit Go.Deep
set_option maxRecDepth 100000
set_option linter.unusedVariables false
set_option maxHeartbeats 64000000
def lR (name:ByteArray) (r:fX):fX × Int:=if bP name then (if b8 bw r.names name then (r,70) else (if 16≤r.names.length then (r,2) else ({ r with names:=bQ r.names (cN bw r.names name) name },0))) else (r,1)
theorem Ym (name:ByteArray) (bn:Nat) (r:fX) (w:World) (B b:Nat) (hn hm:Hd) (fj:dY w B hn hm r) (row:ap w b [hn.v,hm.v]) (hB:B≤b) (uV:b∉hn.blk) (J3:b∉hm.blk) (hc:w.cell? ⟨bn,0,none⟩=some (.string name)) (hbB:bn < B) (hr:aN bw r.names=true) (sm:kO r) (hs:Small name.size) :
  Calls Tryz.prog 144 (#[.pointer (some ⟨b,0,none⟩)]++#[.pointer (some ⟨bn,0,none⟩)]) w (ky w B b (lR name r)):=by
 show Calls Tryz.prog 144 #[.pointer (some ⟨b,0,none⟩),.pointer (some ⟨bn,0,none⟩)] w (ky w B b (lR name r))
 have Rs:bn < w.heap.size:=World.block_lt_of_cell? w ⟨bn,0,none⟩ hc;have Db:=fj.vn;have Dc:=fj.vm;rw [Db,Dc] at row;have x0:=row.cell (j:=0) rfl;have xz:=row.1;obtain ⟨p,hp⟩:∃ p,cN bw r.names name=p:=⟨_,rfl⟩;obtain ⟨t,ht⟩:∃ t,b8 bw r.names name=t:=⟨_,rfl⟩;obtain ⟨u,hu⟩:∃ u,bP name=u:=⟨_,rfl⟩
 have hpl:p≤r.names.length:=by rw [← hp];exact fD _ _ _
 have CB:=gH (show ∀ x:ii w,Calls Tryz.prog 137 #[.slice hn.a r.names.length hn.c,.string name] (bH w x) fun e w'=>e=.returned (.tuple #[.int .i64 p,.bool t])∧bH w x=w' from fun x=>by
  have:=Z4 hn.a hn.c r.names name (bH w x) (aM ((ag.refl w).bH x) (fj.names sm)) hr
  rw [hp,ht] at this;exact this)
 have CN:=gH (show ∀ w',Calls Tryz.prog 38 #[.string name] w' fun e w''=>e=.returned (.bool u)∧w'=w'' from fun w'=>hu▸cz name w' hs.max);have HF:=gH (show lR name r=if u then (if t then (r,70) else (if 16≤r.names.length then (r,2) else ({ r with names:=bQ r.names p name },0))) else (r,1) by unfold lR;rw [ht,hu,hp]);have Ah:=gH fj;have fJ:=gH row;have yG:=gH (And.intro uV J3);have HV:=gH (And.intro Db Dc);clear hp ht hu fj row uV J3 Db Dc hr
 go_enter Tryz.func144,Tryz.ntmps144
 go_wp2_with fail;refine av (by kernel_rfl) (by kernel_rfl) ?_
 repeat (go_big_quiet_step ((go_at_call 137;exact Calls.jb (CB.out _))))
 refine wpQuiet_nil ?_;intro _ hw';obtain ⟨x,hw''⟩:=hw';subst hw'';obtain ⟨W,hW⟩:∃ W,W=bH w x:=⟨_,rfl⟩
 have aW:ag w W:=by rw [hW];exact (ag.refl w).bH x
 rw [← hW];have br:=gH aW;have x0:=aW.cell_kept x0;have hc:=aW.cell_kept hc;have xz:=Nat.lt_of_lt_of_le xz aW.size;have Rs:=Nat.lt_of_lt_of_le Rs aW.size;clear hW aW CB;go_wp2_with fail;refine (CN.out W).mono ?_;rintro e w2 ⟨rfl,rfl⟩
 cases u
 ·have HP:=gH (show ky w B b (lR name r) (.returned (.int .i64 1)) W from by rw [HF.out];exact ⟨rfl,Kb.aH br.out,fun h=>by simp at h⟩)
  go_wp2_with fail;go_ret;exact HP.out
 cases t
 case true =>
  have HP:=gH (show ky w B b (lR name r) (.returned (.int .i64 70)) W from by rw [HF.out];exact ⟨rfl,Kb.aH br.out,fun h=>by simp at h⟩);go_wp2_with fail;go_ret;exact HP.out
 by_cases M8:16≤r.names.length
 ·have HP:=gH (show ky w B b (lR name r) (.returned (.int .i64 2)) W from by rw [HF.out];simp only [if_true,Bool.false_eq_true,if_false,if_pos M8];exact ⟨rfl,Kb.aH br.out,fun h=>by simp at h⟩)
  have hd:decide (16≤r.names.length)=true:=by simpa using M8
  go_wp2_with fail;go_ret;exact HP.out
 ·have hd:decide (16≤r.names.length)=false:=by simpa using M8
  have r2:=Ah.out.az br.out
  have n1:¬ fN (.slice hn.a r.names.length hn.c) b:=fun h=>yG.out.1 (Hd.au.2 (by rw [HV.out.1];exact h))
  have n2:¬ fN (.slice hn.a r.names.length hn.c) bn:=fun h=>by have:=(r2.fK.lt bn (by rw [HV.out.1];exact h)).1;omega
  have mB:=gH r2;obtain ⟨V,hV⟩:∃ V,V=(W.alloc (.cells #[.string name] 9)).drew:=⟨_,rfl⟩
  have aV:ag W V:=by rw [hV];exact ((ag.refl W).alloc _).drew
  have zV:V.heap.size=W.heap.size+1:=by rw [hV];simp
  have oV:V.ownsRow B 9 1 (.slice hn.a r.names.length hn.c) r.names.length (r.names.flatMap bY):=by rw [← HV.out.1];exact bu r2.fK aV
  have hlt:∀ g,(Value.slice hn.a r.names.length hn.c).ownBlock=some g→B≤g∧g < W.heap.size:=fun g hg=>r2.fK.lt g (by rw [HV.out.1];exact hg)
  have CI:=gH (Qx hn.a r.names.length hn.c p B W.heap.size (r.names.flatMap bY) name V oV hpl (eO vO _) (by rw [hV];exact heap_alloc_new W _) (fun e=>by have:=(hlt _ e).2;omega) (by have:=sm.1.1;omega) (by have h5:=fJ.out.1;have h6:=br.out.size;omega));have kR:=fJ.out.az (br.out.trans aV)
  have K2:=gH (show ∀ (h:Hd) (w5:World),w5.ownsRow B 9 1 h.v (r.names.length+1) ((r.names.flatMap bY).take (p*1)++[.string name]++(r.names.flatMap bY).drop (p*1))→Kb (fN (.slice hn.a r.names.length hn.c)) V w5→(∀ g∈h.blk,(Value.slice hn.a r.names.length hn.c).ownBlock=some g∨V.heap.size≤g)→((∃ x:kQ (.slice hn.a r.names.length hn.c) W,w5=kw (.slice hn.a r.names.length hn.c) W x)∧w5.cell? ⟨b,0,none⟩=some (.slice hn.a r.names.length hn.c)∧w5.frozen? ⟨b,0,none⟩=false∧b < w5.heap.size∧Hid (ky w B b (lR name r) (.returned (.int .i64 0)) (w5.setCell ⟨b,0,none⟩ h.v))) from fun h w5 o5 kb hblk=>by
   have lL:=kb.row kR n1;have rV:=r2.az aV
   have e1:(bQ r.names p name).length=r.names.length+1:=by unfold bQ;simp;omega
   have e2:(bQ r.names p name).flatMap bY=(r.names.flatMap bY).take (p*1)++[.string name]++(r.names.flatMap bY).drop (p*1):=by
    unfold bQ;rw [List.flatMap_append,List.flatMap_append,fI (size:=1) (fun _=>rfl),iI (size:=1) (fun _=>rfl)];rfl
   have n5:w5.ownsRow B 9 1 h.v (bQ r.names p name).length ((bQ r.names p name).flatMap bY):=by rw [e1,e2];exact o5
   have m5:=aP rV.mem kb (fun g' gl e=>r2.mU g' (Hd.au.2 (by rw [HV.out.1];exact e)) (Hd.au.2 gl));have ks:=Kb.set w5 b 0 h.v;have Vl:b < W.heap.size:=(fJ.out.az br.out).1;refine ⟨KL.of ((Kb.aH aV).trans kb),lL.cell (j:=0) rfl,lL.2.2 0 (by simp),lL.1,gH ?_⟩;rw [HF.out];simp only [if_true,Bool.false_eq_true,if_false,if_neg M8]
   refine ⟨rfl,((Kb.aH (br.out.trans aV)).trans (kb.mono fun k _ e=>(hlt k e).1)).trans (ks.mono fun k _ e=>by have e:k=b:=e;omega),fun _=>⟨h,hm,⟨aP n5 ks (fun g' gl e=>by
    have e:g'=b:=e
    rcases hblk g' (Hd.au.2 gl) with h8 | h8
    ·exact n1 (by rw [← e];exact h8)
    ·omega),aP m5 ks (fun g' gl e=>by
    have e:g'=b:=e
    exact yG.out.2 (Hd.au.2 (by rw [← e];exact gl))),fun g' gl hg2=>?_⟩,?_⟩⟩
   ·rcases hblk g' gl with h8 | h8
    ·exact r2.mU g' (Hd.au.2 (by rw [HV.out.1];exact h8)) hg2
    ·have:=(r2.mem.lt g' (Hd.au.1 hg2)).2
     omega
   ·have h6:=lL.set 0 h.v (by simp)
    rw [HV.out.2]
    exact h6)
  have Fz:=gH hV;clear r2 aV zV oV hlt kR hV;go_wp2_with fail;refine dx 7 9 (fun w'=>∃ x:kQ (.slice hn.a r.names.length hn.c) W,w'=kw (.slice hn.a r.names.length hn.c) W x) (by kernel_rfl) (by kernel_rfl) (KL.az (ag.refl W).drew) ?_;simp only [List.take_succ_cons,List.take_zero,List.drop_succ_cons,List.drop_zero]
  repeat (go_big_quiet_step (fail))
  refine wpQuiet_nil ?_;refine bX (fun K hK=>?_);go_simp;refine hK _ _ (fun _=>KL.az (((ag.refl W).alloc _).drew)) ?_;clear hK K;rw [← Fz.out];refine bX (fun K hK=>?_);go_simp
  go_at_call 145
  refine CI.out.mono ?_;rintro e w5 ⟨⟨A5,n5,c5⟩,rfl,o5,Cg,nW⟩;obtain ⟨hT,y0,yf,yz,HP⟩:=K2.out ⟨A5,n5,c5⟩ w5 o5 Cg nW
  dsimp only
  refine hK _ _ (fun _=>hT) ?_;clear hK K o5 Cg nW hT;simp only [Hd.v] at HP ⊢;refine d9 _ (by simp) (by decide) ?_;go_wp2_with fail;refine NoPanic.normal ?_;go_wp2_with fail;go_ret;exact HP.out
theorem Xm (r:fX) (An:Option Addr) (aI:Nat) (Am:Option Addr) (aK:Nat) (name:ByteArray) (w:World) (hn:aL w 1 dK An aI r.names) (hm:aL w 2 ia Am aK r.members) (hs:Small name.size) :
  Calls Tryz.prog 98 #[.agg #[.slice An r.names.length aI,.slice Am r.members.length aK],.string name] w (jE w (eC r (lR name r))):=by
 have l1:w.heap.size < w.heap.size+1:=by omega
 have l2:w.heap.size < w.heap.size+1+1:=by omega
 have l3:w.heap.size < w.heap.size+1+1+1:=by omega
 obtain ⟨W,hW⟩:∃ W,W=((w.alloc (.cells #[.slice An r.names.length aI,.slice Am r.members.length aK] 29)).alloc (.cells #[.string name] 9)).alloc (.cells #[.slice none 0 0,.slice none 0 0] 29):=⟨_,rfl⟩
 have aW:ag w W:=by rw [hW];exact (((ag.refl w).alloc _).alloc _).alloc _
 have r2:ap W (w.heap.size+1) [.string name]:=by
  rw [hW];have:=(dV (w.alloc (.cells #[.slice An r.names.length aI,.slice Am r.members.length aK] 29)) [.string name] 9).az ((ag.refl _).alloc (.cells #[.slice none 0 0,.slice none 0 0] 29))
  simpa using this
 have r3:ap W (w.heap.size+1+1) [.slice none 0 0,.slice none 0 0]:=by
  rw [hW];have:=dV ((w.alloc (.cells #[.slice An r.names.length aI,.slice Am r.members.length aK] 29)).alloc (.cells #[.string name] 9)) [.slice none 0 0,.slice none 0 0] 29
  simpa using this
 have zW:W.heap.size=w.heap.size+3:=by rw [hW];simp
 have bR:=enters (P:=Tryz.prog) Tryz.func144 (by kernel_rfl) rfl;have C:=gH (ql r An aI Am aK 144 #[.pointer (some ⟨w.heap.size+1,0,none⟩)] (lR name r) W (aM aW hn) (bJ aW hm) bR (fun hr w1 B b IL zo a hB fj row hb h1 h2=>Ym name (w.heap.size+1) r w1 B b IL zo fj row hb h1 h2 (a.cell_kept (r2.cell (j:=0) rfl)) (by omega) (jK hr).1 (tj hn hm) hs));have ny:=gH r3;have br:=gH aW;have lc:=gH zW;clear hn hm r2 r3 aW zW bR
 go_enter Tryz.func98,Tryz.ntmps98
 go_wp2_with fail;rw [← hW];clear hW;refine C.out.mono ?_;rintro e w1 ⟨⟨A1,n1,c1⟩,⟨A2,n2,c2⟩,rfl,a1,fj⟩;have row:=ny.out.az a1;have x0:=row.cell (j:=0) rfl;have x1:=row.cell (j:=1) rfl;have xz:=row.1;have f0:=row.2.2 0 (by simp);have f1:=row.2.2 1 (by simp);obtain ⟨F,hF⟩:∃ F,eC r (lR name r)=F:=⟨_,rfl⟩;rw [hF] at fj ⊢
 have HP:=gH (show jE w F (.returned (.tuple #[.agg #[.slice A1 n1 c1,.slice A2 n2 c2],.int .i64 F.2])) ((w1.setCell ⟨w.heap.size+1+1,0,none⟩ (.slice A1 n1 c1)).setCell ⟨w.heap.size+1+1,1,none⟩ (.slice A2 n2 c2)) from by
  have k9:=(Kb.set w1 (w.heap.size+1+1) 0 (.slice A1 n1 c1)).trans (Kb.set _ (w.heap.size+1+1) 1 (.slice A2 n2 c2));have z:=lc.out;refine ⟨⟨A1,n1,c1⟩,⟨A2,n2,c2⟩,rfl,((br.out.trans a1).setCell _ _ (by show w.heap.size≤w.heap.size+1+1;omega)).setCell _ _ (by show w.heap.size≤w.heap.size+1+1;omega),?_⟩;have r9:=fj.down (B':=w.heap.size) (by omega)
  exact ⟨aP r9.fK k9 (fun g hg e=>by have e:g=w.heap.size+1+1:=e;have:=(fj.fK.lt g hg).1;omega),aP r9.mem k9 (fun g hg e=>by have e:g=w.heap.size+1+1:=e;have:=(fj.mem.lt g hg).1;omega),fj.mU⟩)
 have fJ:=gH row;obtain ⟨F1,F2⟩:=F;have qR:=gH hF;simp only [Hd.v];clear fj row a1 hF;go_wp2_with fail;refine bodyPost_ret (results_cell_tmp (v:=.agg #[.slice A1 n1 c1,.slice A2 n2 c2]) rfl _ rfl (fT (dg fJ.out rfl _ _))) rfl ?_;rw [qR.out];exact HP.out
noncomputable def iD (x:em) (r:fX):fX × Int:=if dQ r.names x.role&&dQ r.names x.of then (if b8 eV r.members x then (r,70) else (if dI r.members x.of x.role then (r,72) else ({ r with members:=bQ r.members (cN eV r.members x) x },0))) else (r,71)
theorem UW (role of:ByteArray) (b1 b2:Nat) (r:fX) (w:World) (B b:Nat) (hn hm:Hd) (fj:dY w B hn hm r) (row:ap w b [hn.v,hm.v]) (hB:B≤b) (uV:b∉hn.blk) (J3:b∉hm.blk) (hc1:w.cell? ⟨b1,0,none⟩=some (.string role)) (hc2:w.cell? ⟨b2,0,none⟩=some (.string of)) (hr:aN eV r.members=true) (sm:kO r) (hl:r.members.length≤256) (hs1:Small role.size) (hs2:Small of.size) :
  Calls Tryz.prog 146 (#[.pointer (some ⟨b,0,none⟩)]++#[.pointer (some ⟨b1,0,none⟩),.pointer (some ⟨b2,0,none⟩)]) w (ky w B b (iD ⟨role,of⟩ r)):=by
 show Calls Tryz.prog 146 #[.pointer (some ⟨b,0,none⟩),.pointer (some ⟨b1,0,none⟩),.pointer (some ⟨b2,0,none⟩)] w (ky w B b (iD ⟨role,of⟩ r))
 have Rs:b1 < w.heap.size:=World.block_lt_of_cell? w ⟨b1,0,none⟩ hc1;have UR:b2 < w.heap.size:=World.block_lt_of_cell? w ⟨b2,0,none⟩ hc2;have Db:=fj.vn;have Dc:=fj.vm;rw [Db,Dc] at row;obtain ⟨p,hp⟩:∃ p,cN eV r.members ⟨role,of⟩=p:=⟨_,rfl⟩;obtain ⟨t,ht⟩:∃ t,b8 eV r.members ⟨role,of⟩=t:=⟨_,rfl⟩;obtain ⟨i1,ra⟩:∃ i,dQ r.names role=i:=⟨_,rfl⟩;obtain ⟨i2,qr⟩:∃ i,dQ r.names of=i:=⟨_,rfl⟩
 have hpl:p≤r.members.length:=by rw [← hp];exact fD _ _ _
 obtain ⟨X,hX⟩:∃ X,X=w.alloc (.cells #[.string role,.string of] 103):=⟨_,rfl⟩
 have aX:ag w X:=by rw [hX];exact (ag.refl w).alloc _
 have CB:=gH (show ∀ x:ii X,Calls Tryz.prog 147 #[.slice hm.a r.members.length hm.c,.agg #[.string role,.string of],.func (.func 116) #[] #[]] (bH X x) fun e w'=>e=.returned (.tuple #[.int .i64 p,.bool t])∧ag (bH X x) w' from fun x=>by
  have:=Z5 hm.a hm.c r.members ⟨role,of⟩ (bH X x) (bJ (aX.bH x) (fj.Ht sm)) hr
  rw [hp,ht] at this;exact this)
 have C1:=gH (show ∀ w',ag w w'→Calls Tryz.prog 18 #[.slice hn.a r.names.length hn.c,.string role] w' fun e w''=>e=.returned (.bool i1)∧w'=w'' from fun w' a=>ra▸fY hn.a hn.c r.names role w' (aM a (fj.names sm)));have C2:=gH (show ∀ w',ag w w'→Calls Tryz.prog 18 #[.slice hn.a r.names.length hn.c,.string of] w' fun e w''=>e=.returned (.bool i2)∧w'=w'' from fun w' a=>qr▸fY hn.a hn.c r.names of w' (aM a (fj.names sm)));have C3:=gH (show ∀ w',ag w w'→Calls Tryz.prog 69 #[.agg #[.slice hn.a r.names.length hn.c,.slice hm.a r.members.length hm.c],.string of] w' (Ql w' r.members of) from fun w' a=>xD r hn.a hn.c hm.a hm.c of w' (bJ a (fj.Ht sm)) hs2);have HF:=gH (show iD ⟨role,of⟩ r=if i1&&i2 then (if t then (r,70) else (if dI r.members of role then (r,72) else ({ r with members:=bQ r.members p ⟨role,of⟩ },0))) else (r,71) by unfold iD;rw [ht,hp];show (if dQ r.names role&&dQ r.names of then _ else _)=_;rw [ra,qr])
 have KX:=gH (show ∀ w',ag X w'→(w'.cell? ⟨b,0,none⟩=some (.slice hn.a r.names.length hn.c)∧w'.cell? ⟨b,1,none⟩=some (.slice hm.a r.members.length hm.c)∧w'.cell? ⟨b1,0,none⟩=some (.string role)∧w'.cell? ⟨b2,0,none⟩=some (.string of)∧w'.cell? ⟨w.heap.size,0,none⟩=some (.string role)∧w'.cell? ⟨w.heap.size,1,none⟩=some (.string of)∧b < w'.heap.size∧b1 < w'.heap.size∧b2 < w'.heap.size∧w.heap.size < w'.heap.size) from fun w' a=>by
  have q:=(row.az aX).az a;have y1:=(aX.trans a).cell_kept hc1;have y2:=(aX.trans a).cell_kept hc2;rw [hX] at a;obtain ⟨hb,_,hz,_,_⟩:=cJ a
  exact ⟨q.cell (j:=0) rfl,q.cell (j:=1) rfl,y1,y2,by rw [hb];rfl,by rw [hb];rfl,q.1,World.block_lt_of_cell? _ _ y1,World.block_lt_of_cell? _ _ y2,hz.1⟩)
 have Ah:=gH fj;have fJ:=gH row;have yG:=gH (And.intro uV J3);have HV:=gH (And.intro Db Dc);have gN:=gH aX;clear hp ht ra qr fj row uV J3 Db Dc hr aX
 go_enter Tryz.func146,Tryz.ntmps146
 go_wp2_with fail;rw [← hX];obtain ⟨g1,g2,g3,g4,g5,g6,g7,g8,g9,g10⟩:=KX.out X (ag.refl _);clear hX;refine av (by kernel_rfl) (by kernel_rfl) ?_
 repeat (go_big_quiet_step ((go_at_call 147;exact Calls.bD (CB.out _))))
 refine wpQuiet_nil ?_;intro _ hw';obtain ⟨x,hw''⟩:=hw';subst hw'';obtain ⟨W,hW⟩:∃ W,W=bH X x:=⟨_,rfl⟩
 have aW:ag X W:=by rw [hW];exact (ag.refl X).bH x
 rw [← hW];have br:=gH aW;clear g1 g2 g3 g4 g5 g6 g7 g8 g9 g10 hc1 hc2 Rs UR;obtain ⟨g1,g2,g3,g4,g5,g6,g7,g8,g9,g10⟩:=KX.out W aW;clear hW aW CB;go_wp2_with fail;have HP:=gH (show ∀ w',ag X w'→(i1&&i2)=false→ky w B b (iD ⟨role,of⟩ r) (.returned (.int .i64 71)) w' from fun w' a h=>by rw [HF.out,h];exact ⟨rfl,Kb.aH (gN.out.trans a),fun h=>by simp at h⟩)
 cases i1
 ·refine av (by kernel_rfl) (by kernel_rfl) ?_
  repeat (go_big_quiet_step ((go_at_call 18;first | (with_reducible exact Calls.jb (C1.out _ ((gN.out.trans br.out).bH _))) | (with_reducible exact Calls.jb (C2.out _ ((gN.out.trans br.out).bH _))))))
  refine wpQuiet_nil ?_;intro _ hw';obtain ⟨y,hw''⟩:=hw';subst hw'';go_wp2_with fail;go_ret;exact HP.out _ (br.out.bH y) rfl
 cases i2
 ·refine av (by kernel_rfl) (by kernel_rfl) ?_
  repeat (go_big_quiet_step ((go_at_call 18;first | (with_reducible exact Calls.jb (C1.out _ ((gN.out.trans br.out).bH _))) | (with_reducible exact Calls.jb (C2.out _ ((gN.out.trans br.out).bH _))))))
  refine wpQuiet_nil ?_;intro _ hw';obtain ⟨y,hw''⟩:=hw';subst hw'';go_wp2_with fail;go_ret;exact HP.out _ (br.out.bH y) rfl
 refine av (by kernel_rfl) (by kernel_rfl) ?_
 repeat (go_big_quiet_step ((go_at_call 18;first | (with_reducible exact Calls.jb (C1.out _ ((gN.out.trans br.out).bH _))) | (with_reducible exact Calls.jb (C2.out _ ((gN.out.trans br.out).bH _))))))
 refine wpQuiet_nil ?_;intro _ hw';obtain ⟨y,hw''⟩:=hw';subst hw'';obtain ⟨W3,hW3⟩:∃ W3,W3=bH W y:=⟨_,rfl⟩
 have a3:ag X W3:=by rw [hW3];exact br.out.bH y
 rw [← hW3];have iw:=gH a3;clear g1 g2 g3 g4 g5 g6 g7 g8 g9 g10;obtain ⟨g1,g2,g3,g4,g5,g6,g7,g8,g9,g10⟩:=KX.out W3 a3;clear hW3 a3 HP
 cases t
 case true =>
  have HP:=gH (show ky w B b (iD ⟨role,of⟩ r) (.returned (.int .i64 70)) W3 from by rw [HF.out];exact ⟨rfl,Kb.aH (gN.out.trans iw.out),fun h=>by simp at h⟩);go_wp2_with fail;go_ret;exact HP.out
 have KS:=gH (show ∀ w',ag W3 w'→(ag W3 w'∧w'.cell? ⟨b,0,none⟩=some (.slice hn.a r.names.length hn.c)∧w'.cell? ⟨b,1,none⟩=some (.slice hm.a r.members.length hm.c)∧w'.cell? ⟨b1,0,none⟩=some (.string role)∧w'.cell? ⟨b2,0,none⟩=some (.string of)) from fun w' a=>⟨a,a.cell_kept g1,a.cell_kept g2,a.cell_kept g3,a.cell_kept g4⟩);go_wp2_with fail
 go_region_held3 (fun w'=>ag W3 w'∧w'.cell? ⟨b,0,none⟩=some (.slice hn.a r.names.length hn.c)∧w'.cell? ⟨b,1,none⟩=some (.slice hm.a r.members.length hm.c)∧w'.cell? ⟨b1,0,none⟩=some (.string role)∧w'.cell? ⟨b2,0,none⟩=some (.string of))
  (first | exact KS.out _ (ag.refl _).drew | exact KS.out _ (And.left (by assumption)) | exact KS.out _ (ag.trans (And.left (by assumption:ag W3 _∧_)) (by assumption)))
  ((go_at_call 69;refine (C3.out _ ((gN.out.trans iw.out).trans (And.left (by assumption:ag W3 _∧_)))).mono ?_;rintro e w5 ⟨bf,rfl,a5,c5,n5,M5,UD,Qr⟩;have LK:=(qj M5 (ag.refl _) Qr role hs1.max).1;have RR:=gH (qj M5 (ag.refl _) Qr role hs1.max).2;have BB:=UD (txt role)))
 have qD:=gH (iw.out.trans (And.left (by assumption:ag W3 w5∧_)));have Kp:=RR;clear M5 UD Qr LK RR a5 g1 g2 g3 g4 g5 g6 g7 g8 g9 g10;obtain ⟨W5,hW5⟩:∃ W5,W5=w5:=⟨_,rfl⟩;subst hW5;obtain ⟨g1,g2,g3,g4,g5,g6,g7,g8,g9,g10⟩:=KX.out W5 qD.out;by_cases h5:0 < c5 (txt role)
 ·have Yf:(0:Int) < ((c5 (txt role):Nat):Int):=by omega
  have HP:=gH (show ky w B b (iD ⟨role,of⟩ r) (.returned (.int .i64 72)) W5 from by
   have hq:dI r.members of role=true:=by rw [← Kp.out];simp [h5]
   rw [HF.out,hq]
   exact ⟨rfl,Kb.aH (gN.out.trans qD.out),fun h=>by simp at h⟩)
  go_wp2_with fail;go_ret;exact HP.out
 ·have Yf:¬ (0:Int) < ((c5 (txt role):Nat):Int):=by omega
  have HQ:=gH (show dI r.members of role=false by rw [← Kp.out];simp [h5]);have Rt:=gN.out.trans qD.out;have r2:=Ah.out.az Rt
  have n1:¬ fN (.slice hm.a r.members.length hm.c) b:=fun h=>yG.out.2 (Hd.au.2 (by rw [HV.out.2];exact h))
  have n2:¬ fN (.slice hm.a r.members.length hm.c) w.heap.size:=fun h=>by have:=(Ah.out.mem.lt w.heap.size (by rw [HV.out.2];exact h)).2;omega
  obtain ⟨V,hV⟩:∃ V,V=(W5.alloc (.cells #[.string role,.string of] 103)).drew:=⟨_,rfl⟩
  have aV:ag W5 V:=by rw [hV];exact ((ag.refl W5).alloc _).drew
  have zV:V.heap.size=W5.heap.size+1:=by rw [hV];simp
  have oV:V.ownsRow B 103 2 (.slice hm.a r.members.length hm.c) r.members.length (r.members.flatMap fP):=by rw [← HV.out.2];exact bu r2.mem aV
  have hlt:∀ g,(Value.slice hm.a r.members.length hm.c).ownBlock=some g→B≤g∧g < W5.heap.size:=fun g hg=>r2.mem.lt g (by rw [HV.out.2];exact hg)
  have CI:=gH (Qy hm.a r.members.length hm.c p B W5.heap.size (r.members.flatMap fP) ⟨role,of⟩ V oV hpl (eO Ae _) (by rw [hV];exact heap_alloc_new W5 _) (fun e=>by have:=(hlt _ e).2;omega) (by omega) (by have h6:=fJ.out.1;have h7:=Rt.size;omega));have kR:=fJ.out.az (Rt.trans aV)
  have K2:=gH (show ∀ (h:Hd) (w6:World),w6.ownsRow B 103 2 h.v (r.members.length+1) ((r.members.flatMap fP).take (p*2)++[.string role,.string of]++(r.members.flatMap fP).drop (p*2))→Kb (fN (.slice hm.a r.members.length hm.c)) V w6→(∀ g∈h.blk,(Value.slice hm.a r.members.length hm.c).ownBlock=some g∨V.heap.size≤g)→((∃ x:kQ (.slice hm.a r.members.length hm.c) W5,w6=kw (.slice hm.a r.members.length hm.c) W5 x)∧w6.cell? ⟨b,1,none⟩=some (.slice hm.a r.members.length hm.c)∧w6.frozen? ⟨b,1,none⟩=false∧b < w6.heap.size∧Hid (ky w B b (iD ⟨role,of⟩ r) (.returned (.int .i64 0)) (w6.setCell ⟨b,1,none⟩ h.v))) from fun h w6 o5 kb hblk=>by
   have lL:=kb.row kR n1;have rV:=r2.az aV
   have e1:(bQ r.members p ⟨role,of⟩).length=r.members.length+1:=by unfold bQ;simp;omega
   have e2:(bQ r.members p ⟨role,of⟩).flatMap fP=(r.members.flatMap fP).take (p*2)++[.string role,.string of]++(r.members.flatMap fP).drop (p*2):=by
    unfold bQ;rw [List.flatMap_append,List.flatMap_append,fI (size:=2) (fun _=>rfl),iI (size:=2) (fun _=>rfl)];rfl
   have m5:w6.ownsRow B 103 2 h.v (bQ r.members p ⟨role,of⟩).length ((bQ r.members p ⟨role,of⟩).flatMap fP):=by rw [e1,e2];exact o5
   have n5':=aP rV.fK kb (fun g' gl e=>r2.mU g' (Hd.au.2 gl) (Hd.au.2 (by rw [HV.out.2];exact e)));have ks:=Kb.set w6 b 1 h.v;have Vl:b < W5.heap.size:=(fJ.out.az Rt).1;refine ⟨KL.of ((Kb.aH aV).trans kb),lL.cell (j:=1) rfl,lL.2.2 1 (by simp),lL.1,gH ?_⟩;rw [HF.out,HQ.out];simp only [Bool.and_self,if_true,Bool.false_eq_true,if_false]
   refine ⟨rfl,((Kb.aH (Rt.trans aV)).trans (kb.mono fun k _ e=>(hlt k e).1)).trans (ks.mono fun k _ e=>by have e:k=b:=e;omega),fun _=>⟨hn,h,⟨aP n5' ks (fun g' gl e=>by
    have e:g'=b:=e
    exact yG.out.1 (Hd.au.2 (by rw [← e];exact gl))),aP m5 ks (fun g' gl e=>by
    have e:g'=b:=e
    rcases hblk g' (Hd.au.2 gl) with h8 | h8
    ·exact n1 (by rw [← e];exact h8)
    ·omega),fun g' gl hg2=>?_⟩,?_⟩⟩
   ·rcases hblk g' hg2 with h8 | h8
    ·exact r2.mU g' gl (Hd.au.2 (by rw [HV.out.2];exact h8))
    ·have:=(r2.fK.lt g' (Hd.au.1 gl)).2
     omega
   ·have h6:=lL.set 1 h.v (by simp)
    rw [HV.out.1]
    exact h6)
  have Fz:=gH hV;clear r2 aV zV oV hlt kR hV Rt;go_wp2_with fail;refine dx 7 9 (fun w'=>∃ x:kQ (.slice hm.a r.members.length hm.c) W5,w'=kw (.slice hm.a r.members.length hm.c) W5 x) (by kernel_rfl) (by kernel_rfl) (KL.az (ag.refl W5).drew) ?_;simp only [List.take_succ_cons,List.take_zero,List.drop_succ_cons,List.drop_zero]
  repeat (go_big_quiet_step (fail))
  refine wpQuiet_nil ?_;refine bX (fun K hK=>?_);go_simp;refine hK _ _ (fun _=>KL.az (((ag.refl W5).alloc _).drew)) ?_;clear hK K;rw [← Fz.out];refine bX (fun K hK=>?_);go_simp
  go_at_call 148
  refine CI.out.mono ?_;rintro e w6 ⟨⟨A5,n5,c5⟩,rfl,o5,Cg,nW⟩;obtain ⟨hT,y0,yf,yz,HP⟩:=K2.out ⟨A5,n5,c5⟩ w6 o5 Cg nW
  dsimp only
  refine hK _ _ (fun _=>hT) ?_;clear hK K o5 Cg nW hT;simp only [Hd.v] at HP ⊢;refine d9 _ (by simp) (by decide) ?_;go_wp2_with fail;refine NoPanic.normal ?_;go_wp2_with fail;go_ret;exact HP.out
theorem Aj {r:fX} (h:bN r=true):r.names.length≤16∧r.members.length≤256:=by
 unfold bN at h;simp only [Bool.and_eq_true,decide_eq_true_eq] at h;exact ⟨h.1.1.1.1,h.1.1.1.2⟩
theorem TQ (r:fX) (An:Option Addr) (aI:Nat) (Am:Option Addr) (aK:Nat) (role of:ByteArray) (w:World) (hn:aL w 1 dK An aI r.names) (hm:aL w 2 ia Am aK r.members) (hs1:Small role.size) (hs2:Small of.size) :
  Calls Tryz.prog 99 #[.agg #[.slice An r.names.length aI,.slice Am r.members.length aK],.string role,.string of] w (jE w (eC r (iD ⟨role,of⟩ r))):=by
 have l1:w.heap.size < w.heap.size+1:=by omega
 have l2:w.heap.size < w.heap.size+1+1:=by omega
 have l3:w.heap.size < w.heap.size+1+1+1:=by omega
 have l4:w.heap.size < w.heap.size+1+1+1+1:=by omega
 obtain ⟨W,hW⟩:∃ W,W=(((w.alloc (.cells #[.slice An r.names.length aI,.slice Am r.members.length aK] 29)).alloc (.cells #[.string role] 9)).alloc (.cells #[.string of] 9)).alloc (.cells #[.slice none 0 0,.slice none 0 0] 29):=⟨_,rfl⟩
 have aW:ag w W:=by rw [hW];exact ((((ag.refl w).alloc _).alloc _).alloc _).alloc _
 have r2:ap W (w.heap.size+1) [.string role]:=by
  rw [hW];have:=(dV (w.alloc (.cells #[.slice An r.names.length aI,.slice Am r.members.length aK] 29)) [.string role] 9).az (((ag.refl _).alloc (.cells #[.string of] 9)).alloc (.cells #[.slice none 0 0,.slice none 0 0] 29))
  simpa using this
 have UT:ap W (w.heap.size+1+1) [.string of]:=by
  rw [hW];have:=(dV ((w.alloc (.cells #[.slice An r.names.length aI,.slice Am r.members.length aK] 29)).alloc (.cells #[.string role] 9)) [.string of] 9).az ((ag.refl _).alloc (.cells #[.slice none 0 0,.slice none 0 0] 29))
  simpa using this
 have r3:ap W (w.heap.size+1+1+1) [.slice none 0 0,.slice none 0 0]:=by
  rw [hW];have:=dV (((w.alloc (.cells #[.slice An r.names.length aI,.slice Am r.members.length aK] 29)).alloc (.cells #[.string role] 9)).alloc (.cells #[.string of] 9)) [.slice none 0 0,.slice none 0 0] 29
  simpa using this
 have zW:W.heap.size=w.heap.size+4:=by rw [hW];simp
 have bR:=enters (P:=Tryz.prog) Tryz.func146 (by kernel_rfl) rfl;have C:=gH (ql r An aI Am aK 146 #[.pointer (some ⟨w.heap.size+1,0,none⟩),.pointer (some ⟨w.heap.size+1+1,0,none⟩)] (iD ⟨role,of⟩ r) W (aM aW hn) (bJ aW hm) bR (fun hr w1 B b IL zo a hB fj row hb h1 h2=>UW role of (w.heap.size+1) (w.heap.size+1+1) r w1 B b IL zo fj row hb h1 h2 (a.cell_kept (r2.cell (j:=0) rfl)) (a.cell_kept (UT.cell (j:=0) rfl)) (jK hr).2 (tj hn hm) (Aj hr).2 hs1 hs2));have ny:=gH r3;have br:=gH aW;have lc:=gH zW;clear hn hm r2 UT r3 aW zW bR
 go_enter Tryz.func99,Tryz.ntmps99
 go_wp2_with fail;rw [← hW];clear hW;refine C.out.mono ?_;rintro e w1 ⟨⟨A1,n1,c1⟩,⟨A2,n2,c2⟩,rfl,a1,fj⟩;have row:=ny.out.az a1;have x0:=row.cell (j:=0) rfl;have x1:=row.cell (j:=1) rfl;have xz:=row.1;have f0:=row.2.2 0 (by simp);have f1:=row.2.2 1 (by simp);obtain ⟨F,hF⟩:∃ F,eC r (iD ⟨role,of⟩ r)=F:=⟨_,rfl⟩;rw [hF] at fj ⊢
 have HP:=gH (show jE w F (.returned (.tuple #[.agg #[.slice A1 n1 c1,.slice A2 n2 c2],.int .i64 F.2])) ((w1.setCell ⟨w.heap.size+1+1+1,0,none⟩ (.slice A1 n1 c1)).setCell ⟨w.heap.size+1+1+1,1,none⟩ (.slice A2 n2 c2)) from by
  have k9:=(Kb.set w1 (w.heap.size+1+1+1) 0 (.slice A1 n1 c1)).trans (Kb.set _ (w.heap.size+1+1+1) 1 (.slice A2 n2 c2));have z:=lc.out;refine ⟨⟨A1,n1,c1⟩,⟨A2,n2,c2⟩,rfl,((br.out.trans a1).setCell _ _ (by show w.heap.size≤w.heap.size+1+1+1;omega)).setCell _ _ (by show w.heap.size≤w.heap.size+1+1+1;omega),?_⟩;have r9:=fj.down (B':=w.heap.size) (by omega)
  exact ⟨aP r9.fK k9 (fun g hg e=>by have e:g=w.heap.size+1+1+1:=e;have:=(fj.fK.lt g hg).1;omega),aP r9.mem k9 (fun g hg e=>by have e:g=w.heap.size+1+1+1:=e;have:=(fj.mem.lt g hg).1;omega),fj.mU⟩)
 have fJ:=gH row;obtain ⟨F1,F2⟩:=F;have qR:=gH hF;simp only [Hd.v];clear fj row a1 hF;go_wp2_with fail;refine bodyPost_ret (results_cell_tmp (v:=.agg #[.slice A1 n1 c1,.slice A2 n2 c2]) rfl _ rfl (fT (dg fJ.out rfl _ _))) rfl ?_;rw [qR.out];exact HP.out
theorem wj {ms:List em} {s a b:ByteArray} (h:bk a b=true):dI ms s a=dI ms s b:=by
 unfold dI;rw [(lT a b).1 h]
theorem tO (ms:List em) (s t:ByteArray) (l:List ByteArray):dQ (l.filter (dI ms s)) t=(dI ms s t&&dQ l t):=by
 unfold dQ
 induction l with
 | nil=>simp
 | cons x l ih =>
  rw [List.filter_cons,List.any_cons]
  cases h:bk x t
  ·cases h2:dI ms s x
   ·simp [ih]
   ·simp [ih,h]
  ·cases h2:dI ms s x
   ·rw [wj h] at h2
    rw [if_neg (by simp),ih,h2];simp
   ·have h3:=h2
    rw [wj h] at h3;rw [if_pos (by simp),List.any_cons,h,h3];simp
theorem PP (r:fX) (a b:ByteArray):BJ r a b=(bN r&&dQ r.names a&&(dI r.members a b&&dQ r.names b)):=by
 unfold BJ;rw [tO]
theorem lV (ms:List em) (a b:ByteArray):dI ms a b=true↔Reach ms (txt a) (txt b):=by
 unfold dI;simp only [decide_eq_true_eq]
end Go.Proofs.YtmflccbnoeaafaaGreat
