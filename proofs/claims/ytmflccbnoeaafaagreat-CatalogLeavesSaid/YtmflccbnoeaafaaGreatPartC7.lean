import Derived.Deep.RegionLaw
import Derived.Test.YtmflccbnoeaafaaGreatPartC6
namespace Go.Proofs.YtmflccbnoeaafaaGreat
open Go.RowKit Go.Deep
set_option maxRecDepth 100000
set_option linter.unusedVariables false
set_option maxHeartbeats 64000000
theorem JX:(Tryz.prog.info? 98).map (fun i=>(i.zero,i.size,i.bytes))=some (some (.agg #[.string ByteArray.empty,.int .i64 0,.bool false]),3,32):=by kernel_rfl
theorem O1 (g cap i m B:Nat) (xs:List Value) (w:World) (ho:w.ownsRow B 98 3 (.slice (some ⟨g,0,none⟩) (i+1+m) cap) (i+1+m) xs) (h1:∀ u∈xs,u.oneCell'=true) (hb:cap≤9223372036854775807) :
  Calls Tryz.prog 165 #[.slice (some ⟨g,0,none⟩) (i+1+m) cap,.int .i64 i,.int .i64 ((i:Int)+1)] w (si 98 3 w B g cap i m xs):=by
 obtain ⟨i0,eU,hz0,hz1,hz2⟩:=info_parts JX;obtain ⟨g',cap',hv',hgb,mo,hr⟩:=aR ho (by omega);simp only [Value.slice.injEq,true_and,Option.some.injEq,Addr.mk.injEq,and_true] at hv';obtain ⟨rfl,rfl⟩:=hv';have hx:=ho.1
 have qY:∀ w:World,(zeroValue 98).run Tryz.prog w=.ok (.agg #[.string ByteArray.empty,.int .i64 0,.bool false]) w:=fun w=>by kernel_rfl
 obtain ⟨news,hnews⟩:∃ news,news=xs.drop ((i+1)*3):=⟨_,rfl⟩
 have hlen:news.length=m*3:=by rw [hnews,List.length_drop,hx];omega
 have jy:∃ A:Addr,(if cap=i+1 then some (⟨g,0,none⟩:Addr) else some ⟨g,(i+1)*3,none⟩)=some A∧Hid (∀ t u,news[t]? = some u→w.drew.cell? (A.add t)=some u):=by
  by_cases h:cap=i+1
  ·refine ⟨⟨g,0,none⟩,by simp [h],gH fun t u hu=>?_⟩
   have h0:news.length=0:=by rw [hlen];omega
   rw [List.length_eq_zero_iff.1 h0] at hu;simp at hu
  ·refine ⟨⟨g,(i+1)*3,none⟩,by simp [h],gH fun t u hu=>?_⟩
   rw [hnews,List.getElem?_drop] at hu;rw [Addr.add_lit];exact hr.cell hu
 obtain ⟨A,hA,jy⟩:=jy;have s1:=gH hlen;have s2:=gH (show ∀ u∈news,u.oneCell'=true from fun u hu=>h1 u (by rw [hnews] at hu;exact List.mem_of_mem_drop hu))
 have s3:=gH (show ∀ t,t < news.length→(w.drew.cell? ⟨g,0+i*3+t,none⟩).isSome=true∧w.drew.frozen? ⟨g,0+i*3+t,none⟩=false from fun t ht=>by
  rw [hlen] at ht
  have hl:0+i*3+t < xs.length:=by rw [hx];omega
  exact ⟨by show (w.cell? _).isSome=true;rw [hr.2.1 _ hl,List.getElem?_eq_getElem hl];rfl,hr.2.2 _ hl⟩)
 obtain ⟨W1,hW1⟩:∃ W1,W1=w.drew.setCells g (0+i*3) news:=⟨_,rfl⟩
 have uG:W1.ownsRow B 98 3 (.slice (some ⟨g,0,none⟩) (i+1+m) cap) (i+1+m) (fu xs (0+i*3) news):=by rw [hW1];exact bG (g:=g) rfl news _ (bu ho (ag.refl w).drew)
 obtain ⟨_,_,i5,_,_,hr1⟩:=aR uG (by omega);simp only [Value.slice.injEq,true_and,Option.some.injEq,Addr.mk.injEq,and_true] at i5;obtain ⟨rfl,rfl⟩:=i5
 have nu:∀ ty,(Builtin.clear_ #[34] ty #[.slice (some ⟨g,(i+m)*3,none⟩) 1 (cap - (i+m))]).run Tryz.prog W1=.ok (.tuple #[]) (W1.setCells g ((i+m)*3) [.string ByteArray.empty,.int .i64 0,.bool false]):=fun ty=>by
  refine fU W1 _ _ ty _ Tryz.underlying34 qY (by intro u hu;have hu:u∈([.string ByteArray.empty,.int .i64 0,.bool false]:List Value):=hu;simp only [List.mem_cons,List.not_mem_nil,or_false] at hu;rcases hu with rfl | rfl | rfl<;>rfl) g ((i+m)*3) (cap - (i+m)) (fun j hj=>?_) (fun j hj=>?_)
  ·have hj':j < 3:=hj
   have hl:(i+m)*3+j < (fu xs (0+i*3) news).length:=by rw [eP,hx];omega
   rw [hr1.2.1 _ hl,List.getElem?_eq_getElem hl];rfl
  ·have hj':j < 3:=hj
   exact hr1.2.2 _ (by rw [eP,hx];omega)
 have HF:=gH (show si 98 3 w B g cap i m xs (.returned (.slice (some ⟨g,0,none⟩) (i+m) cap)) (W1.setCells g ((i+m)*3) [.string ByteArray.empty,.int .i64 0,.bool false]) from by
  refine ⟨rfl,?_,?_⟩
  ·rw [hW1,hnews,Nat.zero_add]
   exact nO (bu ho (ag.refl w).drew) rfl
  ·rw [hW1]
   exact (Kb.aH (ag.refl w).drew).trans ((bA g news _ _).trans (bA g _ _ _)))
 have hW:=gH hW1
 (try simp only [Nat.mul_one] at hA)
 have UN:i≤cap:=by omega
 have UO:i+1≤cap:=by omega
 have hne:((i:Int)==(i:Int)+1)=false:=by simp;omega
 clear hW1 uG hr1 hr ho hnews hlen h1 hx
 go_enter Tryz.func165,Tryz.ntmps165
 have k0:(0:Int)≤(i:Int)+1:=by omega
 have k1:(i:Int)+1≤(i:Int)+1+(m:Int):=by omega
 go_wp2_with fail
 go_region_law (refine step_append_room rfl (.tmp 22) (.tmp 25) 34 rfl 98 i0 3 Tryz.underlying34 eU hz1 g 0 i cap (by simp [Act.eval,Act.put]) A m (cap - (i+1)) news (by simp [Act.eval,Act.put]) s1.out jy.out s2.out (by omega) s3.out ?_;rw [← hW.out])
 have ub:∀ ty,(Builtin.clear_ #[34] ty #[.slice (some ⟨g,(i+m)*3,none⟩) (i+1+m - (i+m)) (cap - (i+m))]).run Tryz.prog W1=.ok (.tuple #[]) (W1.setCells g ((i+m)*3) [.string ByteArray.empty,.int .i64 0,.bool false]):=fun ty=>by
  have e1:i+1+m - (i+m)=1:=by omega
  rw [e1];exact nu ty
 (try simp only [Nat.mul_one] at ub)
 have hcm:¬ cap=i+m:=by omega
 have k3:(i:Int)+(m:Int)≤(i:Int)+1+(m:Int):=by omega
 have k4:(0:Int)≤(i:Int)+(m:Int):=by omega
 have k5:(i:Int)+1+(m:Int)≤(cap:Int):=by omega
 go_wp2_with fail;go_ret
 first | exact HF.out | (have h9:=HF.out;simp only [Nat.mul_one] at h9;exact h9)
theorem JY:(Tryz.prog.info? 61).map (fun i=>(i.zero,i.size,i.bytes))=some (some (.agg #[.string ByteArray.empty,.string ByteArray.empty]),2,32):=by kernel_rfl
theorem OO (g cap i m B:Nat) (xs:List Value) (w:World) (ho:w.ownsRow B 61 2 (.slice (some ⟨g,0,none⟩) (i+1+m) cap) (i+1+m) xs) (h1:∀ u∈xs,u.oneCell'=true) (hb:cap≤9223372036854775807) :
  Calls Tryz.prog 155 #[.slice (some ⟨g,0,none⟩) (i+1+m) cap,.int .i64 i,.int .i64 ((i:Int)+1)] w (si 61 2 w B g cap i m xs):=by
 obtain ⟨i0,eU,hz0,hz1,hz2⟩:=info_parts JY;obtain ⟨g',cap',hv',hgb,mo,hr⟩:=aR ho (by omega);simp only [Value.slice.injEq,true_and,Option.some.injEq,Addr.mk.injEq,and_true] at hv';obtain ⟨rfl,rfl⟩:=hv';have hx:=ho.1
 have qY:∀ w:World,(zeroValue 61).run Tryz.prog w=.ok (.agg #[.string ByteArray.empty,.string ByteArray.empty]) w:=fun w=>by kernel_rfl
 obtain ⟨news,hnews⟩:∃ news,news=xs.drop ((i+1)*2):=⟨_,rfl⟩
 have hlen:news.length=m*2:=by rw [hnews,List.length_drop,hx];omega
 have jy:∃ A:Addr,(if cap=i+1 then some (⟨g,0,none⟩:Addr) else some ⟨g,(i+1)*2,none⟩)=some A∧Hid (∀ t u,news[t]? = some u→w.drew.cell? (A.add t)=some u):=by
  by_cases h:cap=i+1
  ·refine ⟨⟨g,0,none⟩,by simp [h],gH fun t u hu=>?_⟩
   have h0:news.length=0:=by rw [hlen];omega
   rw [List.length_eq_zero_iff.1 h0] at hu;simp at hu
  ·refine ⟨⟨g,(i+1)*2,none⟩,by simp [h],gH fun t u hu=>?_⟩
   rw [hnews,List.getElem?_drop] at hu;rw [Addr.add_lit];exact hr.cell hu
 obtain ⟨A,hA,jy⟩:=jy;have s1:=gH hlen;have s2:=gH (show ∀ u∈news,u.oneCell'=true from fun u hu=>h1 u (by rw [hnews] at hu;exact List.mem_of_mem_drop hu))
 have s3:=gH (show ∀ t,t < news.length→(w.drew.cell? ⟨g,0+i*2+t,none⟩).isSome=true∧w.drew.frozen? ⟨g,0+i*2+t,none⟩=false from fun t ht=>by
  rw [hlen] at ht
  have hl:0+i*2+t < xs.length:=by rw [hx];omega
  exact ⟨by show (w.cell? _).isSome=true;rw [hr.2.1 _ hl,List.getElem?_eq_getElem hl];rfl,hr.2.2 _ hl⟩)
 obtain ⟨W1,hW1⟩:∃ W1,W1=w.drew.setCells g (0+i*2) news:=⟨_,rfl⟩
 have uG:W1.ownsRow B 61 2 (.slice (some ⟨g,0,none⟩) (i+1+m) cap) (i+1+m) (fu xs (0+i*2) news):=by rw [hW1];exact bG (g:=g) rfl news _ (bu ho (ag.refl w).drew)
 obtain ⟨_,_,i5,_,_,hr1⟩:=aR uG (by omega);simp only [Value.slice.injEq,true_and,Option.some.injEq,Addr.mk.injEq,and_true] at i5;obtain ⟨rfl,rfl⟩:=i5
 have nu:∀ ty,(Builtin.clear_ #[22] ty #[.slice (some ⟨g,(i+m)*2,none⟩) 1 (cap - (i+m))]).run Tryz.prog W1=.ok (.tuple #[]) (W1.setCells g ((i+m)*2) [.string ByteArray.empty,.string ByteArray.empty]):=fun ty=>by
  refine fU W1 _ _ ty _ Tryz.underlying22 qY (by intro u hu;have hu:u∈([.string ByteArray.empty,.string ByteArray.empty]:List Value):=hu;simp only [List.mem_cons,List.not_mem_nil,or_false] at hu;rcases hu with rfl | rfl<;>rfl) g ((i+m)*2) (cap - (i+m)) (fun j hj=>?_) (fun j hj=>?_)
  ·have hj':j < 2:=hj
   have hl:(i+m)*2+j < (fu xs (0+i*2) news).length:=by rw [eP,hx];omega
   rw [hr1.2.1 _ hl,List.getElem?_eq_getElem hl];rfl
  ·have hj':j < 2:=hj
   exact hr1.2.2 _ (by rw [eP,hx];omega)
 have HF:=gH (show si 61 2 w B g cap i m xs (.returned (.slice (some ⟨g,0,none⟩) (i+m) cap)) (W1.setCells g ((i+m)*2) [.string ByteArray.empty,.string ByteArray.empty]) from by
  refine ⟨rfl,?_,?_⟩
  ·rw [hW1,hnews,Nat.zero_add]
   exact nO (bu ho (ag.refl w).drew) rfl
  ·rw [hW1]
   exact (Kb.aH (ag.refl w).drew).trans ((bA g news _ _).trans (bA g _ _ _)))
 have hW:=gH hW1
 (try simp only [Nat.mul_one] at hA)
 have UN:i≤cap:=by omega
 have UO:i+1≤cap:=by omega
 have hne:((i:Int)==(i:Int)+1)=false:=by simp;omega
 clear hW1 uG hr1 hr ho hnews hlen h1 hx
 go_enter Tryz.func155,Tryz.ntmps155
 have k0:(0:Int)≤(i:Int)+1:=by omega
 have k1:(i:Int)+1≤(i:Int)+1+(m:Int):=by omega
 go_wp2_with fail
 go_region_law (refine step_append_room rfl (.tmp 22) (.tmp 25) 22 rfl 61 i0 2 Tryz.underlying22 eU hz1 g 0 i cap (by simp [Act.eval,Act.put]) A m (cap - (i+1)) news (by simp [Act.eval,Act.put]) s1.out jy.out s2.out (by omega) s3.out ?_;rw [← hW.out])
 have ub:∀ ty,(Builtin.clear_ #[22] ty #[.slice (some ⟨g,(i+m)*2,none⟩) (i+1+m - (i+m)) (cap - (i+m))]).run Tryz.prog W1=.ok (.tuple #[]) (W1.setCells g ((i+m)*2) [.string ByteArray.empty,.string ByteArray.empty]):=fun ty=>by
  have e1:i+1+m - (i+m)=1:=by omega
  rw [e1];exact nu ty
 (try simp only [Nat.mul_one] at ub)
 have hcm:¬ cap=i+m:=by omega
 have k3:(i:Int)+(m:Int)≤(i:Int)+1+(m:Int):=by omega
 have k4:(0:Int)≤(i:Int)+(m:Int):=by omega
 have k5:(i:Int)+1+(m:Int)≤(cap:Int):=by omega
 go_wp2_with fail;go_ret
 first | exact HF.out | (have h9:=HF.out;simp only [Nat.mul_one] at h9;exact h9)
theorem JZ:(Tryz.prog.info? 37).map (fun i=>(i.zero,i.size,i.bytes))=some (some (.agg #[.string ByteArray.empty,.int .i64 0,.slice none 0 0,.int .i64 0,.int .i64 0,.string ByteArray.empty,.string ByteArray.empty,.string ByteArray.empty]),8,112):=by kernel_rfl
theorem Jl (g cap i m B:Nat) (xs:List Value) (w:World) (ho:w.ownsRow B 37 8 (.slice (some ⟨g,0,none⟩) (i+1+m) cap) (i+1+m) xs) (h1:∀ u∈xs,u.oneCell'=true) (hb:cap≤9223372036854775807) :
  Calls Tryz.prog 172 #[.slice (some ⟨g,0,none⟩) (i+1+m) cap,.int .i64 i,.int .i64 ((i:Int)+1)] w (si 37 8 w B g cap i m xs):=by
 obtain ⟨i0,eU,hz0,hz1,hz2⟩:=info_parts JZ;obtain ⟨g',cap',hv',hgb,mo,hr⟩:=aR ho (by omega);simp only [Value.slice.injEq,true_and,Option.some.injEq,Addr.mk.injEq,and_true] at hv';obtain ⟨rfl,rfl⟩:=hv';have hx:=ho.1
 have qY:∀ w:World,(zeroValue 37).run Tryz.prog w=.ok (.agg #[.string ByteArray.empty,.int .i64 0,.slice none 0 0,.int .i64 0,.int .i64 0,.string ByteArray.empty,.string ByteArray.empty,.string ByteArray.empty]) w:=fun w=>by kernel_rfl
 obtain ⟨news,hnews⟩:∃ news,news=xs.drop ((i+1)*8):=⟨_,rfl⟩
 have hlen:news.length=m*8:=by rw [hnews,List.length_drop,hx];omega
 have jy:∃ A:Addr,(if cap=i+1 then some (⟨g,0,none⟩:Addr) else some ⟨g,(i+1)*8,none⟩)=some A∧Hid (∀ t u,news[t]? = some u→w.drew.cell? (A.add t)=some u):=by
  by_cases h:cap=i+1
  ·refine ⟨⟨g,0,none⟩,by simp [h],gH fun t u hu=>?_⟩
   have h0:news.length=0:=by rw [hlen];omega
   rw [List.length_eq_zero_iff.1 h0] at hu;simp at hu
  ·refine ⟨⟨g,(i+1)*8,none⟩,by simp [h],gH fun t u hu=>?_⟩
   rw [hnews,List.getElem?_drop] at hu;rw [Addr.add_lit];exact hr.cell hu
 obtain ⟨A,hA,jy⟩:=jy;have s1:=gH hlen;have s2:=gH (show ∀ u∈news,u.oneCell'=true from fun u hu=>h1 u (by rw [hnews] at hu;exact List.mem_of_mem_drop hu))
 have s3:=gH (show ∀ t,t < news.length→(w.drew.cell? ⟨g,0+i*8+t,none⟩).isSome=true∧w.drew.frozen? ⟨g,0+i*8+t,none⟩=false from fun t ht=>by
  rw [hlen] at ht
  have hl:0+i*8+t < xs.length:=by rw [hx];omega
  exact ⟨by show (w.cell? _).isSome=true;rw [hr.2.1 _ hl,List.getElem?_eq_getElem hl];rfl,hr.2.2 _ hl⟩)
 obtain ⟨W1,hW1⟩:∃ W1,W1=w.drew.setCells g (0+i*8) news:=⟨_,rfl⟩
 have uG:W1.ownsRow B 37 8 (.slice (some ⟨g,0,none⟩) (i+1+m) cap) (i+1+m) (fu xs (0+i*8) news):=by rw [hW1];exact bG (g:=g) rfl news _ (bu ho (ag.refl w).drew)
 obtain ⟨_,_,i5,_,_,hr1⟩:=aR uG (by omega);simp only [Value.slice.injEq,true_and,Option.some.injEq,Addr.mk.injEq,and_true] at i5;obtain ⟨rfl,rfl⟩:=i5
 have nu:∀ ty,(Builtin.clear_ #[51] ty #[.slice (some ⟨g,(i+m)*8,none⟩) 1 (cap - (i+m))]).run Tryz.prog W1=.ok (.tuple #[]) (W1.setCells g ((i+m)*8) [.string ByteArray.empty,.int .i64 0,.slice none 0 0,.int .i64 0,.int .i64 0,.string ByteArray.empty,.string ByteArray.empty,.string ByteArray.empty]):=fun ty=>by
  refine fU W1 _ _ ty _ Tryz.underlying51 qY (by intro u hu;have hu:u∈([.string ByteArray.empty,.int .i64 0,.slice none 0 0,.int .i64 0,.int .i64 0,.string ByteArray.empty,.string ByteArray.empty,.string ByteArray.empty]:List Value):=hu;simp only [List.mem_cons,List.not_mem_nil,or_false] at hu;rcases hu with rfl | rfl | rfl | rfl | rfl | rfl | rfl | rfl<;>rfl) g ((i+m)*8) (cap - (i+m)) (fun j hj=>?_) (fun j hj=>?_)
  ·have hj':j < 8:=hj
   have hl:(i+m)*8+j < (fu xs (0+i*8) news).length:=by rw [eP,hx];omega
   rw [hr1.2.1 _ hl,List.getElem?_eq_getElem hl];rfl
  ·have hj':j < 8:=hj
   exact hr1.2.2 _ (by rw [eP,hx];omega)
 have HF:=gH (show si 37 8 w B g cap i m xs (.returned (.slice (some ⟨g,0,none⟩) (i+m) cap)) (W1.setCells g ((i+m)*8) [.string ByteArray.empty,.int .i64 0,.slice none 0 0,.int .i64 0,.int .i64 0,.string ByteArray.empty,.string ByteArray.empty,.string ByteArray.empty]) from by
  refine ⟨rfl,?_,?_⟩
  ·rw [hW1,hnews,Nat.zero_add]
   exact nO (bu ho (ag.refl w).drew) rfl
  ·rw [hW1]
   exact (Kb.aH (ag.refl w).drew).trans ((bA g news _ _).trans (bA g _ _ _)))
 have hW:=gH hW1
 (try simp only [Nat.mul_one] at hA)
 have UN:i≤cap:=by omega
 have UO:i+1≤cap:=by omega
 have hne:((i:Int)==(i:Int)+1)=false:=by simp;omega
 clear hW1 uG hr1 hr ho hnews hlen h1 hx
 go_enter Tryz.func172,Tryz.ntmps172
 have k0:(0:Int)≤(i:Int)+1:=by omega
 have k1:(i:Int)+1≤(i:Int)+1+(m:Int):=by omega
 go_wp2_with fail
 go_region_law (refine step_append_room rfl (.tmp 22) (.tmp 25) 51 rfl 37 i0 8 Tryz.underlying51 eU hz1 g 0 i cap (by simp [Act.eval,Act.put]) A m (cap - (i+1)) news (by simp [Act.eval,Act.put]) s1.out jy.out s2.out (by omega) s3.out ?_;rw [← hW.out])
 have ub:∀ ty,(Builtin.clear_ #[51] ty #[.slice (some ⟨g,(i+m)*8,none⟩) (i+1+m - (i+m)) (cap - (i+m))]).run Tryz.prog W1=.ok (.tuple #[]) (W1.setCells g ((i+m)*8) [.string ByteArray.empty,.int .i64 0,.slice none 0 0,.int .i64 0,.int .i64 0,.string ByteArray.empty,.string ByteArray.empty,.string ByteArray.empty]):=fun ty=>by
  have e1:i+1+m - (i+m)=1:=by omega
  rw [e1];exact nu ty
 (try simp only [Nat.mul_one] at ub)
 have hcm:¬ cap=i+m:=by omega
 have k3:(i:Int)+(m:Int)≤(i:Int)+1+(m:Int):=by omega
 have k4:(0:Int)≤(i:Int)+(m:Int):=by omega
 have k5:(i:Int)+1+(m:Int)≤(cap:Int):=by omega
 go_wp2_with fail;go_ret
 first | exact HF.out | (have h9:=HF.out;simp only [Nat.mul_one] at h9;exact h9)
theorem J0:(Tryz.prog.info? 53).map (fun i=>(i.zero,i.size,i.bytes))=some (some (.agg #[.string ByteArray.empty,.string ByteArray.empty,.string ByteArray.empty,.slice none 0 0,.slice none 0 0]),5,96):=by kernel_rfl
theorem OQ (g cap i m B:Nat) (xs:List Value) (w:World) (ho:w.ownsRow B 53 5 (.slice (some ⟨g,0,none⟩) (i+1+m) cap) (i+1+m) xs) (h1:∀ u∈xs,u.oneCell'=true) (hb:cap≤9223372036854775807) :
  Calls Tryz.prog 132 #[.slice (some ⟨g,0,none⟩) (i+1+m) cap,.int .i64 i,.int .i64 ((i:Int)+1)] w (si 53 5 w B g cap i m xs):=by
 obtain ⟨i0,eU,hz0,hz1,hz2⟩:=info_parts J0;obtain ⟨g',cap',hv',hgb,mo,hr⟩:=aR ho (by omega);simp only [Value.slice.injEq,true_and,Option.some.injEq,Addr.mk.injEq,and_true] at hv';obtain ⟨rfl,rfl⟩:=hv';have hx:=ho.1
 have qY:∀ w:World,(zeroValue 53).run Tryz.prog w=.ok (.agg #[.string ByteArray.empty,.string ByteArray.empty,.string ByteArray.empty,.slice none 0 0,.slice none 0 0]) w:=fun w=>by kernel_rfl
 obtain ⟨news,hnews⟩:∃ news,news=xs.drop ((i+1)*5):=⟨_,rfl⟩
 have hlen:news.length=m*5:=by rw [hnews,List.length_drop,hx];omega
 have jy:∃ A:Addr,(if cap=i+1 then some (⟨g,0,none⟩:Addr) else some ⟨g,(i+1)*5,none⟩)=some A∧Hid (∀ t u,news[t]? = some u→w.drew.cell? (A.add t)=some u):=by
  by_cases h:cap=i+1
  ·refine ⟨⟨g,0,none⟩,by simp [h],gH fun t u hu=>?_⟩
   have h0:news.length=0:=by rw [hlen];omega
   rw [List.length_eq_zero_iff.1 h0] at hu;simp at hu
  ·refine ⟨⟨g,(i+1)*5,none⟩,by simp [h],gH fun t u hu=>?_⟩
   rw [hnews,List.getElem?_drop] at hu;rw [Addr.add_lit];exact hr.cell hu
 obtain ⟨A,hA,jy⟩:=jy;have s1:=gH hlen;have s2:=gH (show ∀ u∈news,u.oneCell'=true from fun u hu=>h1 u (by rw [hnews] at hu;exact List.mem_of_mem_drop hu))
 have s3:=gH (show ∀ t,t < news.length→(w.drew.cell? ⟨g,0+i*5+t,none⟩).isSome=true∧w.drew.frozen? ⟨g,0+i*5+t,none⟩=false from fun t ht=>by
  rw [hlen] at ht
  have hl:0+i*5+t < xs.length:=by rw [hx];omega
  exact ⟨by show (w.cell? _).isSome=true;rw [hr.2.1 _ hl,List.getElem?_eq_getElem hl];rfl,hr.2.2 _ hl⟩)
 obtain ⟨W1,hW1⟩:∃ W1,W1=w.drew.setCells g (0+i*5) news:=⟨_,rfl⟩
 have uG:W1.ownsRow B 53 5 (.slice (some ⟨g,0,none⟩) (i+1+m) cap) (i+1+m) (fu xs (0+i*5) news):=by rw [hW1];exact bG (g:=g) rfl news _ (bu ho (ag.refl w).drew)
 obtain ⟨_,_,i5,_,_,hr1⟩:=aR uG (by omega);simp only [Value.slice.injEq,true_and,Option.some.injEq,Addr.mk.injEq,and_true] at i5;obtain ⟨rfl,rfl⟩:=i5
 have nu:∀ ty,(Builtin.clear_ #[23] ty #[.slice (some ⟨g,(i+m)*5,none⟩) 1 (cap - (i+m))]).run Tryz.prog W1=.ok (.tuple #[]) (W1.setCells g ((i+m)*5) [.string ByteArray.empty,.string ByteArray.empty,.string ByteArray.empty,.slice none 0 0,.slice none 0 0]):=fun ty=>by
  refine fU W1 _ _ ty _ Tryz.underlying23 qY (by intro u hu;have hu:u∈([.string ByteArray.empty,.string ByteArray.empty,.string ByteArray.empty,.slice none 0 0,.slice none 0 0]:List Value):=hu;simp only [List.mem_cons,List.not_mem_nil,or_false] at hu;rcases hu with rfl | rfl | rfl | rfl | rfl<;>rfl) g ((i+m)*5) (cap - (i+m)) (fun j hj=>?_) (fun j hj=>?_)
  ·have hj':j < 5:=hj
   have hl:(i+m)*5+j < (fu xs (0+i*5) news).length:=by rw [eP,hx];omega
   rw [hr1.2.1 _ hl,List.getElem?_eq_getElem hl];rfl
  ·have hj':j < 5:=hj
   exact hr1.2.2 _ (by rw [eP,hx];omega)
 have HF:=gH (show si 53 5 w B g cap i m xs (.returned (.slice (some ⟨g,0,none⟩) (i+m) cap)) (W1.setCells g ((i+m)*5) [.string ByteArray.empty,.string ByteArray.empty,.string ByteArray.empty,.slice none 0 0,.slice none 0 0]) from by
  refine ⟨rfl,?_,?_⟩
  ·rw [hW1,hnews,Nat.zero_add]
   exact nO (bu ho (ag.refl w).drew) rfl
  ·rw [hW1]
   exact (Kb.aH (ag.refl w).drew).trans ((bA g news _ _).trans (bA g _ _ _)))
 have hW:=gH hW1
 (try simp only [Nat.mul_one] at hA)
 have UN:i≤cap:=by omega
 have UO:i+1≤cap:=by omega
 have hne:((i:Int)==(i:Int)+1)=false:=by simp;omega
 clear hW1 uG hr1 hr ho hnews hlen h1 hx
 go_enter Tryz.func132,Tryz.ntmps132
 have k0:(0:Int)≤(i:Int)+1:=by omega
 have k1:(i:Int)+1≤(i:Int)+1+(m:Int):=by omega
 go_wp2_with fail
 go_region_law (refine step_append_room rfl (.tmp 22) (.tmp 25) 23 rfl 53 i0 5 Tryz.underlying23 eU hz1 g 0 i cap (by simp [Act.eval,Act.put]) A m (cap - (i+1)) news (by simp [Act.eval,Act.put]) s1.out jy.out s2.out (by omega) s3.out ?_;rw [← hW.out])
 have ub:∀ ty,(Builtin.clear_ #[23] ty #[.slice (some ⟨g,(i+m)*5,none⟩) (i+1+m - (i+m)) (cap - (i+m))]).run Tryz.prog W1=.ok (.tuple #[]) (W1.setCells g ((i+m)*5) [.string ByteArray.empty,.string ByteArray.empty,.string ByteArray.empty,.slice none 0 0,.slice none 0 0]):=fun ty=>by
  have e1:i+1+m - (i+m)=1:=by omega
  rw [e1];exact nu ty
 (try simp only [Nat.mul_one] at ub)
 have hcm:¬ cap=i+m:=by omega
 have k3:(i:Int)+(m:Int)≤(i:Int)+1+(m:Int):=by omega
 have k4:(0:Int)≤(i:Int)+(m:Int):=by omega
 have k5:(i:Int)+1+(m:Int)≤(cap:Int):=by omega
 go_wp2_with fail;go_ret
 first | exact HF.out | (have h9:=HF.out;simp only [Nat.mul_one] at h9;exact h9)
theorem J1:(Tryz.prog.info? 103).map (fun i=>(i.zero,i.size,i.bytes))=some (some (.agg #[.string ByteArray.empty,.string ByteArray.empty]),2,32):=by kernel_rfl
theorem Qv (g cap i m B:Nat) (xs:List Value) (w:World) (ho:w.ownsRow B 103 2 (.slice (some ⟨g,0,none⟩) (i+1+m) cap) (i+1+m) xs) (h1:∀ u∈xs,u.oneCell'=true) (hb:cap≤9223372036854775807) :
  Calls Tryz.prog 150 #[.slice (some ⟨g,0,none⟩) (i+1+m) cap,.int .i64 i,.int .i64 ((i:Int)+1)] w (si 103 2 w B g cap i m xs):=by
 obtain ⟨i0,eU,hz0,hz1,hz2⟩:=info_parts J1;obtain ⟨g',cap',hv',hgb,mo,hr⟩:=aR ho (by omega);simp only [Value.slice.injEq,true_and,Option.some.injEq,Addr.mk.injEq,and_true] at hv';obtain ⟨rfl,rfl⟩:=hv';have hx:=ho.1
 have qY:∀ w:World,(zeroValue 103).run Tryz.prog w=.ok (.agg #[.string ByteArray.empty,.string ByteArray.empty]) w:=fun w=>by kernel_rfl
 obtain ⟨news,hnews⟩:∃ news,news=xs.drop ((i+1)*2):=⟨_,rfl⟩
 have hlen:news.length=m*2:=by rw [hnews,List.length_drop,hx];omega
 have jy:∃ A:Addr,(if cap=i+1 then some (⟨g,0,none⟩:Addr) else some ⟨g,(i+1)*2,none⟩)=some A∧Hid (∀ t u,news[t]? = some u→w.drew.cell? (A.add t)=some u):=by
  by_cases h:cap=i+1
  ·refine ⟨⟨g,0,none⟩,by simp [h],gH fun t u hu=>?_⟩
   have h0:news.length=0:=by rw [hlen];omega
   rw [List.length_eq_zero_iff.1 h0] at hu;simp at hu
  ·refine ⟨⟨g,(i+1)*2,none⟩,by simp [h],gH fun t u hu=>?_⟩
   rw [hnews,List.getElem?_drop] at hu;rw [Addr.add_lit];exact hr.cell hu
 obtain ⟨A,hA,jy⟩:=jy;have s1:=gH hlen;have s2:=gH (show ∀ u∈news,u.oneCell'=true from fun u hu=>h1 u (by rw [hnews] at hu;exact List.mem_of_mem_drop hu))
 have s3:=gH (show ∀ t,t < news.length→(w.drew.cell? ⟨g,0+i*2+t,none⟩).isSome=true∧w.drew.frozen? ⟨g,0+i*2+t,none⟩=false from fun t ht=>by
  rw [hlen] at ht
  have hl:0+i*2+t < xs.length:=by rw [hx];omega
  exact ⟨by show (w.cell? _).isSome=true;rw [hr.2.1 _ hl,List.getElem?_eq_getElem hl];rfl,hr.2.2 _ hl⟩)
 obtain ⟨W1,hW1⟩:∃ W1,W1=w.drew.setCells g (0+i*2) news:=⟨_,rfl⟩
 have uG:W1.ownsRow B 103 2 (.slice (some ⟨g,0,none⟩) (i+1+m) cap) (i+1+m) (fu xs (0+i*2) news):=by rw [hW1];exact bG (g:=g) rfl news _ (bu ho (ag.refl w).drew)
 obtain ⟨_,_,i5,_,_,hr1⟩:=aR uG (by omega);simp only [Value.slice.injEq,true_and,Option.some.injEq,Addr.mk.injEq,and_true] at i5;obtain ⟨rfl,rfl⟩:=i5
 have nu:∀ ty,(Builtin.clear_ #[27] ty #[.slice (some ⟨g,(i+m)*2,none⟩) 1 (cap - (i+m))]).run Tryz.prog W1=.ok (.tuple #[]) (W1.setCells g ((i+m)*2) [.string ByteArray.empty,.string ByteArray.empty]):=fun ty=>by
  refine fU W1 _ _ ty _ Tryz.underlying27 qY (by intro u hu;have hu:u∈([.string ByteArray.empty,.string ByteArray.empty]:List Value):=hu;simp only [List.mem_cons,List.not_mem_nil,or_false] at hu;rcases hu with rfl | rfl<;>rfl) g ((i+m)*2) (cap - (i+m)) (fun j hj=>?_) (fun j hj=>?_)
  ·have hj':j < 2:=hj
   have hl:(i+m)*2+j < (fu xs (0+i*2) news).length:=by rw [eP,hx];omega
   rw [hr1.2.1 _ hl,List.getElem?_eq_getElem hl];rfl
  ·have hj':j < 2:=hj
   exact hr1.2.2 _ (by rw [eP,hx];omega)
 have HF:=gH (show si 103 2 w B g cap i m xs (.returned (.slice (some ⟨g,0,none⟩) (i+m) cap)) (W1.setCells g ((i+m)*2) [.string ByteArray.empty,.string ByteArray.empty]) from by
  refine ⟨rfl,?_,?_⟩
  ·rw [hW1,hnews,Nat.zero_add]
   exact nO (bu ho (ag.refl w).drew) rfl
  ·rw [hW1]
   exact (Kb.aH (ag.refl w).drew).trans ((bA g news _ _).trans (bA g _ _ _)))
 have hW:=gH hW1
 (try simp only [Nat.mul_one] at hA)
 have UN:i≤cap:=by omega
 have UO:i+1≤cap:=by omega
 have hne:((i:Int)==(i:Int)+1)=false:=by simp;omega
 clear hW1 uG hr1 hr ho hnews hlen h1 hx
 go_enter Tryz.func150,Tryz.ntmps150
 have k0:(0:Int)≤(i:Int)+1:=by omega
 have k1:(i:Int)+1≤(i:Int)+1+(m:Int):=by omega
 go_wp2_with fail
 go_region_law (refine step_append_room rfl (.tmp 22) (.tmp 25) 27 rfl 103 i0 2 Tryz.underlying27 eU hz1 g 0 i cap (by simp [Act.eval,Act.put]) A m (cap - (i+1)) news (by simp [Act.eval,Act.put]) s1.out jy.out s2.out (by omega) s3.out ?_;rw [← hW.out])
 have ub:∀ ty,(Builtin.clear_ #[27] ty #[.slice (some ⟨g,(i+m)*2,none⟩) (i+1+m - (i+m)) (cap - (i+m))]).run Tryz.prog W1=.ok (.tuple #[]) (W1.setCells g ((i+m)*2) [.string ByteArray.empty,.string ByteArray.empty]):=fun ty=>by
  have e1:i+1+m - (i+m)=1:=by omega
  rw [e1];exact nu ty
 (try simp only [Nat.mul_one] at ub)
 have hcm:¬ cap=i+m:=by omega
 have k3:(i:Int)+(m:Int)≤(i:Int)+1+(m:Int):=by omega
 have k4:(0:Int)≤(i:Int)+(m:Int):=by omega
 have k5:(i:Int)+1+(m:Int)≤(cap:Int):=by omega
 go_wp2_with fail;go_ret
 first | exact HF.out | (have h9:=HF.out;simp only [Nat.mul_one] at h9;exact h9)
theorem J2:(Tryz.prog.info? 9).map (fun i=>(i.zero,i.size,i.bytes))=some (some (.string ByteArray.empty),1,16):=by kernel_rfl
theorem Qw (g cap i m B:Nat) (xs:List Value) (w:World) (ho:w.ownsRow B 9 1 (.slice (some ⟨g,0,none⟩) (i+1+m) cap) (i+1+m) xs) (h1:∀ u∈xs,u.oneCell'=true) (hb:cap≤9223372036854775807) :
  Calls Tryz.prog 140 #[.slice (some ⟨g,0,none⟩) (i+1+m) cap,.int .i64 i,.int .i64 ((i:Int)+1)] w (si 9 1 w B g cap i m xs):=by
 obtain ⟨i0,eU,hz0,hz1,hz2⟩:=info_parts J2;obtain ⟨g',cap',hv',hgb,mo,hr⟩:=aR ho (by omega);simp only [Value.slice.injEq,true_and,Option.some.injEq,Addr.mk.injEq,and_true] at hv';obtain ⟨rfl,rfl⟩:=hv';have hx:=ho.1
 have qY:∀ w:World,(zeroValue 9).run Tryz.prog w=.ok (.string ByteArray.empty) w:=fun w=>by kernel_rfl
 obtain ⟨news,hnews⟩:∃ news,news=xs.drop ((i+1)*1):=⟨_,rfl⟩
 have hlen:news.length=m*1:=by rw [hnews,List.length_drop,hx];omega
 have jy:∃ A:Addr,(if cap=i+1 then some (⟨g,0,none⟩:Addr) else some ⟨g,(i+1)*1,none⟩)=some A∧Hid (∀ t u,news[t]? = some u→w.drew.cell? (A.add t)=some u):=by
  by_cases h:cap=i+1
  ·refine ⟨⟨g,0,none⟩,by simp [h],gH fun t u hu=>?_⟩
   have h0:news.length=0:=by rw [hlen];omega
   rw [List.length_eq_zero_iff.1 h0] at hu;simp at hu
  ·refine ⟨⟨g,(i+1)*1,none⟩,by simp [h],gH fun t u hu=>?_⟩
   rw [hnews,List.getElem?_drop] at hu;rw [Addr.add_lit];exact hr.cell hu
 obtain ⟨A,hA,jy⟩:=jy;have s1:=gH hlen;have s2:=gH (show ∀ u∈news,u.oneCell'=true from fun u hu=>h1 u (by rw [hnews] at hu;exact List.mem_of_mem_drop hu))
 have s3:=gH (show ∀ t,t < news.length→(w.drew.cell? ⟨g,0+i*1+t,none⟩).isSome=true∧w.drew.frozen? ⟨g,0+i*1+t,none⟩=false from fun t ht=>by
  rw [hlen] at ht
  have hl:0+i*1+t < xs.length:=by rw [hx];omega
  exact ⟨by show (w.cell? _).isSome=true;rw [hr.2.1 _ hl,List.getElem?_eq_getElem hl];rfl,hr.2.2 _ hl⟩)
 obtain ⟨W1,hW1⟩:∃ W1,W1=w.drew.setCells g (0+i*1) news:=⟨_,rfl⟩
 have uG:W1.ownsRow B 9 1 (.slice (some ⟨g,0,none⟩) (i+1+m) cap) (i+1+m) (fu xs (0+i*1) news):=by rw [hW1];exact bG (g:=g) rfl news _ (bu ho (ag.refl w).drew)
 obtain ⟨_,_,i5,_,_,hr1⟩:=aR uG (by omega);simp only [Value.slice.injEq,true_and,Option.some.injEq,Addr.mk.injEq,and_true] at i5;obtain ⟨rfl,rfl⟩:=i5
 have nu:∀ ty,(Builtin.clear_ #[26] ty #[.slice (some ⟨g,(i+m)*1,none⟩) 1 (cap - (i+m))]).run Tryz.prog W1=.ok (.tuple #[]) (W1.setCells g ((i+m)*1) [.string ByteArray.empty]):=fun ty=>by
  refine fU W1 _ _ ty _ Tryz.underlying26 qY (by intro u hu;have hu:u∈([.string ByteArray.empty]:List Value):=hu;simp only [List.mem_cons,List.not_mem_nil,or_false] at hu;subst hu;rfl) g ((i+m)*1) (cap - (i+m)) (fun j hj=>?_) (fun j hj=>?_)
  ·have hj':j < 1:=hj
   have hl:(i+m)*1+j < (fu xs (0+i*1) news).length:=by rw [eP,hx];omega
   rw [hr1.2.1 _ hl,List.getElem?_eq_getElem hl];rfl
  ·have hj':j < 1:=hj
   exact hr1.2.2 _ (by rw [eP,hx];omega)
 have HF:=gH (show si 9 1 w B g cap i m xs (.returned (.slice (some ⟨g,0,none⟩) (i+m) cap)) (W1.setCells g ((i+m)*1) [.string ByteArray.empty]) from by
  refine ⟨rfl,?_,?_⟩
  ·rw [hW1,hnews,Nat.zero_add]
   exact nO (bu ho (ag.refl w).drew) rfl
  ·rw [hW1]
   exact (Kb.aH (ag.refl w).drew).trans ((bA g news _ _).trans (bA g _ _ _)))
 have hW:=gH hW1
 (try simp only [Nat.mul_one] at hA)
 have UN:i≤cap:=by omega
 have UO:i+1≤cap:=by omega
 have hne:((i:Int)==(i:Int)+1)=false:=by simp;omega
 clear hW1 uG hr1 hr ho hnews hlen h1 hx
 go_enter Tryz.func140,Tryz.ntmps140
 have k0:(0:Int)≤(i:Int)+1:=by omega
 have k1:(i:Int)+1≤(i:Int)+1+(m:Int):=by omega
 go_wp2_with fail
 go_region_law (refine step_append_room rfl (.tmp 22) (.tmp 25) 26 rfl 9 i0 1 Tryz.underlying26 eU hz1 g 0 i cap (by simp [Act.eval,Act.put]) A m (cap - (i+1)) news (by simp [Act.eval,Act.put]) s1.out jy.out s2.out (by omega) s3.out ?_;rw [← hW.out])
 have ub:∀ ty,(Builtin.clear_ #[26] ty #[.slice (some ⟨g,(i+m)*1,none⟩) (i+1+m - (i+m)) (cap - (i+m))]).run Tryz.prog W1=.ok (.tuple #[]) (W1.setCells g ((i+m)*1) [.string ByteArray.empty]):=fun ty=>by
  have e1:i+1+m - (i+m)=1:=by omega
  rw [e1];exact nu ty
 (try simp only [Nat.mul_one] at ub)
 have hcm:¬ cap=i+m:=by omega
 have k3:(i:Int)+(m:Int)≤(i:Int)+1+(m:Int):=by omega
 have k4:(0:Int)≤(i:Int)+(m:Int):=by omega
 have k5:(i:Int)+1+(m:Int)≤(cap:Int):=by omega
 go_wp2_with fail;go_ret
 first | exact HF.out | (have h9:=HF.out;simp only [Nat.mul_one] at h9;exact h9)
def fO (name:ByteArray) (r:fX):fX × Int:=if b8 bw r.names name then (if r.members.any (oz name) then (r,73) else ({ r with names:=r.names.eraseIdx (cN bw r.names name) },0)) else (r,71)
theorem UQ (name:ByteArray) (bn:Nat) (r:fX) (w:World) (B b:Nat) (hn hm:Hd) (fj:dY w B hn hm r) (row:ap w b [hn.v,hm.v]) (hB:B≤b) (uV:b∉hn.blk) (J3:b∉hm.blk) (hc:w.cell? ⟨bn,0,none⟩=some (.string name)) (hr:aN bw r.names=true) (sm:kO r) :
  Calls Tryz.prog 136 (#[.pointer (some ⟨b,0,none⟩)]++#[.pointer (some ⟨bn,0,none⟩)]) w (ky w B b (fO name r)):=by
 show Calls Tryz.prog 136 #[.pointer (some ⟨b,0,none⟩),.pointer (some ⟨bn,0,none⟩)] w (ky w B b (fO name r))
 have Rs:bn < w.heap.size:=World.block_lt_of_cell? w ⟨bn,0,none⟩ hc;have Db:=fj.vn;have Dc:=fj.vm;rw [Db,Dc] at row;have x0:=row.cell (j:=0) rfl;have x1:=row.cell (j:=1) rfl;have xz:=row.1;have xf:=row.2.2 0 (by simp);obtain ⟨p,hp⟩:∃ p,cN bw r.names name=p:=⟨_,rfl⟩;obtain ⟨t,ht⟩:∃ t,b8 bw r.names name=t:=⟨_,rfl⟩;obtain ⟨u,hu⟩:∃ u,r.members.any (oz name)=u:=⟨_,rfl⟩
 have CB:=gH (show ∀ x:ii w,Calls Tryz.prog 137 #[.slice hn.a r.names.length hn.c,.string name] (bH w x) fun e w'=>e=.returned (.tuple #[.int .i64 p,.bool t])∧bH w x=w' from fun x=>by
  have:=Z4 hn.a hn.c r.names name (bH w x) (aM ((ag.refl w).bH x) (fj.names sm)) hr
  rw [hp,ht] at this;exact this)
 have bR:=enters (P:=Tryz.prog) Tryz.func139 (by kernel_rfl) rfl
 have CC:=gH (show ∀ w',ag w w'→Calls Tryz.prog 138 #[.slice hm.a r.members.length hm.c,.func (.func 139) #[] #[.pointer (some ⟨bn,0,none⟩)]] w' fun e w''=>e=.returned (.bool u)∧ag w' w'' from fun w' a=>by
  have:=MC hm.a hm.c r.members 139 #[.pointer (some ⟨bn,0,none⟩)] (oz name) w' (bJ a (fj.Ht sm)) bR (fun w'' a' i hi=>Qu r.members[i] name bn w'' ((a.trans a').cell_kept hc))
  rw [hu] at this;exact this)
 have HF:=gH (show fO name r=if t then (if u then (r,73) else ({ r with names:=r.names.eraseIdx p },0)) else (r,71) by unfold fO;rw [ht,hu,hp]);have HT:=gH (show t=true→p < r.names.length from fun h=>by rw [← hp];exact fQ (ht.trans h));have Ah:=gH fj;have fJ:=gH row;have yG:=gH (And.intro uV J3);have HV:=gH (And.intro Db Dc);clear hp ht hu fj row bR uV J3 Db Dc hr
 go_enter Tryz.func136,Tryz.ntmps136
 go_wp2_with fail;refine av (by kernel_rfl) (by kernel_rfl) ?_
 repeat (go_big_quiet_step ((go_at_call 137;exact Calls.jb (CB.out _))))
 refine wpQuiet_nil ?_;intro _ hw';obtain ⟨x,hw''⟩:=hw';subst hw'';obtain ⟨W,hW⟩:∃ W,W=bH w x:=⟨_,rfl⟩
 have aW:ag w W:=by rw [hW];exact (ag.refl w).bH x
 rw [← hW];have br:=gH aW;have x0:=aW.cell_kept x0;have x1:=aW.cell_kept x1;have xz:=Nat.lt_of_lt_of_le xz aW.size;clear hW aW CB
 cases t
 ·have HP:=gH (show ky w B b (fO name r) (.returned (.int .i64 71)) W from by rw [HF.out];exact ⟨rfl,Kb.aH br.out,fun h=>by simp at h⟩)
  go_wp2_with fail;go_ret;exact HP.out
 go_wp2_with fail;refine (CC.out W br.out).mono ?_;rintro e w2 ⟨rfl,a2⟩;have fx:=gH (br.out.trans a2);have x0:=a2.cell_kept x0;have x1:=a2.cell_kept x1;have xz:=Nat.lt_of_lt_of_le xz a2.size;clear a2
 cases u
 ·have hpl:=HT.out (by first | trivial | rfl)
  have r2:=Ah.out.az fx.out;obtain ⟨g,cap,hv,se,mo,hrow⟩:=aR r2.fK (by omega);obtain ⟨m,ux⟩:∃ m,r.names.length=p+1+m:=⟨r.names.length - p - 1,by omega⟩
  have o2:w2.ownsRow B 9 1 (.slice (some ⟨g,0,none⟩) (p+1+m) cap) (p+1+m) (r.names.flatMap bY):=by
   have:=r2.fK;rw [hv,ux] at this;exact this
  have oo:cap≤9223372036854775807:=lX o2 _ _ _ rfl;have CD:=gH (Qw g cap p m B (r.names.flatMap bY) w2 o2 (eO vO _) oo)
  have Br:Value.slice hn.a r.names.length hn.c=.slice (some ⟨g,0,none⟩) (p+1+m) cap:=by rw [← HV.out.1,hv,ux]
  have kR:=fJ.out.az fx.out;have xf2:=kR.2.2 0 (by simp)
  have hgb:g≠b:=fun e=>yG.out.1 (Hd.au.2 (by rw [hv,e];rfl))
  rw [Br] at x0
  have K2:=gH (show ∀ w3,Kb (fun k=>k=g) w2 w3→w3.ownsRow B 9 1 (.slice (some ⟨g,0,none⟩) (p+m) cap) (p+m) ((r.names.flatMap bY).take (p*1)++(r.names.flatMap bY).drop ((p+1)*1))→(w3.cell? ⟨b,0,none⟩=some (.slice (some ⟨g,0,none⟩) (p+1+m) cap)∧w3.frozen? ⟨b,0,none⟩=false∧b < w3.heap.size∧Hid (ky w B b (fO name r) (.returned (.int .i64 0)) (w3.setCell ⟨b,0,none⟩ (.slice (some ⟨g,0,none⟩) (p+m) cap)))) from fun w3 kb o3=>by
   have jv:=kb.row kR (fun e=>hgb e.symm);rw [Br] at jv
   have e1:(r.names.eraseIdx p).length=p+m:=by rw [List.length_eraseIdx_of_lt (by omega)];omega
   have n3:w3.ownsRow B 9 1 (Hd.mk (some ⟨g,0,none⟩) (p+m) cap).v (r.names.eraseIdx p).length ((r.names.eraseIdx p).flatMap bY):=by
    rw [e1,← fS (size:=1) (fun _=>rfl)];exact o3
   have m3:=aP r2.mem kb (fun g' gl e=>by
    have e:g'=g:=e
    exact r2.mU g (Hd.au.2 (by rw [hv];rfl)) (Hd.au.2 (by rw [← e];exact gl)))
   have ks:=Kb.set w3 b 0 (.slice (some ⟨g,0,none⟩) (p+m) cap);refine ⟨jv.cell (j:=0) rfl,jv.2.2 0 (by simp),jv.1,gH ?_⟩;rw [HF.out];simp only [if_true,Bool.false_eq_true,if_false]
   refine ⟨rfl,((Kb.aH fx.out).trans (kb.mono fun k _ e=>by have e:k=g:=e;omega)).trans (ks.mono fun k _ e=>by have e:k=b:=e;omega),fun _=>⟨⟨some ⟨g,0,none⟩,p+m,cap⟩,hm,⟨aP n3 ks (fun g' gl e=>by
    have e:g'=b:=e;have h5:g'=g:=(by simpa [Hd.v,Value.ownBlock,eq_comm] using gl)
    exact hgb (by rw [← h5,e])),aP m3 ks (fun g' gl e=>by
    have e:g'=b:=e
    exact yG.out.2 (Hd.au.2 (by rw [← e];exact gl))),fun g' gl=>?_⟩,?_⟩⟩
   ·rw [cM,List.mem_singleton] at gl
    have gl:g'=g:=gl;subst gl;exact r2.mU g' (Hd.au.2 (by rw [hv];rfl))
   ·have h6:=jv.set 0 (.slice (some ⟨g,0,none⟩) (p+m) cap) (by simp)
    rw [HV.out.2]
    exact h6)
  have w9:IntKind.i64.wrap ((p:Int)+1)=(p:Int)+1:=IntWalk.i64_in _ (by have:=sm.1.1;unfold Small at this;omega)
  have hpz:(p:Int)+1≤9223372036854775807:=by have:=sm.1.1;unfold Small at this;omega
  clear hpl r2 hv hrow o2 Br kR ux hgb;go_wp2_with fail;refine CD.out.mono ?_;rintro e w3 ⟨rfl,o3,kb⟩;obtain ⟨y0,yf,yz,HP⟩:=K2.out w3 kb o3;clear o3 kb;go_wp2_with fail;go_ret;exact HP.out
 ·have HP:=gH (show ky w B b (fO name r) (.returned (.int .i64 73)) w2 from by rw [HF.out];exact ⟨rfl,Kb.aH fx.out,fun h=>by simp at h⟩)
  go_wp2_with fail;go_ret;exact HP.out
theorem jK {r:fX} (h:bN r=true):aN bw r.names=true∧aN eV r.members=true:=by
 unfold bN at h;simp only [Bool.and_eq_true] at h;exact ⟨h.1.1.2,h.1.2⟩
theorem TC (r:fX) (An:Option Addr) (aI:Nat) (Am:Option Addr) (aK:Nat) (name:ByteArray) (w:World) (hn:aL w 1 dK An aI r.names) (hm:aL w 2 ia Am aK r.members) :
  Calls Tryz.prog 95 #[.agg #[.slice An r.names.length aI,.slice Am r.members.length aK],.string name] w (jE w (eC r (fO name r))):=by
 have l1:w.heap.size < w.heap.size+1:=by omega
 have l2:w.heap.size < w.heap.size+1+1:=by omega
 have l3:w.heap.size < w.heap.size+1+1+1:=by omega
 obtain ⟨W,hW⟩:∃ W,W=((w.alloc (.cells #[.slice An r.names.length aI,.slice Am r.members.length aK] 29)).alloc (.cells #[.string name] 9)).alloc (.cells #[.slice none 0 0,.slice none 0 0] 29):=⟨_,rfl⟩
 have aW:ag w W:=by rw [hW];exact (((ag.refl w).alloc _).alloc _).alloc _
 have r2:ap W (w.heap.size+1) [.string name]:=by
  rw [hW];have:=(dV (w.alloc (.cells #[.slice An r.names.length aI,.slice Am r.members.length aK] 29)) [.string name] 9).az ((ag.refl _).alloc (.cells #[.slice none 0 0,.slice none 0 0] 29))
  simpa using this
 have r3:ap W (w.heap.size+1+1) [.slice none 0 0,.slice none 0 0]:=by
  rw [hW];have:=dV ((w.alloc (.cells #[.slice An r.names.length aI,.slice Am r.members.length aK] 29)).alloc (.cells #[.string name] 9)) [.slice none 0 0,.slice none 0 0] 29
  simpa using this
 have zW:W.heap.size=w.heap.size+3:=by rw [hW];simp
 have bR:=enters (P:=Tryz.prog) Tryz.func136 (by kernel_rfl) rfl;have C:=gH (ql r An aI Am aK 136 #[.pointer (some ⟨w.heap.size+1,0,none⟩)] (fO name r) W (aM aW hn) (bJ aW hm) bR (fun hr w1 B b IL zo a hB fj row hb h1 h2=>UQ name (w.heap.size+1) r w1 B b IL zo fj row hb h1 h2 (a.cell_kept (r2.cell (j:=0) rfl)) (jK hr).1 (tj hn hm)));have ny:=gH r3;have br:=gH aW;have lc:=gH zW;clear hn hm r2 r3 aW zW bR
 go_enter Tryz.func95,Tryz.ntmps95
 go_wp2_with fail;rw [← hW];clear hW;refine C.out.mono ?_;rintro e w1 ⟨⟨A1,n1,c1⟩,⟨A2,n2,c2⟩,rfl,a1,fj⟩;have row:=ny.out.az a1;have x0:=row.cell (j:=0) rfl;have x1:=row.cell (j:=1) rfl;have xz:=row.1;have f0:=row.2.2 0 (by simp);have f1:=row.2.2 1 (by simp);obtain ⟨F,hF⟩:∃ F,eC r (fO name r)=F:=⟨_,rfl⟩;rw [hF] at fj ⊢
 have HP:=gH (show jE w F (.returned (.tuple #[.agg #[.slice A1 n1 c1,.slice A2 n2 c2],.int .i64 F.2])) ((w1.setCell ⟨w.heap.size+1+1,0,none⟩ (.slice A1 n1 c1)).setCell ⟨w.heap.size+1+1,1,none⟩ (.slice A2 n2 c2)) from by
  have k9:=(Kb.set w1 (w.heap.size+1+1) 0 (.slice A1 n1 c1)).trans (Kb.set _ (w.heap.size+1+1) 1 (.slice A2 n2 c2));have z:=lc.out;refine ⟨⟨A1,n1,c1⟩,⟨A2,n2,c2⟩,rfl,((br.out.trans a1).setCell _ _ (by show w.heap.size≤w.heap.size+1+1;omega)).setCell _ _ (by show w.heap.size≤w.heap.size+1+1;omega),?_⟩;have r9:=fj.down (B':=w.heap.size) (by omega)
  exact ⟨aP r9.fK k9 (fun g hg e=>by have e:g=w.heap.size+1+1:=e;have:=(fj.fK.lt g hg).1;omega),aP r9.mem k9 (fun g hg e=>by have e:g=w.heap.size+1+1:=e;have:=(fj.mem.lt g hg).1;omega),fj.mU⟩)
 have fJ:=gH row;obtain ⟨F1,F2⟩:=F;have qR:=gH hF;simp only [Hd.v];clear fj row a1 hF;go_wp2_with fail;refine bodyPost_ret (results_cell_tmp (v:=.agg #[.slice A1 n1 c1,.slice A2 n2 c2]) rfl _ rfl (fT (dg fJ.out rfl _ _))) rfl ?_;rw [qR.out];exact HP.out
def gD (x:em) (r:fX):fX × Int:=if b8 eV r.members x then ({ r with members:=r.members.eraseIdx (cN eV r.members x) },0) else (r,71)
theorem leave1 (role of:ByteArray) (b1 b2:Nat) (r:fX) (w:World) (B b:Nat) (hn hm:Hd) (fj:dY w B hn hm r) (row:ap w b [hn.v,hm.v]) (hB:B≤b) (uV:b∉hn.blk) (J3:b∉hm.blk) (hc1:w.cell? ⟨b1,0,none⟩=some (.string role)) (hc2:w.cell? ⟨b2,0,none⟩=some (.string of)) (hr:aN eV r.members=true) (sm:kO r) :
  Calls Tryz.prog 149 (#[.pointer (some ⟨b,0,none⟩)]++#[.pointer (some ⟨b1,0,none⟩),.pointer (some ⟨b2,0,none⟩)]) w (ky w B b (gD ⟨role,of⟩ r)):=by
 show Calls Tryz.prog 149 #[.pointer (some ⟨b,0,none⟩),.pointer (some ⟨b1,0,none⟩),.pointer (some ⟨b2,0,none⟩)] w (ky w B b (gD ⟨role,of⟩ r))
 have Rs:b1 < w.heap.size:=World.block_lt_of_cell? w ⟨b1,0,none⟩ hc1;have UR:b2 < w.heap.size:=World.block_lt_of_cell? w ⟨b2,0,none⟩ hc2;have Db:=fj.vn;have Dc:=fj.vm;rw [Db,Dc] at row;have x1:=row.cell (j:=1) rfl;have xz:=row.1;obtain ⟨p,hp⟩:∃ p,cN eV r.members ⟨role,of⟩=p:=⟨_,rfl⟩;obtain ⟨t,ht⟩:∃ t,b8 eV r.members ⟨role,of⟩=t:=⟨_,rfl⟩
 have CB:=gH (show ∀ x:ii w,Calls Tryz.prog 147 #[.slice hm.a r.members.length hm.c,.agg #[.string role,.string of],.func (.func 116) #[] #[]] (bH w x) fun e w'=>e=.returned (.tuple #[.int .i64 p,.bool t])∧ag (bH w x) w' from fun x=>by
  have:=Z5 hm.a hm.c r.members ⟨role,of⟩ (bH w x) (bJ ((ag.refl w).bH x) (fj.Ht sm)) hr
  rw [hp,ht] at this;exact this)
 have HF:=gH (show gD ⟨role,of⟩ r=if t then ({ r with members:=r.members.eraseIdx p },0) else (r,71) by unfold gD;rw [ht,hp]);have HT:=gH (show t=true→p < r.members.length from fun h=>by rw [← hp];exact fQ (ht.trans h));have Ah:=gH fj;have fJ:=gH row;have yG:=gH (And.intro uV J3);have HV:=gH (And.intro Db Dc);clear hp ht fj row uV J3 Db Dc hr
 go_enter Tryz.func149,Tryz.ntmps149
 go_wp2_with fail;refine av (by kernel_rfl) (by kernel_rfl) ?_
 repeat (go_big_quiet_step ((go_at_call 147;exact Calls.bD (CB.out _))))
 refine wpQuiet_nil ?_;intro _ hw';obtain ⟨x,hw''⟩:=hw';subst hw'';obtain ⟨w2,hW⟩:∃ W,W=bH w x:=⟨_,rfl⟩
 have aW:ag w w2:=by rw [hW];exact (ag.refl w).bH x
 rw [← hW];have fx:=gH aW;have x1:=aW.cell_kept x1;have xz:=Nat.lt_of_lt_of_le xz aW.size;clear hW aW CB
 cases t
 ·have HP:=gH (show ky w B b (gD ⟨role,of⟩ r) (.returned (.int .i64 71)) w2 from by rw [HF.out];exact ⟨rfl,Kb.aH fx.out,fun h=>by simp at h⟩)
  go_wp2_with fail;go_ret;exact HP.out
 ·have hpl:=HT.out (by first | trivial | rfl)
  have r2:=Ah.out.az fx.out;obtain ⟨g,cap,hv,se,mo,hrow⟩:=aR r2.mem (by omega);obtain ⟨m,ux⟩:∃ m,r.members.length=p+1+m:=⟨r.members.length - p - 1,by omega⟩
  have o2:w2.ownsRow B 103 2 (.slice (some ⟨g,0,none⟩) (p+1+m) cap) (p+1+m) (r.members.flatMap fP):=by
   have:=r2.mem;rw [hv,ux] at this;exact this
  have oo:cap≤9223372036854775807:=lX o2 _ _ _ rfl;have CD:=gH (Qv g cap p m B (r.members.flatMap fP) w2 o2 (eO Ae _) oo)
  have Br:Value.slice hm.a r.members.length hm.c=.slice (some ⟨g,0,none⟩) (p+1+m) cap:=by rw [← HV.out.2,hv,ux]
  have kR:=fJ.out.az fx.out
  have hgb:g≠b:=fun e=>yG.out.2 (Hd.au.2 (by rw [hv,e];rfl))
  rw [Br] at x1
  have K2:=gH (show ∀ w3,Kb (fun k=>k=g) w2 w3→w3.ownsRow B 103 2 (.slice (some ⟨g,0,none⟩) (p+m) cap) (p+m) ((r.members.flatMap fP).take (p*2)++(r.members.flatMap fP).drop ((p+1)*2))→(w3.cell? ⟨b,1,none⟩=some (.slice (some ⟨g,0,none⟩) (p+1+m) cap)∧w3.frozen? ⟨b,1,none⟩=false∧b < w3.heap.size∧Hid (ky w B b (gD ⟨role,of⟩ r) (.returned (.int .i64 0)) (w3.setCell ⟨b,1,none⟩ (.slice (some ⟨g,0,none⟩) (p+m) cap)))) from fun w3 kb o3=>by
   have jv:=kb.row kR (fun e=>hgb e.symm);rw [Br] at jv
   have e1:(r.members.eraseIdx p).length=p+m:=by rw [List.length_eraseIdx_of_lt (by omega)];omega
   have m3:w3.ownsRow B 103 2 (Hd.mk (some ⟨g,0,none⟩) (p+m) cap).v (r.members.eraseIdx p).length ((r.members.eraseIdx p).flatMap fP):=by
    rw [e1,← fS (size:=2) (fun _=>rfl)];exact o3
   have n3:=aP r2.fK kb (fun g' gl e=>by
    have e:g'=g:=e
    exact r2.mU g' (Hd.au.2 gl) (Hd.au.2 (by rw [hv,e];rfl)))
   have ks:=Kb.set w3 b 1 (.slice (some ⟨g,0,none⟩) (p+m) cap);refine ⟨jv.cell (j:=1) rfl,jv.2.2 1 (by simp),jv.1,gH ?_⟩;rw [HF.out];simp only [if_true]
   refine ⟨rfl,((Kb.aH fx.out).trans (kb.mono fun k _ e=>by have e:k=g:=e;omega)).trans (ks.mono fun k _ e=>by have e:k=b:=e;omega),fun _=>⟨hn,⟨some ⟨g,0,none⟩,p+m,cap⟩,⟨aP n3 ks (fun g' gl e=>by
    have e:g'=b:=e
    exact yG.out.1 (Hd.au.2 (by rw [← e];exact gl))),aP m3 ks (fun g' gl e=>by
    have e:g'=b:=e;have h5:g'=g:=(by simpa [Hd.v,Value.ownBlock,eq_comm] using gl)
    exact hgb (by rw [← h5,e])),fun g' gl hg2=>?_⟩,?_⟩⟩
   ·rw [cM,List.mem_singleton] at hg2
    have hg2:g'=g:=hg2;exact r2.mU g' gl (Hd.au.2 (by rw [hv,hg2];rfl))
   ·have h6:=jv.set 1 (.slice (some ⟨g,0,none⟩) (p+m) cap) (by simp)
    rw [HV.out.1]
    exact h6)
  have w9:IntKind.i64.wrap ((p:Int)+1)=(p:Int)+1:=IntWalk.i64_in _ (by have:=sm.2.1;unfold Small at this;omega)
  have hpz:(p:Int)+1≤9223372036854775807:=by have:=sm.2.1;unfold Small at this;omega
  clear hpl r2 hv hrow o2 Br kR ux hgb;go_wp2_with fail;refine CD.out.mono ?_;rintro e w3 ⟨rfl,o3,kb⟩;obtain ⟨y0,yf,yz,HP⟩:=K2.out w3 kb o3;clear o3 kb;go_wp2_with fail;go_ret;exact HP.out
theorem PD (r:fX) (An:Option Addr) (aI:Nat) (Am:Option Addr) (aK:Nat) (role of:ByteArray) (w:World) (hn:aL w 1 dK An aI r.names) (hm:aL w 2 ia Am aK r.members) :
  Calls Tryz.prog 100 #[.agg #[.slice An r.names.length aI,.slice Am r.members.length aK],.string role,.string of] w (jE w (eC r (gD ⟨role,of⟩ r))):=by
 have l1:w.heap.size < w.heap.size+1:=by omega
 have l2:w.heap.size < w.heap.size+1+1:=by omega
 have l3:w.heap.size < w.heap.size+1+1+1:=by omega
 have l4:w.heap.size < w.heap.size+1+1+1+1:=by omega
 obtain ⟨W,hW⟩:∃ W,W=(((w.alloc (.cells #[.slice An r.names.length aI,.slice Am r.members.length aK] 29)).alloc (.cells #[.string role] 9)).alloc (.cells #[.string of] 9)).alloc (.cells #[.slice none 0 0,.slice none 0 0] 29):=⟨_,rfl⟩
 have aW:ag w W:=by rw [hW];exact ((((ag.refl w).alloc _).alloc _).alloc _).alloc _
 have r2:ap W (w.heap.size+1) [.string role]:=by
  rw [hW];have:=(dV (w.alloc (.cells #[.slice An r.names.length aI,.slice Am r.members.length aK] 29)) [.string role] 9).az (((ag.refl _).alloc (.cells #[.string of] 9)).alloc (.cells #[.slice none 0 0,.slice none 0 0] 29))
  simpa using this
 have UT:ap W (w.heap.size+1+1) [.string of]:=by
  rw [hW];have:=(dV ((w.alloc (.cells #[.slice An r.names.length aI,.slice Am r.members.length aK] 29)).alloc (.cells #[.string role] 9)) [.string of] 9).az ((ag.refl _).alloc (.cells #[.slice none 0 0,.slice none 0 0] 29))
  simpa using this
 have r3:ap W (w.heap.size+1+1+1) [.slice none 0 0,.slice none 0 0]:=by
  rw [hW];have:=dV (((w.alloc (.cells #[.slice An r.names.length aI,.slice Am r.members.length aK] 29)).alloc (.cells #[.string role] 9)).alloc (.cells #[.string of] 9)) [.slice none 0 0,.slice none 0 0] 29
  simpa using this
 have zW:W.heap.size=w.heap.size+4:=by rw [hW];simp
 have bR:=enters (P:=Tryz.prog) Tryz.func149 (by kernel_rfl) rfl;have C:=gH (ql r An aI Am aK 149 #[.pointer (some ⟨w.heap.size+1,0,none⟩),.pointer (some ⟨w.heap.size+1+1,0,none⟩)] (gD ⟨role,of⟩ r) W (aM aW hn) (bJ aW hm) bR (fun hr w1 B b IL zo a hB fj row hb h1 h2=>leave1 role of (w.heap.size+1) (w.heap.size+1+1) r w1 B b IL zo fj row hb h1 h2 (a.cell_kept (r2.cell (j:=0) rfl)) (a.cell_kept (UT.cell (j:=0) rfl)) (jK hr).2 (tj hn hm)));have ny:=gH r3;have br:=gH aW;have lc:=gH zW;clear hn hm r2 UT r3 aW zW bR
 go_enter Tryz.func100,Tryz.ntmps100
 go_wp2_with fail;rw [← hW];clear hW;refine C.out.mono ?_;rintro e w1 ⟨⟨A1,n1,c1⟩,⟨A2,n2,c2⟩,rfl,a1,fj⟩;have row:=ny.out.az a1;have x0:=row.cell (j:=0) rfl;have x1:=row.cell (j:=1) rfl;have xz:=row.1;have f0:=row.2.2 0 (by simp);have f1:=row.2.2 1 (by simp);obtain ⟨F,hF⟩:∃ F,eC r (gD ⟨role,of⟩ r)=F:=⟨_,rfl⟩;rw [hF] at fj ⊢
 have HP:=gH (show jE w F (.returned (.tuple #[.agg #[.slice A1 n1 c1,.slice A2 n2 c2],.int .i64 F.2])) ((w1.setCell ⟨w.heap.size+1+1+1,0,none⟩ (.slice A1 n1 c1)).setCell ⟨w.heap.size+1+1+1,1,none⟩ (.slice A2 n2 c2)) from by
  have k9:=(Kb.set w1 (w.heap.size+1+1+1) 0 (.slice A1 n1 c1)).trans (Kb.set _ (w.heap.size+1+1+1) 1 (.slice A2 n2 c2));have z:=lc.out;refine ⟨⟨A1,n1,c1⟩,⟨A2,n2,c2⟩,rfl,((br.out.trans a1).setCell _ _ (by show w.heap.size≤w.heap.size+1+1+1;omega)).setCell _ _ (by show w.heap.size≤w.heap.size+1+1+1;omega),?_⟩;have r9:=fj.down (B':=w.heap.size) (by omega)
  exact ⟨aP r9.fK k9 (fun g hg e=>by have e:g=w.heap.size+1+1+1:=e;have:=(fj.fK.lt g hg).1;omega),aP r9.mem k9 (fun g hg e=>by have e:g=w.heap.size+1+1+1:=e;have:=(fj.mem.lt g hg).1;omega),fj.mU⟩)
 have fJ:=gH row;obtain ⟨F1,F2⟩:=F;have qR:=gH hF;simp only [Hd.v];clear fj row a1 hF;go_wp2_with fail;refine bodyPost_ret (results_cell_tmp (v:=.agg #[.slice A1 n1 c1,.slice A2 n2 c2]) rfl _ rfl (fT (dg fJ.out rfl _ _))) rfl ?_;rw [qR.out];exact HP.out
end Go.Proofs.YtmflccbnoeaafaaGreat
