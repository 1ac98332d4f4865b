import Derived.Lib.AppendIntMem
import Derived.Deep.DeepMust
import Derived.Test.YtbdanlipghhgpaaGreatDoorPartP8
namespace Go.Proofs.YtbdanlipghhgpaaGreatDoor
open Go.RowKit Go.Deep
set_option maxRecDepth 100000
set_option linter.unusedVariables false
set_option maxHeartbeats 64000000
structure LyS (w0:World) (Q:List (Nat × Obj)) (b:Nat) (L:Ws) (w:World):Prop where
 ex:∃ A c,RowAt w b [.slice A L.length c]∧w.ownsRow w0.heap.size 9 1 (.slice A L.length c) L.length (L.map Value.string)∧(Value.slice A L.length c).ownBlock≠some b∧∀ x∈Q,(Value.slice A L.length c).ownBlock≠some x.1
 aft:Aft w0 w
 lb:w0.heap.size≤b
 prot:∀ x∈Q,x.1 < w.heap.size∧w.heap[x.1]? = some x.2∧x.1≠b
theorem LyS.trans {w0 w w':World} {Q:List (Nat × Obj)} {b:Nat} {L:Ws} (h:LyS w0 Q b L w) (a:Aft w w'):LyS w0 Q b L w':=by
 obtain ⟨⟨A,c,r,o,n⟩,a0,lb,p⟩:=h
 exact ⟨⟨A,c,r.aft a,own_kb (P:=fun _=>False) o (Kb.of_aft a) (fun _ _=>id),n⟩,a0.trans a,lb,fun x hx=>⟨Nat.lt_of_lt_of_le (p x hx).1 a.size,(a.block x.1 (p x hx).1).trans (p x hx).2.1,(p x hx).2.2⟩⟩
theorem LyS.push {w0 w:World} {Q:List (Nat × Obj)} {b:Nat} {L:Ws} (h:LyS w0 Q b L w) (o:Obj):LyS w0 ((w.heap.size,o)::Q) b L (w.alloc o):=by
 have h1:=h.trans ((Aft.refl w).alloc o)
 obtain ⟨⟨A,c,r,ow,n,n2⟩,_,_,_⟩:=h
 obtain ⟨⟨A',c',r',ow',n',n2'⟩,a0,lb,p⟩:=h1
 have hr:=r.1
 have e1:=r.cell (j:=0) rfl
 have e2:=(r.aft ((Aft.refl w).alloc o)).cell (j:=0) rfl
 have e3:=r'.cell (j:=0) rfl
 rw [e3] at e2
 injection e2 with e2
 injection e2 with e2 _ e4
 subst e2;subst e4
 refine ⟨⟨_,_,r',ow',n',fun x hx=>?_⟩,a0,lb,fun x hx=>?_⟩
 ·rcases List.mem_cons.1 hx with rfl | hx
  ·intro e
   have:=(ow.lt _ e).2
   simp at this
  ·exact n2' x hx
 ·rcases List.mem_cons.1 hx with rfl | hx
  ·exact ⟨by simp,heap_alloc_new w o,by simp;omega⟩
  ·exact p x hx
theorem LyS.pop {w0 w:World} {Q:List (Nat × Obj)} {y:Nat × Obj} {b:Nat} {L:Ws} (h:LyS w0 (y::Q) b L w):LyS w0 Q b L w:=by
 obtain ⟨⟨A,c,r,o,n,n2⟩,a0,lb,p⟩:=h
 exact ⟨⟨A,c,r,o,n,fun x hx=>n2 x (List.mem_cons_of_mem _ hx)⟩,a0,lb,fun x hx=>p x (List.mem_cons_of_mem _ hx)⟩
def LyQ (w0:World) (Q:List (Nat × Obj)) (b:Nat) (L:Ws) (o:Option Ws) (e:Ending) (w':World):Prop:=match o with
 | some W=>e=.returned (.tuple #[])∧LyS w0 Q b (L++W) w'
 | none=>e=NoL∧Aft w0 w'
theorem LyQ.pop {w0 w':World} {Q:List (Nat × Obj)} {y:Nat × Obj} {b:Nat} {L:Ws} {o:Option Ws} {e:Ending} (h:LyQ w0 (y::Q) b L o e w'):LyQ w0 Q b L o e w':=by
 cases o with
 | none=>exact h
 | some W=>exact ⟨h.1,h.2.pop⟩
theorem LyS.same {w0 w:World} {Q:List (Nat × Obj)} {b:Nat} {L:Ws} (h:LyS w0 Q b L w) {q:Nat} {cs:List Value} {t:TypeId} (hq:(q,Obj.cells cs.toArray t)∈Q):RowAt w q cs:=by
 obtain ⟨h1,h2,_⟩:=h.prot _ hq
 exact ⟨h1,fun j _=>by simp [World.cell?,h2],fun j _=>by simp [World.frozen?,h2]⟩
theorem lay1 (w0:World) (Q:List (Nat × Obj)) (b:Nat) (L:Ws) (x:ByteArray) (w:World) (h:LyS w0 Q b L w) (hn:L.length≤100000) :
  Calls Tryz.prog 61 #[.pointer (some ⟨b,0,none⟩),.slice (some ⟨w.heap.size,0,none⟩) 1 1] (w.alloc (.cells #[.string x] 9)) fun e w'=>e=.returned (.tuple #[])∧LyS w0 Q b (L++[x]) w':=by
 have hA:=h.aft.size
 have h1:=h.trans ((Aft.refl w).alloc (.cells #[.string x] 9))
 have hlb:=h.lb
 obtain ⟨⟨A,c,r,o,hne,hnq⟩,a0,_,hpr⟩:=h1
 have hz:(w.alloc (.cells #[.string x] 9)).heap.size=w.heap.size+1:=by simp
 have hh:=heap_alloc_new w (.cells #[.string x] 9)
 obtain ⟨V,hV⟩:∃ V,V=w.alloc (.cells #[.string x] 9):=⟨_,rfl⟩
 rw [← hV] at r o a0 hz hh hpr ⊢
 clear hV h
 have y0:=r.cell (j:=0) rfl
 have yb:=r.1
 have HR:=gH r
 have HO:=gH o
 have HN:=gH hne
 have HNQ:=gH hnq
 have HPR:=gH hpr
 have HA:=gH a0
 have HL:=gH hlb
 clear r o hne a0 hlb hnq hpr
 go_enter Tryz.func61,Tryz.ntmps61
 go_wp2_with (first
  | (at_builtin;go_must (refine app_desk Tryz.underlying26 infoDS rfl (by decide) (by decide) rfl _ _ rfl w0.heap.size (.slice A L.length c) L.length (L.map Value.string) rfl HO.out w.heap.size [.string x] rfl hh rfl (by simp [Value.oneCell']) (by omega) (by omega) ?_);intro gg cap' w5 hown5 hgrow hat;have K5:=gH (Kb.of_grown hgrow);have G5:=gH (And.intro hown5 hat);have r5:=K5.out.row HR.out (fun e=>HN.out e);have z0:=r5.cell (j:=0) rfl;have z1:=r5.2.2 0 (by simp);have R5:=gH r5;clear hown5 hgrow hat r5))
 go_end0
 refine ⟨rfl,⟨⟨some ⟨gg,0,none⟩,cap',?_,?_,?_,?_⟩,?_,HL.out,?_⟩⟩
 ·rw [List.length_append];exact R5.out.set 0 _ (by simp)
 ·rw [List.length_append,List.map_append]
  exact own_kb G5.out.1 (Kb.set _ _ _ _) (fun g hg e=>by
   have hg':gg=g:=by simpa [Value.ownBlock] using hg
   subst hg'
   rcases G5.out.2 with h | h
   ·exact HN.out (by rw [h,e])
   ·omega)
 ·intro hg
  have hg':gg=b:=by simpa [Value.ownBlock] using hg
  subst hg'
  rcases G5.out.2 with h | h
  ·exact HN.out h
  ·omega
 ·intro x hx hg
  have hg':gg=x.1:=by simpa [Value.ownBlock] using hg
  rcases G5.out.2 with h | h
  ·exact HNQ.out x hx (by rw [h,hg'])
  ·have:=(HPR.out x hx).1;omega
 ·exact (Kb.set w5 b 0 _).to_aft ((K5.out.to_aft HA.out (fun k hk e=>by have:=(HO.out.lt k e).1;omega))) (fun k hk e=>by have:=HL.out;omega)
 ·intro x hx
  obtain ⟨p1,p2,p3⟩:=HPR.out x hx
  have h1:=K5.out.block x.1 p1 (fun e=>HNQ.out x hx e)
  have h2:=K5.out.size
  have h3:=(Kb.set w5 b 0 (Value.slice (some ⟨gg,0,none⟩) (L.length+1) cap')).block x.1 (by omega) p3
  exact ⟨by simp;omega,h3.trans (h1.trans p2),p3⟩
def TabW (w:World):Prop:=Lib.TabIs Tryz.prog w "internal/strconv.uint64pow10" .u64 Lib.pow10Tab
theorem TabW.aft {w w':World} (h:TabW w) (a:Aft w w'):TabW w':=Lib.tabBelow_of_tabIs h w' a
theorem itoa_in (n:Int) (h:inN n=true) (w:World) (ht:TabW w):Calls Tryz.prog 90 #[.int .i64 n] w fun e w'=>e=.returned (.string (itoaB n))∧Aft w w':=by
 simp only [inN,Bool.and_eq_true,decide_eq_true_eq] at h
 refine (Tryz.strconv_Itoa n (by omega) (by omega) w ht).mono ?_
 rintro e w' ⟨rfl,k,os,rfl⟩
 exact ⟨rfl,Lib.below_grow _ w (Nat.le_refl _) k os⟩
def IntR (_:World) (cs:List Value) (n:Int):Prop:=cs=[.int .i64 n]
theorem int_at {w:World} {A:Option Addr} {cap:Nat} {l:List Int} (h:SlAt w 1 IntR A cap l) {k:Nat} (hk:k < l.length):∃ b off,A=some ⟨b,off,none⟩∧b < w.heap.size∧w.cell? ⟨b,off+k,none⟩=some (.int .i64 l[k]):=by
 obtain ⟨b,off,cs,hA,hb,hl,rfl,hc⟩:=h.2.2 k hk
 exact ⟨b,off,hA,hb,by simpa using hc 0 (by omega)⟩
theorem all_of {α:Type} {l:List α} {p:α→Bool} (h:∀ j,j < l.length→∀ hj:j < l.length,p l[j]=true):l.all p=true:=by
 rw [List.all_eq_true]
 intro x hx
 obtain ⟨i,hi,rfl⟩:=List.mem_iff_getElem.1 hx
 exact h i hi hi
theorem all_no {α:Type} {l:List α} {p:α→Bool} {k:Nat} (hk:k < l.length) (h:p l[k]=false):l.all p=false:=by
 rw [List.all_eq_false]
 exact ⟨l[k],List.getElem_mem hk,by rw [h];decide⟩
theorem number_in (w0:World) (Q:List (Nat × Obj)) (b:Nat) (L:Ws) (l:List Int) (A:Option Addr) (cap:Nat) (w:World) (h:LyS w0 Q b L w) (hl:∀ L' V,LyS w0 Q b L' V→SlAt V 1 IntR A cap l) (ht:TabW w0) (hn:L.length+l.length≤90000) :
  Calls Tryz.prog 62 #[.pointer (some ⟨b,0,none⟩),.slice A l.length cap] w (LyQ w0 Q b L (nusL l)):=by
 have hlen:=(hl _ _ h).len
 have HL:=gH hl
 have HT:=gH ht
 have HS:=gH h
 clear h hl ht
 go_enter Tryz.func62,Tryz.ntmps62
 go_wp2_with fail
 go_loopw [8] (fun i wr=>∃ k:Nat,k≤l.length∧i=.int .i64 k∧LyS w0 Q b (L++(l.take k).map itoaB) wr∧∀ j,j < k→∀ hj:j < l.length,inN l[j]=true) (fun i _=>l.length - (intOf i).toNat)
 case atStart=>exact ⟨0,Nat.zero_le _,rfl,by simpa using HS.out,fun j hj=>absurd hj (Nat.not_lt_zero j)⟩
 case round =>
  obtain ⟨k,hk,rfl,hs,hp⟩:=hrel
  have HK:=gH hs
  have HP:=gH hp
  clear hs hp
  by_cases hlt:k < l.length
  ·obtain ⟨g,off,hA,hb,c0⟩:=int_at (HL.out _ _ HK.out) hlt
   subst hA
   have hln:(L++(l.take k).map itoaB).length≤90000:=by rw [List.length_append,List.length_map,List.length_take];omega
   have HLN:=gH hln
   clear hln
   cases ho:inN l[k]
   ·have HN:=gH (show nusL l=none from by unfold nusL;rw [if_neg (by rw [all_no hlt ho];decide)])
    clear HLN
    have ho':¬ (-1000000000≤l[k]∧l[k]≤1000000000):=fun e=>by
     rw [show inN l[k]=true from by simp only [inN,Bool.and_eq_true,decide_eq_true_eq];exact e] at ho;cases ho
    clear ho
    by_cases hlo : -1000000000≤l[k]
    ·have hhi:¬ l[k]≤1000000000:=fun e=>ho' ⟨hlo,e⟩
     clear ho'
     go_wp2_with (first
      | (go_at_call 18;with_reducible refine (dis_no _).mono ?_;rintro e w3 ⟨he,rfl⟩;unfold NoL at he;subst he))
     rw [HN.out]
     exact ⟨rfl,rfl,HK.out.aft⟩
    ·clear ho'
     go_wp2_with (first
      | (go_at_call 18;with_reducible refine (dis_no _).mono ?_;rintro e w3 ⟨he,rfl⟩;unfold NoL at he;subst he))
     rw [HN.out]
     exact ⟨rfl,rfl,HK.out.aft⟩
   ·have HN:=gH (ext_lt (p:=fun j=>∀ hj:j < l.length,inN l[j]=true) HP.out (fun _=>ho))
    have hlo : -1000000000≤l[k]:=by simp only [inN,Bool.and_eq_true,decide_eq_true_eq] at ho;omega
    have hhi:l[k]≤1000000000:=by simp only [inN,Bool.and_eq_true,decide_eq_true_eq] at ho;omega
    have HI:=gH (show ∀ V,Aft w0 V→Calls Tryz.prog 90 #[.int .i64 l[k]] V fun e w'=>e=.returned (.string (itoaB l[k]))∧Aft V w' from fun V a=>itoa_in _ ho V (HT.out.aft a))
    have HY:=gH (show ∀ V,Aft wr V→Calls Tryz.prog 61 #[.pointer (some ⟨b,0,none⟩),.slice (some ⟨V.heap.size,0,none⟩) 1 1] (V.alloc (.cells #[.string (itoaB l[k])] 9)) fun e w'=>e=.returned (.tuple #[])∧LyS w0 Q b (L++(l.take (k+1)).map itoaB) w' from fun V a=>(lay1 w0 Q b _ (itoaB l[k]) V (HK.out.trans a) (Nat.le_trans HLN.out (by decide))).mono fun e w' ⟨h1,h2⟩=>⟨h1,by rw [List.take_succ_eq_append_getElem hlt,List.map_append,← List.append_assoc];exact h2⟩)
    clear ho
    go_wp2_with (first
     | (go_at_call 18;with_reducible refine (dis_ok _).mono ?_;rintro e w3 ⟨rfl,rfl⟩)
     | (go_at_call 90;with_reducible refine (HI.out _ HK.out.aft).mono ?_;rintro e w4 ⟨rfl,a4⟩;have H4:=gH a4;clear a4)
     | (go_at_call 61;with_reducible refine (HY.out _ H4.out).mono ?_;rintro e w5 ⟨rfl,y5⟩;have H5:=gH y5;clear y5))
    go_roundw
    case rel=>exact ⟨k+1,by omega,by go_num,H5.out,HN.out⟩
    case measure=>simp [intOf];omega
  ·have HN:=gH (show nusL l=some (l.map itoaB) from by unfold nusL;rw [if_pos (all_of fun j hj hj2=>HP.out j (by omega) hj2)])
   have HE:=gH (show LyS w0 Q b (L++l.map itoaB) wr from by have:=HK.out;rwa [List.take_of_length_le (by omega)] at this)
   go_wp2_with fail
   go_end0
   rw [HN.out]
   exact ⟨rfl,HE.out⟩
theorem name_in (w0:World) (Q:List (Nat × Obj)) (b:Nat) (L:Ws) (l:List ByteArray) (A:Option Addr) (cap:Nat) (w:World) (h:LyS w0 Q b L w) (hl:∀ L' V,LyS w0 Q b L' V→SlAt V 1 StrR A cap l) (ht:TabW w0) (hn:L.length+l.length≤90000) :
  Calls Tryz.prog 91 #[.pointer (some ⟨b,0,none⟩),.slice A l.length cap] w (LyQ w0 Q b L (nmsL l)):=by
 have hlen:=(hl _ _ h).len
 have HL:=gH hl
 have HT:=gH ht
 have HS:=gH h
 clear h hl ht
 go_enter Tryz.func91,Tryz.ntmps91
 go_wp2_with fail
 go_loopw [8] (fun i wr=>∃ k:Nat,k≤l.length∧i=.int .i64 k∧LyS w0 Q b (L++(l.take k).map id) wr∧∀ j,j < k→∀ hj:j < l.length,nameB l[j]=true) (fun i _=>l.length - (intOf i).toNat)
 case atStart=>exact ⟨0,Nat.zero_le _,rfl,by simpa using HS.out,fun j hj=>absurd hj (Nat.not_lt_zero j)⟩
 case round =>
  obtain ⟨k,hk,rfl,hs,hp⟩:=hrel
  have HK:=gH hs
  have HP:=gH hp
  clear hs hp
  by_cases hlt:k < l.length
  ·obtain ⟨g,off,hA,hb,c0,hsm⟩:=str_at (HL.out _ _ HK.out) hlt
   subst hA
   have hln:(L++(l.take k).map id).length≤90000:=by rw [List.length_append,List.length_map,List.length_take];omega
   have HLN:=gH hln
   clear hln
   cases ho:nameB l[k]
   ·have HN:=gH (show nmsL l=none from by unfold nmsL;rw [if_neg (by rw [all_no hlt ho];decide)])
    have HM:=gH (show Calls Tryz.prog 81 #[.string l[k]] wr fun e w'=>e=.returned (.bool false)∧wr=w' from ho▸name_any l[k] wr (by unfold Small at hsm;unfold maxLen;omega))
    clear ho
    go_wp2_with (first
     | (go_at_call 81;with_reducible refine HM.out.mono ?_;rintro e w2 ⟨rfl,rfl⟩)
     | (go_at_call 18;with_reducible refine (dis_no _).mono ?_;rintro e w3 ⟨he,rfl⟩;unfold NoL at he;subst he))
    rw [HN.out]
    exact ⟨rfl,rfl,HK.out.aft⟩
   ·have HN:=gH (ext_lt (p:=fun j=>∀ hj:j < l.length,nameB l[j]=true) HP.out (fun _=>ho))
    have HM:=gH (show Calls Tryz.prog 81 #[.string l[k]] wr fun e w'=>e=.returned (.bool true)∧wr=w' from ho▸name_any l[k] wr (by unfold Small at hsm;unfold maxLen;omega))
    have HY:=gH (show ∀ V,Aft wr V→Calls Tryz.prog 61 #[.pointer (some ⟨b,0,none⟩),.slice (some ⟨V.heap.size,0,none⟩) 1 1] (V.alloc (.cells #[.string l[k]] 9)) fun e w'=>e=.returned (.tuple #[])∧LyS w0 Q b (L++(l.take (k+1)).map id) w' from fun V a=>(lay1 w0 Q b _ l[k] V (HK.out.trans a) (Nat.le_trans HLN.out (by decide))).mono fun e w' ⟨h1,h2⟩=>⟨h1,by rw [List.take_succ_eq_append_getElem hlt,List.map_append,← List.append_assoc];exact h2⟩)
    clear ho
    go_wp2_with (first
     | (go_at_call 81;with_reducible refine HM.out.mono ?_;rintro e w2 ⟨rfl,rfl⟩)
     | (go_at_call 18;with_reducible refine (dis_ok _).mono ?_;rintro e w3 ⟨rfl,rfl⟩)
     | (go_at_call 61;with_reducible refine (HY.out _ (Aft.refl _)).mono ?_;rintro e w5 ⟨rfl,y5⟩;have H5:=gH y5;clear y5))
    go_roundw
    case rel=>exact ⟨k+1,by omega,by go_num,H5.out,HN.out⟩
    case measure=>simp [intOf];omega
  ·have HN:=gH (show nmsL l=some (l.map id) from by unfold nmsL;rw [List.map_id,if_pos (all_of fun j hj hj2=>HP.out j (by omega) hj2)])
   have HE:=gH (show LyS w0 Q b (L++l.map id) wr from by have:=HK.out;rwa [List.take_of_length_le (by omega)] at this)
   go_wp2_with fail
   go_end0
   rw [HN.out]
   exact ⟨rfl,HE.out⟩
theorem cat_eq (a b:ByteArray):catB a b=a++b:=by
 refine ba_ext ?_
 rw [catB,wd_data]
 simp
theorem columns_in (w0:World) (Q:List (Nat × Obj)) (b:Nat) (L:Ws) (l:List Col) (A:Option Addr) (cap:Nat) (w:World) (h:LyS w0 Q b L w) (hl:∀ L' V,LyS w0 Q b L' V→SlAt V 3 ColR A cap l) (ht:TabW w0) (hn:L.length+l.length≤50000) :
  Calls Tryz.prog 93 #[.pointer (some ⟨b,0,none⟩),.slice A l.length cap] w (LyQ w0 Q b L (colsL l)):=by
 have hlen:=(hl _ _ h).len
 have HL:=gH hl
 have HT:=gH ht
 have HS:=gH h
 clear h hl ht
 go_enter Tryz.func93,Tryz.ntmps93
 go_wp2_with fail
 go_loopw [9] (fun i wr=>∃ k:Nat,k≤l.length∧i=.int .i64 k∧LyS w0 Q b (L++(l.take k).map colT) wr∧∀ j,j < k→∀ hj:j < l.length,nameB l[j].name=true) (fun i _=>l.length - (intOf i).toNat)
 case atStart=>exact ⟨0,Nat.zero_le _,rfl,by simpa using HS.out,fun j hj=>absurd hj (Nat.not_lt_zero j)⟩
 case round =>
  obtain ⟨k,hk,rfl,hs,hp⟩:=hrel
  have HK:=gH hs
  have HP:=gH hp
  clear hs hp
  by_cases hlt:k < l.length
  ·obtain ⟨g,off,hA,hb,c0,c1,c2,hsm⟩:=col_at (HL.out _ _ HK.out) hlt
   subst hA
   have hln:(L++(l.take k).map colT).length≤50000:=by rw [List.length_append,List.length_map,List.length_take];omega
   have HLN:=gH hln
   clear hln
   cases ho:nameB l[k].name
   ·have HN:=gH (show colsL l=none from by unfold colsL;rw [if_neg (by rw [all_no hlt ho];decide)])
    obtain ⟨c,hc⟩:∃ c,l[k]=c:=⟨_,rfl⟩
    have HC:=gH hc
    rw [hc] at c0 c1 c2 hsm ho
    have hsz:=hsm
    have hg:g < wr.heap.size:=hb
    have HB:=gH (show Aft wr (wr.alloc (.cells #[.string c.name,.int .i64 c.kind,.bool c.null] 67)) from (Aft.refl wr).alloc _)
    have HM:=gH (show ∀ V,Calls Tryz.prog 81 #[.string c.name] V fun e w'=>e=.returned (.bool false)∧V=w' from fun V=>ho▸name_any c.name V (by unfold Small at hsm;unfold maxLen;omega))
    clear ho hsm hc
    go_wp2_with (first
     | (go_at_call 81;with_reducible refine (HM.out _).mono ?_;rintro e w2 ⟨rfl,rfl⟩)
     | (go_at_call 18;with_reducible refine (dis_no _).mono ?_;rintro e w3 ⟨he,rfl⟩;unfold NoL at he;subst he))
    rw [HN.out]
    exact ⟨rfl,rfl,HK.out.aft.trans HB.out⟩
   ·have HN:=gH (ext_lt (p:=fun j=>∀ hj:j < l.length,nameB l[j].name=true) HP.out (fun _=>ho))
    obtain ⟨c,hc⟩:∃ c,l[k]=c:=⟨_,rfl⟩
    have HC:=gH hc
    rw [hc] at c0 c1 c2 hsm ho
    have hsz:=hsm
    have hg:g < wr.heap.size:=hb
    have HB:=gH (show Aft wr (wr.alloc (.cells #[.string c.name,.int .i64 c.kind,.bool c.null] 67)) from (Aft.refl wr).alloc _)
    have HM:=gH (show ∀ V,Calls Tryz.prog 81 #[.string c.name] V fun e w'=>e=.returned (.bool true)∧V=w' from fun V=>ho▸name_any c.name V (by unfold Small at hsm;unfold maxLen;omega))
    have HY:=gH (show ∀ V n x,x=colT c→n=V.heap.size→Aft wr V→Calls Tryz.prog 61 #[.pointer (some ⟨b,0,none⟩),.slice (some ⟨n,0,none⟩) 1 1] (V.alloc (.cells #[.string x] 9)) fun e w'=>e=.returned (.tuple #[])∧LyS w0 Q b (L++(l.take (k+1)).map colT) w' from fun V n x hx hn a=>by
     subst hx
     subst hn
     refine (lay1 w0 Q b _ (colT c) V (HK.out.trans a) (Nat.le_trans HLN.out (by decide))).mono fun e w' ⟨h1,h2⟩=>⟨h1,?_⟩
     rw [List.take_succ_eq_append_getElem hlt,List.map_append,← List.append_assoc,HC.out];exact h2)
    have hcs:c.name.size≤16:=by
     simp only [nameB,Bool.and_eq_true,decide_eq_true_eq] at ho;exact ho.1.1.2
    clear ho hsm hc
    by_cases hk2:c.kind=2<;>cases hnn:c.null
    all_goals
     have hkb:(c.kind==2)=decide (c.kind=2):=rfl
     go_wp2_with (first
      | (go_at_call 81;with_reducible refine (HM.out _).mono ?_;rintro e w2 ⟨rfl,rfl⟩)
      | (go_at_call 18;with_reducible refine (dis_ok _).mono ?_;rintro e w3 ⟨rfl,rfl⟩)
      | (go_at_call 61;with_reducible refine (HY.out _ _ _ (by simp [colT,hk2,hnn,cat_eq,b_cint,b_ctext,b_nul]) (by simp) ((Aft.refl wr).alloc _)).mono ?_;rintro e w5 ⟨rfl,y5⟩;have H5:=gH y5;clear y5))
     go_roundw
     case rel=>exact ⟨k+1,by omega,by go_num,H5.out,HN.out⟩
     case measure=>simp [intOf];omega
  ·have HN:=gH (show colsL l=some (l.map colT) from by unfold colsL;rw [if_pos (all_of fun j hj hj2=>HP.out j (by omega) hj2)])
   have HE:=gH (show LyS w0 Q b (L++l.map colT) wr from by have:=HK.out;rwa [List.take_of_length_le (by omega)] at this)
   go_wp2_with fail
   go_end0
   rw [HN.out]
   exact ⟨rfl,HE.out⟩
theorem slAt_row {α:Type} {w:World} {q:Nat} {R:World→List Value→α→Prop} {size:Nat} {cells:α→List Value} {l:List α} (h:RowAt w q (l.flatMap cells)) (hl:l.length≤10) (hc:∀ x∈l,(cells x).length=size∧R w (cells x) x):SlAt w size R (some ⟨q,0,none⟩) l.length l:=by
 refine ⟨Nat.le_refl _,by unfold Small;omega,fun i hi=>⟨q,0,cells l[i],rfl,h.1,(hc _ (List.getElem_mem hi)).1,(hc _ (List.getElem_mem hi)).2,fun j hj=>?_⟩⟩
 have hf:(l.flatMap cells)[i*size+j]? = (cells l[i])[j]? := by
  have:=flat_get (l.map cells) (fun c hc'=>by obtain ⟨x,hx,rfl⟩:=List.mem_map.1 hc';exact (hc x hx).1) i j (by simpa using hi) hj
  rw [← List.flatMap_def] at this
  simpa using this
 have hlt:i*size+j < (l.flatMap cells).length:=by
  rcases Nat.lt_or_ge (i*size+j) (l.flatMap cells).length with h1 | h1
  ·exact h1
  ·rw [List.getElem?_eq_none h1,List.getElem?_eq_getElem (by rw [(hc _ (List.getElem_mem hi)).1];exact hj)] at hf
   cases hf
 rw [Nat.zero_add,h.2.1 _ hlt,hf]
def intC (n:Int):List Value:=[.int .i64 n]
theorem nam1 (w0:World) (Q:List (Nat × Obj)) (b:Nat) (L:Ws) (x:ByteArray) (V:World) (n:Nat) (h:LyS w0 Q b L V) (ht:TabW w0) (hn:L.length≤45000) (hz:n=V.heap.size) (h0:Small x.size) :
  Calls Tryz.prog 91 #[.pointer (some ⟨b,0,none⟩),.slice (some ⟨n,0,none⟩) 1 1] (V.alloc (.cells #[.string x] 9)) (LyQ w0 Q b L (nmsL [x])):=by
 subst hz
 refine (name_in w0 ((V.heap.size,.cells #[.string x] 9)::Q) b L [x] (some ⟨V.heap.size,0,none⟩) 1 _ (h.push _) (fun L' V' h'=>slAt_row (cells:=nameC) (h'.same (cs:=[.string x]) List.mem_cons_self) (by simp) ?_) ht (by simp;omega)).mono fun e w' h=>h.pop
 intro s hs
 have:s=x:=by simpa using hs
 subst this
 all_goals exact ⟨rfl,rfl,by assumption⟩
theorem num1 (w0:World) (Q:List (Nat × Obj)) (b:Nat) (L:Ws) (x:Int) (V:World) (n:Nat) (h:LyS w0 Q b L V) (ht:TabW w0) (hn:L.length≤50000) (hz:n=V.heap.size) :
  Calls Tryz.prog 62 #[.pointer (some ⟨b,0,none⟩),.slice (some ⟨n,0,none⟩) 1 1] (V.alloc (.cells #[.int .i64 x] 3)) (LyQ w0 Q b L (nusL [x])):=by
 subst hz
 exact (number_in w0 ((V.heap.size,.cells #[.int .i64 x] 3)::Q) b L [x] (some ⟨V.heap.size,0,none⟩) 1 _ (h.push _) (fun L' V' h'=>slAt_row (cells:=intC) (h'.same (cs:=[.int .i64 x]) List.mem_cons_self) (by simp) (fun s hs=>⟨rfl,rfl⟩)) ht (by simp;omega)).mono fun e w' h=>h.pop
theorem nam2 (w0:World) (Q:List (Nat × Obj)) (b:Nat) (L:Ws) (x y:ByteArray) (V:World) (n:Nat) (h:LyS w0 Q b L V) (ht:TabW w0) (hn:L.length≤45000) (hz:n=V.heap.size) (h0:Small x.size) (h1:Small y.size) :
  Calls Tryz.prog 91 #[.pointer (some ⟨b,0,none⟩),.slice (some ⟨n,0,none⟩) 2 2] (V.alloc (.cells #[.string x,.string y] 9)) (LyQ w0 Q b L (nmsL [x,y])):=by
 subst hz
 refine (name_in w0 ((V.heap.size,.cells #[.string x,.string y] 9)::Q) b L [x,y] (some ⟨V.heap.size,0,none⟩) 2 _ (h.push _) (fun L' V' h'=>slAt_row (cells:=nameC) (h'.same (cs:=[.string x,.string y]) List.mem_cons_self) (by simp) ?_) ht (by simp;omega)).mono fun e w' h=>h.pop
 intro s hs
 have:s=x∨s=y:=by simpa using hs
 rcases this with rfl | rfl
 all_goals exact ⟨rfl,rfl,by assumption⟩
theorem num2 (w0:World) (Q:List (Nat × Obj)) (b:Nat) (L:Ws) (x y:Int) (V:World) (n:Nat) (h:LyS w0 Q b L V) (ht:TabW w0) (hn:L.length≤50000) (hz:n=V.heap.size) :
  Calls Tryz.prog 62 #[.pointer (some ⟨b,0,none⟩),.slice (some ⟨n,0,none⟩) 2 2] (V.alloc (.cells #[.int .i64 x,.int .i64 y] 3)) (LyQ w0 Q b L (nusL [x,y])):=by
 subst hz
 exact (number_in w0 ((V.heap.size,.cells #[.int .i64 x,.int .i64 y] 3)::Q) b L [x,y] (some ⟨V.heap.size,0,none⟩) 2 _ (h.push _) (fun L' V' h'=>slAt_row (cells:=intC) (h'.same (cs:=[.int .i64 x,.int .i64 y]) List.mem_cons_self) (by simp) (fun s hs=>⟨rfl,rfl⟩)) ht (by simp;omega)).mono fun e w' h=>h.pop
theorem nam3 (w0:World) (Q:List (Nat × Obj)) (b:Nat) (L:Ws) (x y z:ByteArray) (V:World) (n:Nat) (h:LyS w0 Q b L V) (ht:TabW w0) (hn:L.length≤45000) (hz:n=V.heap.size) (h0:Small x.size) (h1:Small y.size) (h2:Small z.size) :
  Calls Tryz.prog 91 #[.pointer (some ⟨b,0,none⟩),.slice (some ⟨n,0,none⟩) 3 3] (V.alloc (.cells #[.string x,.string y,.string z] 9)) (LyQ w0 Q b L (nmsL [x,y,z])):=by
 subst hz
 refine (name_in w0 ((V.heap.size,.cells #[.string x,.string y,.string z] 9)::Q) b L [x,y,z] (some ⟨V.heap.size,0,none⟩) 3 _ (h.push _) (fun L' V' h'=>slAt_row (cells:=nameC) (h'.same (cs:=[.string x,.string y,.string z]) List.mem_cons_self) (by simp) ?_) ht (by simp;omega)).mono fun e w' h=>h.pop
 intro s hs
 have:s=x∨s=y∨s=z:=by simpa using hs
 rcases this with rfl | rfl | rfl
 all_goals exact ⟨rfl,rfl,by assumption⟩
theorem num3 (w0:World) (Q:List (Nat × Obj)) (b:Nat) (L:Ws) (x y z:Int) (V:World) (n:Nat) (h:LyS w0 Q b L V) (ht:TabW w0) (hn:L.length≤50000) (hz:n=V.heap.size) :
  Calls Tryz.prog 62 #[.pointer (some ⟨b,0,none⟩),.slice (some ⟨n,0,none⟩) 3 3] (V.alloc (.cells #[.int .i64 x,.int .i64 y,.int .i64 z] 3)) (LyQ w0 Q b L (nusL [x,y,z])):=by
 subst hz
 exact (number_in w0 ((V.heap.size,.cells #[.int .i64 x,.int .i64 y,.int .i64 z] 3)::Q) b L [x,y,z] (some ⟨V.heap.size,0,none⟩) 3 _ (h.push _) (fun L' V' h'=>slAt_row (cells:=intC) (h'.same (cs:=[.int .i64 x,.int .i64 y,.int .i64 z]) List.mem_cons_self) (by simp) (fun s hs=>⟨rfl,rfl⟩)) ht (by simp;omega)).mono fun e w' h=>h.pop
theorem nam4 (w0:World) (Q:List (Nat × Obj)) (b:Nat) (L:Ws) (x y z u:ByteArray) (V:World) (n:Nat) (h:LyS w0 Q b L V) (ht:TabW w0) (hn:L.length≤45000) (hz:n=V.heap.size) (h0:Small x.size) (h1:Small y.size) (h2:Small z.size) (h3:Small u.size) :
  Calls Tryz.prog 91 #[.pointer (some ⟨b,0,none⟩),.slice (some ⟨n,0,none⟩) 4 4] (V.alloc (.cells #[.string x,.string y,.string z,.string u] 9)) (LyQ w0 Q b L (nmsL [x,y,z,u])):=by
 subst hz
 refine (name_in w0 ((V.heap.size,.cells #[.string x,.string y,.string z,.string u] 9)::Q) b L [x,y,z,u] (some ⟨V.heap.size,0,none⟩) 4 _ (h.push _) (fun L' V' h'=>slAt_row (cells:=nameC) (h'.same (cs:=[.string x,.string y,.string z,.string u]) List.mem_cons_self) (by simp) ?_) ht (by simp;omega)).mono fun e w' h=>h.pop
 intro s hs
 have:s=x∨s=y∨s=z∨s=u:=by simpa using hs
 rcases this with rfl | rfl | rfl | rfl
 all_goals exact ⟨rfl,rfl,by assumption⟩
theorem dword_in (v:Val) (w:World) (hk:v.kind≠2) (hs:v.text.size≤32):Calls Tryz.prog 120 #[.agg #[.int .i64 v.kind,.int .i64 v.int,.string v.text]] w fun e w'=>e=.returned (.string (valT v))∧Aft w w':=by
 by_cases h1:v.kind=1
 ·have hb:(v.kind==1)=true:=by simp [h1]
  have HT:=gH (show valT v=b_null from by unfold valT;rw [if_pos h1])
  go_enter Tryz.func120,Tryz.ntmps120
  go_wp2_with fail
  go_ret
  exact ⟨by rw [HT.out];rfl,(Aft.refl _).alloc _⟩
 ·have hb:(v.kind==1)=false:=by simp [h1]
  have hb2:(v.kind==2)=false:=by simp [hk]
  have HT:=gH (show valT v=⟨#[39]⟩++v.text from by unfold valT;rw [if_neg h1,if_neg hk,cat_eq];rfl)
  go_enter Tryz.func120,Tryz.ntmps120
  go_wp2_with fail
  go_ret
  exact ⟨by rw [HT.out];rfl,(Aft.refl _).alloc _⟩
theorem values_in (w0:World) (Q:List (Nat × Obj)) (b:Nat) (L:Ws) (l:List Val) (A:Option Addr) (cap:Nat) (w:World) (h:LyS w0 Q b L w) (hl:∀ L' V,LyS w0 Q b L' V→SlAt V 3 ValR A cap l) (ht:TabW w0) (hn:L.length+l.length≤50000) :
  Calls Tryz.prog 96 #[.pointer (some ⟨b,0,none⟩),.slice A l.length cap] w (LyQ w0 Q b L (valsL l)):=by
 have hlen:=(hl _ _ h).len
 have HL:=gH hl
 have HT:=gH ht
 have HS:=gH h
 clear h hl ht
 go_enter Tryz.func96,Tryz.ntmps96
 go_wp2_with fail
 go_loopw [8] (fun i wr=>∃ k:Nat,k≤l.length∧i=.int .i64 k∧LyS w0 Q b (L++(l.take k).map valT) wr∧∀ j,j < k→∀ hj:j < l.length,okV l[j]=true) (fun i _=>l.length - (intOf i).toNat)
 case atStart=>exact ⟨0,Nat.zero_le _,rfl,by simpa using HS.out,fun j hj=>absurd hj (Nat.not_lt_zero j)⟩
 case round =>
  obtain ⟨k,hk,rfl,hs,hp⟩:=hrel
  have HK:=gH hs
  have HP:=gH hp
  clear hs hp
  by_cases hlt:k < l.length
  ·obtain ⟨g,off,hA,hb,c0,c1,c2,hsm⟩:=val_at (HL.out _ _ HK.out) hlt
   subst hA
   have hln:(L++(l.take k).map valT).length≤50000:=by rw [List.length_append,List.length_map,List.length_take];omega
   have HLN:=gH hln
   clear hln
   cases ho:okV l[k]
   ·have HN:=gH (show valsL l=none from by unfold valsL;rw [if_neg (by rw [all_no hlt ho];decide)])
    obtain ⟨v,hc⟩:∃ v,l[k]=v:=⟨_,rfl⟩
    have HC:=gH hc
    rw [hc] at c0 c1 c2 hsm ho
    have hg:g < wr.heap.size:=hb
    have HB:=gH (HK.out.push (.cells #[.int .i64 v.kind,.int .i64 v.int,.string v.text] 39))
    by_cases hk2:v.kind=2
    ·have hkb:(v.kind==2)=true:=by simp [hk2]
     have HI:=gH (show inN v.int=false from by unfold okV at ho;rwa [if_pos hk2] at ho)
     have HK2:=gH hk2
     clear ho hsm hc hk2
     go_wp2_with (first
      | (go_at_call 62;go_must (with_reducible refine (num1 w0 _ b _ _ _ _ HB.out HT.out HLN.out (by simp)).mono ?_);rintro e w4 h4;rw [show nusL [v.int]=none from by simp [nusL,HI.out]] at h4;obtain ⟨he,h4⟩:=h4;have H4:=gH h4;clear h4;unfold NoL at he;subst he))
     rw [HN.out]
     exact ⟨rfl,rfl,H4.out⟩
    ·have hkb:(v.kind==2)=false:=by simp [hk2]
     have htx:txtB v.text=false:=by unfold okV at ho;rwa [if_neg hk2] at ho
     have HP:=gH (show ∀ V,Calls Tryz.prog 86 #[.string v.text] V fun e w'=>e=.returned (.bool false)∧V=w' from fun V=>htx▸dplain_any v.text V hsm)
     clear ho hsm hc htx
     go_wp2_with (first
      | (go_at_call 86;with_reducible refine (HP.out _).mono ?_;rintro e w2 ⟨rfl,rfl⟩)
      | (go_at_call 18;with_reducible refine (dis_no _).mono ?_;rintro e w3 ⟨he,rfl⟩;unfold NoL at he;subst he))
     rw [HN.out]
     exact ⟨rfl,rfl,HB.out.aft⟩
   ·have HN:=gH (ext_lt (p:=fun j=>∀ hj:j < l.length,okV l[j]=true) HP.out (fun _=>ho))
    obtain ⟨v,hc⟩:∃ v,l[k]=v:=⟨_,rfl⟩
    have HC:=gH hc
    rw [hc] at c0 c1 c2 hsm ho
    have hg:g < wr.heap.size:=hb
    have HB:=gH (HK.out.push (.cells #[.int .i64 v.kind,.int .i64 v.int,.string v.text] 39))
    have HY:=gH (show ∀ (X:Ws) (W:World),X=valT v::[]→LyS w0 Q b (L++(l.take k).map valT++X) W→LyS w0 Q b (L++(l.take (k+1)).map valT) W from fun X W hx hy=>by
     subst hx
     rw [List.take_succ_eq_append_getElem hlt,List.map_append,← List.append_assoc,HC.out];exact hy)
    by_cases hk2:v.kind=2
    ·have hkb:(v.kind==2)=true:=by simp [hk2]
     have HI:=gH (show inN v.int=true from by unfold okV at ho;rwa [if_pos hk2] at ho)
     have HK2:=gH hk2
     clear ho hsm hc hk2
     go_wp2_with (first
      | (go_at_call 62;go_must (with_reducible refine (num1 w0 _ b _ _ _ _ HB.out HT.out HLN.out (by simp)).mono ?_);rintro e w4 h4;rw [show nusL [v.int]=some [itoaB v.int] from by simp [nusL,HI.out]] at h4;obtain ⟨rfl,h4⟩:=h4;have H4:=gH h4.pop;clear h4))
     go_roundw
     case rel=>exact ⟨k+1,by omega,by go_num,HY.out _ _ (by have:=HK2.out;simp [valT,this]) H4.out,HN.out⟩
     case measure=>simp [intOf];omega
    ·have hkb:(v.kind==2)=false:=by simp [hk2]
     have htx:txtB v.text=true:=by unfold okV at ho;rwa [if_neg hk2] at ho
     have HP:=gH (show ∀ V,Calls Tryz.prog 86 #[.string v.text] V fun e w'=>e=.returned (.bool true)∧V=w' from fun V=>htx▸dplain_any v.text V hsm)
     have hts:v.text.size≤32:=by simp only [txtB,Bool.and_eq_true,decide_eq_true_eq] at htx;exact htx.2
     have HW:=gH (fun V=>dword_in v V hk2 hts)
     have HL5:=gH (show ∀ V,Aft (wr.alloc (.cells #[.int .i64 v.kind,.int .i64 v.int,.string v.text] 39)) V→Calls Tryz.prog 61 #[.pointer (some ⟨b,0,none⟩),.slice (some ⟨V.heap.size,0,none⟩) 1 1] (V.alloc (.cells #[.string (valT v)] 9)) fun e w'=>e=.returned (.tuple #[])∧LyS w0 Q b (L++(l.take (k+1)).map valT) w' from fun V a=>(lay1 w0 Q b _ (valT v) V (HB.out.trans a).pop (Nat.le_trans HLN.out (by decide))).mono fun e w' ⟨h1,h2⟩=>⟨h1,HY.out _ _ rfl h2⟩)
     clear ho hsm hc htx hts
     go_wp2_with (first
      | (go_at_call 86;with_reducible refine (HP.out _).mono ?_;rintro e w2 ⟨rfl,rfl⟩)
      | (go_at_call 18;with_reducible refine (dis_ok _).mono ?_;rintro e w3 ⟨rfl,rfl⟩)
      | (go_at_call 120;with_reducible refine (HW.out _).mono ?_;rintro e w4 ⟨rfl,a4⟩;have H4:=gH a4;clear a4)
      | (go_at_call 61;with_reducible refine (HL5.out _ H4.out).mono ?_;rintro e w5 ⟨rfl,y5⟩;have H5:=gH y5;clear y5))
     go_roundw
     case rel=>exact ⟨k+1,by omega,by go_num,H5.out,HN.out⟩
     case measure=>simp [intOf];omega
  ·have HN:=gH (show valsL l=some (l.map valT) from by unfold valsL;rw [if_pos (all_of fun j hj hj2=>HP.out j (by omega) hj2)])
   have HE:=gH (show LyS w0 Q b (L++l.map valT) wr from by have:=HK.out;rwa [List.take_of_length_le (by omega)] at this)
   go_wp2_with fail
   go_end0
   rw [HN.out]
   exact ⟨rfl,HE.out⟩
theorem val1 (w0:World) (Q:List (Nat × Obj)) (b:Nat) (L:Ws) (v:Val) (V:World) (n:Nat) (h:LyS w0 Q b L V) (ht:TabW w0) (hn:L.length≤45000) (hz:n=V.heap.size) (hs:Small v.text.size) :
  Calls Tryz.prog 96 #[.pointer (some ⟨b,0,none⟩),.slice (some ⟨n,0,none⟩) 1 1] (V.alloc (.cells #[.int .i64 v.kind,.int .i64 v.int,.string v.text] 39)) (LyQ w0 Q b L (valsL [v])):=by
 subst hz
 exact (values_in w0 ((V.heap.size,.cells #[.int .i64 v.kind,.int .i64 v.int,.string v.text] 39)::Q) b L [v] (some ⟨V.heap.size,0,none⟩) 1 _ (h.push _) (fun L' V' h'=>slAt_row (cells:=valC) (h'.same (cs:=[.int .i64 v.kind,.int .i64 v.int,.string v.text]) List.mem_cons_self) (by simp) (fun s hs'=>by
  have:s=v:=by simpa using hs'
  subst this
  exact ⟨rfl,rfl,hs⟩)) ht (by simp;omega)).mono fun e w' h=>h.pop
theorem LyS.conv {w0 w:World} {Q:List (Nat × Obj)} {b:Nat} {L M:Ws} (e:L=M) (h:LyS w0 Q b L w):LyS w0 Q b M w:=e▸h
theorem lay2 (w0:World) (Q:List (Nat × Obj)) (b:Nat) (L:Ws) (x:ByteArray) (V:World) (n:Nat) (h:LyS w0 Q b L V) (hn:L.length≤40000) (hz:n=V.heap.size) :
  Calls Tryz.prog 61 #[.pointer (some ⟨b,0,none⟩),.slice (some ⟨n,0,none⟩) 1 1] (V.alloc (.cells #[.string x] 9)) fun e w'=>e=.returned (.tuple #[])∧LyS w0 Q b (L++[x]) w':=by
 subst hz
 exact lay1 w0 Q b L x V h (Nat.le_trans hn (by decide))
theorem box1 {w0 w:World} {Q:List (Nat × Obj)} {b:Nat} {L:Ws} (h:LyS w0 Q b L w) (cs:List Value) (t:TypeId):LyS w0 ((w.heap.size,.cells cs.toArray t)::Q) b L (w.alloc (.cells cs.toArray t))∧(∀ L' V,LyS w0 ((w.heap.size,.cells cs.toArray t)::Q) b L' V→RowAt V w.heap.size cs)∧w.heap.size+1=(w.alloc (.cells cs.toArray t)).heap.size :=
 ⟨h.push _,fun L' V h=>h.same List.mem_cons_self,by simp⟩
theorem box2 {w0 w:World} {Q:List (Nat × Obj)} {b:Nat} {L:Ws} (h:LyS w0 Q b L w) (cs:List Value) (t:TypeId) (ds:List Value) (u:TypeId):LyS w0 ((w.heap.size+1,.cells ds.toArray u)::(w.heap.size,.cells cs.toArray t)::Q) b L ((w.alloc (.cells cs.toArray t)).alloc (.cells ds.toArray u))∧(∀ L' V,LyS w0 ((w.heap.size+1,.cells ds.toArray u)::(w.heap.size,.cells cs.toArray t)::Q) b L' V→RowAt V w.heap.size cs)∧(∀ L' V,LyS w0 ((w.heap.size+1,.cells ds.toArray u)::(w.heap.size,.cells cs.toArray t)::Q) b L' V→RowAt V (w.heap.size+1) ds)∧w.heap.size+2=((w.alloc (.cells cs.toArray t)).alloc (.cells ds.toArray u)).heap.size:=by
 have h2:=(h.push (.cells cs.toArray t)).push (.cells ds.toArray u)
 rw [show (w.alloc (.cells cs.toArray t)).heap.size=w.heap.size+1 by simp] at h2
 exact ⟨h2,fun L' V h=>h.same (List.mem_cons_of_mem _ List.mem_cons_self),fun L' V h=>h.same List.mem_cons_self,by simp⟩
theorem alloc_succ {w:World} {n:Nat} (h:n=w.heap.size) (o:Obj):n+1=(w.alloc o).heap.size:=by simp [h]
theorem nms_cases (l:List ByteArray):nmsL l=none∨nmsL l=some l:=by
 unfold nmsL;split<;>simp
theorem nus_cases (l:List Int):nusL l=none∨nusL l=some (l.map itoaB):=by
 unfold nusL;split<;>simp
theorem cols_cases (l:List Col):colsL l=none∨colsL l=some (l.map colT):=by
 unfold colsL;split<;>simp
theorem vals_cases (l:List Val):valsL l=none∨valsL l=some (l.map valT):=by
 unfold valsL;split<;>simp
structure SmC (x:Cmd):Prop where
 actor:Small x.actor.size
 schema:Small x.schema.size
 table:Small x.table.size
 name:Small x.name.size
 role:Small x.role.size
 rname:Small x.rule.name.size
 rs:Small x.rule.schema.size
 rt:Small x.rule.table.size
 rk:Small x.rule.key.size
theorem onTab_in (wo:ByteArray) (w0:World) (Q:List (Nat × Obj)) (b:Nat) (L:Ws) (x:Cmd) (A:Option Addr) (k:Nat) (A2:Option Addr) (k2:Nat) (w:World) (h:LyS w0 Q b L w) (ht:TabW w0) (sm:SmC x) (hn:L.length≤100) :
  Calls Tryz.prog 92 #[.pointer (some ⟨b,0,none⟩),.string wo,.agg #[.int .i64 x.kind,.string x.actor,.string x.schema,.string x.table,.string x.name,.string x.role,.slice A x.cols.length k,.string x.rule.name,.int .i64 x.rule.kind,.slice A2 x.rule.cols.length k2,.int .i64 x.rule.low,.int .i64 x.rule.high,.string x.rule.schema,.string x.rule.table,.string x.rule.key,.int .i64 x.right,.bool x.opt]] w (LyQ w0 Q b L (onTabL wo x)):=by
 have HT:=gH ht
 have hsm:=gH sm
 clear ht sm
 obtain ⟨h0,hm0,he0⟩:=box1 h [.int .i64 x.kind,.string x.actor,.string x.schema,.string x.table,.string x.name,.string x.role,.slice A x.cols.length k,.string x.rule.name,.int .i64 x.rule.kind,.slice A2 x.rule.cols.length k2,.int .i64 x.rule.low,.int .i64 x.rule.high,.string x.rule.schema,.string x.rule.table,.string x.rule.key,.int .i64 x.right,.bool x.opt] 31
 have H0:=gH h0
 have HE0:=gH he0
 have HM0:=gH hm0
 clear h h0 he0 hm0
 have HZ0:=gH (show (L).length≤40000 from by (try simp only [List.length_append,List.length_cons,List.length_nil,List.length_map]);omega)
 have HZ1:=gH (show (L++[wo]).length≤45000 from by (try simp only [List.length_append,List.length_cons,List.length_nil,List.length_map]);omega)
 rcases nms_cases [x.actor,x.schema,x.table] with q1 | q1<;>have HQ1:=gH q1<;>clear q1
 ·have HS:=gH (show onTabL wo x=none from by simp [onTabL,andL,HQ1.out])
  go_enter Tryz.func92,Tryz.ntmps92
  go_wp2_with (first
   | (go_at_call 61;(with_reducible refine (lay2 w0 _ b _ _ _ _ H0.out HZ0.out HE0.out).mono ?_);rintro e w1 ⟨rfl,h⟩;have r:=HM0.out _ _ h;have yb0b0:=r.1;have y0b0c1:=r.cell (j:=1) rfl;have y0b0c2:=r.cell (j:=2) rfl;have y0b0c3:=r.cell (j:=3) rfl;clear r;have H1:=gH h;clear h)
   | (go_at_call 91;(with_reducible refine (nam3 w0 _ b _ _ _ _ _ _ H1.out HT.out HZ1.out rfl hsm.out.actor hsm.out.schema hsm.out.table).mono ?_);rintro e w2 h;rw [HQ1.out] at h;obtain ⟨he,h⟩:=h;have H2:=gH h;clear h;unfold NoL at he;subst he))
  rw [HS.out]
  exact ⟨rfl,rfl,H2.out⟩
 ·have HS:=gH (show onTabL wo x=some ([wo]++([x.actor,x.schema,x.table])) from by simp [onTabL,andL,HQ1.out])
  go_enter Tryz.func92,Tryz.ntmps92
  go_wp2_with (first
   | (go_at_call 61;(with_reducible refine (lay2 w0 _ b _ _ _ _ H0.out HZ0.out HE0.out).mono ?_);rintro e w1 ⟨rfl,h⟩;have r:=HM0.out _ _ h;have yb0b0:=r.1;have y0b0c1:=r.cell (j:=1) rfl;have y0b0c2:=r.cell (j:=2) rfl;have y0b0c3:=r.cell (j:=3) rfl;clear r;have H1:=gH h;clear h)
   | (go_at_call 91;(with_reducible refine (nam3 w0 _ b _ _ _ _ _ _ H1.out HT.out HZ1.out rfl hsm.out.actor hsm.out.schema hsm.out.table).mono ?_);rintro e w2 h;rw [HQ1.out] at h;obtain ⟨rfl,h⟩:=h;have H2:=gH h;clear h))
  go_end0
  rw [HS.out]
  exact ⟨rfl,LyS.conv (by first | (simp only [List.append_assoc];rfl) | simp only [List.append_assoc]) H2.out.pop⟩
theorem right_in (w0:World) (Q:List (Nat × Obj)) (b:Nat) (L:Ws) (x:Cmd) (A:Option Addr) (k:Nat) (A2:Option Addr) (k2:Nat) (w:World) (h:LyS w0 Q b L w) (ht:TabW w0) (sm:SmC x) (hn:L.length≤100) :
  Calls Tryz.prog 95 #[.pointer (some ⟨b,0,none⟩),.agg #[.int .i64 x.kind,.string x.actor,.string x.schema,.string x.table,.string x.name,.string x.role,.slice A x.cols.length k,.string x.rule.name,.int .i64 x.rule.kind,.slice A2 x.rule.cols.length k2,.int .i64 x.rule.low,.int .i64 x.rule.high,.string x.rule.schema,.string x.rule.table,.string x.rule.key,.int .i64 x.right,.bool x.opt]] w (LyQ w0 Q b L (rightL x)):=by
 have HT:=gH ht
 have hsm:=gH sm
 clear ht sm
 obtain ⟨o,ho⟩:∃ o,x.opt=o:=⟨_,rfl⟩
 rw [ho]
 have HO:=gH ho
 clear ho
 by_cases hr:x.right=1
 ·have hb:(x.right==1)=true:=by simp [hr]
  have HR:=gH hr
  clear hr
  cases o
  ·obtain ⟨h0,hm0,he0⟩:=box1 h [.int .i64 x.kind,.string x.actor,.string x.schema,.string x.table,.string x.name,.string x.role,.slice A x.cols.length k,.string x.rule.name,.int .i64 x.rule.kind,.slice A2 x.rule.cols.length k2,.int .i64 x.rule.low,.int .i64 x.rule.high,.string x.rule.schema,.string x.rule.table,.string x.rule.key,.int .i64 x.right,.bool false] 31
   have H0:=gH h0
   have HE0:=gH he0
   have HM0:=gH hm0
   clear h h0 he0 hm0
   have HZ0:=gH (show (L).length≤40000 from by (try simp only [List.length_append,List.length_cons,List.length_nil,List.length_map]);omega)
   have HZ1:=gH (show (L++[(⟨#[114,101,97,100]⟩:ByteArray)]).length≤45000 from by (try simp only [List.length_append,List.length_cons,List.length_nil,List.length_map]);omega)
   rcases nms_cases [x.role] with q1 | q1<;>have HQ1:=gH q1<;>clear q1
   ·have HS:=gH (show rightL x=none from by simp [rightL,andL,HR.out,HO.out,b_read,HQ1.out])
    go_enter Tryz.func95,Tryz.ntmps95
    go_wp2_with (first
     | (go_at_call 61;(with_reducible refine (lay2 w0 _ b _ _ _ _ H0.out HZ0.out HE0.out).mono ?_);rintro e w1 ⟨rfl,h⟩;have r:=HM0.out _ _ h;have yb0b0:=r.1;have y0b0c5:=r.cell (j:=5) rfl;have y0b0c16:=r.cell (j:=16) rfl;clear r;have H1:=gH h;clear h)
     | (go_at_call 91;(with_reducible refine (nam1 w0 _ b _ _ _ _ H1.out HT.out HZ1.out rfl hsm.out.role).mono ?_);rintro e w2 h;rw [HQ1.out] at h;obtain ⟨he,h⟩:=h;have H2:=gH h;clear h;unfold NoL at he;subst he))
    rw [HS.out]
    exact ⟨rfl,rfl,H2.out⟩
   ·have HS:=gH (show rightL x=some ([(⟨#[114,101,97,100]⟩:ByteArray)]++([x.role])) from by simp [rightL,andL,HR.out,HO.out,b_read,HQ1.out])
    go_enter Tryz.func95,Tryz.ntmps95
    go_wp2_with (first
     | (go_at_call 61;(with_reducible refine (lay2 w0 _ b _ _ _ _ H0.out HZ0.out HE0.out).mono ?_);rintro e w1 ⟨rfl,h⟩;have r:=HM0.out _ _ h;have yb0b0:=r.1;have y0b0c5:=r.cell (j:=5) rfl;have y0b0c16:=r.cell (j:=16) rfl;clear r;have H1:=gH h;clear h)
     | (go_at_call 91;(with_reducible refine (nam1 w0 _ b _ _ _ _ H1.out HT.out HZ1.out rfl hsm.out.role).mono ?_);rintro e w2 h;rw [HQ1.out] at h;obtain ⟨rfl,h⟩:=h;have r:=HM0.out _ _ h;have yb1b0:=r.1;have y1b0c16:=r.cell (j:=16) rfl;clear r;have H2:=gH h;clear h))
    go_end0
    rw [HS.out]
    exact ⟨rfl,LyS.conv (by first | (simp only [List.append_assoc];rfl) | simp only [List.append_assoc]) H2.out.pop⟩
  ·obtain ⟨h0,hm0,he0⟩:=box1 h [.int .i64 x.kind,.string x.actor,.string x.schema,.string x.table,.string x.name,.string x.role,.slice A x.cols.length k,.string x.rule.name,.int .i64 x.rule.kind,.slice A2 x.rule.cols.length k2,.int .i64 x.rule.low,.int .i64 x.rule.high,.string x.rule.schema,.string x.rule.table,.string x.rule.key,.int .i64 x.right,.bool true] 31
   have H0:=gH h0
   have HE0:=gH he0
   have HM0:=gH hm0
   clear h h0 he0 hm0
   have HZ0:=gH (show (L).length≤40000 from by (try simp only [List.length_append,List.length_cons,List.length_nil,List.length_map]);omega)
   have HZ1:=gH (show (L++[(⟨#[114,101,97,100]⟩:ByteArray)]).length≤45000 from by (try simp only [List.length_append,List.length_cons,List.length_nil,List.length_map]);omega)
   rcases nms_cases [x.role] with q1 | q1<;>have HQ1:=gH q1<;>clear q1
   ·have HS:=gH (show rightL x=none from by simp [rightL,andL,HR.out,HO.out,b_read,b_option,HQ1.out])
    go_enter Tryz.func95,Tryz.ntmps95
    go_wp2_with (first
     | (go_at_call 61;(with_reducible refine (lay2 w0 _ b _ _ _ _ H0.out HZ0.out HE0.out).mono ?_);rintro e w1 ⟨rfl,h⟩;have r:=HM0.out _ _ h;have yb0b0:=r.1;have y0b0c5:=r.cell (j:=5) rfl;have y0b0c16:=r.cell (j:=16) rfl;clear r;have H1:=gH h;clear h)
     | (go_at_call 91;(with_reducible refine (nam1 w0 _ b _ _ _ _ H1.out HT.out HZ1.out rfl hsm.out.role).mono ?_);rintro e w2 h;rw [HQ1.out] at h;obtain ⟨he,h⟩:=h;have H2:=gH h;clear h;unfold NoL at he;subst he))
    rw [HS.out]
    exact ⟨rfl,rfl,H2.out⟩
   ·have HZ2:=gH (show (L++[(⟨#[114,101,97,100]⟩:ByteArray)]++[x.role]).length≤40000 from by (try simp only [List.length_append,List.length_cons,List.length_nil,List.length_map]);omega)
    have HS:=gH (show rightL x=some ([(⟨#[114,101,97,100]⟩:ByteArray)]++([x.role]++([(⟨#[111,112,116,105,111,110]⟩:ByteArray)]))) from by simp [rightL,andL,HR.out,HO.out,b_read,b_option,HQ1.out])
    go_enter Tryz.func95,Tryz.ntmps95
    go_wp2_with (first
     | (go_at_call 61;(with_reducible refine (lay2 w0 _ b _ _ _ _ H0.out HZ0.out HE0.out).mono ?_);rintro e w1 ⟨rfl,h⟩;have r:=HM0.out _ _ h;have yb0b0:=r.1;have y0b0c5:=r.cell (j:=5) rfl;have y0b0c16:=r.cell (j:=16) rfl;clear r;have H1:=gH h;clear h)
     | (go_at_call 91;(with_reducible refine (nam1 w0 _ b _ _ _ _ H1.out HT.out HZ1.out rfl hsm.out.role).mono ?_);rintro e w2 h;rw [HQ1.out] at h;obtain ⟨rfl,h⟩:=h;have r:=HM0.out _ _ h;have yb1b0:=r.1;have y1b0c16:=r.cell (j:=16) rfl;clear r;have H2:=gH h;clear h)
     | (go_at_call 61;(with_reducible refine (lay2 w0 _ b _ _ _ _ H2.out HZ2.out rfl).mono ?_);rintro e w3 ⟨rfl,h⟩;have H3:=gH h;clear h))
    go_end0
    rw [HS.out]
    exact ⟨rfl,LyS.conv (by first | (simp only [List.append_assoc];rfl) | simp only [List.append_assoc]) H3.out.pop⟩
 ·have hb:(x.right==1)=false:=by simp [hr]
  have HR:=gH hr
  clear hr
  cases o
  ·obtain ⟨h0,hm0,he0⟩:=box1 h [.int .i64 x.kind,.string x.actor,.string x.schema,.string x.table,.string x.name,.string x.role,.slice A x.cols.length k,.string x.rule.name,.int .i64 x.rule.kind,.slice A2 x.rule.cols.length k2,.int .i64 x.rule.low,.int .i64 x.rule.high,.string x.rule.schema,.string x.rule.table,.string x.rule.key,.int .i64 x.right,.bool false] 31
   have H0:=gH h0
   have HE0:=gH he0
   have HM0:=gH hm0
   clear h h0 he0 hm0
   have HZ0:=gH (show (L).length≤40000 from by (try simp only [List.length_append,List.length_cons,List.length_nil,List.length_map]);omega)
   have HZ1:=gH (show (L++[(⟨#[119,114,105,116,101]⟩:ByteArray)]).length≤45000 from by (try simp only [List.length_append,List.length_cons,List.length_nil,List.length_map]);omega)
   rcases nms_cases [x.role] with q1 | q1<;>have HQ1:=gH q1<;>clear q1
   ·have HS:=gH (show rightL x=none from by simp [rightL,andL,HR.out,HO.out,b_write,HQ1.out])
    go_enter Tryz.func95,Tryz.ntmps95
    go_wp2_with (first
     | (go_at_call 61;(with_reducible refine (lay2 w0 _ b _ _ _ _ H0.out HZ0.out HE0.out).mono ?_);rintro e w1 ⟨rfl,h⟩;have r:=HM0.out _ _ h;have yb0b0:=r.1;have y0b0c5:=r.cell (j:=5) rfl;have y0b0c16:=r.cell (j:=16) rfl;clear r;have H1:=gH h;clear h)
     | (go_at_call 91;(with_reducible refine (nam1 w0 _ b _ _ _ _ H1.out HT.out HZ1.out rfl hsm.out.role).mono ?_);rintro e w2 h;rw [HQ1.out] at h;obtain ⟨he,h⟩:=h;have H2:=gH h;clear h;unfold NoL at he;subst he))
    rw [HS.out]
    exact ⟨rfl,rfl,H2.out⟩
   ·have HS:=gH (show rightL x=some ([(⟨#[119,114,105,116,101]⟩:ByteArray)]++([x.role])) from by simp [rightL,andL,HR.out,HO.out,b_write,HQ1.out])
    go_enter Tryz.func95,Tryz.ntmps95
    go_wp2_with (first
     | (go_at_call 61;(with_reducible refine (lay2 w0 _ b _ _ _ _ H0.out HZ0.out HE0.out).mono ?_);rintro e w1 ⟨rfl,h⟩;have r:=HM0.out _ _ h;have yb0b0:=r.1;have y0b0c5:=r.cell (j:=5) rfl;have y0b0c16:=r.cell (j:=16) rfl;clear r;have H1:=gH h;clear h)
     | (go_at_call 91;(with_reducible refine (nam1 w0 _ b _ _ _ _ H1.out HT.out HZ1.out rfl hsm.out.role).mono ?_);rintro e w2 h;rw [HQ1.out] at h;obtain ⟨rfl,h⟩:=h;have r:=HM0.out _ _ h;have yb1b0:=r.1;have y1b0c16:=r.cell (j:=16) rfl;clear r;have H2:=gH h;clear h))
    go_end0
    rw [HS.out]
    exact ⟨rfl,LyS.conv (by first | (simp only [List.append_assoc];rfl) | simp only [List.append_assoc]) H2.out.pop⟩
  ·obtain ⟨h0,hm0,he0⟩:=box1 h [.int .i64 x.kind,.string x.actor,.string x.schema,.string x.table,.string x.name,.string x.role,.slice A x.cols.length k,.string x.rule.name,.int .i64 x.rule.kind,.slice A2 x.rule.cols.length k2,.int .i64 x.rule.low,.int .i64 x.rule.high,.string x.rule.schema,.string x.rule.table,.string x.rule.key,.int .i64 x.right,.bool true] 31
   have H0:=gH h0
   have HE0:=gH he0
   have HM0:=gH hm0
   clear h h0 he0 hm0
   have HZ0:=gH (show (L).length≤40000 from by (try simp only [List.length_append,List.length_cons,List.length_nil,List.length_map]);omega)
   have HZ1:=gH (show (L++[(⟨#[119,114,105,116,101]⟩:ByteArray)]).length≤45000 from by (try simp only [List.length_append,List.length_cons,List.length_nil,List.length_map]);omega)
   rcases nms_cases [x.role] with q1 | q1<;>have HQ1:=gH q1<;>clear q1
   ·have HS:=gH (show rightL x=none from by simp [rightL,andL,HR.out,HO.out,b_write,b_option,HQ1.out])
    go_enter Tryz.func95,Tryz.ntmps95
    go_wp2_with (first
     | (go_at_call 61;(with_reducible refine (lay2 w0 _ b _ _ _ _ H0.out HZ0.out HE0.out).mono ?_);rintro e w1 ⟨rfl,h⟩;have r:=HM0.out _ _ h;have yb0b0:=r.1;have y0b0c5:=r.cell (j:=5) rfl;have y0b0c16:=r.cell (j:=16) rfl;clear r;have H1:=gH h;clear h)
     | (go_at_call 91;(with_reducible refine (nam1 w0 _ b _ _ _ _ H1.out HT.out HZ1.out rfl hsm.out.role).mono ?_);rintro e w2 h;rw [HQ1.out] at h;obtain ⟨he,h⟩:=h;have H2:=gH h;clear h;unfold NoL at he;subst he))
    rw [HS.out]
    exact ⟨rfl,rfl,H2.out⟩
   ·have HZ2:=gH (show (L++[(⟨#[119,114,105,116,101]⟩:ByteArray)]++[x.role]).length≤40000 from by (try simp only [List.length_append,List.length_cons,List.length_nil,List.length_map]);omega)
    have HS:=gH (show rightL x=some ([(⟨#[119,114,105,116,101]⟩:ByteArray)]++([x.role]++([(⟨#[111,112,116,105,111,110]⟩:ByteArray)]))) from by simp [rightL,andL,HR.out,HO.out,b_write,b_option,HQ1.out])
    go_enter Tryz.func95,Tryz.ntmps95
    go_wp2_with (first
     | (go_at_call 61;(with_reducible refine (lay2 w0 _ b _ _ _ _ H0.out HZ0.out HE0.out).mono ?_);rintro e w1 ⟨rfl,h⟩;have r:=HM0.out _ _ h;have yb0b0:=r.1;have y0b0c5:=r.cell (j:=5) rfl;have y0b0c16:=r.cell (j:=16) rfl;clear r;have H1:=gH h;clear h)
     | (go_at_call 91;(with_reducible refine (nam1 w0 _ b _ _ _ _ H1.out HT.out HZ1.out rfl hsm.out.role).mono ?_);rintro e w2 h;rw [HQ1.out] at h;obtain ⟨rfl,h⟩:=h;have r:=HM0.out _ _ h;have yb1b0:=r.1;have y1b0c16:=r.cell (j:=16) rfl;clear r;have H2:=gH h;clear h)
     | (go_at_call 61;(with_reducible refine (lay2 w0 _ b _ _ _ _ H2.out HZ2.out rfl).mono ?_);rintro e w3 ⟨rfl,h⟩;have H3:=gH h;clear h))
    go_end0
    rw [HS.out]
    exact ⟨rfl,LyS.conv (by first | (simp only [List.append_assoc];rfl) | simp only [List.append_assoc]) H3.out.pop⟩
theorem rule_k1 (w0:World) (Q:List (Nat × Obj)) (b:Nat) (L:Ws) (x:Cmd) (A:Option Addr) (k:Nat) (A2:Option Addr) (k2:Nat) (w:World) (h:LyS w0 Q b L w) (ht:TabW w0) (sm:SmC x) (hn:L.length≤100) (hc:SlAt w0 1 StrR A2 k2 x.rule.cols) (hl:x.rule.cols.length≤4100) (hk:x.rule.kind=1) :
  Calls Tryz.prog 94 #[.pointer (some ⟨b,0,none⟩),.agg #[.int .i64 x.kind,.string x.actor,.string x.schema,.string x.table,.string x.name,.string x.role,.slice A x.cols.length k,.string x.rule.name,.int .i64 x.rule.kind,.slice A2 x.rule.cols.length k2,.int .i64 x.rule.low,.int .i64 x.rule.high,.string x.rule.schema,.string x.rule.table,.string x.rule.key,.int .i64 x.right,.bool x.opt]] w (LyQ w0 Q b L (ruleL x)):=by
 have HT:=gH ht
 have hsm:=gH sm
 clear ht sm
 have b1:(x.rule.kind==1)=true:=by simp [hk]
 have b2:(x.rule.kind==2)=false:=by simp [hk]
 have b3:(x.rule.kind==3)=false:=by simp [hk]
 have b4:(x.rule.kind==4)=false:=by simp [hk]
 have HK:=gH hk
 have HC:=gH hc
 clear hk hc
 obtain ⟨h0,hm0,hm1,he0⟩:=box2 h [.int .i64 x.kind,.string x.actor,.string x.schema,.string x.table,.string x.name,.string x.role,.slice A x.cols.length k,.string x.rule.name,.int .i64 x.rule.kind,.slice A2 x.rule.cols.length k2,.int .i64 x.rule.low,.int .i64 x.rule.high,.string x.rule.schema,.string x.rule.table,.string x.rule.key,.int .i64 x.right,.bool x.opt] 31 [.string x.rule.name,.int .i64 x.rule.kind,.slice A2 x.rule.cols.length k2,.int .i64 x.rule.low,.int .i64 x.rule.high,.string x.rule.schema,.string x.rule.table,.string x.rule.key] 28
 have H0:=gH h0
 have HE0:=gH he0
 have HM0:=gH hm0
 have HM1:=gH hm1
 clear h h0 he0 hm0 hm1
 have HZ0:=gH (show (L).length≤40000 from by (try simp only [List.length_append,List.length_cons,List.length_nil,List.length_map]);omega)
 have HZ1:=gH (show (L++[(⟨#[105,110,100,101,120]⟩:ByteArray)]).length≤45000 from by (try simp only [List.length_append,List.length_cons,List.length_nil,List.length_map]);omega)
 rcases nms_cases [x.actor,x.schema,x.table,x.rule.name] with q1 | q1<;>have HQ1:=gH q1<;>clear q1
 ·have HS:=gH (show ruleL x=none from by simp [ruleL,andL,HK.out,b_index,HQ1.out])
  go_enter Tryz.func94,Tryz.ntmps94
  go_wp2_with (first
   | (go_at_call 61;(with_reducible refine (lay2 w0 _ b _ _ _ _ H0.out HZ0.out HE0.out).mono ?_);rintro e w1 ⟨rfl,h⟩;have r:=HM0.out _ _ h;have yb0b0:=r.1;have y0b0c1:=r.cell (j:=1) rfl;have y0b0c2:=r.cell (j:=2) rfl;have y0b0c3:=r.cell (j:=3) rfl;clear r;have r:=HM1.out _ _ h;have yb0b1:=r.1;have y0b1c0:=r.cell (j:=0) rfl;clear r;have H1:=gH h;clear h)
   | (go_at_call 91;(with_reducible refine (nam4 w0 _ b _ _ _ _ _ _ _ H1.out HT.out HZ1.out rfl hsm.out.actor hsm.out.schema hsm.out.table hsm.out.rname).mono ?_);rintro e w2 h;rw [HQ1.out] at h;obtain ⟨he,h⟩:=h;have H2:=gH h;clear h;unfold NoL at he;subst he))
  rw [HS.out]
  exact ⟨rfl,rfl,H2.out⟩
 ·have HZ2:=gH (show (L++[(⟨#[105,110,100,101,120]⟩:ByteArray)]++[x.actor,x.schema,x.table,x.rule.name]).length+x.rule.cols.length≤90000 from by (try simp only [List.length_append,List.length_cons,List.length_nil,List.length_map]);omega)
  rcases nms_cases x.rule.cols with q2 | q2<;>have HQ2:=gH q2<;>clear q2
  ·have HS:=gH (show ruleL x=none from by simp [ruleL,andL,HK.out,b_index,HQ1.out,HQ2.out])
   go_enter Tryz.func94,Tryz.ntmps94
   go_wp2_with (first
    | (go_at_call 61;(with_reducible refine (lay2 w0 _ b _ _ _ _ H0.out HZ0.out HE0.out).mono ?_);rintro e w1 ⟨rfl,h⟩;have r:=HM0.out _ _ h;have yb0b0:=r.1;have y0b0c1:=r.cell (j:=1) rfl;have y0b0c2:=r.cell (j:=2) rfl;have y0b0c3:=r.cell (j:=3) rfl;clear r;have r:=HM1.out _ _ h;have yb0b1:=r.1;have y0b1c0:=r.cell (j:=0) rfl;clear r;have H1:=gH h;clear h)
    | (go_at_call 91;(with_reducible refine (nam4 w0 _ b _ _ _ _ _ _ _ H1.out HT.out HZ1.out rfl hsm.out.actor hsm.out.schema hsm.out.table hsm.out.rname).mono ?_);rintro e w2 h;rw [HQ1.out] at h;obtain ⟨rfl,h⟩:=h;have r:=HM1.out _ _ h;have yb1b1:=r.1;have y1b1c1:=r.cell (j:=1) rfl;have y1b1c5:=r.cell (j:=5) rfl;have y1b1c6:=r.cell (j:=6) rfl;have y1b1c7:=r.cell (j:=7) rfl;have y1b1c2:=r.cell (j:=2) rfl;clear r;have H2:=gH h;clear h)
    | (go_at_call 91;(with_reducible refine (name_in w0 _ b _ x.rule.cols A2 k2 _ H2.out (fun L' V h=>strs_aft h.aft HC.out) HT.out HZ2.out).mono ?_);rintro e w3 h;rw [HQ2.out] at h;obtain ⟨he,h⟩:=h;have H3:=gH h;clear h;unfold NoL at he;subst he))
   rw [HS.out]
   exact ⟨rfl,rfl,H3.out⟩
  ·have HS:=gH (show ruleL x=some ([(⟨#[105,110,100,101,120]⟩:ByteArray)]++([x.actor,x.schema,x.table,x.rule.name]++(x.rule.cols))) from by simp [ruleL,andL,HK.out,b_index,HQ1.out,HQ2.out])
   go_enter Tryz.func94,Tryz.ntmps94
   go_wp2_with (first
    | (go_at_call 61;(with_reducible refine (lay2 w0 _ b _ _ _ _ H0.out HZ0.out HE0.out).mono ?_);rintro e w1 ⟨rfl,h⟩;have r:=HM0.out _ _ h;have yb0b0:=r.1;have y0b0c1:=r.cell (j:=1) rfl;have y0b0c2:=r.cell (j:=2) rfl;have y0b0c3:=r.cell (j:=3) rfl;clear r;have r:=HM1.out _ _ h;have yb0b1:=r.1;have y0b1c0:=r.cell (j:=0) rfl;clear r;have H1:=gH h;clear h)
    | (go_at_call 91;(with_reducible refine (nam4 w0 _ b _ _ _ _ _ _ _ H1.out HT.out HZ1.out rfl hsm.out.actor hsm.out.schema hsm.out.table hsm.out.rname).mono ?_);rintro e w2 h;rw [HQ1.out] at h;obtain ⟨rfl,h⟩:=h;have r:=HM1.out _ _ h;have yb1b1:=r.1;have y1b1c1:=r.cell (j:=1) rfl;have y1b1c5:=r.cell (j:=5) rfl;have y1b1c6:=r.cell (j:=6) rfl;have y1b1c7:=r.cell (j:=7) rfl;have y1b1c2:=r.cell (j:=2) rfl;clear r;have H2:=gH h;clear h)
    | (go_at_call 91;(with_reducible refine (name_in w0 _ b _ x.rule.cols A2 k2 _ H2.out (fun L' V h=>strs_aft h.aft HC.out) HT.out HZ2.out).mono ?_);rintro e w3 h;rw [HQ2.out] at h;obtain ⟨rfl,h⟩:=h;have r:=HM1.out _ _ h;have yb2b1:=r.1;have y2b1c1:=r.cell (j:=1) rfl;have y2b1c3:=r.cell (j:=3) rfl;have y2b1c4:=r.cell (j:=4) rfl;clear r;have H3:=gH h;clear h))
   go_end0
   rw [HS.out]
   exact ⟨rfl,LyS.conv (by first | (simp only [List.append_assoc];rfl) | simp only [List.append_assoc]) H3.out.pop.pop⟩
theorem rule_k2 (w0:World) (Q:List (Nat × Obj)) (b:Nat) (L:Ws) (x:Cmd) (A:Option Addr) (k:Nat) (A2:Option Addr) (k2:Nat) (w:World) (h:LyS w0 Q b L w) (ht:TabW w0) (sm:SmC x) (hn:L.length≤100) (hc:SlAt w0 1 StrR A2 k2 x.rule.cols) (hl:x.rule.cols.length≤4100) (hk:x.rule.kind=2) :
  Calls Tryz.prog 94 #[.pointer (some ⟨b,0,none⟩),.agg #[.int .i64 x.kind,.string x.actor,.string x.schema,.string x.table,.string x.name,.string x.role,.slice A x.cols.length k,.string x.rule.name,.int .i64 x.rule.kind,.slice A2 x.rule.cols.length k2,.int .i64 x.rule.low,.int .i64 x.rule.high,.string x.rule.schema,.string x.rule.table,.string x.rule.key,.int .i64 x.right,.bool x.opt]] w (LyQ w0 Q b L (ruleL x)):=by
 have HT:=gH ht
 have hsm:=gH sm
 clear ht sm
 have b1:(x.rule.kind==1)=false:=by simp [hk]
 have b2:(x.rule.kind==2)=true:=by simp [hk]
 have b3:(x.rule.kind==3)=false:=by simp [hk]
 have b4:(x.rule.kind==4)=false:=by simp [hk]
 have HK:=gH hk
 have HC:=gH hc
 clear hk hc
 obtain ⟨h0,hm0,hm1,he0⟩:=box2 h [.int .i64 x.kind,.string x.actor,.string x.schema,.string x.table,.string x.name,.string x.role,.slice A x.cols.length k,.string x.rule.name,.int .i64 x.rule.kind,.slice A2 x.rule.cols.length k2,.int .i64 x.rule.low,.int .i64 x.rule.high,.string x.rule.schema,.string x.rule.table,.string x.rule.key,.int .i64 x.right,.bool x.opt] 31 [.string x.rule.name,.int .i64 x.rule.kind,.slice A2 x.rule.cols.length k2,.int .i64 x.rule.low,.int .i64 x.rule.high,.string x.rule.schema,.string x.rule.table,.string x.rule.key] 28
 have H0:=gH h0
 have HE0:=gH he0
 have HM0:=gH hm0
 have HM1:=gH hm1
 clear h h0 he0 hm0 hm1
 have HZ0:=gH (show (L).length≤40000 from by (try simp only [List.length_append,List.length_cons,List.length_nil,List.length_map]);omega)
 have HZ1:=gH (show (L++[(⟨#[107,101,121]⟩:ByteArray)]).length≤45000 from by (try simp only [List.length_append,List.length_cons,List.length_nil,List.length_map]);omega)
 rcases nms_cases [x.actor,x.schema,x.table,x.rule.name] with q1 | q1<;>have HQ1:=gH q1<;>clear q1
 ·have HS:=gH (show ruleL x=none from by simp [ruleL,andL,HK.out,b_key,HQ1.out])
  go_enter Tryz.func94,Tryz.ntmps94
  go_wp2_with (first
   | (go_at_call 61;(with_reducible refine (lay2 w0 _ b _ _ _ _ H0.out HZ0.out HE0.out).mono ?_);rintro e w1 ⟨rfl,h⟩;have r:=HM0.out _ _ h;have yb0b0:=r.1;have y0b0c1:=r.cell (j:=1) rfl;have y0b0c2:=r.cell (j:=2) rfl;have y0b0c3:=r.cell (j:=3) rfl;clear r;have r:=HM1.out _ _ h;have yb0b1:=r.1;have y0b1c0:=r.cell (j:=0) rfl;clear r;have H1:=gH h;clear h)
   | (go_at_call 91;(with_reducible refine (nam4 w0 _ b _ _ _ _ _ _ _ H1.out HT.out HZ1.out rfl hsm.out.actor hsm.out.schema hsm.out.table hsm.out.rname).mono ?_);rintro e w2 h;rw [HQ1.out] at h;obtain ⟨he,h⟩:=h;have H2:=gH h;clear h;unfold NoL at he;subst he))
  rw [HS.out]
  exact ⟨rfl,rfl,H2.out⟩
 ·have HZ2:=gH (show (L++[(⟨#[107,101,121]⟩:ByteArray)]++[x.actor,x.schema,x.table,x.rule.name]).length+x.rule.cols.length≤90000 from by (try simp only [List.length_append,List.length_cons,List.length_nil,List.length_map]);omega)
  rcases nms_cases x.rule.cols with q2 | q2<;>have HQ2:=gH q2<;>clear q2
  ·have HS:=gH (show ruleL x=none from by simp [ruleL,andL,HK.out,b_key,HQ1.out,HQ2.out])
   go_enter Tryz.func94,Tryz.ntmps94
   go_wp2_with (first
    | (go_at_call 61;(with_reducible refine (lay2 w0 _ b _ _ _ _ H0.out HZ0.out HE0.out).mono ?_);rintro e w1 ⟨rfl,h⟩;have r:=HM0.out _ _ h;have yb0b0:=r.1;have y0b0c1:=r.cell (j:=1) rfl;have y0b0c2:=r.cell (j:=2) rfl;have y0b0c3:=r.cell (j:=3) rfl;clear r;have r:=HM1.out _ _ h;have yb0b1:=r.1;have y0b1c0:=r.cell (j:=0) rfl;clear r;have H1:=gH h;clear h)
    | (go_at_call 91;(with_reducible refine (nam4 w0 _ b _ _ _ _ _ _ _ H1.out HT.out HZ1.out rfl hsm.out.actor hsm.out.schema hsm.out.table hsm.out.rname).mono ?_);rintro e w2 h;rw [HQ1.out] at h;obtain ⟨rfl,h⟩:=h;have r:=HM1.out _ _ h;have yb1b1:=r.1;have y1b1c1:=r.cell (j:=1) rfl;have y1b1c5:=r.cell (j:=5) rfl;have y1b1c6:=r.cell (j:=6) rfl;have y1b1c7:=r.cell (j:=7) rfl;have y1b1c2:=r.cell (j:=2) rfl;clear r;have H2:=gH h;clear h)
    | (go_at_call 91;(with_reducible refine (name_in w0 _ b _ x.rule.cols A2 k2 _ H2.out (fun L' V h=>strs_aft h.aft HC.out) HT.out HZ2.out).mono ?_);rintro e w3 h;rw [HQ2.out] at h;obtain ⟨he,h⟩:=h;have H3:=gH h;clear h;unfold NoL at he;subst he))
   rw [HS.out]
   exact ⟨rfl,rfl,H3.out⟩
  ·have HS:=gH (show ruleL x=some ([(⟨#[107,101,121]⟩:ByteArray)]++([x.actor,x.schema,x.table,x.rule.name]++(x.rule.cols))) from by simp [ruleL,andL,HK.out,b_key,HQ1.out,HQ2.out])
   go_enter Tryz.func94,Tryz.ntmps94
   go_wp2_with (first
    | (go_at_call 61;(with_reducible refine (lay2 w0 _ b _ _ _ _ H0.out HZ0.out HE0.out).mono ?_);rintro e w1 ⟨rfl,h⟩;have r:=HM0.out _ _ h;have yb0b0:=r.1;have y0b0c1:=r.cell (j:=1) rfl;have y0b0c2:=r.cell (j:=2) rfl;have y0b0c3:=r.cell (j:=3) rfl;clear r;have r:=HM1.out _ _ h;have yb0b1:=r.1;have y0b1c0:=r.cell (j:=0) rfl;clear r;have H1:=gH h;clear h)
    | (go_at_call 91;(with_reducible refine (nam4 w0 _ b _ _ _ _ _ _ _ H1.out HT.out HZ1.out rfl hsm.out.actor hsm.out.schema hsm.out.table hsm.out.rname).mono ?_);rintro e w2 h;rw [HQ1.out] at h;obtain ⟨rfl,h⟩:=h;have r:=HM1.out _ _ h;have yb1b1:=r.1;have y1b1c1:=r.cell (j:=1) rfl;have y1b1c5:=r.cell (j:=5) rfl;have y1b1c6:=r.cell (j:=6) rfl;have y1b1c7:=r.cell (j:=7) rfl;have y1b1c2:=r.cell (j:=2) rfl;clear r;have H2:=gH h;clear h)
    | (go_at_call 91;(with_reducible refine (name_in w0 _ b _ x.rule.cols A2 k2 _ H2.out (fun L' V h=>strs_aft h.aft HC.out) HT.out HZ2.out).mono ?_);rintro e w3 h;rw [HQ2.out] at h;obtain ⟨rfl,h⟩:=h;have r:=HM1.out _ _ h;have yb2b1:=r.1;have y2b1c1:=r.cell (j:=1) rfl;have y2b1c3:=r.cell (j:=3) rfl;have y2b1c4:=r.cell (j:=4) rfl;clear r;have H3:=gH h;clear h))
   go_end0
   rw [HS.out]
   exact ⟨rfl,LyS.conv (by first | (simp only [List.append_assoc];rfl) | simp only [List.append_assoc]) H3.out.pop.pop⟩
theorem rule_k3 (w0:World) (Q:List (Nat × Obj)) (b:Nat) (L:Ws) (x:Cmd) (A:Option Addr) (k:Nat) (A2:Option Addr) (k2:Nat) (w:World) (h:LyS w0 Q b L w) (ht:TabW w0) (sm:SmC x) (hn:L.length≤100) (hc:SlAt w0 1 StrR A2 k2 x.rule.cols) (hl:x.rule.cols.length≤4100) (hk:x.rule.kind=3) :
  Calls Tryz.prog 94 #[.pointer (some ⟨b,0,none⟩),.agg #[.int .i64 x.kind,.string x.actor,.string x.schema,.string x.table,.string x.name,.string x.role,.slice A x.cols.length k,.string x.rule.name,.int .i64 x.rule.kind,.slice A2 x.rule.cols.length k2,.int .i64 x.rule.low,.int .i64 x.rule.high,.string x.rule.schema,.string x.rule.table,.string x.rule.key,.int .i64 x.right,.bool x.opt]] w (LyQ w0 Q b L (ruleL x)):=by
 have HT:=gH ht
 have hsm:=gH sm
 clear ht sm
 have b1:(x.rule.kind==1)=false:=by simp [hk]
 have b2:(x.rule.kind==2)=false:=by simp [hk]
 have b3:(x.rule.kind==3)=true:=by simp [hk]
 have b4:(x.rule.kind==4)=false:=by simp [hk]
 have HK:=gH hk
 have HC:=gH hc
 clear hk hc
 obtain ⟨h0,hm0,hm1,he0⟩:=box2 h [.int .i64 x.kind,.string x.actor,.string x.schema,.string x.table,.string x.name,.string x.role,.slice A x.cols.length k,.string x.rule.name,.int .i64 x.rule.kind,.slice A2 x.rule.cols.length k2,.int .i64 x.rule.low,.int .i64 x.rule.high,.string x.rule.schema,.string x.rule.table,.string x.rule.key,.int .i64 x.right,.bool x.opt] 31 [.string x.rule.name,.int .i64 x.rule.kind,.slice A2 x.rule.cols.length k2,.int .i64 x.rule.low,.int .i64 x.rule.high,.string x.rule.schema,.string x.rule.table,.string x.rule.key] 28
 have H0:=gH h0
 have HE0:=gH he0
 have HM0:=gH hm0
 have HM1:=gH hm1
 clear h h0 he0 hm0 hm1
 have HZ0:=gH (show (L).length≤40000 from by (try simp only [List.length_append,List.length_cons,List.length_nil,List.length_map]);omega)
 have HZ1:=gH (show (L++[(⟨#[99,104,101,99,107]⟩:ByteArray)]).length≤45000 from by (try simp only [List.length_append,List.length_cons,List.length_nil,List.length_map]);omega)
 rcases nms_cases [x.actor,x.schema,x.table,x.rule.name] with q1 | q1<;>have HQ1:=gH q1<;>clear q1
 ·have HS:=gH (show ruleL x=none from by simp [ruleL,andL,HK.out,b_check,HQ1.out])
  go_enter Tryz.func94,Tryz.ntmps94
  go_wp2_with (first
   | (go_at_call 61;(with_reducible refine (lay2 w0 _ b _ _ _ _ H0.out HZ0.out HE0.out).mono ?_);rintro e w1 ⟨rfl,h⟩;have r:=HM0.out _ _ h;have yb0b0:=r.1;have y0b0c1:=r.cell (j:=1) rfl;have y0b0c2:=r.cell (j:=2) rfl;have y0b0c3:=r.cell (j:=3) rfl;clear r;have r:=HM1.out _ _ h;have yb0b1:=r.1;have y0b1c0:=r.cell (j:=0) rfl;clear r;have H1:=gH h;clear h)
   | (go_at_call 91;(with_reducible refine (nam4 w0 _ b _ _ _ _ _ _ _ H1.out HT.out HZ1.out rfl hsm.out.actor hsm.out.schema hsm.out.table hsm.out.rname).mono ?_);rintro e w2 h;rw [HQ1.out] at h;obtain ⟨he,h⟩:=h;have H2:=gH h;clear h;unfold NoL at he;subst he))
  rw [HS.out]
  exact ⟨rfl,rfl,H2.out⟩
 ·have HZ2:=gH (show (L++[(⟨#[99,104,101,99,107]⟩:ByteArray)]++[x.actor,x.schema,x.table,x.rule.name]).length+x.rule.cols.length≤90000 from by (try simp only [List.length_append,List.length_cons,List.length_nil,List.length_map]);omega)
  rcases nms_cases x.rule.cols with q2 | q2<;>have HQ2:=gH q2<;>clear q2
  ·have HS:=gH (show ruleL x=none from by simp [ruleL,andL,HK.out,b_check,HQ1.out,HQ2.out])
   go_enter Tryz.func94,Tryz.ntmps94
   go_wp2_with (first
    | (go_at_call 61;(with_reducible refine (lay2 w0 _ b _ _ _ _ H0.out HZ0.out HE0.out).mono ?_);rintro e w1 ⟨rfl,h⟩;have r:=HM0.out _ _ h;have yb0b0:=r.1;have y0b0c1:=r.cell (j:=1) rfl;have y0b0c2:=r.cell (j:=2) rfl;have y0b0c3:=r.cell (j:=3) rfl;clear r;have r:=HM1.out _ _ h;have yb0b1:=r.1;have y0b1c0:=r.cell (j:=0) rfl;clear r;have H1:=gH h;clear h)
    | (go_at_call 91;(with_reducible refine (nam4 w0 _ b _ _ _ _ _ _ _ H1.out HT.out HZ1.out rfl hsm.out.actor hsm.out.schema hsm.out.table hsm.out.rname).mono ?_);rintro e w2 h;rw [HQ1.out] at h;obtain ⟨rfl,h⟩:=h;have r:=HM1.out _ _ h;have yb1b1:=r.1;have y1b1c1:=r.cell (j:=1) rfl;have y1b1c5:=r.cell (j:=5) rfl;have y1b1c6:=r.cell (j:=6) rfl;have y1b1c7:=r.cell (j:=7) rfl;have y1b1c2:=r.cell (j:=2) rfl;clear r;have H2:=gH h;clear h)
    | (go_at_call 91;(with_reducible refine (name_in w0 _ b _ x.rule.cols A2 k2 _ H2.out (fun L' V h=>strs_aft h.aft HC.out) HT.out HZ2.out).mono ?_);rintro e w3 h;rw [HQ2.out] at h;obtain ⟨he,h⟩:=h;have H3:=gH h;clear h;unfold NoL at he;subst he))
   rw [HS.out]
   exact ⟨rfl,rfl,H3.out⟩
  ·have HZ3:=gH (show (L++[(⟨#[99,104,101,99,107]⟩:ByteArray)]++[x.actor,x.schema,x.table,x.rule.name]++x.rule.cols).length≤50000 from by (try simp only [List.length_append,List.length_cons,List.length_nil,List.length_map]);omega)
   rcases nus_cases [x.rule.low,x.rule.high] with q3 | q3<;>have HQ3:=gH q3<;>clear q3
   ·have HS:=gH (show ruleL x=none from by simp [ruleL,andL,HK.out,b_check,HQ1.out,HQ2.out,HQ3.out])
    go_enter Tryz.func94,Tryz.ntmps94
    go_wp2_with (first
     | (go_at_call 61;(with_reducible refine (lay2 w0 _ b _ _ _ _ H0.out HZ0.out HE0.out).mono ?_);rintro e w1 ⟨rfl,h⟩;have r:=HM0.out _ _ h;have yb0b0:=r.1;have y0b0c1:=r.cell (j:=1) rfl;have y0b0c2:=r.cell (j:=2) rfl;have y0b0c3:=r.cell (j:=3) rfl;clear r;have r:=HM1.out _ _ h;have yb0b1:=r.1;have y0b1c0:=r.cell (j:=0) rfl;clear r;have H1:=gH h;clear h)
     | (go_at_call 91;(with_reducible refine (nam4 w0 _ b _ _ _ _ _ _ _ H1.out HT.out HZ1.out rfl hsm.out.actor hsm.out.schema hsm.out.table hsm.out.rname).mono ?_);rintro e w2 h;rw [HQ1.out] at h;obtain ⟨rfl,h⟩:=h;have r:=HM1.out _ _ h;have yb1b1:=r.1;have y1b1c1:=r.cell (j:=1) rfl;have y1b1c5:=r.cell (j:=5) rfl;have y1b1c6:=r.cell (j:=6) rfl;have y1b1c7:=r.cell (j:=7) rfl;have y1b1c2:=r.cell (j:=2) rfl;clear r;have H2:=gH h;clear h)
     | (go_at_call 91;(with_reducible refine (name_in w0 _ b _ x.rule.cols A2 k2 _ H2.out (fun L' V h=>strs_aft h.aft HC.out) HT.out HZ2.out).mono ?_);rintro e w3 h;rw [HQ2.out] at h;obtain ⟨rfl,h⟩:=h;have r:=HM1.out _ _ h;have yb2b1:=r.1;have y2b1c1:=r.cell (j:=1) rfl;have y2b1c3:=r.cell (j:=3) rfl;have y2b1c4:=r.cell (j:=4) rfl;clear r;have H3:=gH h;clear h)
     | (go_at_call 62;(with_reducible refine (num2 w0 _ b _ _ _ _ _ H3.out HT.out HZ3.out rfl).mono ?_);rintro e w4 h;rw [HQ3.out] at h;obtain ⟨he,h⟩:=h;have H4:=gH h;clear h;unfold NoL at he;subst he))
    rw [HS.out]
    exact ⟨rfl,rfl,H4.out⟩
   ·have HS:=gH (show ruleL x=some ([(⟨#[99,104,101,99,107]⟩:ByteArray)]++([x.actor,x.schema,x.table,x.rule.name]++(x.rule.cols++(List.map itoaB [x.rule.low,x.rule.high])))) from by simp [ruleL,andL,HK.out,b_check,HQ1.out,HQ2.out,HQ3.out])
    go_enter Tryz.func94,Tryz.ntmps94
    go_wp2_with (first
     | (go_at_call 61;(with_reducible refine (lay2 w0 _ b _ _ _ _ H0.out HZ0.out HE0.out).mono ?_);rintro e w1 ⟨rfl,h⟩;have r:=HM0.out _ _ h;have yb0b0:=r.1;have y0b0c1:=r.cell (j:=1) rfl;have y0b0c2:=r.cell (j:=2) rfl;have y0b0c3:=r.cell (j:=3) rfl;clear r;have r:=HM1.out _ _ h;have yb0b1:=r.1;have y0b1c0:=r.cell (j:=0) rfl;clear r;have H1:=gH h;clear h)
     | (go_at_call 91;(with_reducible refine (nam4 w0 _ b _ _ _ _ _ _ _ H1.out HT.out HZ1.out rfl hsm.out.actor hsm.out.schema hsm.out.table hsm.out.rname).mono ?_);rintro e w2 h;rw [HQ1.out] at h;obtain ⟨rfl,h⟩:=h;have r:=HM1.out _ _ h;have yb1b1:=r.1;have y1b1c1:=r.cell (j:=1) rfl;have y1b1c5:=r.cell (j:=5) rfl;have y1b1c6:=r.cell (j:=6) rfl;have y1b1c7:=r.cell (j:=7) rfl;have y1b1c2:=r.cell (j:=2) rfl;clear r;have H2:=gH h;clear h)
     | (go_at_call 91;(with_reducible refine (name_in w0 _ b _ x.rule.cols A2 k2 _ H2.out (fun L' V h=>strs_aft h.aft HC.out) HT.out HZ2.out).mono ?_);rintro e w3 h;rw [HQ2.out] at h;obtain ⟨rfl,h⟩:=h;have r:=HM1.out _ _ h;have yb2b1:=r.1;have y2b1c1:=r.cell (j:=1) rfl;have y2b1c3:=r.cell (j:=3) rfl;have y2b1c4:=r.cell (j:=4) rfl;clear r;have H3:=gH h;clear h)
     | (go_at_call 62;(with_reducible refine (num2 w0 _ b _ _ _ _ _ H3.out HT.out HZ3.out rfl).mono ?_);rintro e w4 h;rw [HQ3.out] at h;obtain ⟨rfl,h⟩:=h;have H4:=gH h;clear h))
    go_end0
    rw [HS.out]
    exact ⟨rfl,LyS.conv (by first | (simp only [List.append_assoc];rfl) | simp only [List.append_assoc]) H4.out.pop.pop⟩
theorem rule_k4 (w0:World) (Q:List (Nat × Obj)) (b:Nat) (L:Ws) (x:Cmd) (A:Option Addr) (k:Nat) (A2:Option Addr) (k2:Nat) (w:World) (h:LyS w0 Q b L w) (ht:TabW w0) (sm:SmC x) (hn:L.length≤100) (hc:SlAt w0 1 StrR A2 k2 x.rule.cols) (hl:x.rule.cols.length≤4100) (hk:x.rule.kind=4) :
  Calls Tryz.prog 94 #[.pointer (some ⟨b,0,none⟩),.agg #[.int .i64 x.kind,.string x.actor,.string x.schema,.string x.table,.string x.name,.string x.role,.slice A x.cols.length k,.string x.rule.name,.int .i64 x.rule.kind,.slice A2 x.rule.cols.length k2,.int .i64 x.rule.low,.int .i64 x.rule.high,.string x.rule.schema,.string x.rule.table,.string x.rule.key,.int .i64 x.right,.bool x.opt]] w (LyQ w0 Q b L (ruleL x)):=by
 have HT:=gH ht
 have hsm:=gH sm
 clear ht sm
 have b1:(x.rule.kind==1)=false:=by simp [hk]
 have b2:(x.rule.kind==2)=false:=by simp [hk]
 have b3:(x.rule.kind==3)=false:=by simp [hk]
 have b4:(x.rule.kind==4)=true:=by simp [hk]
 have HK:=gH hk
 have HC:=gH hc
 clear hk hc
 obtain ⟨h0,hm0,hm1,he0⟩:=box2 h [.int .i64 x.kind,.string x.actor,.string x.schema,.string x.table,.string x.name,.string x.role,.slice A x.cols.length k,.string x.rule.name,.int .i64 x.rule.kind,.slice A2 x.rule.cols.length k2,.int .i64 x.rule.low,.int .i64 x.rule.high,.string x.rule.schema,.string x.rule.table,.string x.rule.key,.int .i64 x.right,.bool x.opt] 31 [.string x.rule.name,.int .i64 x.rule.kind,.slice A2 x.rule.cols.length k2,.int .i64 x.rule.low,.int .i64 x.rule.high,.string x.rule.schema,.string x.rule.table,.string x.rule.key] 28
 have H0:=gH h0
 have HE0:=gH he0
 have HM0:=gH hm0
 have HM1:=gH hm1
 clear h h0 he0 hm0 hm1
 have HZ0:=gH (show (L).length≤40000 from by (try simp only [List.length_append,List.length_cons,List.length_nil,List.length_map]);omega)
 have HZ1:=gH (show (L++[(⟨#[102,111,114,101,105,103,110]⟩:ByteArray)]).length≤45000 from by (try simp only [List.length_append,List.length_cons,List.length_nil,List.length_map]);omega)
 rcases nms_cases [x.actor,x.schema,x.table,x.rule.name] with q1 | q1<;>have HQ1:=gH q1<;>clear q1
 ·have HS:=gH (show ruleL x=none from by simp [ruleL,andL,HK.out,b_foreign,HQ1.out])
  go_enter Tryz.func94,Tryz.ntmps94
  go_wp2_with (first
   | (go_at_call 61;(with_reducible refine (lay2 w0 _ b _ _ _ _ H0.out HZ0.out HE0.out).mono ?_);rintro e w1 ⟨rfl,h⟩;have r:=HM0.out _ _ h;have yb0b0:=r.1;have y0b0c1:=r.cell (j:=1) rfl;have y0b0c2:=r.cell (j:=2) rfl;have y0b0c3:=r.cell (j:=3) rfl;clear r;have r:=HM1.out _ _ h;have yb0b1:=r.1;have y0b1c0:=r.cell (j:=0) rfl;clear r;have H1:=gH h;clear h)
   | (go_at_call 91;(with_reducible refine (nam4 w0 _ b _ _ _ _ _ _ _ H1.out HT.out HZ1.out rfl hsm.out.actor hsm.out.schema hsm.out.table hsm.out.rname).mono ?_);rintro e w2 h;rw [HQ1.out] at h;obtain ⟨he,h⟩:=h;have H2:=gH h;clear h;unfold NoL at he;subst he))
  rw [HS.out]
  exact ⟨rfl,rfl,H2.out⟩
 ·have HZ2:=gH (show (L++[(⟨#[102,111,114,101,105,103,110]⟩:ByteArray)]++[x.actor,x.schema,x.table,x.rule.name]).length≤45000 from by (try simp only [List.length_append,List.length_cons,List.length_nil,List.length_map]);omega)
  rcases nms_cases [x.rule.schema,x.rule.table,x.rule.key] with q2 | q2<;>have HQ2:=gH q2<;>clear q2
  ·have HS:=gH (show ruleL x=none from by simp [ruleL,andL,HK.out,b_foreign,HQ1.out,HQ2.out])
   go_enter Tryz.func94,Tryz.ntmps94
   go_wp2_with (first
    | (go_at_call 61;(with_reducible refine (lay2 w0 _ b _ _ _ _ H0.out HZ0.out HE0.out).mono ?_);rintro e w1 ⟨rfl,h⟩;have r:=HM0.out _ _ h;have yb0b0:=r.1;have y0b0c1:=r.cell (j:=1) rfl;have y0b0c2:=r.cell (j:=2) rfl;have y0b0c3:=r.cell (j:=3) rfl;clear r;have r:=HM1.out _ _ h;have yb0b1:=r.1;have y0b1c0:=r.cell (j:=0) rfl;clear r;have H1:=gH h;clear h)
    | (go_at_call 91;(with_reducible refine (nam4 w0 _ b _ _ _ _ _ _ _ H1.out HT.out HZ1.out rfl hsm.out.actor hsm.out.schema hsm.out.table hsm.out.rname).mono ?_);rintro e w2 h;rw [HQ1.out] at h;obtain ⟨rfl,h⟩:=h;have r:=HM1.out _ _ h;have yb1b1:=r.1;have y1b1c1:=r.cell (j:=1) rfl;have y1b1c5:=r.cell (j:=5) rfl;have y1b1c6:=r.cell (j:=6) rfl;have y1b1c7:=r.cell (j:=7) rfl;have y1b1c2:=r.cell (j:=2) rfl;clear r;have H2:=gH h;clear h)
    | (go_at_call 91;(with_reducible refine (nam3 w0 _ b _ _ _ _ _ _ H2.out HT.out HZ2.out rfl hsm.out.rs hsm.out.rt hsm.out.rk).mono ?_);rintro e w3 h;rw [HQ2.out] at h;obtain ⟨he,h⟩:=h;have H3:=gH h;clear h;unfold NoL at he;subst he))
   rw [HS.out]
   exact ⟨rfl,rfl,H3.out⟩
  ·have HZ3:=gH (show (L++[(⟨#[102,111,114,101,105,103,110]⟩:ByteArray)]++[x.actor,x.schema,x.table,x.rule.name]++[x.rule.schema,x.rule.table,x.rule.key]).length+x.rule.cols.length≤90000 from by (try simp only [List.length_append,List.length_cons,List.length_nil,List.length_map]);omega)
   rcases nms_cases x.rule.cols with q3 | q3<;>have HQ3:=gH q3<;>clear q3
   ·have HS:=gH (show ruleL x=none from by simp [ruleL,andL,HK.out,b_foreign,HQ1.out,HQ2.out,HQ3.out])
    go_enter Tryz.func94,Tryz.ntmps94
    go_wp2_with (first
     | (go_at_call 61;(with_reducible refine (lay2 w0 _ b _ _ _ _ H0.out HZ0.out HE0.out).mono ?_);rintro e w1 ⟨rfl,h⟩;have r:=HM0.out _ _ h;have yb0b0:=r.1;have y0b0c1:=r.cell (j:=1) rfl;have y0b0c2:=r.cell (j:=2) rfl;have y0b0c3:=r.cell (j:=3) rfl;clear r;have r:=HM1.out _ _ h;have yb0b1:=r.1;have y0b1c0:=r.cell (j:=0) rfl;clear r;have H1:=gH h;clear h)
     | (go_at_call 91;(with_reducible refine (nam4 w0 _ b _ _ _ _ _ _ _ H1.out HT.out HZ1.out rfl hsm.out.actor hsm.out.schema hsm.out.table hsm.out.rname).mono ?_);rintro e w2 h;rw [HQ1.out] at h;obtain ⟨rfl,h⟩:=h;have r:=HM1.out _ _ h;have yb1b1:=r.1;have y1b1c1:=r.cell (j:=1) rfl;have y1b1c5:=r.cell (j:=5) rfl;have y1b1c6:=r.cell (j:=6) rfl;have y1b1c7:=r.cell (j:=7) rfl;have y1b1c2:=r.cell (j:=2) rfl;clear r;have H2:=gH h;clear h)
     | (go_at_call 91;(with_reducible refine (nam3 w0 _ b _ _ _ _ _ _ H2.out HT.out HZ2.out rfl hsm.out.rs hsm.out.rt hsm.out.rk).mono ?_);rintro e w3 h;rw [HQ2.out] at h;obtain ⟨rfl,h⟩:=h;have r:=HM1.out _ _ h;have yb2b1:=r.1;have y2b1c2:=r.cell (j:=2) rfl;clear r;have H3:=gH h;clear h)
     | (go_at_call 91;(with_reducible refine (name_in w0 _ b _ x.rule.cols A2 k2 _ H3.out (fun L' V h=>strs_aft h.aft HC.out) HT.out HZ3.out).mono ?_);rintro e w4 h;rw [HQ3.out] at h;obtain ⟨he,h⟩:=h;have H4:=gH h;clear h;unfold NoL at he;subst he))
    rw [HS.out]
    exact ⟨rfl,rfl,H4.out⟩
   ·have HS:=gH (show ruleL x=some ([(⟨#[102,111,114,101,105,103,110]⟩:ByteArray)]++([x.actor,x.schema,x.table,x.rule.name]++([x.rule.schema,x.rule.table,x.rule.key]++(x.rule.cols)))) from by simp [ruleL,andL,HK.out,b_foreign,HQ1.out,HQ2.out,HQ3.out])
    go_enter Tryz.func94,Tryz.ntmps94
    go_wp2_with (first
     | (go_at_call 61;(with_reducible refine (lay2 w0 _ b _ _ _ _ H0.out HZ0.out HE0.out).mono ?_);rintro e w1 ⟨rfl,h⟩;have r:=HM0.out _ _ h;have yb0b0:=r.1;have y0b0c1:=r.cell (j:=1) rfl;have y0b0c2:=r.cell (j:=2) rfl;have y0b0c3:=r.cell (j:=3) rfl;clear r;have r:=HM1.out _ _ h;have yb0b1:=r.1;have y0b1c0:=r.cell (j:=0) rfl;clear r;have H1:=gH h;clear h)
     | (go_at_call 91;(with_reducible refine (nam4 w0 _ b _ _ _ _ _ _ _ H1.out HT.out HZ1.out rfl hsm.out.actor hsm.out.schema hsm.out.table hsm.out.rname).mono ?_);rintro e w2 h;rw [HQ1.out] at h;obtain ⟨rfl,h⟩:=h;have r:=HM1.out _ _ h;have yb1b1:=r.1;have y1b1c1:=r.cell (j:=1) rfl;have y1b1c5:=r.cell (j:=5) rfl;have y1b1c6:=r.cell (j:=6) rfl;have y1b1c7:=r.cell (j:=7) rfl;have y1b1c2:=r.cell (j:=2) rfl;clear r;have H2:=gH h;clear h)
     | (go_at_call 91;(with_reducible refine (nam3 w0 _ b _ _ _ _ _ _ H2.out HT.out HZ2.out rfl hsm.out.rs hsm.out.rt hsm.out.rk).mono ?_);rintro e w3 h;rw [HQ2.out] at h;obtain ⟨rfl,h⟩:=h;have r:=HM1.out _ _ h;have yb2b1:=r.1;have y2b1c2:=r.cell (j:=2) rfl;clear r;have H3:=gH h;clear h)
     | (go_at_call 91;(with_reducible refine (name_in w0 _ b _ x.rule.cols A2 k2 _ H3.out (fun L' V h=>strs_aft h.aft HC.out) HT.out HZ3.out).mono ?_);rintro e w4 h;rw [HQ3.out] at h;obtain ⟨rfl,h⟩:=h;have r:=HM1.out _ _ h;have yb3b1:=r.1;have y3b1c1:=r.cell (j:=1) rfl;have y3b1c3:=r.cell (j:=3) rfl;have y3b1c4:=r.cell (j:=4) rfl;clear r;have H4:=gH h;clear h))
    go_end0
    rw [HS.out]
    exact ⟨rfl,LyS.conv (by first | (simp only [List.append_assoc];rfl) | simp only [List.append_assoc]) H4.out.pop.pop⟩
theorem rule_k0 (w0:World) (Q:List (Nat × Obj)) (b:Nat) (L:Ws) (x:Cmd) (A:Option Addr) (k:Nat) (A2:Option Addr) (k2:Nat) (w:World) (h:LyS w0 Q b L w) (ht:TabW w0) (sm:SmC x) (hn:L.length≤100) (h1:x.rule.kind≠1) (h2:x.rule.kind≠2) (h3:x.rule.kind≠3) (h4:x.rule.kind≠4) :
  Calls Tryz.prog 94 #[.pointer (some ⟨b,0,none⟩),.agg #[.int .i64 x.kind,.string x.actor,.string x.schema,.string x.table,.string x.name,.string x.role,.slice A x.cols.length k,.string x.rule.name,.int .i64 x.rule.kind,.slice A2 x.rule.cols.length k2,.int .i64 x.rule.low,.int .i64 x.rule.high,.string x.rule.schema,.string x.rule.table,.string x.rule.key,.int .i64 x.right,.bool x.opt]] w (LyQ w0 Q b L (ruleL x)):=by
 have b1:(x.rule.kind==1)=false:=by simp [h1]
 have b2:(x.rule.kind==2)=false:=by simp [h2]
 have b3:(x.rule.kind==3)=false:=by simp [h3]
 have b4:(x.rule.kind==4)=false:=by simp [h4]
 have HS:=gH (show ruleL x=none from by simp [ruleL,andL,h1,h2,h3,h4])
 have HA:=gH h.aft
 clear h1 h2 h3 h4 h
 go_enter Tryz.func94,Tryz.ntmps94
 go_wp2_with (first
  | (go_at_call 18;with_reducible refine (dis_no _).mono ?_;rintro e w3 ⟨he,rfl⟩;unfold NoL at he;subst he))
 rw [HS.out]
 exact ⟨rfl,rfl,(HA.out.alloc _).alloc _⟩
theorem rule_in (w0:World) (Q:List (Nat × Obj)) (b:Nat) (L:Ws) (x:Cmd) (A:Option Addr) (k:Nat) (A2:Option Addr) (k2:Nat) (w:World) (h:LyS w0 Q b L w) (ht:TabW w0) (sm:SmC x) (hn:L.length≤100) (hc:SlAt w0 1 StrR A2 k2 x.rule.cols) (hl:x.rule.cols.length≤4100) :
  Calls Tryz.prog 94 #[.pointer (some ⟨b,0,none⟩),.agg #[.int .i64 x.kind,.string x.actor,.string x.schema,.string x.table,.string x.name,.string x.role,.slice A x.cols.length k,.string x.rule.name,.int .i64 x.rule.kind,.slice A2 x.rule.cols.length k2,.int .i64 x.rule.low,.int .i64 x.rule.high,.string x.rule.schema,.string x.rule.table,.string x.rule.key,.int .i64 x.right,.bool x.opt]] w (LyQ w0 Q b L (ruleL x)):=by
 by_cases h1:x.rule.kind=1
 ·exact rule_k1 w0 Q b L x A k A2 k2 w h ht sm hn hc hl h1
 by_cases h2:x.rule.kind=2
 ·exact rule_k2 w0 Q b L x A k A2 k2 w h ht sm hn hc hl h2
 by_cases h3:x.rule.kind=3
 ·exact rule_k3 w0 Q b L x A k A2 k2 w h ht sm hn hc hl h3
 by_cases h4:x.rule.kind=4
 ·exact rule_k4 w0 Q b L x A k A2 k2 w h ht sm hn hc hl h4
 exact rule_k0 w0 Q b L x A k A2 k2 w h ht sm hn h1 h2 h3 h4
end Go.Proofs.YtbdanlipghhgpaaGreatDoor
