import Derived.Test.YtakddkhipelmjaaGreatPartF5
set_option maxRecDepth 100000
set_option linter.unusedVariables false
set_option maxHeartbeats 64000000
namespace Go.Proofs.YtakddkhipelmjaaGreat
open Go.Deep Go.RowKit
theorem cZ (s:ByteArray):aS s s=true:=by simp [aS]
theorem AB {α:Type} (p:α→Bool) (l:List α) (k:Nat) (hk:k < l.length) (hp:p l[k]=true) (h:bD p (l.take k) < 0):bD p l=k:=by
 refine dV p l k hk hp fun i hi=>?_
 cases hq:p (l[i]'(by omega)) with
 | false=>rfl
 | true =>
  exfalso
  have hlen:(l.take k).length=k:=by rw [List.length_take];omega
  clear hp
  have:∀ (l:List α) (i:Nat) (hi:i < l.length),p l[i]=true→0≤bD p l:=by
   intro l
   induction l with
   | nil=>intro i hi;simp at hi
   | cons x l ih =>
    intro i hi hp
    cases i with
    | zero=>simp at hp;simp [bD,hp]
    | succ i =>
     have:=ih i (by simpa using hi) hp;simp only [bD]
     split
     ·omega
     ·split<;>omega
  have:=this (l.take k) i (by omega) (by rw [List.getElem_take];exact hq);omega
theorem wC {α:Type} (p:α→Bool) (l:List α) (k:Nat) (hk:k < l.length) (h:0≤bD p (l.take k)):bD p l < k∧0≤bD p l:=by
 induction l generalizing k with
 | nil=>simp at hk
 | cons x l ih =>
  cases k with
  | zero=>simp [bD] at h
  | succ k =>
   simp only [List.take_succ_cons,bD] at h ⊢;by_cases hx:p x=true
   ·rw [if_pos hx] at h ⊢;omega
   ·rw [if_neg hx] at h ⊢
    by_cases hy:bD p (l.take k) < 0
    ·rw [if_pos hy] at h;omega
    ·have:=ih k (by simpa using hk) (by omega)
     rw [if_neg (by omega)];omega
theorem DL (name:ByteArray) (kind:Int) (null:Bool) (w:World) (hs:name.size≤maxLen) :
  Calls Tryz.prog 285 #[.agg #[.string name,.int .i64 kind,.bool null]] w fun e w'=>e=.returned (.bool (gJ ⟨name,kind,null⟩))∧ag w w':=by
 go_in
 go_wp2_with (go_at_call 107;refine (cI _ _ hs).mono ?_;rintro e w' ⟨rfl,rfl⟩)
 all_goals
  go_ret;refine ⟨Eq.trans (b:=.returned (.bool _)) rfl (cP (bZ ?_)),(ag.refl _).alloc _⟩
  simp_all [gJ]
theorem AC (A:Option Addr) (cap:Nat) (l:List eB) (w:World) (h:aA w 3 fG A cap l) :
  Calls Tryz.prog 246 #[.slice A l.length cap] w fun e w'=>e=.returned (.bool (eY l))∧ag w w':=by
 have hlen:=h.len;by_cases h1:l.length < 1∨8 < l.length
 ·have H:=gH (show eY l=false by unfold eY;rcases h1 with h1 | h1<;>simp<;>intros<;>omega)
  rcases h1 with h1 | h1
  all_goals
   go_in
   go_wp2;go_ret;exact ⟨by rw [H.out];rfl,ag.refl _⟩
 ·have g1:1≤l.length:=by omega
  have g8:l.length≤8:=by omega
  clear h1
  go_in
  go_wp2_with fail
  go_loopw [15] (fun i wr=>∃ k:Nat,k≤l.length∧i=.int .i64 k∧ag w wr∧∀ j,j < k→∀ (hj:j < l.length),(gJ l[j]&&decide (bD (fun d=>aS d.name l[j].name) (l.take j) < 0))=true) (fun i _=>l.length - (intOf i).toNat)
  case atStart=>exact ⟨0,Nat.zero_le _,rfl,ag.refl _,fun j hj=>absurd hj (Nat.not_lt_zero j)⟩
  case round =>
   obtain ⟨k,hk,rfl,ha,hp⟩:=hrel;have HA:=gH ha;have HP:=gH hp;clear hp;by_cases hlt:k < l.length
   ·have cM:=bW ha h
    clear ha;obtain ⟨b,off,rfl,hb,c0,c1,c2,hs⟩:=ky cM hlt;have xQ:=gH (fun w=>DL l[k].name l[k].kind l[k].null w hs.max);obtain ⟨r,hr⟩:∃ r,bD (fun d=>aS d.name l[k].name) l=r:=⟨_,rfl⟩;have HR:=gH hr
    have NN:=gH (show ∀ w',ag wr w'→Calls Tryz.prog 286 #[.slice (some ⟨b,off,none⟩) l.length cap,.string l[k].name,.func (.func 287) #[] #[]] w' fun e w''=>e=.returned (.int .i64 r)∧ag w' w'' from
     fun w' ha'=>hr▸E4 _ cap l l[k].name w' (bW ha' cM))
    clear hr cM;generalize hcc:gJ ⟨l[k].name,l[k].kind,l[k].null⟩=cc at xQ;have HC:=gH hcc;clear hcc
    cases cc
    ·go_wp2_with fail
     refine (xQ.out _).mono ?_;rintro e w1 ⟨rfl,a1⟩;obtain ⟨fH,ly,hz,mr,cT⟩:=cz a1;clear a1;go_wp2;go_ret;exact ⟨by rw [jy l k hlt (by rw [show gJ l[k]=false from HC.out];rfl)];rfl,HA.out.trans cT.out⟩
    ·by_cases qT:r=k
     ·have e1:(r != (k:Int))=false:=by simp [qT]
      have HRK:=gH qT;clear qT;go_wp2_with fail;refine (xQ.out _).mono ?_;rintro e w1 ⟨rfl,a1⟩;obtain ⟨fH,ly,hz,mr,cT⟩:=cz a1;clear a1;go_wp2_with fail;refine (NN.out _ cT.out).mono ?_;rintro e w2 ⟨rfl,a2⟩;have iy:=gH (cT.out.trans a2);clear a2;go_wp2
      go_roundw
      case rel =>
       refine ⟨k+1,by omega,by go_num,HA.out.trans iy.out,bC (p:=fun j=>∀ (hj:j < l.length),(gJ l[j]&&decide (bD (fun d=>aS d.name l[j].name) (l.take j) < 0))=true) HP.out (fun _=>?_)⟩;rw [show gJ l[k]=true from HC.out,Bool.true_and];refine decide_eq_true ?_;by_cases h0:bD (fun d=>aS d.name l[k].name) (l.take k) < 0
       ·exact h0
       ·have:=(wC (fun d=>aS d.name l[k].name) l k hlt (by omega)).1
        have e1:=HR.out;have e2:=HRK.out;omega
      case measure=>simp [intOf];omega
     ·have e1:(r != (k:Int))=true:=by rw [bne_iff_ne];exact qT
      have HRK:=gH qT;clear qT;go_wp2_with fail;refine (xQ.out _).mono ?_;rintro e w1 ⟨rfl,a1⟩;obtain ⟨fH,ly,hz,mr,cT⟩:=cz a1;clear a1;go_wp2_with fail;refine (NN.out _ cT.out).mono ?_;rintro e w2 ⟨rfl,a2⟩;have iy:=gH (cT.out.trans a2);clear a2;go_wp2;go_ret
      have hf:(gJ l[k]&&decide (bD (fun d=>aS d.name l[k].name) (l.take k) < 0))=false:=by
       rw [decide_eq_false,Bool.and_false];intro h0;exact HRK.out ((HR.out.symm.trans (AB _ l k hlt (cZ _) h0)))
      exact ⟨by rw [jy l k hlt hf];rfl,HA.out.trans iy.out⟩
   ·go_wp2
    go_ret;exact ⟨by rw [rA l g1 g8 (fun j hj hj'=>HP.out j (by omega) hj')];rfl,HA.out⟩
theorem KM (l:List eB) (cs:List ByteArray) (h:tq l cs=true):cs.length≤l.length:=by
 have hk:∀ k (hk:k < cs.length),0≤bR l cs[k]∧oX (cs.take k) cs[k]=false:=by
  intro k hk;have:=List.all_eq_true.1 h k (List.mem_range.2 hk);rw [List.getElem?_eq_getElem hk] at this
  simpa using this
 clear h
 have inj:∀ i j (hi:i < cs.length) (hj:j < cs.length),i < j→bR l cs[i]≠bR l cs[j]:=by
  intro i j hi hj pg he;have h1:=(hk i hi).1;obtain ⟨q,hq⟩:=Int.eq_ofNat_of_zero_le h1
  have mO:q < l.length:=by have:=(bk (fun c=>aS c.name cs[i]) l).2;unfold bR at hq;omega
  have a1:=gN (fun c:eB=>aS c.name cs[i]) l q mO hq;have a2:=gN (fun c:eB=>aS c.name cs[j]) l q mO (he▸hq);have e:aS cs[i] cs[j]=true:=qr ((m9 _ _).trans a1) a2;have:=(hk j hj).2;unfold oX at this;rw [wl (fun c=>aS c cs[j]) (cs.take j) i (by simp;omega) (by simpa using e)] at this
  cases this
 have MP:((List.range cs.length).map fun i=>(bR l (cs.getD i ByteArray.empty)).toNat).Nodup:=by
  rw [List.nodup_iff_pairwise_ne,List.pairwise_map];refine List.Pairwise.imp_of_mem ?_ List.pairwise_lt_range;intro i j hi hj pg he;have hi':=List.mem_range.1 hi;have hj':=List.mem_range.1 hj
  have e1:cs.getD i ByteArray.empty=cs[i]:=by simp [List.getD,List.getElem?_eq_getElem hi']
  have e2:cs.getD j ByteArray.empty=cs[j]:=by simp [List.getD,List.getElem?_eq_getElem hj']
  rw [e1,e2] at he;have h1:=(hk i hi').1;have h2:=(hk j hj').1;exact inj i j hi' hj' pg (by omega)
 have aau:∀ u∈((List.range cs.length).map fun i=>(bR l (cs.getD i ByteArray.empty)).toNat),u∈List.range l.length:=by
  intro u hu;obtain ⟨i,hi,rfl⟩:=List.mem_map.1 hu;have hi':=List.mem_range.1 hi
  have e1:cs.getD i ByteArray.empty=cs[i]:=by simp [List.getD,List.getElem?_eq_getElem hi']
  rw [e1];have h1:=(hk i hi').1;have h2:=(bk (fun c=>aS c.name cs[i]) l).2;unfold bR at *;exact List.mem_range.2 (by omega)
 have:=MP.length_le_of_subset aau
 simpa using this
def cD (l:List eB) (cs:List ByteArray):List Int:=cs.filterMap fun s=>if 0≤bR l s then some (fl l (bR l s)) else none
theorem xS (l:List eB) (cs:List ByteArray) (k:Nat) (hk:k < cs.length):cD l (cs.take (k+1))=cD l (cs.take k)++if 0≤bR l cs[k] then [fl l (bR l cs[k])] else []:=by
 unfold cD;rw [List.take_succ_eq_append_getElem hk,List.filterMap_append]
 by_cases h:0≤bR l cs[k]<;>simp [h]
theorem jY (l:List eB) (cs:List ByteArray):(cD l cs).length≤cs.length:=List.length_filterMap_le _ _
theorem Sp:(Tryz.prog.info? 167).map (fun i=>(i.zero,i.size,i.bytes))=some (some (.int .i64 0),1,8):=by kernel_rfl
def GI (w:World) (ks:List Int) (e:Ending) (w':World):Prop:=∃ v,e=.returned v∧w'.ownsRow w.heap.size 167 1 v ks.length (ks.map (Value.int .i64))∧ag w w'
theorem GJ (A:Option Addr) (cap:Nat) (l:List eB) (A2:Option Addr) (bJ:Nat) (cs:List ByteArray) (w:World) (h:aA w 3 fG A cap l) (h2:aA w 1 dg A2 bJ cs) :
  Calls Tryz.prog 327 #[.slice A l.length cap,.slice A2 cs.length bJ] w (GI w (cD l cs)):=by
 have hlen:=h.len;have fq:=h2.len;obtain ⟨i0,hi,hz0,hz1,hz2⟩:=info_parts Sp;have HI:=gH hi;have kU:=gH hz0;have ki:=gH hz1;have kP:=gH hz2;clear hi hz0 hz1 hz2
 go_in
 go_wp2_with fail
 go_loopw [5,11] (fun v i wr=>∃ k:Nat,k≤cs.length∧i=.int .i64 k∧ag w wr∧wr.ownsRow w.heap.size 167 1 v (cD l (cs.take k)).length ((cD l (cs.take k)).map (Value.int .i64))) (fun _ i _=>cs.length - (intOf i).toNat)
 case atStart=>exact ⟨0,Nat.zero_le _,rfl,ag.refl _,cO _ _ _ _⟩
 case round =>
  rename_i v _;obtain ⟨k,hk,rfl,ha,hown⟩:=hrel;have HA:=gH ha;have HO:=gH hown;clear hown;by_cases hlt:k < cs.length
  ·have cM:=bW ha h
   have gK:=aO ha h2;clear ha;obtain ⟨b,off,rfl,hb,c0,lZ⟩:=er gK hlt;obtain ⟨i,hi⟩:∃ i,bR l cs[k]=i:=⟨_,rfl⟩
   have NN:=gH (show Calls Tryz.prog 286 #[.slice A l.length cap,.string cs[k],.func (.func 287) #[] #[]] wr fun e w'=>e=.returned (.int .i64 i)∧ag wr w' from
    (E4 A cap l cs[k] wr cM).mono fun e w' ⟨he,hw⟩=>⟨he.trans (by rw [← hi];rfl),hw⟩)
   have HS:=gH (xS l cs k hlt);by_cases kG:0≤i
   ·obtain ⟨q,hq⟩:=Int.eq_ofNat_of_zero_le kG
    subst hq
    have mO:q < l.length:=by have:=(bk (fun c=>aS c.name cs[k]) l).2;unfold bR at hi;omega
    obtain ⟨b2,DK,rfl,hb2,d0,d1,d2,Xg⟩:=ky cM mO;have HN:=gH (show cD l (cs.take (k+1))=cD l (cs.take k)++[l[q].kind] by rw [HS.out,hi,if_pos kG];simp [fl,List.getElem?_eq_getElem mO]);have pE:=jY l (cs.take k);have aaZ:(cs.take k).length≤k:=List.length_take_le _ _;clear hi cM gK HS;go_wp2_with fail;refine NN.out.mono ?_;rintro e w1 ⟨rfl,a1⟩;have cT:=gH (HA.out.trans a1);have LB:=gH (cj HO.out a1);have d1':=(Below.cell a1 (p:=⟨b2,DK+q*3+1,none⟩) hb2).trans d1;clear a1 d0 d1 d2 c0
    go_wp2_with (at_builtin;refine wpList_append_own _ rfl (.tmp 20) (.tmp 26) 356 rfl w.heap.size 167 i0 (.int .i64 0) 1 8 Tryz.underlying356 HI.out kU.out ki.out kP.out rfl (by decide) _ _ _ rfl (LB.out.alloc _) ⟨w1.heap.size,0,none⟩ 1 1 [.int .i64 l[q].kind] rfl rfl ?c1 ?c2 ?c3 ?c4 ?c5 ?_)
    case c1=>exact cell_one_new _ _ _
    case c2=>simp [Value.oneCell']
    case c3=>unfold maxLen;omega
    case c4=>omega
    case c5=>have:=cT.out.size;simp;omega
    intro v' w2 hown' hgrow _;have iy:=gH (nB (LB.out.alloc _) (cT.out.alloc _) hgrow);have NP:=gH hown';clear hown' hgrow;go_wp2
    go_roundw
    case rel=>exact ⟨k+1,by omega,by go_num,iy.out,by rw [HN.out];simpa using NP.out⟩
    case measure=>simp [intOf];omega
   ·have HN:=gH (show cD l (cs.take (k+1))=cD l (cs.take k) by rw [HS.out,hi,if_neg kG,List.append_nil])
    clear hi cM gK HS;go_wp2_with fail;refine NN.out.mono ?_;rintro e w1 ⟨rfl,a1⟩;have cT:=gH (HA.out.trans a1);have LB:=gH (cj HO.out a1);clear a1;go_wp2
    go_roundw
    case rel=>exact ⟨k+1,by omega,by go_num,cT.out,by rw [HN.out];exact LB.out⟩
    case measure=>simp [intOf];omega
  ·clear ha
   go_wp2;go_ret;have e1:cs.take k=cs:=List.take_of_length_le (by omega);have ho:=HO.out;rw [e1] at ho;exact ⟨_,rfl,ho,HA.out⟩
def bp (l:List cp) (s n:ByteArray):Int:=bD (fun t=>aS t.ac s&&aS t.name n) l
theorem Sq (ac name owner:ByteArray) (A0:Option Addr) (n0 c0:Nat) (A1:Option Addr) (n1 c1:Nat) (s n:ByteArray) (b1 b2:Nat) (w:World) (hb1:b1 < w.heap.size) (hb2:b2 < w.heap.size) (hc1:w.cell? ⟨b1,0,none⟩=some (.string s)) (hc2:w.cell? ⟨b2,0,none⟩=some (.string n)) :
  Calls Tryz.prog 186 #[.agg #[.string ac,.string name,.string owner,.slice A0 n0 c0,.slice A1 n1 c1],.pointer (some ⟨b1,0,none⟩),.pointer (some ⟨b2,0,none⟩)] w fun e w'=>e=.returned (.bool (aS ac s&&aS name n))∧ag w w':=by
 cases h1:aS ac s
 ·have yD:(ac.toList==s.toList)=false:=h1
  clear h1
  go_in
  go_wp2;go_ret;exact ⟨rfl,(ag.refl _).alloc _⟩
 ·have yD:(ac.toList==s.toList)=true:=h1
  clear h1
  go_in
  go_wp2;go_ret;exact ⟨rfl,(ag.refl _).alloc _⟩
theorem GK {w w':World} {c:Array Value} {a b:Value} {t ta tb:TypeId} (h:ag (((w.alloc (.cells c t)).alloc (.cells #[a] ta)).alloc (.cells #[b] tb)) w') :
  w'.cell? ⟨w.heap.size+1,0,none⟩=some a∧w'.cell? ⟨w.heap.size+1+1,0,none⟩=some b∧w.heap.size+1 < w'.heap.size∧w.heap.size+1+1 < w'.heap.size:=by
 have:=sr (w:=w.alloc (.cells c t)) h
 simpa using this
theorem wD (vs:Value) (A:Option Addr) (cap:Nat) (l:List cp) (s n:ByteArray) (w:World) (h:aA w 5 dE A cap l) :
  Calls Tryz.prog 112 #[.agg #[vs,.slice A l.length cap],.string s,.string n] w fun e w'=>e=.returned (.tuple #[.int .i64 (bp l s n),.bool (decide (0≤bp l s n))])∧ag w w':=by
 have dc:=enters (P:=Tryz.prog) Tryz.func186 (by kernel_rfl) rfl;obtain ⟨i,hi⟩:∃ i,bp l s n=i:=⟨_,rfl⟩
 have C:=gH ((Bv A cap l 186 #[.pointer (some ⟨w.heap.size+1,0,none⟩),.pointer (some ⟨w.heap.size+1+1,0,none⟩)] (fun t=>aS t.ac s&&aS t.name n) (((w.alloc (.cells #[vs,.slice A l.length cap] 25)).alloc (.cells #[.string s] 9)).alloc (.cells #[.string n] 9)) (br ((((ag.refl w).alloc _).alloc _).alloc _) h) dc (fun w' ha j hj e1 he=>by
  obtain ⟨A2,bJ,A3,fN,rfl,_⟩:=he;obtain ⟨d1,d2,z1,z2⟩:=GK ha
  exact Sq _ _ _ A2 _ bJ A3 _ fN s n (w.heap.size+1) (w.heap.size+1+1) w' z1 z2 d1 d2)).mono (fun e w' ⟨he,hw⟩=>(⟨he.trans (by rw [← hi];rfl),hw⟩:e=Ending.returned (Value.int .i64 i)∧ag _ w')))
 rw [hi];clear hi
 go_in
 go_wp2_with fail;refine C.out.mono ?_;rintro e w1 ⟨rfl,a1⟩;have HA:=gH (((((ag.refl w).alloc _).alloc _).alloc _).trans a1);clear a1;go_wp2
 go_ret2
 exact ⟨rfl,HA.out⟩
def within (l:List cp) (s:ByteArray):Nat:=(l.filter fun t=>aS t.ac s).length
theorem rC (l:List cp) (s:ByteArray) (k:Nat) (hk:k < l.length):within (l.take (k+1)) s=within (l.take k) s+if aS l[k].ac s=true then 1 else 0:=by
 unfold within;rw [List.take_succ_eq_append_getElem hk,List.filter_append,List.length_append]
 by_cases h:aS l[k].ac s=true<;>simp [h]
theorem qK (l:List cp) (s:ByteArray):within l s≤l.length:=List.length_filter_le _ _
theorem td (vs:Value) (A:Option Addr) (cap:Nat) (l:List cp) (s:ByteArray) (w:World) (h:aA w 5 dE A cap l) :
  Calls Tryz.prog 183 #[.agg #[vs,.slice A l.length cap],.string s] w fun e w'=>e=.returned (.int .i64 (within l s))∧ag w w':=by
 have hlen:=h.len
 go_in
 go_wp2_with fail
 go_loopw [5,11] (fun n i wr=>∃ k:Nat,k≤l.length∧i=.int .i64 k∧n=.int .i64 (within (l.take k) s)∧ag w wr) (fun _ i _=>l.length - (intOf i).toNat)
 case atStart=>exact ⟨0,Nat.zero_le _,rfl,rfl,(ag.refl _).alloc _⟩
 case round =>
  obtain ⟨k,hk,rfl,rfl,ha⟩:=hrel;have HA:=gH ha;have hw:=qK (l.take k) s;have hw2:(l.take k).length≤k:=List.length_take_le _ _;by_cases hlt:k < l.length
  ·have cM:=br ha h
   clear ha;obtain ⟨b,off,A2,bJ,A3,fN,rfl,hb,c0,c1,c2,c3,c4,hs⟩:=fh cM hlt;clear cM hs;have HS:=gH (rC l s k hlt)
   cases heq:aS l[k].ac s
   ·have h2:(l[k].ac.toList==s.toList)=false:=heq
    have HN:=gH (show within (l.take (k+1)) s=within (l.take k) s by rw [HS.out,heq];simp);clear heq HS;go_wp2
    go_roundw
    case rel=>exact ⟨k+1,by omega,by go_num,by rw [HN.out],HA.out.alloc _⟩
    case measure=>simp [intOf];omega
   ·have h2:(l[k].ac.toList==s.toList)=true:=heq
    have HN:=gH (show within (l.take (k+1)) s=within (l.take k) s+1 by rw [HS.out,heq];simp);clear heq HS;go_wp2
    go_roundw
    case rel=>exact ⟨k+1,by omega,by go_num,by rw [HN.out];go_num,HA.out.alloc _⟩
    case measure=>simp [intOf];omega
  ·clear ha
   go_wp2;go_ret;exact ⟨by rw [List.take_of_length_le (by omega)];rfl,HA.out⟩
theorem KN (l:List ByteArray) (s:ByteArray):oX l s=true↔0≤bD (fun c=>aS c s) l:=by
 induction l with
 | nil=>simp [oX,bD]
 | cons x l ih =>
  unfold oX at ih ⊢;rw [List.any_cons,Bool.or_eq_true,ih];simp only [bD];by_cases hx:aS x s=true
  ·rw [if_pos hx];simp [hx]
  ·rw [if_neg hx]
   by_cases hy:bD (fun c=>aS c s) l < 0
   ·rw [if_pos hy]
    constructor
    ·intro h;rcases h with h | h
     ·exact absurd h hx
     ·omega
    ·intro h;omega
   ·rw [if_neg hy]
    constructor
    ·intro h;omega
    ·intro h;right;omega
theorem AD (l:List ByteArray) (s:ByteArray):oX l s=decide (0≤bD (fun c=>aS c s) l):=by
 rw [Bool.eq_iff_iff,KN];simp
theorem KO (A:Option Addr) (cap:Nat) (l:List eB) (r:fF) (A2:Option Addr) (bJ:Nat) (w:World) (h:aA w 3 fG A cap l) (h2:aA w 1 dg A2 bJ r.av)
  (hn:Small r.name.size) (hs:Small r.ac.size) (ht:Small r.table.size) (pV:Small r.key.size) :
  Calls Tryz.prog 249 #[.slice A l.length cap,.agg #[.string r.name,.int .i64 r.kind,.slice A2 r.av.length bJ,.int .i64 r.low,.int .i64 r.high,.string r.ac,.string r.table,.string r.key]] w
   fun e w'=>e=.returned (.bool (cK l r))∧ag w w':=by
 obtain ⟨name,kind,cs,low,high,ac,table,key⟩:=r;simp only at h2 hn hs ht pV ⊢;have hlen:=h.len;have fq:=h2.len
 cases hN:bA name
 ·have HF:=gH (show cK l ⟨name,kind,cs,low,high,ac,table,key⟩=false by simp [cK,hN])
  go_in
  go_wp2_with (go_at_call 107;refine (cI _ _ (by first | exact hn.max | exact hs.max | exact ht.max | exact pV.max)).mono ?_;rintro e w' ⟨rfl,rfl⟩)
  go_ret;exact ⟨by rw [HF.out];rfl,(ag.refl _).alloc _⟩
 by_cases hz0:cs.length < 1
 ·have HF:=gH (show cK l ⟨name,kind,cs,low,high,ac,table,key⟩=false by
   have:cs.length=0:=by omega
   simp [cK,this])
  go_in
  go_wp2_with (go_at_call 107;refine (cI _ _ (by first | exact hn.max | exact hs.max | exact ht.max | exact pV.max)).mono ?_;rintro e w' ⟨rfl,rfl⟩)
  go_ret;exact ⟨by rw [HF.out];rfl,(ag.refl _).alloc _⟩
 by_cases hzl:l.length < cs.length
 ·have HF:=gH (show cK l ⟨name,kind,cs,low,high,ac,table,key⟩=false by
   have:tq l cs=false:=by
    cases qZ:tq l cs with
    | false=>rfl
    | true=>have:=KM l cs qZ;omega
   simp [cK,this])
  have sw:1≤cs.length:=by omega
  clear hz0
  go_in
  go_wp2_with (go_at_call 107;refine (cI _ _ (by first | exact hn.max | exact hs.max | exact ht.max | exact pV.max)).mono ?_;rintro e w' ⟨rfl,rfl⟩)
  go_ret;exact ⟨by rw [HF.out];rfl,(ag.refl _).alloc _⟩
 have sw:1≤cs.length:=by omega
 have rS:cs.length≤l.length:=by omega
 have bb1:decide ((cs.length:Int) < 1)=false:=decide_eq_false (by omega);have bb2:decide (l.length < cs.length)=false:=decide_eq_false (by omega);have bb3:decide ((l.length:Int) < (cs.length:Int))=false:=decide_eq_false (by omega);clear hz0 hzl
 go_in
 go_wp2_with (go_at_call 107;refine (cI _ _ (by first | exact hn.max | exact hs.max | exact ht.max | exact pV.max)).mono ?_;rintro e w' ⟨rfl,rfl⟩)
 go_loopw [29] (fun i wr=>∃ k:Nat,k≤cs.length∧i=.int .i64 k∧ag (w.alloc (.cells #[.string name,.int .i64 kind,.slice A2 cs.length bJ,.int .i64 low,.int .i64 high,.string ac,.string table,.string key] 42)) wr∧∀ j,j < k→∀ (hj:j < cs.length),(decide (0≤bR l cs[j])&&!(oX (cs.take j) cs[j]))=true) (fun i _=>cs.length - (intOf i).toNat)
 case atStart=>exact ⟨0,Nat.zero_le _,rfl,ag.refl _,fun j hj=>absurd hj (Nat.not_lt_zero j)⟩
 case round =>
  obtain ⟨k,hk,rfl,ha,hp⟩:=hrel;obtain ⟨fH,ly,hz,mr,HA⟩:=cz ha;have gj:=gH ha;have HP:=gH hp;clear hp;have cM:=bW HA.out h;have gK:=aO HA.out h2;clear ha;by_cases hlt:k < cs.length
  ·obtain ⟨b,off,rfl,hb,c0,lZ⟩:=er gK hlt
   obtain ⟨i,hi⟩:∃ i,bR l cs[k]=i:=⟨_,rfl⟩;obtain ⟨m,hm⟩:∃ m,bD (fun c=>aS c cs[k]) cs=m:=⟨_,rfl⟩
   have NN:=gH (show Calls Tryz.prog 286 #[.slice A l.length cap,.string cs[k],.func (.func 287) #[] #[]] wr fun e w'=>e=.returned (.int .i64 i)∧ag wr w' from
    (E4 A cap l cs[k] wr cM).mono fun e w' ⟨he,hw⟩=>⟨he.trans (by rw [← hi];rfl),hw⟩)
   have Xi:=gH (show ∀ w',ag wr w'→Calls Tryz.prog 109 #[.slice (some ⟨b,off,none⟩) cs.length bJ,.string cs[k]] w' fun e w''=>e=.returned (.int .i64 m)∧w'=w'' from
    fun w' ha'=>(Aw _ bJ cs cs[k] w' (aO ha' gK)).mono fun e w'' ⟨he,hw⟩=>⟨he.trans (by rw [← hm]),hw⟩)
   have HI:=gH hi;have HM:=gH hm;clear hi hm cM gK;by_cases kG:i < 0
   ·go_wp2_with fail
    refine NN.out.mono ?_;rintro e w1 ⟨rfl,a1⟩;have cT:=gH (HA.out.trans a1);clear a1;go_wp2;go_ret;exact ⟨by rw [show cK l ⟨name,kind,cs,low,high,ac,table,key⟩=false by unfold cK;rw [lU l cs k hlt (by rw [HI.out,decide_eq_false (by omega)];rfl)];rfl];rfl,cT.out⟩
   ·have kj:0≤i:=by omega
    have hd:decide (i < 0)=false:=decide_eq_false kG;by_cases ND:m=k
    ·have e1:(m != (k:Int))=false:=by simp [ND]
     have HMK:=gH ND;clear ND;go_wp2_with fail;refine NN.out.mono ?_;rintro e w1 ⟨rfl,a1⟩;obtain ⟨Xj,aav,hz1,aaw,cT⟩:=cz (gj.out.trans a1);have aax:=gH (gj.out.trans a1);have HW1:=gH a1;clear a1 fH ly hz mr;go_wp2_with fail;refine (Xi.out _ HW1.out).mono ?_;rintro e w2 ⟨rfl,rfl⟩;go_wp2
     go_roundw
     case rel =>
      refine ⟨k+1,by omega,by go_num,aax.out,bC (p:=fun j=>∀ (hj:j < cs.length),(decide (0≤bR l cs[j])&&!(oX (cs.take j) cs[j]))=true) HP.out (fun _=>?_)⟩;rw [HI.out,decide_eq_true kj,AD,decide_eq_false]
      ·rfl
      ·intro h0
       have q1:=(wC (fun c=>aS c cs[k]) cs k hlt h0).1;have q2:=HM.out;have q3:=HMK.out;omega
     case measure=>simp [intOf];omega
    ·have e1:(m != (k:Int))=true:=by rw [bne_iff_ne];exact ND
     have HMK:=gH ND;clear ND;go_wp2_with fail;refine NN.out.mono ?_;rintro e w1 ⟨rfl,a1⟩;obtain ⟨Xj,aav,hz1,aaw,cT⟩:=cz (gj.out.trans a1);have HW1:=gH a1;clear a1 fH ly hz mr;go_wp2_with fail;refine (Xi.out _ HW1.out).mono ?_;rintro e w2 ⟨rfl,rfl⟩;go_wp2;go_ret
     have hf:(decide (0≤bR l cs[k])&&!(oX (cs.take k) cs[k]))=false:=by
      rw [AD,decide_eq_true (p:=0≤bD (fun c=>aS c cs[k]) (cs.take k)),Bool.not_true,Bool.and_false]
      refine Int.not_lt.1 fun h0=>?_
      exact HMK.out (HM.out.symm.trans (AB (fun c=>aS c cs[k]) cs k hlt (cZ _) h0))
     exact ⟨by rw [show cK l ⟨name,kind,cs,low,high,ac,table,key⟩=false by unfold cK;rw [lU l cs k hlt hf];rfl];rfl,cT.out⟩
  ·have qZ:=wy l cs (fun j hj hj'=>HP.out j (by omega) hj')
   have HF:=gH (show cK l ⟨name,kind,cs,low,high,ac,table,key⟩=eR l ⟨name,kind,cs,low,high,ac,table,key⟩ by
    have:¬ cs.length=0:=by omega
    simp [cK,qZ,hN,this])
   have hc0:0≤bR l cs[0]:=by have:=HP.out 0 (by omega) sw;simp at this;exact this.1
   clear qZ
   have z1:ac.size+table.size≤9223372036854775807:=by unfold Small at *;omega
   have z2:ac.size+table.size+key.size≤9223372036854775807:=by unfold Small at *;omega
   by_cases k1:kind=1
   ·subst k1
    go_wp2_with (go_at_call 107;refine (cI _ _ (by first | exact hn.max | exact hs.max | exact ht.max | exact pV.max)).mono ?_;rintro e w' ⟨rfl,rfl⟩)
    all_goals
     go_ret;refine ⟨Eq.trans (b:=.returned (.bool _)) rfl (cP (bZ ?_)),HA.out⟩;rw [HF.out];clear HF HA gj HP fH ly hz mr cM gK h h2
     simp_all [eR,emp,iY]
   by_cases k2:kind=2
   ·subst k2
    go_wp2_with (go_at_call 107;refine (cI _ _ (by first | exact hn.max | exact hs.max | exact ht.max | exact pV.max)).mono ?_;rintro e w' ⟨rfl,rfl⟩)
    all_goals
     go_ret;refine ⟨Eq.trans (b:=.returned (.bool _)) rfl (cP (bZ ?_)),HA.out⟩;rw [HF.out];clear HF HA gj HP fH ly hz mr cM gK h h2
     simp_all [eR,emp,iY]
   by_cases k4:kind=4
   ·subst k4
    go_wp2_with (go_at_call 107;refine (cI _ _ (by first | exact hn.max | exact hs.max | exact ht.max | exact pV.max)).mono ?_;rintro e w' ⟨rfl,rfl⟩)
    all_goals
     go_ret;refine ⟨Eq.trans (b:=.returned (.bool _)) rfl (cP (bZ ?_)),HA.out⟩;rw [HF.out];clear HF HA gj HP fH ly hz mr cM gK h h2
     simp_all [eR]
   by_cases k3:kind=3
   ·subst k3
    obtain ⟨q,hq⟩:=Int.eq_ofNat_of_zero_le hc0
    have mO:q < l.length:=by have:=(bk (fun c=>aS c.name cs[0]) l).2;unfold bR at hq;omega
    obtain ⟨b,off,rfl,hb,c0,lZ⟩:=er gK sw;obtain ⟨b2,DK,rfl,hb2,d0,d1,d2,Xg⟩:=ky cM mO
    have c0':wr.cell? ⟨b,off,none⟩=some (.string cs[0]):=by simpa using c0
    have qJ:=gH (show Calls Tryz.prog 286 #[.slice (some ⟨b2,DK,none⟩) l.length cap,.string cs[0],.func (.func 287) #[] #[]] wr fun e w'=>e=.returned (.int .i64 q)∧ag wr w' from
     (E4 _ cap l cs[0] wr cM).mono fun e w' ⟨he,hw⟩=>⟨he.trans (by rw [← show bR l cs[0]=(q:Int) from hq];rfl),hw⟩)
    have HK:=gH (show fl l (bR l (cs.headD ByteArray.empty))=l[q].kind by
     have e1:cs.headD ByteArray.empty=cs[0]:=by cases cs with | nil=>simp at sw | cons a t=>rfl
     rw [e1,hq];simp [fl,List.getElem?_eq_getElem mO])
    have nU:=HA;clear hc0 hq c0
    go_wp2_with (first | (go_at_call 107;refine (cI _ _ (by first | exact hn.max | exact hs.max | exact ht.max | exact pV.max)).mono ?_;rintro e w' ⟨rfl,rfl⟩) | (go_at_call 286;refine qJ.out.mono ?_;rintro e w2 ⟨rfl,a2⟩;obtain ⟨VB,Zm,hz2,Zn,iy⟩:=cz (gj.out.trans a2);have d1':=(Below.cell a2 (p:=⟨b2,DK+q*3+1,none⟩) hb2).trans d1;clear a2 fH ly hz mr c0' d0 d1 d2 HA))
    all_goals
     go_ret;refine ⟨Eq.trans (b:=.returned (.bool _)) rfl (cP (bZ ?_)),by first | exact iy.out | exact nU.out⟩;rw [HF.out];have nV:=HK.out;clear HF nU gj HP cM gK h h2 HK qJ
     simp_all [eR,emp,iY]
   ·have q1:(kind==1)=false:=by simp [k1]
    have q2:(kind==2)=false:=by simp [k2]
    have q3:(kind==3)=false:=by simp [k3]
    have q4:(kind==4)=false:=by simp [k4]
    go_wp2_with (go_at_call 107;refine (cI _ _ (by first | exact hn.max | exact hs.max | exact ht.max | exact pV.max)).mono ?_;rintro e w' ⟨rfl,rfl⟩)
    all_goals
     go_ret;refine ⟨Eq.trans (b:=.returned (.bool _)) rfl (cP (bZ ?_)),HA.out⟩;rw [HF.out];clear HF HA gj HP fH ly hz mr cM gK h h2
     simp_all [eR]
def l8 (l:List eB) (l2:List eB) (a b:ByteArray):Bool:=decide (0≤bR l a)&&decide (0≤bR l2 b)&&(fl l (bR l a)==fl l2 (bR l2 b))
def dm (l:List eB) (l2:List eB):List ByteArray→List ByteArray→Bool
 | [],[]=>true
 | a::xs,b::ys=>l8 l l2 a b&&dm l l2 xs ys
 | _,_=>false
theorem pZ (l:List eB) (a:ByteArray) (cs:List ByteArray):cD l (a::cs)=if 0≤bR l a then fl l (bR l a)::cD l cs else cD l cs:=by
 unfold cD
 by_cases h:0≤bR l a<;>simp [h]
theorem lV (l l2:List eB):∀ (cs iv:List ByteArray),dm l l2 cs iv=(decide (iv.length=cs.length)&&decide ((cD l2 iv).length=iv.length)&&decide (cD l cs=cD l2 iv))
 | [],[]=>by simp [dm,cD]
 | [],b::ys=>by simp [dm]
 | a::xs,[]=>by simp [dm]
 | a::xs,b::ys=>by
  have ih:=lV l l2 xs ys;have hb:=jY l2 ys;have ha:=jY l xs;rw [dm,ih,pZ,pZ];unfold l8;by_cases h1:0≤bR l a
  ·by_cases h2:0≤bR l2 b
   ·by_cases h3:fl l (bR l a)=fl l2 (bR l2 b)<;>simp [h1,h2,h3]
   ·have h4:¬ (cD l2 ys).length=ys.length+1:=by omega
    simp [h1,h2,h4]
  ·by_cases h2:0≤bR l2 b
   ·rw [if_neg h1,if_pos h2]
    simp only [h1,decide_false,Bool.false_and]
    symm
    rw [Bool.eq_false_iff];intro h;simp only [Bool.and_eq_true,decide_eq_true_eq,List.length_cons] at h;obtain ⟨⟨e1,e2⟩,e3⟩:=h;have:=congrArg List.length e3;simp only [List.length_cons] at this;omega
   ·have h4:¬ (cD l2 ys).length=ys.length+1:=by omega
    simp [h1,h2,h4]
theorem p9 (l l2:List eB):∀ (cs iv:List ByteArray),iv.length=cs.length→(∀ k (h:k < cs.length) (h2:k < iv.length),l8 l l2 cs[k] iv[k]=true)→dm l l2 cs iv=true
 | [],[],_,_=>rfl
 | [],b::ys,h,_=>by simp at h
 | a::xs,[],h,_=>by simp at h
 | a::xs,b::ys,h,hp=>by
  have h0:=hp 0 (by simp) (by simp);simp only [List.getElem_cons_zero] at h0;rw [dm,h0,p9 l l2 xs ys (by simpa using h) (fun k h1 h2=>hp (k+1) (Nat.succ_lt_succ h1) (Nat.succ_lt_succ h2))];rfl
theorem rD (l l2:List eB):∀ (cs iv:List ByteArray),dm l l2 cs iv=true→∀ k (h:k < cs.length) (h2:k < iv.length),l8 l l2 cs[k] iv[k]=true
 | [],_,_,k,h,_=>by simp at h
 | a::xs,[],_,k,_,h=>by simp at h
 | a::xs,b::ys,h,k,h1,h2=>by
  rw [dm,Bool.and_eq_true] at h
  cases k with
  | zero=>exact h.1
  | succ k=>exact rD l l2 xs ys h.2 k (by simpa using h1) (by simpa using h2)
theorem AE (l l2:List eB) (cs iv:List ByteArray) (h:¬ iv.length=cs.length):dm l l2 cs iv=false:=by rw [lV];simp [h]
theorem kM (l l2:List eB) (cs iv:List ByteArray) (k:Nat) (h:k < cs.length) (h2:k < iv.length) (hp:l8 l l2 cs[k] iv[k]=false):dm l l2 cs iv=false:=by
 rw [Bool.eq_false_iff];intro ha;rw [rD l l2 cs iv ha k h h2] at hp;cases hp
def fL (l:List fF) (s:ByteArray):Int:=bD (fun c=>aS c.name s) l
def cy (l:List fJ) (s:ByteArray):Int:=bD (fun c=>aS c.name s) l
def j9 (t:cp) (l:List eB) (r:fF):Int :=
 match t.rules[(fL t.rules r.key).toNat]? with
 | some q=>if fL t.rules r.key < 0 then 61 else if q.kind==2 then (if dm l t.av r.av q.av then 0 else 63) else 61
 | none=>61
def lO (ts:List cp) (l:List eB) (r:fF):Int :=
 match ts[(bp ts r.ac r.table).toNat]? with
 | some t=>if bp ts r.ac r.table < 0 then 61 else j9 t l r
 | none=>61
def ey (ts:List cp) (l:List eB) (r:fF):Bool:=cK l r&&!(r.kind==4&&lO ts l r != 0)
def bP (o:bF) (t:cp):Bool :=
 bA t.name&&bA t.owner&&eY t.av&&decide (t.rules.length≤8)&&decide (0≤cy o.aa t.ac)&&(t.rules.all (ey o.tables t.av)&&aM (fun a b=>aT a.name b.name) t.rules)
def iB (o:bF) (s:fJ):Bool:=bA s.name&&bA s.owner&&decide (within o.tables s.name≤8)
def lL (o:bF):Bool:=decide (o.aa.length≤8)&&decide (o.tables.length≤64)&&aM (fun a b=>eO (aT a.ac b.ac) (aT a.name b.name)) o.tables&&aM (fun a b=>aT a.name b.name) o.aa
def bw (o:bF):Bool:=lL o&&(o.aa.all (iB o)&&o.tables.all (bP o))
def Wd (t:cp):Prop:=t.av.length≤1000000∧t.rules.length≤1000000∧∀ r∈t.rules,r.av.length≤1000000
theorem jB {W:World} {b:Nat} {a c d e f:Value} (h:au W b [a,c,d,e,f]):(loadVar 80 ⟨b,0,none⟩).run Tryz.prog W=.ok (.agg #[a,c,d,e,f]) W:=by
 obtain ⟨e0,e1,e2,e3,e4⟩:=rI h;have h1:=Fb W b 0 (by rw [e0];rfl) (by rw [e1];rfl) (by rw [e2];rfl) (by rw [e3];rfl) (by rw [e4];rfl);rw [e0,e1,e2,e3,e4] at h1;exact h1
theorem aU {w W:World} {c:List Value} {t:TypeId} (h:ag (w.alloc (.cells c.toArray t)) W):au W w.heap.size c:=by
 obtain ⟨hb,hf,hz,_,_⟩:=cz h;exact ⟨hz.1,fun j hj=>by rw [hb];simp,fun j _=>hf j⟩
theorem au.Q8 {w:World} {b:Nat} {xs:List Value} (h:au w b xs) {g:Nat} (hne:g≠b) (j:Nat) (v:Value):au (w.setCell ⟨g,j,none⟩ v) b xs:=(Kb.set w g j v).row h (fun e=>hne e.symm)
structure ud (w wr:World) (t:cp) (hc hr:Hd) (L0 L:List gc) (k:Nat):Prop where
 aH:ag w wr
 box:au wr w.heap.size [.string t.ac,.string t.name,.string t.owner,.slice hc.a t.av.length hc.c,.slice hr.a t.rules.length hr.c]
 out:au wr (w.heap.size+1) [.string ⟨#[]⟩,.string ⟨#[]⟩,.string ⟨#[]⟩,.slice none 0 0,.slice none 0 0]
 Bo:wr.ownsRow (w.heap.size+2) 169 3 hc.v t.av.length (t.av.flatMap Fi)
 yq:wr.ownsRow (w.heap.size+2) 42 8 hr.v t.rules.length ((L++L0.drop k).flatMap gc.cells)
 len:L.length=k
 is:L.map (·.r)=t.rules.take k
 each:∀ x∈L,nk wr (w.heap.size+2) x
 nd:(hc.blk++(hr.blk++L.flatMap (·.h.blk))).Nodup
theorem ud.lt {w wr:World} {t:cp} {hc hr:Hd} {L0 L:List gc} {k:Nat} (s:ud w wr t hc hr L0 L k):∀ g∈hc.blk++(hr.blk++L.flatMap (·.h.blk)),w.heap.size+2≤g∧g < wr.heap.size:=by
 intro g hg;simp only [List.mem_append,List.mem_flatMap] at hg
 rcases hg with hg | hg | ⟨r,hr,hg⟩
 ·exact gy s.Bo g hg
 ·exact gy s.yq g hg
 ·exact gy (s.each r hr).j0 g hg
theorem ud.step {w wr w4:World} {t:cp} {hc hr h4:Hd} {L0 L:List gc} {k gr:Nat} (s:ud w wr t hc hr L0 L k) (h0:L0.map (·.r)=t.rules) (hk:k < t.rules.length) (hgr:hr.a=some ⟨gr,0,none⟩)
  (a4:ag wr w4) (pQ:w4.ownsRow wr.heap.size 9 1 h4.v t.rules[k].av.length (t.rules[k].av.flatMap bT)):ud w (w4.setCell ⟨gr,k*8+2,none⟩ h4.v) t hc hr L0 (L++[⟨t.rules[k],h4⟩]) (k+1):=by
 have Ra:L0.length=t.rules.length:=by rw [← h0];simp
 have hgb:gr∈hr.blk:=by rw [Hd.bu];unfold Hd.v;rw [hgr];rfl
 have hlt:=s.lt;have hg:=hlt gr (by simp [hgb]);have kb:=Kb.set w4 gr (k*8+2) h4.v;have ka:Kb (fun x=>x=gr) wr (w4.setCell ⟨gr,k*8+2,none⟩ h4.v):=(Kb.bl a4).trans kb;have MP:=s.nd
 have hz:wr.heap.size≤w.heap.size+2∨w.heap.size+2≤wr.heap.size:=by omega
 have ZN:∀ g∈hc.blk,¬ g=gr:=fun g LA e=>by
  subst e;exact (List.nodup_append.1 MP).2.2 g LA g (by simp [hgb]) rfl
 have ZO:∀ x∈L,∀ g∈x.h.blk,¬ g=gr:=fun x hx g LA e=>by
  subst e;exact (List.nodup_append.1 (List.nodup_append.1 MP).2.1).2.2 g hgb g (by simp only [List.mem_flatMap];exact ⟨x,hx,LA⟩) rfl
 refine ⟨ka.aN s.aH (fun x hx e=>by omega),ka.row s.box (by omega),ka.row s.out (by omega),bB s.Bo ka fun g hgo=>ZN g (Hd.bu.2 hgo),?_,by simp [s.len],?_,?_,?_⟩
 ·have h1:=lB (cj s.yq a4) (Hd.bu.1 hgb) (k*8+2) h4.v
  have pE:k < (L++L0.drop k).length:=by simp [s.len];omega
  have xG:(L++L0.drop k)[k]=L0[k]'(by omega):=by
   rw [List.getElem_append_right (by rw [s.len];exact Nat.le_refl _)];simp [s.len]
  have qT:(L0[k]'(by omega)).r=t.rules[k]:=by
   have:(L0.map (·.r))[k]'(by simpa using (by omega:k < L0.length))=t.rules[k]:=by simp only [h0]
   simpa using this
  rw [i9 (size:=8) (fun _=>rfl) (L++L0.drop k) k 2 pE (by decide) h4.v ⟨t.rules[k],h4⟩ (by rw [xG];unfold gc.cells Fj;rw [qT];rfl)] at h1
  have uG:(L++L0.drop k).set k ⟨t.rules[k],h4⟩=(L++[⟨t.rules[k],h4⟩])++L0.drop (k+1):=by
   have hd:L0.drop k=L0[k]'(by omega)::L0.drop (k+1):=List.drop_eq_getElem_cons (by omega:k < L0.length);rw [List.set_append_right _ _ (by rw [s.len];exact Nat.le_refl _),s.len,Nat.sub_self,hd];simp only [List.set_cons_zero,List.append_assoc,List.cons_append,List.nil_append]
  rw [uG] at h1;exact h1
 ·rw [List.map_append,s.is,List.take_succ_eq_append_getElem hk];rfl
 ·intro x hx
  simp only [List.mem_append,List.mem_singleton] at hx
  rcases hx with hx | rfl
  ·exact (s.each x hx).kb ka fun g hgo=>ZO x hx g hgo
  ·exact ⟨bS (bB pQ kb fun g hgo e=>by have:=(pQ.lt g hgo).1;omega) (by have:=s.out.1;omega)⟩
 ·have e:hc.blk++(hr.blk++(L++[gc.mk t.rules[k] h4]).flatMap (·.h.blk))=(hc.blk++(hr.blk++L.flatMap (·.h.blk)))++h4.blk:=by simp [List.append_assoc]
  rw [e];exact jU MP (fC h4) (fun g hg=>(hlt g hg).2) (fun g hg=>(gy pQ g hg).1)
theorem wE (t:cp) (A:Option Addr) (cap:Nat) (A2:Option Addr) (bJ:Nat) (w:World) (h:aA w 3 fG A cap t.av) (h2:aA w 8 fc A2 bJ t.rules) (hm:Wd t) :
  Calls Tryz.prog 113 #[.agg #[.string t.ac,.string t.name,.string t.owner,.slice A t.av.length cap,.slice A2 t.rules.length bJ]] w (Wx w t):=by
 have hlen:=h.len;have fq:=h2.len;have C1:=gH (show ∀ w',ag w w'→_ from fun w' a=>vS A cap t.av w w' a h hm.1);have C2:=gH (show ∀ w',ag w w'→_ from fun w' a=>vT A2 bJ t.rules w w' a h2 hm.2.1)
 have l1:w.heap.size < w.heap.size+1:=by omega
 have l2:w.heap.size < w.heap.size+1+1:=by omega
 go_in
 go_wp2_with fail;refine (C1.out _ (((ag.refl w).alloc _).alloc _)).mono ?_;rintro e w1 ⟨v1,Wb,rfl,a1,kI,Pk⟩;have r1:au w1 w.heap.size [.string t.ac,.string t.name,.string t.owner,.slice A t.av.length cap,.slice A2 t.rules.length bJ]:=(aU (ag.refl _)).aH (((ag.refl _).alloc _).trans a1)
 have r2:au w1 (w.heap.size+1) [.string ⟨#[]⟩,.string ⟨#[]⟩,.string ⟨#[]⟩,.slice none 0 0,.slice none 0 0]:=by
  have:=(aU (w:=w.alloc (.cells #[.string t.ac,.string t.name,.string t.owner,.slice A t.av.length cap,.slice A2 t.rules.length bJ] 80)) (c:=[.string ⟨#[]⟩,.string ⟨#[]⟩,.string ⟨#[]⟩,.slice none 0 0,.slice none 0 0]) (t:=80) (ag.refl _)).aH a1
  simpa using this
 have cT:=gH ((((ag.refl w).alloc _).alloc _).trans a1);obtain ⟨Ac,cc,pj⟩:=eA kI;subst pj;rw [vU Pk] at kI;have kI:w1.ownsRow (w.heap.size+2) 169 3 (Hd.mk Ac t.av.length cc).v t.av.length (t.av.flatMap Fi):=bS kI (by simp)
 have hz1:w.heap.size+2≤w1.heap.size:=by have:=a1.size;simp at this;omega
 obtain ⟨W1,hW1⟩:∃ W1,W1=w1.setCell ⟨w.heap.size,3,none⟩ (.slice Ac t.av.length cc):=⟨_,rfl⟩
 have kW1:Kb (fun x=>x=w.heap.size) w1 W1:=by rw [hW1];exact Kb.set _ _ _ _
 have s1:au W1 w.heap.size [.string t.ac,.string t.name,.string t.owner,.slice Ac t.av.length cc,.slice A2 t.rules.length bJ]:=by rw [hW1];exact r1.set 3 _ (by simp)
 have s2:=kW1.row r2 (by omega)
 have LD:ag w W1:=by rw [hW1];exact cT.out.setCell _ _ (Nat.le_refl _)
 have zW1:W1.heap.size=w1.heap.size:=by rw [hW1];simp
 have E5:=bB kI kW1 (fun g hg e=>by have:=(kI.lt g hg).1;omega);have b0:=r1.cell (j:=3) rfl;have b1:=r1.cell (j:=4) rfl;have f3:=r1.2.2 3 (by simp);have z0:=r1.1;have q4:=s1.cell (j:=4) rfl;have qz:=s1.1;have LB:=gH E5;have uy:=gH s1;have se:=gH s2;clear r1 r2 a1 kI Pk C1 kW1 E5 s1 s2;go_wp2_with fail;rw [← hW1];refine (C2.out W1 LD).mono ?_;rintro e w2 ⟨v2,aa0,rfl,a2,KQ,ch2⟩;clear C2 hW1 b0 b1 f3 q4 qz;obtain ⟨Ar,cr,hv2⟩:=eA KQ;subst hv2;obtain ⟨L0,Ra,JV,Di⟩:=vV ch2;rw [JV,← List.flatMap_def] at KQ;have TK:=uy.out.aH a2;have s2':=se.out.aH a2;have b0:=TK.cell (j:=3) rfl;have b1:=TK.cell (j:=4) rfl;have f4:=TK.2.2 4 (by simp);have z0:=TK.1;obtain ⟨W2,hW2⟩:∃ W2,W2=w2.setCell ⟨w.heap.size,4,none⟩ (.slice Ar t.rules.length cr):=⟨_,rfl⟩
 have Xk:Kb (fun x=>x=w.heap.size) w2 W2:=by rw [hW2];exact Kb.set _ _ _ _
 have u1:au W2 w.heap.size [.string t.ac,.string t.name,.string t.owner,.slice Ac t.av.length cc,.slice Ar t.rules.length cr]:=by rw [hW2];exact TK.set 4 _ (by simp)
 have Xl:ud w W2 t ⟨Ac,t.av.length,cc⟩ ⟨Ar,t.rules.length,cr⟩ L0 [] 0:=by
  have hz2:w.heap.size+2≤W1.heap.size:=by omega
  have KR:=cj LB.out a2;have PC:w2.ownsRow W1.heap.size 42 8 (Hd.mk Ar t.rules.length cr).v t.rules.length (L0.flatMap gc.cells):=KQ
  refine ⟨Xk.aN (LD.trans a2) (fun x hx e=>by omega),u1,Xk.row s2' (by omega),bB KR Xk (fun g hg e=>by have:=(KR.lt g hg).1;omega),
   bS (bB PC Xk (fun g hg e=>by have:=(KQ.lt g hg).1;omega)) hz2,rfl,rfl,fun x hx=>by simp at hx,?_⟩
  simp only [List.flatMap_nil,List.append_nil];exact jU (fC _) (fC _) (fun g hg=>(gy LB.out g hg).2) (fun g hg=>(gy PC g hg).1)
 have Gj:=gH Xl;have MQ:=gH Ra;have Rb:=gH (show ∀ x∈L0,∀ w',ag w w'→x.h.n=x.r.av.length∧aA w' 1 dg x.h.a x.h.c x.r.av from fun x hx w' a=>⟨(Di x hx).1,aO a (Di x hx).2⟩);have HM:=gH hm;have x3:=u1.cell (j:=4) rfl;have xz:=u1.1;clear TK s2' KQ ch2 Xl Ra Di hm Xk u1 LD JV;go_wp2_with fail;rw [← hW2];clear hW2 b0 b1 f4 z0
 go_loopw [15] (fun i wr=>∃ (k:Nat) (L:List gc),k≤t.rules.length∧i=.int .i64 k∧ud w wr t ⟨Ac,t.av.length,cc⟩ ⟨Ar,t.rules.length,cr⟩ L0 L k) (fun i _=>t.rules.length - (intOf i).toNat)
 case atStart=>exact ⟨0,[],Nat.zero_le _,rfl,Gj.out⟩
 case round =>
  clear Gj x3 xz;obtain ⟨k,L,hk,rfl,hs⟩:=hrel;have b4:=hs.box.cell (j:=4) rfl;have bz:=hs.box.1;have HS:=gH hs;by_cases hlt:k < t.rules.length
  ·have JQ:L0.length=t.rules.length:=by rw [← MQ.out];simp
   obtain ⟨gr,Wh,ZZ,rg⟩:=vW hs.yq (by omega);have Rc:Ar=some ⟨gr,0,none⟩:=Wh;subst Rc
   have pE:k < L0.length:=by omega
   have xG:(L++L0.drop k)[k]'(by simp [hs.len];omega)=L0[k]:=by
    rw [List.getElem_append_right (by rw [hs.len];exact Nat.le_refl _)];simp [hs.len]
   have qT:L0[k].r=t.rules[k]:=by
    have:(L0.map (·.r))[k]'(by simpa using pE)=t.rules[k]:=by simp only [MQ.out]
    simpa using this
   obtain ⟨hn,hD⟩:=Rb.out L0[k] (List.getElem_mem pE) wr hs.aH;obtain ⟨p,gf⟩:∃ p,t.rules[k]=p:=⟨_,rfl⟩;obtain ⟨D,nD,WR⟩:Hd:=L0[k].h
   have x2:wr.cell? ⟨gr,k*8+2,none⟩=some (.slice L0[k].h.a p.av.length L0[k].h.c):=by
    refine rg.cell ?_;rw [kf gc.cells 8 (fun _=>rfl) _ k 2 (by simp [hs.len];omega) (by decide),xG];unfold gc.cells Fj Hd.v;rw [hn,qT,gf];rfl
   rw [qT,gf] at hD;obtain ⟨D2,hD2⟩:∃ D,L0[k].h.a=D:=⟨_,rfl⟩;obtain ⟨c2,hc2⟩:∃ c,L0[k].h.c=c:=⟨_,rfl⟩;rw [hD2,hc2] at x2 hD;have sM:=gH gf;have f2:=rg.2.2 (k*8+2) (by rw [cJ (size:=8) (fun _=>rfl)];simp [hs.len];omega);have gz:=rg.1;have Z0:p.av.length≤1000000:=HM.out.2.2 p (by rw [← gf];exact List.getElem_mem hlt);have hpl:=hD.len;have C3:=gH (show ∀ w',ag wr w'→_ from fun w' a=>lr D2 c2 p.av wr w' a hD Z0)
   have X1:gr≠w.heap.size:=by omega
   clear gf xG qT hn hD hD2 hc2 hs rg Wh JQ;go_wp2_with fail
   go_region_with ((go_at_call 121;refine (C3.out _ (ag.refl _).drew).mono ?_;rintro e w4 ⟨v4,We,rfl,a4,pQ,ch4⟩;have x4:=a4.cell_kept x2;have b44:=a4.cell_kept b4;have f4:=(Below.frozen a4 (p:=⟨gr,k*8+2,none⟩) gz).trans f2;obtain ⟨Dn,cn,hv4⟩:=eA pQ;subst hv4))
   all_goals
    have XQ:ag wr w4:=(ag.refl _).drew.trans a4;have xH:=gH (HS.out.step (h4:=⟨Dn,p.av.length,cn⟩) MQ.out hlt rfl XQ (by rw [jV ch4] at pQ;rw [sM.out];exact pQ));rw [sM.out] at xH;clear pQ ch4 a4 XQ x4 b44 f4;go_wp2
    go_roundw
    case rel=>exact ⟨k+1,_,by omega,by go_num,xH.out⟩
    case measure=>simp [intOf];omega
  ·have c0:=hs.box.cell (j:=0) rfl
   have c1:=hs.box.cell (j:=1) rfl;have c2:=hs.box.cell (j:=2) rfl;have c3:=hs.box.cell (j:=3) rfl;obtain ⟨d0,d1,d2,d3,d4⟩:=rI hs.out;obtain ⟨e0,e1,e2,e3,e4⟩:=Bj hs.out;have dz:=hs.out.1;clear hs;go_wp2_with fail
   (try simp only [Exit.inBlock,Exit.then])
   have hs:=HS.out;obtain ⟨F,hF⟩:∃ F,F=((((wr.setCell ⟨w.heap.size+1,0,none⟩ (.string t.ac)).setCell ⟨w.heap.size+1,1,none⟩ (.string t.name)).setCell ⟨w.heap.size+1,2,none⟩ (.string t.owner)).setCell ⟨w.heap.size+1,3,none⟩ (.slice Ac t.av.length cc)).setCell ⟨w.heap.size+1,4,none⟩ (.slice Ar t.rules.length cr):=⟨_,rfl⟩
   have kF:Kb (fun x=>x=w.heap.size+1) wr F:=by
    rw [hF];exact ((((Kb.set _ _ _ _).trans (Kb.set _ _ _ _)).trans (Kb.set _ _ _ _)).trans (Kb.set _ _ _ _)).trans (Kb.set _ _ _ _)
   have rF:au F (w.heap.size+1) [.string t.ac,.string t.name,.string t.owner,.slice Ac t.av.length cc,.slice Ar t.rules.length cr]:=by
    rw [hF];exact ((((hs.out.set 0 _ (by simp)).set 1 _ (by simp)).set 2 _ (by simp)).set 3 _ (by simp)).set 4 _ (by simp)
   rw [← hF];refine bodyPost_ret (bE (v:=.agg #[.string t.ac,.string t.name,.string t.owner,.slice Ac t.av.length cc,.slice Ar t.rules.length cr]) rfl _ rfl ?hl) rfl ?_
   case hl=>exact jB rF
   have Pq:k=t.rules.length:=by omega
   subst Pq;have yE:=hs.is;rw [List.take_of_length_le (Nat.le_refl _)] at yE
   have JQ:L0.length=t.rules.length:=by rw [← MQ.out];simp
   have JR:=hs.yq;rw [List.drop_of_length_le (by omega),List.append_nil] at JR;have JS:L.length=t.rules.length:=hs.len;refine ⟨⟨t.ac,t.name,t.owner,t.av,L,⟨Ac,t.av.length,cc⟩,⟨Ar,t.rules.length,cr⟩⟩,by unfold bK.t;rw [yE],rfl,kF.aN hs.aH (fun x hx e=>by omega),?_,hs.nd⟩;have fj:=hs.lt;refine eU.down (eU.kb (w:=wr) (B:=w.heap.size+2) ⟨hs.Bo,by show wr.ownsRow _ _ 8 _ L.length _;rw [JS];exact JR,hs.each⟩ kF fun g hg e=>?_) (by omega);have:=fj g hg;omega
theorem fx {l m:List Nat} (h:(l++m).Nodup) {g:Nat} (h1:g∈l) (h2:g∈m):False:=(List.nodup_append.1 h).2.2 g h1 g h2 rfl
theorem dM.push {wr w4 w5:World} {B:Nat} {hs ht lz:Hd} {ss:List fJ} {L:List bK} {x:bK} (h:dM wr B hs ht ss L) (a4:ag wr w4) (hx:eU w4 wr.heap.size x) (nx:x.ig.Nodup) (hB:B≤wr.heap.size)
  (hg:w4.grownBy w5 ht.v.ownBlock) (ho:w5.ownsRow B 80 5 lz.v (L.length+1) (L.flatMap bK.cells++x.cells)) (hb:∀ g∈lz.blk,g∈ht.blk∨w4.heap.size≤g) (hn:∀ g∈lz.blk,g∉x.ig):dM w5 B hs lz ss (L++[x]):=by
 have k1:Kb (fun g=>ht.v.ownBlock=some g) w4 w5:=Kb.dF hg;have k2:Kb (fun g=>ht.v.ownBlock=some g) wr w5:=(Kb.bl a4).trans k1;have hlt:=h.lt;have nd:=h.nd;have nd2:=(List.nodup_append.1 nd).2.1
 have cM:∀ g∈hs.blk,g < wr.heap.size:=fun g hg=>(hlt g (by simp [hg])).2
 have Yc:∀ g∈ht.blk,g < wr.heap.size:=fun g hg=>(hlt g (by simp [hg])).2
 have hLl:∀ g∈L.flatMap bK.ig,g < wr.heap.size:=fun g hg=>(hlt g (by simp only [List.mem_append];exact .inr (.inr hg))).2
 have Ng:=hx.lt;have hz:=a4.size;refine ⟨bB h.gT k2 fun g hg1 hg2=>fx nd (Hd.bu.2 hg1) (by simp [Hd.bu.2 hg2]),?_,?_,?_⟩
 ·rw [List.length_append,List.flatMap_append]
  simpa using ho
 ·intro y hy
  simp only [List.mem_append,List.mem_singleton] at hy
  rcases hy with hy | rfl
  ·exact (h.each y hy).kb k2 fun g hg1 hg2=>fx nd2 (Hd.bu.2 hg2) (List.mem_flatMap.2 ⟨y,hy,hg1⟩)
  ·exact (hx.kb k1 fun g hg1 hg2=>by have:=(Ng g hg1).1;have:=Yc g (Hd.bu.2 hg2);omega).down hB
 ·rw [List.flatMap_append]
  have hz2:wr.heap.size≤w4.heap.size:=a4.size
  have e:[x].flatMap bK.ig=x.ig:=by simp
  rw [e];refine List.nodup_append.2 ⟨(List.nodup_append.1 nd).1,List.nodup_append.2 ⟨fC _,jU (List.nodup_append.1 nd2).2.1 nx hLl (fun g hg=>(Ng g hg).1),?_⟩,?_⟩
  ·intro a ha b hb2 e
   subst e
   rcases List.mem_append.1 hb2 with h1 | h1
   ·rcases hb a ha with h2 | h2
    ·exact fx nd2 h2 h1
    ·have:=hLl a h1;omega
   ·exact hn a ha h1
  ·intro a ha b hb2 e
   subst e;have:=cM a ha
   rcases List.mem_append.1 hb2 with h1 | h1
   ·rcases hb a h1 with h2 | h2
    ·exact fx nd ha (by simp [h2])
    ·omega
   ·rcases List.mem_append.1 h1 with h1 | h1
    ·exact fx nd ha (List.mem_append.2 (.inr h1))
    ·have:=(Ng a h1).1;omega
theorem bK.KU {w:World} {B:Nat} {x:bK} {p:cp} (h:eU w B x) (ht:x.t=p):x.cells=[.string p.ac,.string p.name,.string p.owner,.slice x.hc.a p.av.length x.hc.c,.slice x.hr.a p.rules.length x.hr.c]:=by
 subst ht;unfold bK.cells;rw [bY h.Bo,bY h.yq];simp [bK.t]
theorem iI {W:World} {b:Nat} {a c:Value} (h:au W b [a,c]):(loadVar 25 ⟨b,0,none⟩).run Tryz.prog W=.ok (.agg #[a,c]) W:=by
 have e0:=h.cell (j:=0) rfl;have e1:=h.cell (j:=1) rfl;have h1:=Fc W b 0 (by rw [e0];rfl) (by rw [e1];rfl);rw [e0,e1] at h1;exact h1
structure KY (w wr:World) (o:bF) (n3:Nat) (hs ht:Hd) (L:List bK) (k:Nat):Prop where
 aH:ag w wr
 out:au wr (w.heap.size+1) [.slice none 0 0,.slice none 0 0]
 box:au wr n3 [.slice hs.a o.aa.length hs.c,.slice ht.a k ht.c]
 obj:dM wr (w.heap.size+2) hs ht o.aa L
 ne:∀ g∈hs.blk++(ht.blk++L.flatMap bK.ig),g≠n3
 is:L.map bK.t=o.tables.take k
 n3:w.heap.size+2≤n3
 len:L.length=k
theorem KY.step {w wr w4 w5:World} {o:bF} {n3:Nat} {hs ht lz:Hd} {L:List bK} {x:bK} {k:Nat} (s:KY w wr o n3 hs ht L k) (hk:k < o.tables.length) (JU:x.t=o.tables[k]) (a4:ag wr w4) (hx:eU w4 wr.heap.size x) (nx:x.ig.Nodup)
  (hg:w4.grownBy w5 ht.v.ownBlock) (ho:w5.ownsRow (w.heap.size+2) 80 5 lz.v (k+1) (L.flatMap bK.cells++x.cells)) (hb:∀ g∈lz.blk,g∈ht.blk∨w4.heap.size≤g) (hn:∀ g∈lz.blk,g∉x.ig) :
  KY w (w5.setCell ⟨n3,1,none⟩ (.slice lz.a (k+1) lz.c)) o n3 hs lz (L++[x]) (k+1):=by
 have hz:=a4.size;have hz5:=hg.size;have Bd:=s.n3;have hb3:=s.box.1
 have hzz:w.heap.size+2≤wr.heap.size:=by omega
 have ob:=s.obj.push a4 hx nx hzz hg (by rw [s.len];exact ho) hb hn
 have hne:∀ g∈hs.blk++(lz.blk++(L++[x]).flatMap bK.ig),g≠n3:=by
  intro g TA e;subst e;simp only [List.mem_append,List.flatMap_append] at TA
  rcases TA with h1 | h1 | h1 | h1
  ·exact s.ne g (by simp [h1]) rfl
  ·rcases hb g h1 with h2 | h2
   ·exact s.ne g (by simp [h2]) rfl
   ·omega
  ·exact s.ne g (by simp only [List.mem_append];exact .inr (.inr h1)) rfl
  ·have:=(hx.lt g (by simpa using h1)).1;omega
 have k5:Kb (fun g=>g=n3) w5 (w5.setCell ⟨n3,1,none⟩ (.slice lz.a (k+1) lz.c)):=Kb.set _ _ _ _;have kg:Kb (fun g=>ht.v.ownBlock=some g) w4 w5:=Kb.dF hg
 have Gi:∀ g,ht.v.ownBlock=some g→w.heap.size+2≤g:=fun g h1=>(s.obj.tab.lt g h1).1
 refine ⟨k5.aN (kg.aN (s.aH.trans a4) (fun g yZ h1=>by have:=Gi g h1;omega)) (fun g yZ e=>by omega),k5.row (kg.row (s.out.aH a4) (fun h1=>by have:=Gi _ h1;omega)) (by omega),?_,ob.kb k5 (fun g TA e=>hne g TA e),hne,?_,Bd,by simp [s.len]⟩
 ·have:=(kg.row (s.box.aH a4) (fun h1=>s.ne n3 (by simp [Hd.bu.2 h1]) rfl)).set 1 (.slice lz.a (k+1) lz.c) (by simp)
  exact this
 ·rw [List.map_append,s.is,List.take_succ_eq_append_getElem hk,← JU];rfl
theorem Sr (o:bF) (As:Option Addr) (ay:Nat) (At:Option Addr) (az:Nat) (w:World) (en:aA w 2 eL As ay o.aa) (dw:aA w 5 dE At az o.tables) (hm:Qm o) :
  Calls Tryz.prog 329 #[.agg #[.slice As o.aa.length ay,.slice At o.tables.length az]] w (aae w o):=by
 obtain ⟨i0,hi,hz0,hz1,hz2⟩:=info_parts ze;have HI:=gH hi;have kU:=gH hz0;have ki:=gH hz1;have kP:=gH hz2;clear hi hz0 hz1 hz2;have hlen:=en.len;have fq:=dw.len;have C1:=gH (show ∀ w',ag w w'→_ from fun w' a=>vQ As ay o.aa w w' a en hm.1)
 have l1:w.heap.size < w.heap.size+1:=by omega
 have l2:w.heap.size < w.heap.size+1+1:=by omega
 go_in
 go_wp2_with fail;refine (C1.out _ (((ag.refl w).alloc _).alloc _)).mono ?_;rintro e w1 ⟨v1,Wb,rfl,a1,kI,Pk⟩;have r1:au w1 w.heap.size [.slice As o.aa.length ay,.slice At o.tables.length az]:=(aU (ag.refl _)).aH (((ag.refl _).alloc _).trans a1)
 have r2:au w1 (w.heap.size+1) [.slice none 0 0,.slice none 0 0]:=by
  have:=(aU (w:=w.alloc (.cells #[.slice As o.aa.length ay,.slice At o.tables.length az] 25)) (c:=[.slice none 0 0,.slice none 0 0]) (t:=25) (ag.refl _)).aH a1
  simpa using this
 have cT:=gH ((((ag.refl w).alloc _).alloc _).trans a1);obtain ⟨Ac,cc,pj⟩:=eA kI;subst pj;rw [vR Pk] at kI;have kI:w1.ownsRow (w.heap.size+2) 109 2 (Hd.mk Ac o.aa.length cc).v o.aa.length (o.aa.flatMap jo):=bS kI (by simp)
 have hz1:w.heap.size+2≤w1.heap.size:=by have:=a1.size;simp at this;omega
 have z0:w.heap.size < w1.heap.size+1:=by omega
 have b1:=r1.cell (j:=1) rfl;have zz:=r1.1;obtain ⟨W1,hW1⟩:∃ W1,W1=w1.alloc (.cells #[.slice Ac o.aa.length cc,.slice none 0 0] 25):=⟨_,rfl⟩
 have LD:ag w1 W1:=by rw [hW1];exact (ag.refl _).alloc _
 have Xl:KY w W1 o w1.heap.size ⟨Ac,o.aa.length,cc⟩ ⟨none,0,0⟩ [] 0:=by
  have E5:=cj kI LD;refine ⟨cT.out.trans LD,r2.aH LD,?_,⟨E5,cO _ _ _ _,fun x hx=>by simp at hx,by simpa [iQ] using fC _⟩,fun g hg=>?_,rfl,hz1,rfl⟩
  ·rw [hW1];exact aU (c:=[.slice Ac o.aa.length cc,.slice none 0 0]) (ag.refl _)
  ·have qh:g∈(Hd.mk Ac o.aa.length cc).blk:=by simpa [iQ] using hg
   have:=(gy kI g qh).2;omega
 have Gj:=gH Xl;have HT:=gH dw;have HM:=gH hm;have q1:=LD.cell_kept b1;have qz:w.heap.size < W1.heap.size:=Nat.lt_of_lt_of_le zz LD.size;clear kI Pk a1 r1 r2 Xl dw en hm C1;go_wp2_with fail;rw [← hW1];obtain ⟨n3,Bd⟩:∃ n,n=w1.heap.size:=⟨_,rfl⟩;rw [← Bd] at Gj ⊢;clear hW1 Bd b1 zz z0 hz1 q1 qz LD cT
 go_loopw [13] (fun i wr=>∃ (k:Nat) (ht:Hd) (L:List bK),k≤o.tables.length∧i=.int .i64 k∧KY w wr o n3 ⟨Ac,o.aa.length,cc⟩ ht L k) (fun i _=>o.tables.length - (intOf i).toNat)
 case atStart=>exact ⟨0,_,[],Nat.zero_le _,rfl,Gj.out⟩
 case round =>
  clear Gj;obtain ⟨k,ht,L,hk,rfl,hs⟩:=hrel;have HS:=gH hs;have z3:=hs.box.1;have k1:=hs.box.cell (j:=1) rfl;have f1:=hs.box.2.2 1 (by simp);by_cases hlt:k < o.tables.length
  ·obtain ⟨b,off,A2,bJ,A3,fN,rfl,hb,t0,t1,t2,t3,t4,dt,lY,lZ⟩:=fh (br hs.aH HT.out) hlt
   obtain ⟨p,gf⟩:∃ p,o.tables[k]=p:=⟨_,rfl⟩;rw [gf] at t0 t1 t2 t3 t4 dt lY lZ;have sM:=gH gf;have C:=gH (show ∀ w',ag wr w'→_ from fun w' a=>wE p A2 bJ A3 fN w' (bW a dt) (eQ a lY) (by have:=HM.out.2.2 p (by rw [← gf];exact List.getElem_mem hlt);exact this))
   have zQ:w.heap.size+2≤wr.heap.size:=by have:=hs.n3;omega
   obtain ⟨LC,nt,ct⟩:=ht;have dw:=hs.obj.tab;rw [hs.len] at dw;have hnt:nt=k:=nX dw;subst hnt;have hown:wr.ownsRow (w.heap.size+2) 80 5 (.slice LC nt ct) nt (L.flatMap bK.cells):=dw;have pR:=gH hown
   have Ss:(Value.slice LC nt ct).ownBlock≠some n3:=fun e=>hs.ne n3 (by simp only [List.mem_append];exact .inr (.inl (Hd.bu.2 e))) rfl
   have HB:=gH hs.box;clear hs dw hown gf dt lY;obtain ⟨W,hW⟩:∃ W,W=wr.alloc (.cells #[.string p.ac,.string p.name,.string p.owner,.slice A2 p.av.length bJ,.slice A3 p.rules.length fN] 80):=⟨_,rfl⟩
   have zr3:n3 < wr.heap.size+1:=by omega
   have aW:ag wr W:=by rw [hW];exact (ag.refl _).alloc _
   have rW:au W wr.heap.size [.string p.ac,.string p.name,.string p.owner,.slice A2 p.av.length bJ,.slice A3 p.rules.length fN]:=by rw [hW];exact aU (ag.refl _)
   have KF:=gH (show ∀ w',Kb (fun g=>(Value.slice LC nt ct).ownBlock=some g) W w'→(w'.cell? ⟨n3,1,none⟩=some (.slice LC nt ct)∧w'.cell? ⟨wr.heap.size,0,none⟩=some (.string p.ac)∧w'.cell? ⟨wr.heap.size,1,none⟩=some (.string p.name)∧w'.cell? ⟨wr.heap.size,2,none⟩=some (.string p.owner)∧w'.cell? ⟨wr.heap.size,3,none⟩=some (.slice A2 p.av.length bJ)∧w'.cell? ⟨wr.heap.size,4,none⟩=some (.slice A3 p.rules.length fN)∧w'.frozen? ⟨n3,1,none⟩=false∧n3 < w'.heap.size) from fun w' kb=>by
    have aay:¬ (Value.slice LC nt ct).ownBlock=some wr.heap.size:=fun e=>by have:=(pR.out.lt _ e).2;omega
    have r':=kb.row rW aay;have r3:=kb.row (HB.out.aH aW) Ss
    exact ⟨kb.cell (aW.cell_kept k1) Ss,r'.cell (j:=0) rfl,r'.cell (j:=1) rfl,r'.cell (j:=2) rfl,r'.cell (j:=3) rfl,r'.cell (j:=4) rfl,r3.2.2 1 (by simp),r3.1⟩)
   have bQ:=gH aW
   have h63:nt+1≤maxLen:=by unfold maxLen;omega
   have hby:(nt+1)*96≤140737488355328:=by have:=HM.out.2.1;omega
   have wz:n3 < W.heap.size:=Nat.lt_of_lt_of_le z3 aW.size;clear Ss rW aW;go_wp2_with fail;rw [← hW];clear hW;obtain ⟨q1,q2,q3,q4,q5,q6,q7,q8⟩:=KF.out _ (Kb.refl _ _)
   go_region_law ((first | (go_simp;go_at_call 113;refine (C.out _ bQ.out.drew).mono ?_;rintro e w4 ⟨x,JU,rfl,a4,JX,MR⟩;have a5:ag W w4:=(ag.refl _).drew.trans a4;obtain ⟨p1,p2,p3,p4,p5,p6,p7,p8⟩:=KF.out w4 (Kb.bl a5);dsimp only) | (refine step_append_lies _ (by rfl) _ _ _ (by rfl) (w.heap.size+2) 80 i0 _ 5 96 Tryz.underlying23 HI.out kU.out ki.out kP.out rfl (by omega) (.slice LC nt ct) nt (L.flatMap bK.cells) (by rfl) ((cj pR.out (bQ.out.trans a5)).alloc _) ⟨w4.heap.size,0,none⟩ 1 1 [.string p.ac,.string p.name,.string p.owner,.slice x.hc.a p.av.length x.hc.c,.slice x.hr.a p.rules.length x.hr.c] (by rfl) (by rfl) (World.news_of_block (cs:=#[.string p.ac,.string p.name,.string p.owner,.slice x.hc.a p.av.length x.hc.c,.slice x.hr.a p.rules.length x.hr.c]) (t:=80) (fr:=(0,0)) (heap_alloc_new w4 _)) (by simp [Value.oneCell']) (by omega) h63 hby (by simp;have:=(bQ.out.trans a5).size;omega) (w4.heap.size+1) (by simp) ?_;intro gg cap' w5 ic hgrow hat yZ;obtain ⟨s1,s2,s3,s4,s5,s6,s7,s8⟩:=KF.out _ ((Kb.bl (a5.alloc _)).trans (Kb.dF hgrow)))))
   all_goals
    have xH:=gH (HS.out.step (lz:=⟨some ⟨gg,0,none⟩,nt+1,cap'⟩) (x:=x) hlt (by rw [JU,sM.out]) ((bQ.out.trans a5).alloc _) ((JX.down (by show wr.heap.size≤W.heap.size;exact bQ.out.size)).aH ((ag.refl _).alloc _)) MR hgrow (by rw [bK.KU JX JU];exact ic)
     (fun g hg=>by
      rw [gG,List.mem_singleton] at hg;subst hg
      rcases hat with h1 | h1
      ·exact .inl (Hd.bu.2 h1)
      ·refine .inr ?_
       simp
       omega)
     (fun g hg hx=>by
      rw [gG,List.mem_singleton] at hg;subst hg;have h2:=JX.lt _ hx;have h3:=bQ.out.size;have h4:W.heap.size≤g:=h2.1
      rcases hat with h1 | h1
      ·have:=(pR.out.lt _ h1).2
       omega
      ·omega))
    clear JX MR ic hgrow hat yZ a5 a4 JU q1 q2 q3 q4 q5 q6 q7 q8 p1 p2 p3 p4 p5 p6 p7 p8 s1 s2 s3 s4 s5 s6 s7 s8;go_wp2
    go_roundw
    case rel=>exact ⟨nt+1,_,_,by omega,by go_num,xH.out⟩
    case measure=>simp [intOf];omega
  ·have c0:=hs.box.cell (j:=0) rfl
   have d0:=hs.out.cell (j:=0) rfl;have d1:=hs.out.cell (j:=1) rfl;have e0:=hs.out.2.2 0 (by simp);have e1:=hs.out.2.2 1 (by simp);have dz:=hs.out.1;clear hs;go_wp2_with fail
   (try simp only [Exit.inBlock,Exit.then])
   have hs:=HS.out;obtain ⟨F,hF⟩:∃ F,F=(wr.setCell ⟨w.heap.size+1,0,none⟩ (.slice Ac o.aa.length cc)).setCell ⟨w.heap.size+1,1,none⟩ (.slice ht.a k ht.c):=⟨_,rfl⟩
   have kF:Kb (fun x=>x=w.heap.size+1) wr F:=by
    rw [hF];exact (Kb.set _ _ _ _).trans (Kb.set _ _ _ _)
   have rF:au F (w.heap.size+1) [.slice Ac o.aa.length cc,.slice ht.a k ht.c]:=by
    rw [hF];exact (hs.out.set 0 _ (by simp)).set 1 _ (by simp)
   rw [← hF];refine bodyPost_ret (bE (v:=.agg #[.slice Ac o.aa.length cc,.slice ht.a k ht.c]) rfl _ rfl ?hl) rfl ?_
   case hl=>exact iI rF
   have Pq:k=o.tables.length:=by omega
   subst Pq;have yE:=hs.is;rw [List.take_of_length_le (Nat.le_refl _)] at yE;refine ⟨⟨Ac,o.aa.length,cc⟩,ht,L,yE,rfl,kF.aN hs.aH (fun x hx e=>by omega),?_⟩;refine dM.down (hs.obj.kb kF fun g hg e=>?_) (by omega);have:=(hs.obj.lt g hg).1;omega
def DM (_:World) (cs:List Value) (n:Int):Prop:=cs=[.int .i64 n]
theorem AH {w w':World} {A:Option Addr} {cap:Nat} {l:List Int} (hw:ag w w') (h:aA w 1 DM A cap l):aA w' 1 DM A cap l:=h.aH hw fun _ _ h=>h
theorem K0 {w:World} {A:Option Addr} {cap:Nat} {l:List Int} (h:aA w 1 DM A cap l) {k:Nat} (hk:k < l.length) :
  ∃ b off,A=some ⟨b,off,none⟩∧b < w.heap.size∧w.cell? ⟨b,off+k,none⟩=some (.int .i64 l[k]):=by
 obtain ⟨b,off,cs,hA,hb,hl,rfl,hc⟩:=h.2.2 k hk;refine ⟨b,off,hA,hb,?_⟩;have:=hc 0 (by omega)
 simpa using this
theorem AJ {w:World} {base:Nat} {e:TypeId} {v:Value} {l:List Int} (h:w.ownsRow base e 1 v l.length (l.map (Value.int .i64))) (hs:Small (l.length*16)):∃ A cap,v=.slice A l.length cap∧aA w 1 DM A cap l:=by
 refine yj (base:=base) (e:=e) (fun n=>[Value.int .i64 n]) DM (fun _=>rfl) ?_ (fun _ _=>rfl) hs
 have e1:l.flatMap (fun n=>[Value.int .i64 n])=l.map (Value.int .i64):=by
  clear h hs
  induction l with
  | nil=>rfl
  | cons x l ih=>simp [List.flatMap_cons,ih]
 rw [e1];exact h
theorem K9 {α:Type} (l l2:List α) (k:Nat) (h:k < l.length) (h2:k < l2.length) (hn:¬ l[k]=l2[k]):¬ l=l2:=by
 intro e;subst e;exact hn rfl
theorem GL {α:Type} (l l2:List α) (hl:l.length=l2.length) (hp:∀ k (h:k < l.length) (h2:k < l2.length),l[k]=l2[k]):l=l2:=List.ext_getElem hl hp
theorem NQ (A:Option Addr) (cap:Nat) (l:List Int) (A2:Option Addr) (bJ:Nat) (l2:List Int) (w:World) (h:aA w 1 DM A cap l) (h2:aA w 1 DM A2 bJ l2) :
  Calls Tryz.prog 328 #[.slice A l.length cap,.slice A2 l2.length bJ] w fun e w'=>e=.returned (.bool (decide (l=l2)))∧ag w w':=by
 have hlen:=h.len;have fq:=h2.len;by_cases hl:l.length=l2.length
 ·have e1:((l.length:Int) != (l2.length:Int))=false:=by simp [hl]
  go_in
  go_wp2_with fail
  go_loopw [13] (fun i wr=>∃ k:Nat,k≤l.length∧i=.int .i64 k∧ag w wr∧∀ j,j < k→∀ (hj:j < l.length) (mv:j < l2.length),l[j]=l2[j]) (fun i _=>l.length - (intOf i).toNat)
  case atStart=>exact ⟨0,Nat.zero_le _,rfl,ag.refl _,fun j hj=>absurd hj (Nat.not_lt_zero j)⟩
  case round =>
   obtain ⟨k,hk,rfl,ha,hp⟩:=hrel;have HA:=gH ha;have HP:=gH hp;clear hp;by_cases hlt:k < l.length
   ·have fd:k < l2.length:=by omega
    obtain ⟨b,off,rfl,hb,c0⟩:=K0 (AH ha h) hlt;obtain ⟨b2,DK,rfl,hb2,d0⟩:=K0 (AH ha h2) fd;clear ha
    cases heq:(l[k] != l2[k])
    ·have HN:=gH (bC (p:=fun j=>∀ (hj:j < l.length) (mv:j < l2.length),l[j]=l2[j]) HP.out (fun _ _=>by simpa using heq))
     go_wp2_with fail;refine aj (by kernel_rfl) (by kernel_rfl) ?_
     repeat (go_big_quiet_step (fail))
     refine wpQuiet_nil ?_;intro _ hw';obtain ⟨x,hw''⟩:=hw';subst hw'';go_wp2
     go_roundw
     case rel=>exact ⟨k+1,by omega,by go_num,HA.out.bt x,HN.out⟩
     case measure=>simp [intOf];omega
    ·have HN:=gH (show ¬ l=l2 from K9 l l2 k hlt fd (by simpa using heq))
     go_wp2_with fail;refine aj (by kernel_rfl) (by kernel_rfl) ?_
     repeat (go_big_quiet_step (fail))
     refine wpQuiet_nil ?_;intro _ hw';obtain ⟨x,hw''⟩:=hw';subst hw'';go_wp2;go_ret;exact ⟨by rw [decide_eq_false HN.out];rfl,HA.out.bt x⟩
   ·have HN:=gH (show l=l2 from GL l l2 hl fun j hj mv=>HP.out j (by omega) hj mv)
    clear ha;go_wp2;go_ret;exact ⟨by rw [decide_eq_true HN.out];rfl,HA.out⟩
 ·have e1:((l.length:Int) != (l2.length:Int))=true:=by simp;omega
  have HN:=gH (show ¬ l=l2 from fun e=>hl (by rw [e]))
  go_in
  go_wp2;go_ret;exact ⟨by rw [decide_eq_false HN.out];rfl,ag.refl _⟩
theorem Small.mono {m n:Nat} (h:Small n) (hm:m≤n):Small m:=Nat.le_trans hm h
theorem rE {l:List eB} {cs:List ByteArray} (h:Small (cs.length*16)):Small ((cD l cs).length*16):=h.mono (Nat.mul_le_mul_right _ (jY l cs))
theorem wG {ts:List cp} {l:List eB} {r:fF} (h:bp ts r.ac r.table < 0):lO ts l r=61:=by
 unfold lO;split<;>simp [h]
theorem wH {ts:List cp} {l:List eB} {r:fF} {q:Nat} (h:bp ts r.ac r.table=q) (hq:q < ts.length):lO ts l r=j9 ts[q] l r:=by
 unfold lO;rw [h];simp [List.getElem?_eq_getElem hq];omega
theorem wI {t:cp} {l:List eB} {r:fF} (h:fL t.rules r.key < 0):j9 t l r=61:=by
 unfold j9;split<;>simp [h]
theorem wJ {t:cp} {l:List eB} {r:fF} {q:Nat} (h:fL t.rules r.key=q) (hq:q < t.rules.length):j9 t l r=if t.rules[q].kind==2 then (if dm l t.av r.av t.rules[q].av then 0 else 63) else 61:=by
 have h0:¬ ((q:Int) < 0):=by omega
 unfold j9;rw [h];simp [List.getElem?_eq_getElem hq,h0]
theorem ag.lv {w w':World} (h:ag w w') {a:Addr} {v:Value} (hc:w.cell? a=some v):w'.cell? a=some v:=(Below.cell h (World.block_lt_of_cell? w a hc)).trans hc
theorem La {W w w':World} {a b:Addr} {u v:Value} (hS:ag W w∧w.cell? a=some u∧w.cell? b=some v) (h:ag w w'):ag W w'∧w'.cell? a=some u∧w'.cell? b=some v :=
 ⟨hS.1.trans h,h.lv hS.2.1,h.lv hS.2.2⟩
theorem NR (vs:Value) (At:Option Addr) (az:Nat) (ts:List cp) (A:Option Addr) (cap:Nat) (l:List eB) (r:fF) (A2:Option Addr) (bJ:Nat) (w:World) (ht:aA w 5 dE At az ts) (h:aA w 3 fG A cap l) (h2:aA w 1 dg A2 bJ r.av) :
  Calls Tryz.prog 250 #[.agg #[vs,.slice At ts.length az],.slice A l.length cap,.agg #[.string r.name,.int .i64 r.kind,.slice A2 r.av.length bJ,.int .i64 r.low,.int .i64 r.high,.string r.ac,.string r.table,.string r.key]] w
   fun e w'=>e=.returned (.int .i64 (lO ts l r))∧ag w w':=by
 obtain ⟨i,hi⟩:∃ i,bp ts r.ac r.table=i:=⟨_,rfl⟩;have hlen:=ht.len;have fq:=h2.len
 have Cw:=gH (show ∀ w',ag w w'→Calls Tryz.prog 112 #[.agg #[vs,.slice At ts.length az],.string r.ac,.string r.table] w' fun e w''=>e=.returned (.tuple #[.int .i64 i,.bool (decide (0≤i))])∧ag w' w'' from
  fun w' a=>(wD vs At az ts r.ac r.table w' (br a ht)).mono fun e w'' ⟨he,hw⟩=>⟨he.trans (by rw [← hi]),hw⟩)
 by_cases kG:0≤i
 ·obtain ⟨q,rfl⟩:=Int.eq_ofNat_of_zero_le kG
  have mO:q < ts.length:=by have:=(bk (fun t=>aS t.ac r.ac&&aS t.name r.table) ts).2;unfold bp at hi;omega
  have HE:=gH (wH (l:=l) hi mO);have dq:decide (0≤(q:Int))=true:=decide_eq_true kG;rw [HE.out];clear HE hi
  go_in
  go_wp2_with fail;refine (Cw.out _ (((ag.refl w).alloc _).alloc _)).mono ?_;rintro e w1 ⟨rfl,a1⟩;obtain ⟨Bf,hbr,hz,HA⟩:=fP a1;have Xm:=br HA.out ht;clear a1 Cw;obtain ⟨b,off,B2,iV,B3,jm,rfl,hb,c0,c1,c2,c3,c4,dt,ew,lZ⟩:=fh Xm mO;obtain ⟨t,IW⟩:∃ t,ts[q]=t:=⟨_,rfl⟩;rw [IW] at c0 c1 c2 c3 c4 dt ew lZ;have HT:=gH IW;clear IW;have IV:=ew.len;obtain ⟨k,hk⟩:∃ k,fL t.rules r.key=k:=⟨_,rfl⟩
  have Cb:=gH (show ∀ w',ag w1 w'→Calls Tryz.prog 293 #[.slice B3 t.rules.length jm,.string r.key,.func (.func 294) #[] #[]] w' fun e w''=>e=.returned (.int .i64 k)∧ag w' w'' from
   fun w' a=>(Xh B3 jm t.rules r.key w' (eQ a ew)).mono fun e w'' ⟨he,hw⟩=>⟨he.trans (by rw [← hk];rfl),hw⟩)
  clear Xm;go_wp2_with fail;refine (Cb.out _ ((ag.refl w1).alloc _)).mono ?_;rintro e w2 ⟨rfl,a2⟩;obtain ⟨Bh,hft,hzt,aa1,iy⟩:=cz a2;have oY:=gH (HA.out.trans iy.out)
  have Su:∀ o,w2.cell? ⟨w.heap.size+1,o,none⟩=_:=fun o=>(Below.cell iy.out (p:=⟨w.heap.size+1,o,none⟩) hz.2).trans (hbr o)
  have hz2:w.heap.size+1 < w2.heap.size:=Nat.lt_of_lt_of_le hz.2 iy.out.size;have nQ:=eQ iy.out ew;have Lb:=bW iy.out dt;have h02:=bW oY.out h;have Sv:=aO oY.out h2;clear a2 Cb Bf hbr c0 c1 c2 c3 c4 ew dt;by_cases F5:0≤k
  ·obtain ⟨m,rfl⟩:=Int.eq_ofNat_of_zero_le F5
   have F7:m < t.rules.length:=by have:=(bk (fun c=>aS c.name r.key) t.rules).2;unfold fL at hk;omega
   have HE:=gH (wJ (l:=l) hk F7);clear hk;obtain ⟨b3,Qp,D2,jO,rfl,hb3,e0,e1,e2,e3,e4,e5,e6,e7,hcs,IX⟩:=jC nQ F7;obtain ⟨p,hp⟩:∃ p,t.rules[m]=p:=⟨_,rfl⟩;rw [hp] at e0 e1 e2 e3 e4 e5 e6 e7 hcs IX;have HP:=gH hp;clear hp nQ
   cases hk2:(p.kind != 2)
   ·have HV:=gH (show j9 ts[q] l r=if dm l t.av r.av p.av then 0 else 63 by
     have hk3:(p.kind==2)=true:=by simpa using hk2
     rw [HT.out,HE.out,HP.out,if_pos hk3])
    clear HE HT HP;have O9:=hcs.len;go_wp2_with fail;have q1:w2.cell? ⟨w.heap.size+1,2,none⟩=some (.slice A2 r.av.length bJ):=Su 2;have q2:w2.cell? ⟨w1.heap.size,3,none⟩=some (.slice B2 t.av.length iV):=Bh 3
    go_region_held3 (fun w'=>ag w2 w'∧w'.cell? ⟨w.heap.size+1,2,none⟩=some (.slice A2 r.av.length bJ)∧w'.cell? ⟨w1.heap.size,3,none⟩=some (.slice B2 t.av.length iV))
     (first | exact ⟨(ag.refl _).drew,q1,q2⟩ | exact La (by assumption) (by assumption))
     ((go_at_call 327;refine (GJ _ _ _ _ _ _ _ (bW (And.left (by assumption:ag w2 _∧_)) (by assumption)) (aO (And.left (by assumption:ag w2 _∧_)) (by assumption))).mono ?_;rintro e w4 ⟨v4,rfl,pQ,a4⟩;try have aaz:=cj (by assumption) a4))
    all_goals
     have ul:=gH (oY.out.trans (And.left (by assumption:ag w2 w4∧_)));have aa2:w4.cell? ⟨w.heap.size+1,2,none⟩=some (.slice A2 r.av.length bJ):=(And.left (by assumption:ag w2 w4∧_)).lv q1;obtain ⟨G3,fN,e3,hs3⟩:=AJ (w:=w4) (l:=cD l r.av) (by assumption) (rE Sv.2.1);obtain ⟨G4,RJ,e4,hs4⟩:=AJ (w:=w4) (l:=cD t.av p.av) (by assumption) (rE hcs.2.1);subst e3;subst e4;have Ce:=gH (NQ G3 fN (cD l r.av) G4 RJ (cD t.av p.av) w4 hs3 hs4);have HC:=gH (lV l t.av r.av p.av);have pE:=jY t.av p.av;obtain ⟨bq,hbq⟩:∃ b,decide (cD l r.av=cD t.av p.av)=b:=⟨_,rfl⟩;rw [hbq] at Ce HC;clear aaz pQ a4 hs3 hs4 hbq;by_cases d1:p.av.length=r.av.length
     ·have f1:((p.av.length:Int) != (r.av.length:Int))=false:=by simp [d1]
      by_cases d2:(cD t.av p.av).length=p.av.length
      ·have f2:(((cD t.av p.av).length:Int) != (p.av.length:Int))=false:=by simp [d2]
       have HR:=gH (show j9 ts[q] l r=if bq then 0 else 63 by rw [HV.out,HC.out];simp [d1,d2]);clear HV HC d1 d2
       cases bq
       all_goals
        go_wp2_with fail;refine Ce.out.mono ?_;rintro e w5 ⟨rfl,a5⟩;have M0:=gH (ul.out.trans a5);clear a5;go_wp2;go_ret;exact ⟨by rw [HR.out];rfl,M0.out⟩
      ·have f2:(((cD t.av p.av).length:Int) != (p.av.length:Int))=true:=by simp;omega
       have HR:=gH (show j9 ts[q] l r=63 by rw [HV.out,HC.out];simp [d2]);clear HV HC d1 d2;go_wp2;go_ret;exact ⟨by rw [HR.out];rfl,ul.out⟩
     ·have f1:((p.av.length:Int) != (r.av.length:Int))=true:=by simp;omega
      have HR:=gH (show j9 ts[q] l r=63 by rw [HV.out,HC.out];simp [d1]);clear HV HC d1;go_wp2;go_ret;exact ⟨by rw [HR.out];rfl,ul.out⟩
   ·have HV:=gH (show j9 ts[q] l r=61 by
     have hk3:¬ ((p.kind==2)=true):=by simpa using hk2
     rw [HT.out,HE.out,HP.out,if_neg hk3])
    go_wp2;go_ret;exact ⟨by rw [HV.out];rfl,oY.out⟩
  ·have jd:k < 0:=by omega
   have HE:=gH (wI (l:=l) (by rw [hk];exact jd):j9 t l r=61);clear hk;go_wp2;go_ret;exact ⟨by rw [HT.out,HE.out];rfl,oY.out⟩
 ·have kj:i < 0:=by omega
  have dq:decide (0≤i)=false:=decide_eq_false kG;have HE:=gH (wG (l:=l) (by rw [hi];exact kj):lO ts l r=61);rw [HE.out];clear HE hi
  go_in
  go_wp2_with fail;refine (Cw.out _ (((ag.refl w).alloc _).alloc _)).mono ?_;rintro e w1 ⟨rfl,a1⟩;have HA:=gH ((((ag.refl w).alloc _).alloc _).trans a1);clear a1;go_wp2;go_ret;exact ⟨rfl,HA.out⟩
theorem DN (n1:ByteArray) (k1:Int) (A1:Option Addr) (m1 c1:Nat) (lo1 kj:Int) (s1 t1 y1:ByteArray) (n2:ByteArray) (k2:Int) (A2:Option Addr) (m2 c2:Nat) (lo2 kQ:Int) (s2 t2 y2:ByteArray) (w:World) :
  Calls Tryz.prog 252 #[.agg #[.string n1,.int .i64 k1,.slice A1 m1 c1,.int .i64 lo1,.int .i64 kj,.string s1,.string t1,.string y1],.agg #[.string n2,.int .i64 k2,.slice A2 m2 c2,.int .i64 lo2,.int .i64 kQ,.string s2,.string t2,.string y2]] w fun e w'=>e=.returned (.int .i64 (aT n1 n2))∧ag w w':=by
 go_in
 go_wp2_with fail;refine (iZ _ _ _).mono ?_;rintro e w1 ⟨rfl,rfl⟩;go_wp2;go_ret;exact ⟨rfl,((ag.refl w).alloc _).alloc _⟩
theorem DO (n1 o1 n2 o2:ByteArray) (w:World) :
  Calls Tryz.prog 181 #[.agg #[.string n1,.string o1],.agg #[.string n2,.string o2]] w fun e w'=>e=.returned (.int .i64 (aT n1 n2))∧ag w w':=by
 go_in
 go_wp2_with fail;refine (iZ _ _ _).mono ?_;rintro e w1 ⟨rfl,rfl⟩;go_wp2;go_ret;exact ⟨rfl,((ag.refl w).alloc _).alloc _⟩
theorem GM (A:Option Addr) (cap:Nat) (l:List fF) (w:World) (h:aA w 8 fc A cap l) :
  Calls Tryz.prog 251 #[.slice A l.length cap,.func (.func 252) #[] #[]] w fun e w'=>e=.returned (.bool (aM (fun a b=>aT a.name b.name) l))∧ag w w' :=
 Ks A cap l 252 #[] (fun a b=>aT a.name b.name) w h (enters (P:=Tryz.prog) Tryz.func252 (by kernel_rfl) rfl) fun w' ha i hi e1 e2 h1 h2=>by
  obtain ⟨A1,c1,rfl,_⟩:=h1;obtain ⟨A2,c2,rfl,_⟩:=h2;exact DN _ _ _ _ _ _ _ _ _ _ _ _ _ _ _ _ _ _ _ _ w'
theorem Lc (A:Option Addr) (cap:Nat) (l:List fJ) (w:World) (h:aA w 2 eL A cap l) :
  Calls Tryz.prog 180 #[.slice A l.length cap,.func (.func 181) #[] #[]] w fun e w'=>e=.returned (.bool (aM (fun a b=>aT a.name b.name) l))∧ag w w' :=
 Kq A cap l 181 #[] (fun a b=>aT a.name b.name) w h (enters (P:=Tryz.prog) Tryz.func181 (by kernel_rfl) rfl) fun w' ha i hi=>DO _ _ _ _ w'
theorem Ld (A:Option Addr) (cap:Nat) (l:List cp) (w:World) (h:aA w 5 dE A cap l) :
  Calls Tryz.prog 178 #[.slice A l.length cap,.func (.func 179) #[] #[]] w fun e w'=>e=.returned (.bool (aM (fun a b=>eO (aT a.ac b.ac) (aT a.name b.name)) l))∧ag w w' :=
 Ku A cap l 179 #[] (fun a b=>eO (aT a.ac b.ac) (aT a.name b.name)) w h (enters (P:=Tryz.prog) Tryz.func179 (by kernel_rfl) rfl) fun w' ha i hi e1 e2 h1 h2=>by
  obtain ⟨A1,c1,B1,d1,rfl,_⟩:=h1;obtain ⟨A2,c2,B2,d2,rfl,_⟩:=h2;exact Gy _ _ _ _ _ _ _ _ _ _ w'
theorem GN (o:bF) (t:cp) (As:Option Addr) (ay:Nat) (At:Option Addr) (az:Nat) (A:Option Addr) (cap:Nat) (A2:Option Addr) (bJ:Nat) (w:World) (en:aA w 2 eL As ay o.aa) (dw:aA w 5 dE At az o.tables)
  (h:aA w 3 fG A cap t.av) (h2:aA w 8 fc A2 bJ t.rules) (hn:Small t.name.size) (ho:Small t.owner.size) :
  Calls Tryz.prog 184 #[.agg #[.slice As o.aa.length ay,.slice At o.tables.length az],.agg #[.string t.ac,.string t.name,.string t.owner,.slice A t.av.length cap,.slice A2 t.rules.length bJ]] w
   fun e w'=>e=.returned (.bool (bP o t))∧ag w w':=by
 have fq:=h2.len
 cases hN:bA t.name
 ·have HF:=gH (show bP o t=false by simp [bP,hN])
  go_in
  go_wp2_with (go_at_call 107;refine (cI _ _ (by first | exact hn.max | exact ho.max)).mono ?_;rintro e w' ⟨rfl,rfl⟩)
  go_ret;exact ⟨by rw [HF.out];rfl,((ag.refl _).alloc _).alloc _⟩
 cases hO:bA t.owner
 ·have HF:=gH (show bP o t=false by simp [bP,hO])
  go_in
  go_wp2_with (go_at_call 107;refine (cI _ _ (by first | exact hn.max | exact ho.max)).mono ?_;rintro e w' ⟨rfl,rfl⟩)
  go_ret;exact ⟨by rw [HF.out];rfl,((ag.refl _).alloc _).alloc _⟩
 have fO:=gH (show bP o t=(eY t.av&&decide (t.rules.length≤8)&&decide (0≤cy o.aa t.ac)&&(t.rules.all (ey o.tables t.av)&&aM (fun a b=>aT a.name b.name) t.rules)) by simp [bP,hN,hO]);obtain ⟨m,hm⟩:∃ m,eY t.av=m:=⟨_,rfl⟩;rw [hm] at fO
 have Cm:=gH (show ∀ w',ag w w'→Calls Tryz.prog 246 #[.slice A t.av.length cap] w' fun e w''=>e=.returned (.bool m)∧ag w' w'' from
  fun w' a=>(AC A cap t.av w' (bW a h)).mono fun e w'' ⟨he,hw⟩=>⟨he.trans (by rw [← hm]),hw⟩)
 clear hm
 go_in
 go_wp2_with (go_at_call 107;refine (cI _ _ (by first | exact hn.max | exact ho.max)).mono ?_;rintro e w' ⟨rfl,rfl⟩)
 refine (Cm.out _ (((ag.refl w).alloc _).alloc _)).mono ?_;rintro e w1 ⟨rfl,a1⟩;obtain ⟨Bf,Bh,hz,HA⟩:=fP a1;have gj:=gH a1;clear a1 Cm
 cases m
 ·have HF:=gH (show bP o t=false by rw [fO.out];rfl)
  go_wp2;go_ret;exact ⟨by rw [HF.out];rfl,HA.out⟩
 by_cases h8:8 < t.rules.length
 ·have HF:=gH (show bP o t=false by rw [fO.out,decide_eq_false (by omega)];rfl)
  have E7:(8:Int) < (t.rules.length:Int):=by omega
  go_wp2;go_ret;exact ⟨by rw [HF.out];rfl,HA.out⟩
 have E7:(t.rules.length:Int)≤8:=by omega
 have d8:decide ((8:Int) < (t.rules.length:Int))=false:=decide_eq_false (by omega);have uy:=gH (show bP o t=(decide (0≤cy o.aa t.ac)&&(t.rules.all (ey o.tables t.av)&&aM (fun a b=>aT a.name b.name) t.rules)) by rw [fO.out,decide_eq_true (show t.rules.length≤8 by omega)];rfl);clear fO;obtain ⟨i,hi⟩:∃ i,cy o.aa t.ac=i:=⟨_,rfl⟩;rw [hi] at uy
 have Cs:=gH (show ∀ w',ag w w'→Calls Tryz.prog 247 #[.slice As o.aa.length ay,.string t.ac,.func (.func 248) #[] #[]] w' fun e w''=>e=.returned (.int .i64 i)∧ag w' w'' from
  fun w' a=>(Jc As ay o.aa t.ac w' (bI a en)).mono fun e w'' ⟨he,hw⟩=>⟨he.trans (by rw [← hi];rfl),hw⟩)
 clear hi;go_wp2_with fail;refine (Cs.out _ HA.out).mono ?_;rintro e w2 ⟨rfl,a2⟩;have rQ:=gH (gj.out.trans a2);clear a2 Cs HA gj Bf Bh hz;obtain ⟨Bf,Bh,hz,HA⟩:=fP rQ.out;by_cases kG:i < 0
 ·have HF:=gH (show bP o t=false by rw [uy.out,decide_eq_false (by omega)];rfl)
  go_wp2;go_ret;exact ⟨by rw [HF.out];rfl,HA.out⟩
 have kj:0≤i:=by omega
 have se:=gH (show bP o t=(t.rules.all (ey o.tables t.av)&&aM (fun a b=>aT a.name b.name) t.rules) by rw [uy.out,decide_eq_true kj];rfl);clear uy;go_wp2_with fail
 go_loopw [40] (fun i wr=>∃ k:Nat,k≤t.rules.length∧i=.int .i64 k∧ag ((w.alloc (.cells #[.slice As o.aa.length ay,.slice At o.tables.length az] 25)).alloc (.cells #[.string t.ac,.string t.name,.string t.owner,.slice A t.av.length cap,.slice A2 t.rules.length bJ] 80)) wr∧∀ j,j < k→∀ (hj:j < t.rules.length),ey o.tables t.av t.rules[j]=true) (fun i _=>t.rules.length - (intOf i).toNat)
 case atStart=>exact ⟨0,Nat.zero_le _,rfl,rQ.out,fun j hj=>absurd hj (Nat.not_lt_zero j)⟩
 case round =>
  clear Bf Bh hz HA rQ;obtain ⟨k,hk,rfl,ha,hp⟩:=hrel;obtain ⟨Bf,Bh,hz,HA⟩:=fP ha;have gj:=gH ha;have HP:=gH hp;clear hp ha;by_cases hlt:k < t.rules.length
  ·have hr:=eQ HA.out h2
   obtain ⟨b,off,D2,jO,rfl,hb,c0,c1,c2,c3,c4,c5,c6,c7,hcs,s0,s1,s2,s3⟩:=jC hr hlt;obtain ⟨p,gf⟩:∃ p,t.rules[k]=p:=⟨_,rfl⟩;rw [gf] at c0 c1 c2 c3 c4 c5 c6 c7 hcs s0 s1 s2 s3;have sM:=gH gf;obtain ⟨f,hf⟩:∃ f,cK t.av p=f:=⟨_,rfl⟩;obtain ⟨z,hz'⟩:∃ z,lO o.tables t.av p=z:=⟨_,rfl⟩;have HO:=gH (show ey o.tables t.av t.rules[k]=(f&&!(p.kind==4&&z != 0)) by rw [gf];unfold ey;rw [hf,hz'])
   have Cf:=gH (show ∀ w',ag wr w'→Calls Tryz.prog 249 #[.slice A t.av.length cap,.agg #[.string p.name,.int .i64 p.kind,.slice D2 p.av.length jO,.int .i64 p.low,.int .i64 p.high,.string p.ac,.string p.table,.string p.key]] w' fun e w''=>e=.returned (.bool f)∧ag w' w'' from
    fun w' a=>(KO A cap t.av p D2 jO w' (bW (HA.out.trans a) h) (aO a hcs) s0 s1 s2 s3).mono fun e w'' ⟨he,hw⟩=>⟨he.trans (by rw [← hf]),hw⟩)
   have Ck:=gH (show ∀ w',ag wr w'→Calls Tryz.prog 250 #[.agg #[.slice As o.aa.length ay,.slice At o.tables.length az],.slice A t.av.length cap,.agg #[.string p.name,.int .i64 p.kind,.slice D2 p.av.length jO,.int .i64 p.low,.int .i64 p.high,.string p.ac,.string p.table,.string p.key]] w' fun e w''=>e=.returned (.int .i64 z)∧ag w' w'' from
    fun w' a=>(NR _ At az o.tables A cap t.av p D2 jO w' (br (HA.out.trans a) dw) (bW (HA.out.trans a) h) (aO a hcs)).mono fun e w'' ⟨he,hw⟩=>⟨he.trans (by rw [← hz']),hw⟩)
   clear hf hz' gf hr hcs sM;go_wp2_with fail;refine (Cf.out _ ((ag.refl wr).alloc _)).mono ?_;rintro e w3 ⟨rfl,a3⟩;obtain ⟨hbr,ly,zQ,aa3,nU⟩:=cz a3
   have NS:∀ o',w3.cell? ⟨w.heap.size,o',none⟩=_:=fun o'=>(Below.cell nU.out (p:=⟨w.heap.size,o',none⟩) hz.1).trans (Bf o')
   have NT:∀ o',w3.cell? ⟨w.heap.size+1,o',none⟩=_:=fun o'=>(Below.cell nU.out (p:=⟨w.heap.size+1,o',none⟩) hz.2).trans (Bh o')
   have hz3:w.heap.size < w3.heap.size∧w.heap.size+1 < w3.heap.size:=⟨Nat.lt_of_lt_of_le hz.1 nU.out.size,Nat.lt_of_lt_of_le hz.2 nU.out.size⟩;clear a3 Cf Bf Bh c0 c1 c2 c3 c4 c5 c6 c7
   cases f
   ·have HF:=gH (show bP o t=false by rw [se.out,all_false _ _ k hlt (by rw [HO.out];rfl)];rfl)
    go_wp2;go_ret;exact ⟨by rw [HF.out];rfl,HA.out.trans nU.out⟩
   cases h4:(p.kind==4)
   ·have HN:=gH (bC (p:=fun j=>∀ (hj:j < t.rules.length),ey o.tables t.av t.rules[j]=true) HP.out (fun _=>by rw [HO.out,h4];rfl))
    go_wp2
    go_roundw
    case rel=>exact ⟨k+1,by omega,by go_num,gj.out.trans nU.out,HN.out⟩
    case measure=>simp [intOf];omega
   ·go_wp2_with fail
    refine (Ck.out _ nU.out).mono ?_;rintro e w4 ⟨rfl,a4⟩;have ul:=gH (nU.out.trans a4);clear a4 Ck NS NT hbr
    cases z0:(z != 0)
    ·have HN:=gH (bC (p:=fun j=>∀ (hj:j < t.rules.length),ey o.tables t.av t.rules[j]=true) HP.out (fun _=>by rw [HO.out,h4,z0];rfl))
     go_wp2
     go_roundw
     case rel=>exact ⟨k+1,by omega,by go_num,gj.out.trans ul.out,HN.out⟩
     case measure=>simp [intOf];omega
    ·have HF:=gH (show bP o t=false by rw [se.out,all_false _ _ k hlt (by rw [HO.out,h4,z0];rfl)];rfl)
     go_wp2;go_ret;exact ⟨by rw [HF.out];rfl,HA.out.trans ul.out⟩
  ·have HF:=gH (show bP o t=aM (fun a b=>aT a.name b.name) t.rules by rw [se.out,all_true _ _ fun j hj=>HP.out j (by omega) hj];rfl)
   have Cr:=gH (GM A2 bJ t.rules wr (eQ HA.out h2));go_wp2_with fail;refine Cr.out.mono ?_;rintro e w3 ⟨rfl,a3⟩;have nU:=gH (HA.out.trans a3);clear a3;go_wp2;go_ret;exact ⟨by rw [HF.out];rfl,nU.out⟩
end Go.Proofs.YtakddkhipelmjaaGreat
