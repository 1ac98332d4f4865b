import Derived.Deep.AppendLies
import Derived.Test.YtbdanlipghhgpaaGreatDoorPartP3
namespace Go.Proofs.YtbdanlipghhgpaaGreatDoor
open Go.RowKit Go.Deep
set_option maxRecDepth 100000
set_option linter.unusedVariables false
set_option maxHeartbeats 64000000
theorem dw_nil {α:Type} (p:α→Bool):∀ l:List α,l.dropWhile p=[]↔∀ x∈l,p x=true
 | []=>by simp
 | a::l=>by
  rw [List.dropWhile_cons]
  cases h:p a with
  | true=>simp [dw_nil p l,h]
  | false=>simp [h]
theorem trim_digits (l:Bts):(Lib.trimS l [48,49,50,51,52,53,54,55,56,57]=[])↔l.all isDig=true:=by
 have e:∀ b:UInt8,[48,49,50,51,52,53,54,55,56,57].contains b=isDig b:=by
  intro b
  have:=all256 (p:=fun b=>[48,49,50,51,52,53,54,55,56,57].contains b==isDig b) (by decide +kernel) b
  simpa using this
 have e':(fun b:UInt8=>[48,49,50,51,52,53,54,55,56,57].contains b)=isDig:=funext e
 unfold Lib.trimS Lib.trimLeftS Lib.trimRightS
 rw [e',dw_nil]
 constructor
 ·intro h
  have h2:l.reverse.dropWhile isDig=[]:=by
   cases hq:l.reverse.dropWhile isDig with
   | nil=>rfl
   | cons x r =>
    have h3:=List.head_dropWhile_not isDig (l:=l.reverse) (by rw [hq];simp)
    have h4:=h x (by rw [hq];simp)
    simp only [hq,List.head_cons] at h3
    rw [h3] at h4;cases h4
  rw [dw_nil] at h2
  rw [List.all_eq_true]
  exact fun x hx=>h2 x (by simpa using hx)
 ·intro h x hx
  rw [List.all_eq_true] at h
  refine h x ?_
  have:=(List.dropWhile_sublist isDig (l:=l.reverse)).subset (by simpa using hx)
  simpa using this
theorem aft_bytes (w:World) (e:TypeId) (s:ByteArray):Aft w (Lib.bytesWorld w e s):=⟨rfl,rfl,rfl,by rw [Lib.bytesWorld_size];omega,fun j hj=>Lib.bytesWorld_at_old w e s j hj⟩
theorem ba_nil (s:ByteArray):s.toList=[]↔s.data.toList=[]:=by rw [ByteArray.toList_eq]
def dgs (s:ByteArray):ByteArray:=wd (minusless s.data.toList)
theorem num_long {s:ByteArray} (h:10 < (dgs s).size):numB s=none:=by
 have:formN s.data.toList=false:=by
  unfold formN
  rw [show decide ((minusless s.data.toList).length≤10)=false from decide_eq_false (by rw [← wd_size];exact Nat.not_le.2 h)]
  simp
 unfold numB numL;rw [this];rfl
theorem num_empty {s:ByteArray} (h:(dgs s).size=0):numB s=none:=by
 have:formN s.data.toList=false:=by
  unfold formN
  have:minusless s.data.toList=[]:=List.eq_nil_of_length_eq_zero (by rw [← wd_size];exact h)
  rw [this];rfl
 unfold numB numL;rw [this];rfl
theorem num_alien {s:ByteArray} (h:(minusless s.data.toList).all isDig=false):numB s=none:=by
 have:formN s.data.toList=false:=by unfold formN;rw [h];simp
 unfold numB numL;rw [this];rfl
theorem dgs_head {s:ByteArray} (h:0 < (dgs s).size):(minusless s.data.toList).head? = some (dgs s)[0]:=by
 have h1:(minusless s.data.toList)=(dgs s).data.toList:=(wd_data _).symm
 rw [h1,← head_get _ h]
 cases hq:(dgs s).data.toList with
 | nil=>rw [Lib.size_eq,hq] at h;simp at h
 | cons a l=>rfl
theorem num_zero {s:ByteArray} (h:0 < (dgs s).size) (h0:(dgs s)[0]=48) (hn:eqS s ⟨#[48]⟩=false):numB s=none:=by
 have:formN s.data.toList=false:=by
  unfold formN
  rw [dgs_head h,h0]
  have h2:s.data.toList≠[48]:=by
   intro e
   have:s=⟨#[48]⟩:=ba_ext e
   subst this
   rw [eqS_yes] at hn;cases hn
  rw [show (s.data.toList != [48])=true from bne_iff_ne.2 h2]
  simp
 unfold numB numL;rw [this];rfl
theorem num_form {s:ByteArray} (h1:0 < (dgs s).size) (h2:(dgs s).size≤10) (h3:(minusless s.data.toList).all isDig=true) (h4:(dgs s)[0]≠48∨eqS s ⟨#[48]⟩=true):formN s.data.toList=true:=by
 unfold formN
 rw [dgs_head h1,h3]
 have h5:(minusless s.data.toList).isEmpty=false:=by
  cases hq:minusless s.data.toList with
  | nil=>rw [show (dgs s).size=(minusless s.data.toList).length from wd_size _,hq] at h1;simp at h1
  | cons _ _=>rfl
 rw [h5,show decide ((minusless s.data.toList).length≤10)=true from decide_eq_true (by rw [← wd_size];exact h2)]
 rcases h4 with h4 | h4
 ·rw [show (some (dgs s)[0]==some 48)=false by simpa using h4];rfl
 ·rw [eqS_iffD] at h4
  subst h4;rfl
theorem num_atoi {s:ByteArray} (h:formN s.data.toList=true):∃ n,Lib.atoi s.data.toList=some n∧s.size≤11∧numB s=if inN n then some n else none:=by
 have hf:=h
 unfold formN at h
 simp only [Bool.and_eq_true,decide_eq_true_eq,Bool.not_eq_true'] at h
 obtain ⟨⟨⟨h1,h2⟩,h3⟩,h4⟩:=h
 have hsz:s.size=s.data.toList.length:=Lib.size_eq s
 have key:∃ n,Lib.atoi s.data.toList=some n∧s.data.toList.length≤11:=by
  generalize s.data.toList=l at *
  cases l with
  | nil=>simp [minusless,Lib.trimPrefix,Lib.hasPrefix] at h1
  | cons c r =>
   by_cases hc:c=45
   ·subst hc
    rw [minus_yes] at h1 h2 h3
    cases r with
    | nil=>simp at h1
    | cons b r =>
     exact ⟨_,by simp only [Lib.atoi,Lib.decNat,List.isEmpty_cons,Bool.false_eq_true,if_false,beq_self_eq_true,if_true,dec_all _ _ h3,Option.map_some];rfl,by simp at h2 ⊢;omega⟩
   ·rw [minus_no c r hc] at h1 h2 h3
    have hc2:c≠43:=by intro e;subst e;simp [isDig] at h3
    have e1:(c==45)=false:=by rw [beq_eq_false_iff_ne];exact hc
    have e2:(c==43)=false:=by rw [beq_eq_false_iff_ne];exact hc2
    exact ⟨_,by simp only [Lib.atoi,e1,e2,Bool.false_eq_true,if_false,Lib.decNat,List.isEmpty_cons,dec_all _ _ h3,Option.map_some];rfl,by simp at h2 ⊢;omega⟩
 obtain ⟨n,hn,hl⟩:=key
 refine ⟨n,hn,by omega,?_⟩
 unfold numB numL
 rw [hf,if_pos rfl,hn];rfl
def ToN (s:ByteArray) (w:World) (e:Ending) (w':World):Prop:=Aft w w'∧∃ n,e=.returned (.tuple #[.int .i64 n,.bool (numB s).isSome])∧∀ m,numB s=some m→n=m
theorem toN_none {s:ByteArray} {w w':World} (n:Int) (h:numB s=none) (a:Aft w w'):ToN s w (.returned (.tuple #[.int .i64 n,.bool false])) w':=⟨a,n,by rw [h];rfl,fun m hm=>by rw [h] at hm;cases hm⟩
theorem toNumber_any (s:ByteArray) (w:World) (hs:Small s.size):Calls Tryz.prog 47 #[.string s] w (ToN s w):=by
 have KP:=gH (show ∀ w:World,Calls Tryz.prog 78 #[.string s,.string ⟨#[45]⟩] w fun e w'=>e=.returned (.string (dgs s))∧w'=w from fun w=>Tryz.strings_TrimPrefix s ⟨#[45]⟩ w)
 obtain ⟨d,hd⟩:∃ d,dgs s=d:=⟨_,rfl⟩
 have hdz:d.size≤maxLen:=by
  have h1:(minusless s.data.toList).length≤s.data.toList.length:=by
   unfold minusless Lib.trimPrefix
   split
   ·simp
   ·exact Nat.le_refl _
  rw [← hd,show (dgs s).size=_ from wd_size _]
  have:=Lib.size_eq s
  have:=hs.max
  omega
 rw [hd] at KP
 have hdd:minusless s.data.toList=d.data.toList:=by rw [← hd];exact (wd_data _).symm
 have KT:=gH (show ∀ w:World,Calls Tryz.prog 79 #[.string d,.string ⟨#[48,49,50,51,52,53,54,55,56,57]⟩] w fun e w'=>e=.returned (.string ⟨(Lib.trimS d.data.toList [48,49,50,51,52,53,54,55,56,57]).toArray⟩)∧Aft w w' from
  fun w=>(Tryz.strings_Trim d ⟨#[48,49,50,51,52,53,54,55,56,57]⟩ w (by unfold maxLen at hdz;omega) (by decide) (ascii_of_all (by decide))))
 obtain ⟨q,hq⟩:∃ q:ByteArray,(⟨(Lib.trimS d.data.toList [48,49,50,51,52,53,54,55,56,57]).toArray⟩:ByteArray)=q:=⟨_,rfl⟩
 rw [hq] at KT
 have hqe:q.toList=[]↔(minusless s.data.toList).all isDig=true:=by
  rw [ba_nil,hdd,← trim_digits,← hq]
 unfold maxLen at hdz
 have HD:=gH hd
 by_cases h0:d.size=0
 ·have H0:=gH (num_empty (s:=s) (by rw [hd];exact h0))
  have e1:d.toList=[]:=by rw [toList_nil_iff];exact h0
  have e2:d.toList.isEmpty=true:=by rw [e1];rfl
  clear hdd hqe hq hd KT h0
  go_enter Tryz.func47,Tryz.ntmps47
  go_wp2_with (first | (go_at_call 78;refine (KP.out _).mono ?_;rintro e w' ⟨rfl,rfl⟩))
  go_ret2
  exact toN_none 0 H0.out (Aft.refl _)
 ·have hz:0 < d.size:=by omega
  have e1:¬ d.toList=[]:=by rw [toList_nil_iff];exact h0
  have e2:d.toList.isEmpty=false:=by
   cases hx:d.toList with
   | nil=>exact absurd hx e1
   | cons _ _=>rfl
  by_cases h1:10 < d.size
  ·have H0:=gH (num_long (s:=s) (by rw [hd];exact h1))
   clear hdd hqe hq hd KT h0
   go_enter Tryz.func47,Tryz.ntmps47
   go_wp2_with (first | (go_at_call 78;refine (KP.out _).mono ?_;rintro e w' ⟨rfl,rfl⟩))
   go_ret2
   exact toN_none 0 H0.out (Aft.refl _)
  ·have h1':¬ (10:Int) < (d.size:Int):=by omega
   have h1d:decide ((10:Int) < (d.size:Int))=false:=decide_eq_false h1'
   cases hall:(minusless s.data.toList).all isDig
   ·have H0:=gH (num_alien hall)
    have q1:¬ q.toList=[]:=by rw [hqe,hall];decide
    have q2:q.toList.isEmpty=false:=by
     cases hx:q.toList with
     | nil=>exact absurd hx q1
     | cons _ _=>rfl
    clear hdd hqe hq hd h0 hall
    go_enter Tryz.func47,Tryz.ntmps47
    go_wp2_with (first | (go_at_call 78;refine (KP.out _).mono ?_;rintro e w' ⟨rfl,rfl⟩) | (go_at_call 79;refine (KT.out _).mono ?_;rintro e w1 ⟨rfl,a1⟩;have A1:=gH a1;clear a1))
    go_ret2
    exact toN_none 0 H0.out A1.out
   ·have q1:q.toList=[]:=by rw [hqe,hall]
    have q2:q.toList.isEmpty=true:=by rw [q1];rfl
    have hdl:0 < (dgs s).size:=by rw [hd];exact hz
    by_cases h4:d[0]=48∧eqS s ⟨#[48]⟩=false
    ·obtain ⟨h4,h5⟩:=h4
     have H0:=gH (num_zero (s:=s) hdl (by subst hd;exact h4) h5)
     have h4':(d[0].toNat:Int)=48:=by rw [h4];rfl
     have h5':(s.toList==[48])=false:=by
      have e:(⟨#[48]⟩:ByteArray).toList=[48]:=by rw [ByteArray.toList_eq]
      unfold eqS at h5;rwa [e] at h5
     have h6:¬ s.toList=[48]:=by simpa using h5'
     clear h5
     clear hdd hqe hq hd h0 hall hdl h4
     go_enter Tryz.func47,Tryz.ntmps47
     go_wp2_with (first | (go_at_call 78;refine (KP.out _).mono ?_;rintro e w' ⟨rfl,rfl⟩) | (go_at_call 79;refine (KT.out _).mono ?_;rintro e w1 ⟨rfl,a1⟩;have A1:=gH a1;clear a1))
     go_ret2
     exact toN_none 0 H0.out A1.out
    ·have h7:d[0]≠48∨eqS s ⟨#[48]⟩=true:=by
      by_cases hx:d[0]=48
      ·right
       cases hy:eqS s ⟨#[48]⟩ with
       | true=>rfl
       | false=>exact absurd ⟨hx,hy⟩ h4
      ·exact .inl hx
     obtain ⟨n,hn,hsz,hr⟩:=num_atoi (num_form (s:=s) hdl (by rw [hd];omega) hall (by subst hd;exact h7))
     have KA:=gH (show ∀ w:World,Calls Tryz.prog 80 #[.string s] w fun e w'=>e=.returned (.tuple #[.int .i64 n,.nilIface])∧Aft w w' from
      fun w=>(Tryz.strconv_Atoi s n (by omega) hn w).mono fun e w' ⟨he,t,ht⟩=>⟨he,by subst ht;exact aft_bytes w _ t⟩)
     have e48:(⟨#[48]⟩:ByteArray).toList=[48]:=by rw [ByteArray.toList_eq]
     have HR:=gH hr
     clear hr hn hsz hdd hqe hq hd h0 hall hdl h4
     have fin:∀ w2,Aft w w2→ToN s w (.returned (.tuple #[.int .i64 n,.bool (inN n)])) w2:=by
      intro w2 a2
      refine ⟨a2,n,?_,?_⟩
      ·rw [HR.out];cases inN n<;>rfl
      ·intro m hm
       rw [HR.out] at hm
       split at hm
       ·simpa using hm
       ·cases hm
     have FIN:=gH fin
     clear fin
     unfold inN at FIN
     rcases h7 with h7 | h7
     ·have h8:¬ (d[0].toNat:Int)=48:=by
       intro e;apply h7;rw [← UInt8.toNat_inj];exact Int.ofNat.inj e
      have h8':((d[0].toNat:Int)==48)=false:=by rw [beq_eq_false_iff_ne];exact h8
      clear h7
      by_cases g1 : -1000000000≤n
      all_goals
       go_enter Tryz.func47,Tryz.ntmps47
       go_wp2_with (first | (go_at_call 78;refine (KP.out _).mono ?_;rintro e w' ⟨rfl,rfl⟩) | (go_at_call 79;refine (KT.out _).mono ?_;rintro e w1 ⟨rfl,a1⟩;have A1:=gH a1;clear a1) | (go_at_call 80;refine (KA.out _).mono ?_;rintro e w2 ⟨rfl,a2⟩;have A2:=gH (A1.out.trans a2);clear a2))
      ·go_ret2
       have:=FIN.out w2 A2.out
       rw [decide_eq_true g1,Bool.true_and] at this
       exact this
      ·go_ret2
       have:=FIN.out w2 A2.out
       rw [decide_eq_false (show ¬ (-1000000000:Int)≤n by omega),Bool.false_and] at this
       exact this
     ·have h7':s=⟨#[48]⟩:=(eqS_iffD _ _).1 h7
      have h9:(s.toList==[48])=true:=by rw [h7',e48];rfl
      have h10:s.toList=[48]:=by simpa using h9
      clear h7' h7
      by_cases h8:(d[0].toNat:Int)=48
      all_goals
       by_cases g1 : -1000000000≤n
       all_goals
        go_enter Tryz.func47,Tryz.ntmps47
        go_wp2_with (first | (go_at_call 78;refine (KP.out _).mono ?_;rintro e w' ⟨rfl,rfl⟩) | (go_at_call 79;refine (KT.out _).mono ?_;rintro e w1 ⟨rfl,a1⟩;have A1:=gH a1;clear a1) | (go_at_call 80;refine (KA.out _).mono ?_;rintro e w2 ⟨rfl,a2⟩;have A2:=gH (A1.out.trans a2);clear a2))
        go_ret2
        have:=FIN.out w2 A2.out
        first | rw [decide_eq_true g1,Bool.true_and] at this | rw [decide_eq_false (show ¬ (-1000000000:Int)≤n by omega),Bool.false_and] at this
        exact this
theorem dplain_any (s:ByteArray) (w:World) (hs:Small s.size):Calls Tryz.prog 86 #[.string s] w fun e w'=>e=.returned (.bool (txtB s))∧w=w':=by
 have hs':=hs.max
 unfold maxLen at hs'
 go_enter Tryz.func86,Tryz.ntmps86
 go_wp2_with fail
 go_loop [6] (fun i=>∃ k:Nat,k≤s.size∧i=.int .i64 k∧(s.data.toList.take k).all isPl=true) (fun i=>s.size - (intOf i).toNat)
 case atStart=>exact ⟨0,Nat.zero_le _,rfl,rfl⟩
 case round =>
  obtain ⟨k,hk,rfl,ha⟩:=hrel
  have HA:=gH ha;clear ha
  by_cases hlt:k < s.size
  ·go_wp2_with (go_at_call 114;refine (indexPl _ _).mono ?_;rintro e w' ⟨rfl,rfl⟩)
   ·have hp:isPl s[k]=false:=(plIdx_iff _).1 (by assumption)
    go_ret
    exact ⟨by unfold txtB;rw [pl_false s k hlt hp];rfl,rfl⟩
   ·have hp:isPl s[k]=true:=by
     have h0:0≤plIdx s[k]:=by assumption
     have:=plIdx_iff s[k]
     cases h:isPl s[k]
     ·have:=this.2 h;omega
     ·rfl
    go_round
    case rel=>exact ⟨k+1,by omega,by go_num,by rw [pl_succ s k hlt,HA.out,hp];rfl⟩
    case measure=>simp [intOf];omega
  ·go_wp2_with fail
   go_ret
   refine ⟨?_,rfl⟩
   refine Eq.trans (b:=.returned (.bool _)) rfl (ret_of (bool_of ?_))
   unfold txtB
   rw [pl_true s k hlt HA.out,Bool.true_and]
   by_cases h32:s.size≤32
   ·rw [decide_eq_true h32];exact decide_eq_true (by omega)
   ·rw [decide_eq_false h32];exact decide_eq_false (by omega)
theorem number_rd (b p:Nat) (W:Ws) (w:World) (h:WdS w b p W):Calls Tryz.prog 28 #[.pointer (some ⟨b,0,none⟩)] w (RdQ b p w (fun _ v x=>v=.int .i64 x) (numP W)):=by
 cases W with
 | nil =>
  have HM:=gH (word_no b p w h)
  clear h
  go_enter Tryz.func28,Tryz.ntmps28
  go_wp2_with (first | (go_at_call 27;refine HM.out.mono ?_;rintro e w' ⟨he,rfl⟩;unfold NoL at he;subst he))
  exact ⟨rfl,Kw.refl _ _,rfl⟩
 | cons s W =>
  have HM:=gH (word_yes b p s W w h)
  have hs:=h.small
  obtain ⟨q,hq⟩:∃ q,numB s=q:=⟨_,rfl⟩
  have HN:=gH (show ∀ w1:World,Calls Tryz.prog 47 #[.string s] w1 fun e w'=>Aft w1 w'∧∃ n,e=.returned (.tuple #[.int .i64 n,.bool q.isSome])∧∀ m,q=some m→n=m from fun w1=>by rw [← hq];exact toNumber_any s w1 hs)
  have HQ:=gH hq
  clear h hq hs
  cases q with
  | none =>
   go_enter Tryz.func28,Tryz.ntmps28
   go_wp2_with (first | (go_at_call 27;refine HM.out.mono ?_;rintro e w1 ⟨rfl,d1,k1⟩;have D1:=gH d1;have K1:=gH k1;clear d1 k1) | (go_at_call 47;refine (HN.out _).mono ?_;rintro e w2 ⟨a2,n,rfl,hn⟩;have A2:=gH a2;clear a2 hn) | (go_at_call 18;refine (dis_no _).mono ?_;rintro e w' ⟨he,rfl⟩;unfold NoL at he;subst he))
   refine ⟨rfl,K1.out.aft A2.out,?_⟩
   have:numP (s::W)=none:=by simp [numP,oneP,HQ.out]
   rw [this];rfl
  | some n =>
   go_enter Tryz.func28,Tryz.ntmps28
   go_wp2_with (first | (go_at_call 27;refine HM.out.mono ?_;rintro e w1 ⟨rfl,d1,k1⟩;have D1:=gH d1;have K1:=gH k1;clear d1 k1) | (go_at_call 47;refine (HN.out _).mono ?_;rintro e w2 ⟨a2,n',rfl,hn⟩;have A2:=gH a2;clear a2;obtain rfl:=hn n rfl;clear hn) | (go_at_call 18;refine (dis_ok _).mono ?_;rintro e w' ⟨rfl,rfl⟩))
   go_ret
   have:numP (s::W)=some (n',W):=by simp [numP,oneP,HQ.out]
   unfold RdQ
   rw [this]
   exact ⟨K1.out.aft A2.out,_,rfl,rfl,D1.out.aft A2.out⟩
def ColV (_:World) (v:Value) (c:Col):Prop:=v=.agg #[.string c.name,.int .i64 c.kind,.bool c.null]∧Small c.name.size
def ValV (_:World) (v:Value) (x:Val):Prop:=v=.agg #[.int .i64 x.kind,.int .i64 x.int,.string x.text]∧Small x.text.size
theorem trimSuf_le (l x:Bts):(Lib.trimSuffix l x).length≤l.length:=by
 unfold Lib.trimSuffix
 split
 ·rw [List.length_take];omega
 ·exact Nat.le_refl _
theorem trimPre_le (l x:Bts):(Lib.trimPrefix l x).length≤l.length:=by
 unfold Lib.trimPrefix
 split
 ·rw [List.length_drop];omega
 ·exact Nat.le_refl _
theorem nulless_le (s:ByteArray):(nulless s).size≤s.size:=by
 unfold nulless;rw [wd_size,Lib.size_eq];exact trimSuf_le _ _
theorem quoless_le (s:ByteArray):(quoless s).size≤s.size:=by
 unfold quoless;rw [wd_size,Lib.size_eq];exact trimPre_le _ _
theorem cutN_le (s:ByteArray):(cutN s).size≤s.size:=by
 unfold cutN;rw [wd_size,Lib.size_eq];unfold Lib.cut
 split
 ·simp only;rw [List.length_take];omega
 ·exact Nat.le_refl _
def numT (neg:Bool) (l:Bts):Int × Bool :=
 if l.length=0∨10 < l.length∨(l.head? = some 48∧(1 < l.length∨neg=true)) then (0,false)
 else if l.all isDig then (if accN 0 l≤1000000000 then (if neg then -(accN 0 l:Int) else accN 0 l,true) else (0,false)) else (0,false)
theorem numV_of {l:Bts} {s:ByteArray} (h:s.data.toList=l):numV s=((numL l).getD 0,(numL l).isSome):=by subst h;rfl
theorem numL_no {l:Bts} (h:formN l=false):numL l=none:=by unfold numL;rw [h];rfl
theorem numT_neg (r:Bts) (hr:r≠[]):((numL (45::r)).getD 0,(numL (45::r)).isSome)=numT true r:=by
 have e1:r.isEmpty=false:=by cases r<;>simp_all
 have e2:¬ r.length=0:=by cases r<;>simp_all
 have ef:formN (45::r)=(decide (r.length≤10)&&r.all isDig&&!(r.head? == some 48)):=by
  unfold formN
  rw [minus_yes,e1,show ((45:UInt8)::r != [48])=true by simp]
  simp
 unfold numT
 by_cases h1:10 < r.length
 ·rw [if_pos (.inr (.inl h1)),numL_no (by rw [ef,decide_eq_false (by omega)];rfl)];rfl
 by_cases h2:r.head? = some 48
 ·rw [if_pos (.inr (.inr ⟨h2,.inr rfl⟩)),numL_no (by rw [ef,h2];simp)];rfl
 rw [if_neg (by simp [e2,h1,h2])]
 cases hd:r.all isDig with
 | false=>rw [numL_no (by rw [ef,hd];simp)];rfl
 | true =>
  rw [if_pos rfl]
  have hf:formN (45::r)=true:=by
   rw [ef,hd,decide_eq_true (by omega),show (r.head? == some 48)=false by simpa using h2];rfl
  have ha:Lib.atoi (45::r)=some (-(accN 0 r:Int)):=by
   simp only [Lib.atoi,Lib.decNat,e1,Bool.false_eq_true,if_false,beq_self_eq_true,if_true,dec_all _ _ hd,Option.map_some]
  unfold numL
  rw [if_pos hf,ha]
  show ((if inN (-(accN 0 r:Int)) then some (-(accN 0 r:Int)) else none).getD 0,_)=_
  by_cases h3:accN 0 r≤1000000000
  ·have:inN (-(accN 0 r:Int))=true:=by unfold inN;simp;omega
   simp [this,h3]
  ·have:inN (-(accN 0 r:Int))=false:=by unfold inN;simp;omega
   simp [this,h3]
theorem numT_pos (l:Bts) (hl:l.length≤1∨l.head? ≠ some 45):((numL l).getD 0,(numL l).isSome)=numT false l:=by
 cases l with
 | nil=>rfl
 | cons c r =>
  by_cases hc:c=45
  ·subst hc
   have:r=[]:=by
    rcases hl with h | h
    ·simpa using h
    ·simp at h
   subst this;rfl
  have em:=minus_no c r hc
  have e2:¬ (c::r).length=0:=by simp
  have ef:formN (c::r)=(decide ((c::r).length≤10)&&(c::r).all isDig&&!((c::r).head? == some 48&&(c::r) != [48])):=by
   unfold formN;rw [em];rfl
  unfold numT
  by_cases h1:10 < (c::r).length
  ·rw [if_pos (.inr (.inl h1)),numL_no (by rw [ef,decide_eq_false (by omega)];rfl)];rfl
  by_cases h2:(c::r).head? = some 48∧1 < (c::r).length
  ·rw [if_pos (.inr (.inr ⟨h2.1,.inl h2.2⟩)),numL_no (by
    rw [ef,h2.1]
    have:r≠[]:=fun e=>by have:=h2.2;rw [e] at this;simp at this
    simp [this])];rfl
  rw [if_neg (by
   rintro (h | h | ⟨h,h3 | h3⟩)
   ·exact e2 h
   ·exact h1 h
   ·exact h2 ⟨h,h3⟩
   ·cases h3)]
  cases hd:(c::r).all isDig with
  | false=>rw [numL_no (by rw [ef,hd];simp)];rfl
  | true =>
   rw [if_pos rfl]
   have hf:formN (c::r)=true:=by
    rw [ef,hd,decide_eq_true (by omega)]
    by_cases h3:c=48
    ·subst h3
     have:r=[]:=by
      cases r with
      | nil=>rfl
      | cons x y=>exact absurd ⟨rfl,by simp⟩ h2
     subst this;rfl
    ·simp [h3]
   have hc2:c≠43:=by intro e;subst e;simp [isDig] at hd
   have e3:(c==45)=false:=by rw [beq_eq_false_iff_ne];exact hc
   have e4:(c==43)=false:=by rw [beq_eq_false_iff_ne];exact hc2
   have ha:Lib.atoi (c::r)=some (accN 0 (c::r):Int):=by
    simp only [Lib.atoi,e3,e4,Bool.false_eq_true,if_false,Lib.decNat,List.isEmpty_cons,dec_all _ _ hd,Option.map_some]
   unfold numL
   rw [if_pos hf,ha]
   show ((if inN (accN 0 (c::r):Int) then some (accN 0 (c::r):Int) else none).getD 0,_)=_
   by_cases h3:accN 0 (c::r)≤1000000000
   ·have:inN (accN 0 (c::r):Int)=true:=by unfold inN;simp;omega
    simp [this,h3]
   ·have:inN (accN 0 (c::r):Int)=false:=by unfold inN;simp;omega
    simp [this,h3]
theorem accN_snoc (l:Bts) (c:UInt8) (a:Nat):accN a (l++[c])=accN a l*10+(c.toNat - 48):=by unfold accN;rw [List.foldl_append];rfl
theorem accN_lt:∀ (k:Nat) (l:Bts),l.length=k→l.all isDig=true→accN 0 l < 10 ^ k:=by
 intro k
 induction k with
 | zero=>intro l h _;have:=List.eq_nil_of_length_eq_zero h;subst this;decide
 | succ k ih =>
  intro l h hd
  have hn:l≠[]:=by intro e;subst e;simp at h
  obtain ⟨m,c,rfl⟩:∃ m c,l=m++[c]:=⟨l.dropLast,l.getLast hn,(List.dropLast_concat_getLast hn).symm⟩
  rw [List.all_append,Bool.and_eq_true] at hd
  have h1:=ih m (by simpa using h) hd.1
  rw [accN_snoc]
  have h2:c.toNat - 48 < 10:=by have:=hd.2;simp only [List.all_cons,List.all_nil,Bool.and_true] at this;exact (dig_back this).2
  rw [Nat.pow_succ];omega
theorem acc10 {l:Bts} (h:l.length≤10) (hd:l.all isDig=true):accN 0 l < 10000000000 :=
 Nat.lt_of_lt_of_le (accN_lt l.length l rfl hd) (Nat.pow_le_pow_right (n:=10) (by decide) h)
theorem dig_no (s:ByteArray) (k:Nat) (h:k < s.size) (hq:isDig s[k]=false):s.data.toList.all isDig=false:=by
 rw [← Bool.not_eq_true,List.all_eq_true]
 intro hx
 have:=hx s[k] (by rw [List.mem_iff_getElem];exact ⟨k,by rw [← Lib.size_eq];exact h,by simp [ByteArray.getElem_eq_getElem_data]⟩)
 rw [hq] at this;cases this
theorem take_snoc (s:ByteArray) (k:Nat) (h:k < s.size):s.data.toList.take (k+1)=s.data.toList.take k++[s[k]]:=by
 rw [List.take_add_one,List.getElem?_eq_getElem (by rw [← Lib.size_eq];exact h)]
 simp [ByteArray.getElem_eq_getElem_data]
theorem isDig_iff (c:UInt8):isDig c=true↔(48≤(c.toNat:Int)∧(c.toNat:Int)≤57):=by unfold isDig;simp;omega
def NumQ (r:Int × Bool) (w:World) (e:Ending) (w':World):Prop:=e=.returned (.tuple #[.int .i64 r.1,.bool r.2])∧w=w'
theorem number_pos (s:ByteArray) (w:World) (hs:Small s.size) (hp:s.size≤1∨∃ h:0 < s.size,s[0]≠45):Calls Tryz.prog 55 #[.string s] w (NumQ (numT false s.data.toList) w):=by
 have hs':=hs.max
 unfold maxLen at hs'
 have hp':((1:Int) < (s.size:Int))→∃ h:0 < s.size,((s[0].toNat:Int)==45)=false:=by
  intro h1
  rcases hp with h | ⟨h,h2⟩
  ·omega
  ·refine ⟨h,beq_eq_false_iff_ne.2 fun e=>h2 (UInt8.toNat_inj.1 ?_)⟩
   have:(45:UInt8).toNat=45:=rfl
   omega
 unfold NumQ
 by_cases b1:(1:Int) < (s.size:Int)
 ·obtain ⟨b0,b2⟩:=hp' b1
  clear hp' hp
  have b2':¬ (s[0].toNat:Int)=45:=by simpa using b2
  have hD0:(s.size:Int)=s.size:=rfl
  have hlen:s.data.toList.length=s.size:=(Lib.size_eq s).symm
  by_cases c1:s.size=0
  ·have H:=gH (show numT false s.data.toList=(0,false) from by unfold numT;rw [hlen,if_pos (.inl c1)])
   have c1':(s.size:Int) < 1:=by omega
   clear c1
   go_enter Tryz.func55,Tryz.ntmps55
   go_wp2_with fail
   all_goals
    go_ret2
    exact ⟨by rw [H.out];rfl,rfl⟩
  have c1':¬ (s.size:Int) < 1:=by omega
  have c1d:decide ((s.size:Int) < 1)=false:=decide_eq_false c1'
  have c1p:0 < s.size:=by omega
  by_cases c2:10 < s.size
  ·have H:=gH (show numT false s.data.toList=(0,false) from by unfold numT;rw [hlen,if_pos (.inr (.inl c2))])
   have c2':(10:Int) < (s.size:Int):=by omega
   clear c2
   go_enter Tryz.func55,Tryz.ntmps55
   go_wp2_with fail
   all_goals
    go_ret2
    exact ⟨by rw [H.out];rfl,rfl⟩
  have c2':¬ (10:Int) < (s.size:Int):=by omega
  have c2d:decide ((10:Int) < (s.size:Int))=false:=decide_eq_false c2'
  have hh:s.data.toList.head? = some s[0]:=by
   cases hq:s.data.toList with
   | nil=>rw [hq] at hlen;simp at hlen;omega
   | cons a l=>rw [← head_get _ c1p,hq];rfl
  have e48:((s[0].toNat:Int)==48)=decide (s[0]=48):=by
   rw [Bool.eq_iff_iff];simp only [beq_iff_eq,decide_eq_true_eq]
   constructor
   ·intro h;exact UInt8.toNat_inj.1 (by have:(48:UInt8).toNat=48:=rfl;omega)
   ·intro h;rw [h];rfl
  by_cases c3:s[0]=48∧(1 < s.size∨false=true)
  ·have H:=gH (show numT false s.data.toList=(0,false) from by unfold numT;rw [hlen,hh,if_pos (.inr (.inr ⟨by rw [c3.1],c3.2⟩))])
   have c4:((s[0].toNat:Int)==48)=true:=by rw [e48];exact decide_eq_true c3.1
   have c5:(s[0].toNat:Int)=48:=by simpa using c4
   have c6:(1:Int) < (s.size:Int):=by
    rcases c3.2 with h | h
    ·omega
    ·cases h
   clear c3 hh e48 hlen c1 c2
   go_enter Tryz.func55,Tryz.ntmps55
   go_wp2_with fail
   all_goals
    go_ret2
    exact ⟨by rw [H.out];rfl,rfl⟩
  have c3n:¬ (s.data.toList.length=0∨10 < s.data.toList.length∨(s.data.toList.head? = some 48∧(1 < s.data.toList.length∨false=true))):=by
   rw [hlen,hh]
   rintro (h | h | ⟨h,h'⟩)
   ·exact c1 h
   ·exact c2 h
   ·exact c3 ⟨by simpa using h,h'⟩
  have HNO:=gH (show ∀ k (h:k < s.size),isDig s[k]=false→numT false s.data.toList=(0,false) from fun k h hq=>by unfold numT;rw [if_neg c3n,dig_no s k h hq];rfl)
  have HALL:=gH (show s.data.toList.all isDig=true→numT false s.data.toList=if accN 0 s.data.toList≤1000000000 then ((accN 0 s.data.toList:Int),true) else (0,false) from fun hq=>by unfold numT;rw [if_neg c3n,hq];rfl)
  have HLN:=gH hlen
  have c3':s[0]=48→¬ 1 < s.size:=fun h h1=>c3 ⟨h,.inl h1⟩
  have hcase:((s[0].toNat:Int)==48)=false∨(((s[0].toNat:Int)==48)=true∧(s.size:Int)=1):=by
   rw [e48]
   by_cases h:s[0]=48
   ·exact .inr ⟨decide_eq_true h,by have:=c3' h;omega⟩
   ·exact .inl (decide_eq_false h)
  clear hlen hh e48 c3 c3n c3' c1 c2
  rcases hcase with c4 | ⟨c4,c6⟩
  ·have c5:¬ (s[0].toNat:Int)=48:=by simpa using c4
   go_enter Tryz.func55,Tryz.ntmps55
   go_wp2_with fail
   go_loop [6,7] (fun n i=>∃ k:Nat,k≤s.size∧n=.int .i64 (accN 0 (s.data.toList.take k))∧i=.int .i64 k∧(s.data.toList.take k).all isDig=true) (fun n i=>s.size - (intOf i).toNat)
   case atStart=>exact ⟨0,Nat.zero_le _,rfl,rfl,rfl⟩
   case round =>
    obtain ⟨k,hk,rfl,rfl,ha⟩:=hrel
    have hacc:=acc10 (l:=s.data.toList.take k) (by rw [List.length_take];omega) ha
    have HA:=gH ha
    obtain ⟨m,hm⟩:∃ m,accN 0 (s.data.toList.take k)=m:=⟨_,rfl⟩
    rw [hm] at hacc ⊢
    have HM:=gH hm
    clear ha hm
    by_cases hlt:k < s.size
    ·cases hq:isDig s[k]
     ·have H:=gH (HNO.out k hlt hq)
      have hb:(s[k].toNat:Int) < 48∨57 < (s[k].toNat:Int):=by
       have:=isDig_iff s[k]
       rw [hq] at this
       simp at this
       omega
      clear hq
      rcases hb with hb | hb
      all_goals
       go_wp2_with fail
       all_goals
        go_ret2
        exact ⟨by rw [H.out];rfl,rfl⟩
     ·have hb:=(isDig_iff s[k]).1 hq
      have HS:=gH (take_snoc s k hlt)
      have HQ:=gH hq
      clear hq
      obtain ⟨hb1,hb2⟩:=hb
      go_wp2_with fail
      go_round
      case rel=>exact ⟨k+1,by omega,by rw [HS.out,accN_snoc,HM.out];go_num,by go_num,by rw [HS.out,List.all_append,HA.out];simp [HQ.out]⟩
      case measure=>simp [intOf];omega
    ·have hkk:k=s.size:=by omega
     have hd:s.data.toList.all isDig=true:=by
      have:=HA.out
      rw [hkk,List.take_of_length_le (by rw [HLN.out];exact Nat.le_refl _)] at this
      exact this
     have hm2:accN 0 s.data.toList=m:=by
      have:=HM.out
      rw [hkk,List.take_of_length_le (by rw [HLN.out];exact Nat.le_refl _)] at this
      exact this
     have HALL2:=gH (HALL.out hd)
     rw [hm2] at HALL2
     clear hd hm2
     by_cases hm3:(1000000000:Int) < (m:Int)
     ·go_wp2_with fail
      all_goals
       go_ret2
       exact ⟨by rw [HALL2.out,if_neg (by omega)];rfl,rfl⟩
     ·go_wp2_with fail
      all_goals
       go_ret2
       exact ⟨by rw [HALL2.out,if_pos (by omega)];first | rfl | (congr 1;congr 1;go_num),rfl⟩
  ·have c5:(s[0].toNat:Int)=48:=by simpa using c4
   exact absurd c6 (by omega)
 ·clear hp' hp
  have hD0:(s.size:Int)=s.size:=rfl
  have hlen:s.data.toList.length=s.size:=(Lib.size_eq s).symm
  by_cases c1:s.size=0
  ·have H:=gH (show numT false s.data.toList=(0,false) from by unfold numT;rw [hlen,if_pos (.inl c1)])
   have c1':(s.size:Int) < 1:=by omega
   clear c1
   go_enter Tryz.func55,Tryz.ntmps55
   go_wp2_with fail
   all_goals
    go_ret2
    exact ⟨by rw [H.out];rfl,rfl⟩
  have c1':¬ (s.size:Int) < 1:=by omega
  have c1d:decide ((s.size:Int) < 1)=false:=decide_eq_false c1'
  have c1p:0 < s.size:=by omega
  by_cases c2:10 < s.size
  ·have H:=gH (show numT false s.data.toList=(0,false) from by unfold numT;rw [hlen,if_pos (.inr (.inl c2))])
   have c2':(10:Int) < (s.size:Int):=by omega
   clear c2
   go_enter Tryz.func55,Tryz.ntmps55
   go_wp2_with fail
   all_goals
    go_ret2
    exact ⟨by rw [H.out];rfl,rfl⟩
  have c2':¬ (10:Int) < (s.size:Int):=by omega
  have c2d:decide ((10:Int) < (s.size:Int))=false:=decide_eq_false c2'
  have hh:s.data.toList.head? = some s[0]:=by
   cases hq:s.data.toList with
   | nil=>rw [hq] at hlen;simp at hlen;omega
   | cons a l=>rw [← head_get _ c1p,hq];rfl
  have e48:((s[0].toNat:Int)==48)=decide (s[0]=48):=by
   rw [Bool.eq_iff_iff];simp only [beq_iff_eq,decide_eq_true_eq]
   constructor
   ·intro h;exact UInt8.toNat_inj.1 (by have:(48:UInt8).toNat=48:=rfl;omega)
   ·intro h;rw [h];rfl
  by_cases c3:s[0]=48∧(1 < s.size∨false=true)
  ·have H:=gH (show numT false s.data.toList=(0,false) from by unfold numT;rw [hlen,hh,if_pos (.inr (.inr ⟨by rw [c3.1],c3.2⟩))])
   have c4:((s[0].toNat:Int)==48)=true:=by rw [e48];exact decide_eq_true c3.1
   have c5:(s[0].toNat:Int)=48:=by simpa using c4
   have c6:(1:Int) < (s.size:Int):=by
    rcases c3.2 with h | h
    ·omega
    ·cases h
   exact absurd c6 b1
  have c3n:¬ (s.data.toList.length=0∨10 < s.data.toList.length∨(s.data.toList.head? = some 48∧(1 < s.data.toList.length∨false=true))):=by
   rw [hlen,hh]
   rintro (h | h | ⟨h,h'⟩)
   ·exact c1 h
   ·exact c2 h
   ·exact c3 ⟨by simpa using h,h'⟩
  have HNO:=gH (show ∀ k (h:k < s.size),isDig s[k]=false→numT false s.data.toList=(0,false) from fun k h hq=>by unfold numT;rw [if_neg c3n,dig_no s k h hq];rfl)
  have HALL:=gH (show s.data.toList.all isDig=true→numT false s.data.toList=if accN 0 s.data.toList≤1000000000 then ((accN 0 s.data.toList:Int),true) else (0,false) from fun hq=>by unfold numT;rw [if_neg c3n,hq];rfl)
  have HLN:=gH hlen
  have c3':s[0]=48→¬ 1 < s.size:=fun h h1=>c3 ⟨h,.inl h1⟩
  have hcase:((s[0].toNat:Int)==48)=false∨(((s[0].toNat:Int)==48)=true∧(s.size:Int)=1):=by
   rw [e48]
   by_cases h:s[0]=48
   ·exact .inr ⟨decide_eq_true h,by have:=c3' h;omega⟩
   ·exact .inl (decide_eq_false h)
  clear hlen hh e48 c3 c3n c3' c1 c2
  rcases hcase with c4 | ⟨c4,c6⟩
  focus
   have c5:¬ (s[0].toNat:Int)=48:=by simpa using c4
  rotate_left
  focus
   have c5:(s[0].toNat:Int)=48:=by simpa using c4
  rotate_left
  all_goals
   go_enter Tryz.func55,Tryz.ntmps55
   go_wp2_with fail
   go_loop [6,7] (fun n i=>∃ k:Nat,k≤s.size∧n=.int .i64 (accN 0 (s.data.toList.take k))∧i=.int .i64 k∧(s.data.toList.take k).all isDig=true) (fun n i=>s.size - (intOf i).toNat)
   case atStart=>exact ⟨0,Nat.zero_le _,rfl,rfl,rfl⟩
   case round =>
    obtain ⟨k,hk,rfl,rfl,ha⟩:=hrel
    have hacc:=acc10 (l:=s.data.toList.take k) (by rw [List.length_take];omega) ha
    have HA:=gH ha
    obtain ⟨m,hm⟩:∃ m,accN 0 (s.data.toList.take k)=m:=⟨_,rfl⟩
    rw [hm] at hacc ⊢
    have HM:=gH hm
    clear ha hm
    by_cases hlt:k < s.size
    ·cases hq:isDig s[k]
     ·have H:=gH (HNO.out k hlt hq)
      have hb:(s[k].toNat:Int) < 48∨57 < (s[k].toNat:Int):=by
       have:=isDig_iff s[k]
       rw [hq] at this
       simp at this
       omega
      clear hq
      rcases hb with hb | hb
      all_goals
       go_wp2_with fail
       all_goals
        go_ret2
        exact ⟨by rw [H.out];rfl,rfl⟩
     ·have hb:=(isDig_iff s[k]).1 hq
      have HS:=gH (take_snoc s k hlt)
      have HQ:=gH hq
      clear hq
      obtain ⟨hb1,hb2⟩:=hb
      go_wp2_with fail
      go_round
      case rel=>exact ⟨k+1,by omega,by rw [HS.out,accN_snoc,HM.out];go_num,by go_num,by rw [HS.out,List.all_append,HA.out];simp [HQ.out]⟩
      case measure=>simp [intOf];omega
    ·have hkk:k=s.size:=by omega
     have hd:s.data.toList.all isDig=true:=by
      have:=HA.out
      rw [hkk,List.take_of_length_le (by rw [HLN.out];exact Nat.le_refl _)] at this
      exact this
     have hm2:accN 0 s.data.toList=m:=by
      have:=HM.out
      rw [hkk,List.take_of_length_le (by rw [HLN.out];exact Nat.le_refl _)] at this
      exact this
     have HALL2:=gH (HALL.out hd)
     rw [hm2] at HALL2
     clear hd hm2
     by_cases hm3:(1000000000:Int) < (m:Int)
     ·go_wp2_with fail
      all_goals
       go_ret2
       exact ⟨by rw [HALL2.out,if_neg (by omega)];rfl,rfl⟩
     ·go_wp2_with fail
      all_goals
       go_ret2
       exact ⟨by rw [HALL2.out,if_pos (by omega)];first | rfl | (congr 1;congr 1;go_num),rfl⟩
theorem number_neg (s:ByteArray) (w:World) (hs:Small s.size) (h0:1 < s.size) (hm:s[0]=45):Calls Tryz.prog 55 #[.string s] w (NumQ (numT true (s.extract 1 s.size).data.toList) w):=by
 have hs':=hs.max
 unfold maxLen at hs'
 have b1:(1:Int) < (s.size:Int):=by omega
 have b2:((s[0].toNat:Int)==45)=true:=by rw [hm];rfl
 have b2':(s[0].toNat:Int)=45:=by simpa using b2
 obtain ⟨d,hd⟩:∃ d,s.extract 1 s.size=d:=⟨_,rfl⟩
 have hds:d.size+1=s.size:=by rw [← hd,ByteArray.size_extract];omega
 have hdm:d.size≤9223372036854775807:=by omega
 rw [hd]
 clear hm
 unfold NumQ
 have hD0:(d.size:Int)=d.size:=rfl
 have hlen:d.data.toList.length=d.size:=(Lib.size_eq d).symm
 by_cases c1:d.size=0
 ·have H:=gH (show numT true d.data.toList=(0,false) from by unfold numT;rw [hlen,if_pos (.inl c1)])
  have c1':(d.size:Int) < 1:=by omega
  clear c1
  go_enter Tryz.func55,Tryz.ntmps55
  go_wp2_with fail
  all_goals
   go_ret2
   exact ⟨by rw [H.out];rfl,rfl⟩
 have c1':¬ (d.size:Int) < 1:=by omega
 have c1d:decide ((d.size:Int) < 1)=false:=decide_eq_false c1'
 have c1p:0 < d.size:=by omega
 by_cases c2:10 < d.size
 ·have H:=gH (show numT true d.data.toList=(0,false) from by unfold numT;rw [hlen,if_pos (.inr (.inl c2))])
  have c2':(10:Int) < (d.size:Int):=by omega
  clear c2
  go_enter Tryz.func55,Tryz.ntmps55
  go_wp2_with fail
  all_goals
   go_ret2
   exact ⟨by rw [H.out];rfl,rfl⟩
 have c2':¬ (10:Int) < (d.size:Int):=by omega
 have c2d:decide ((10:Int) < (d.size:Int))=false:=decide_eq_false c2'
 have hh:d.data.toList.head? = some d[0]:=by
  cases hq:d.data.toList with
  | nil=>rw [hq] at hlen;simp at hlen;omega
  | cons a l=>rw [← head_get _ c1p,hq];rfl
 have e48:((d[0].toNat:Int)==48)=decide (d[0]=48):=by
  rw [Bool.eq_iff_iff];simp only [beq_iff_eq,decide_eq_true_eq]
  constructor
  ·intro h;exact UInt8.toNat_inj.1 (by have:(48:UInt8).toNat=48:=rfl;omega)
  ·intro h;rw [h];rfl
 by_cases c3:d[0]=48∧(1 < d.size∨true=true)
 ·have H:=gH (show numT true d.data.toList=(0,false) from by unfold numT;rw [hlen,hh,if_pos (.inr (.inr ⟨by rw [c3.1],c3.2⟩))])
  have c4:((d[0].toNat:Int)==48)=true:=by rw [e48];exact decide_eq_true c3.1
  have c5:(d[0].toNat:Int)=48:=by simpa using c4
  clear c3 hh e48 hlen c1 c2
  by_cases c6:(1:Int) < (d.size:Int)
  ·go_enter Tryz.func55,Tryz.ntmps55
   go_wp2_with fail
   all_goals
    go_ret2
    exact ⟨by rw [H.out];rfl,rfl⟩
  ·go_enter Tryz.func55,Tryz.ntmps55
   go_wp2_with fail
   all_goals
    go_ret2
    exact ⟨by rw [H.out];rfl,rfl⟩
 have c3n:¬ (d.data.toList.length=0∨10 < d.data.toList.length∨(d.data.toList.head? = some 48∧(1 < d.data.toList.length∨true=true))):=by
  rw [hlen,hh]
  rintro (h | h | ⟨h,h'⟩)
  ·exact c1 h
  ·exact c2 h
  ·exact c3 ⟨by simpa using h,h'⟩
 have HNO:=gH (show ∀ k (h:k < d.size),isDig d[k]=false→numT true d.data.toList=(0,false) from fun k h hq=>by unfold numT;rw [if_neg c3n,dig_no d k h hq];rfl)
 have HALL:=gH (show d.data.toList.all isDig=true→numT true d.data.toList=if accN 0 d.data.toList≤1000000000 then (-(accN 0 d.data.toList:Int),true) else (0,false) from fun hq=>by unfold numT;rw [if_neg c3n,hq];rfl)
 have HLN:=gH hlen
 have c3':d[0]=48→¬ 1 < d.size:=fun h h1=>c3 ⟨h,.inl h1⟩
 have hcase:((d[0].toNat:Int)==48)=false∨(((d[0].toNat:Int)==48)=true∧(d.size:Int)=1):=by
  rw [e48]
  by_cases h:d[0]=48
  ·exact .inr ⟨decide_eq_true h,by have:=c3' h;omega⟩
  ·exact .inl (decide_eq_false h)
 have c40:((d[0].toNat:Int)==48)=false:=by rw [e48];exact decide_eq_false fun h=>c3 ⟨h,.inr rfl⟩
 clear hlen hh e48 c3 c3n c3' c1 c2
 have c4:((d[0].toNat:Int)==48)=false:=c40
 have c5:¬ (d[0].toNat:Int)=48:=by simpa using c4
 clear hcase
 go_enter Tryz.func55,Tryz.ntmps55
 go_wp2_with fail
 go_loop [6,7] (fun n i=>∃ k:Nat,k≤d.size∧n=.int .i64 (accN 0 (d.data.toList.take k))∧i=.int .i64 k∧(d.data.toList.take k).all isDig=true) (fun n i=>d.size - (intOf i).toNat)
 case atStart=>exact ⟨0,Nat.zero_le _,rfl,rfl,rfl⟩
 case round =>
  obtain ⟨k,hk,rfl,rfl,ha⟩:=hrel
  have hacc:=acc10 (l:=d.data.toList.take k) (by rw [List.length_take];omega) ha
  have HA:=gH ha
  obtain ⟨m,hm⟩:∃ m,accN 0 (d.data.toList.take k)=m:=⟨_,rfl⟩
  rw [hm] at hacc ⊢
  have HM:=gH hm
  clear ha hm
  by_cases hlt:k < d.size
  ·cases hq:isDig d[k]
   ·have H:=gH (HNO.out k hlt hq)
    have hb:(d[k].toNat:Int) < 48∨57 < (d[k].toNat:Int):=by
     have:=isDig_iff d[k]
     rw [hq] at this
     simp at this
     omega
    clear hq
    rcases hb with hb | hb
    all_goals
     go_wp2_with fail
     all_goals
      go_ret2
      exact ⟨by rw [H.out];rfl,rfl⟩
   ·have hb:=(isDig_iff d[k]).1 hq
    have HS:=gH (take_snoc d k hlt)
    have HQ:=gH hq
    clear hq
    obtain ⟨hb1,hb2⟩:=hb
    go_wp2_with fail
    go_round
    case rel=>exact ⟨k+1,by omega,by rw [HS.out,accN_snoc,HM.out];go_num,by go_num,by rw [HS.out,List.all_append,HA.out];simp [HQ.out]⟩
    case measure=>simp [intOf];omega
  ·have hkk:k=d.size:=by omega
   have hd:d.data.toList.all isDig=true:=by
    have:=HA.out
    rw [hkk,List.take_of_length_le (by rw [HLN.out];exact Nat.le_refl _)] at this
    exact this
   have hm2:accN 0 d.data.toList=m:=by
    have:=HM.out
    rw [hkk,List.take_of_length_le (by rw [HLN.out];exact Nat.le_refl _)] at this
    exact this
   have HALL2:=gH (HALL.out hd)
   rw [hm2] at HALL2
   clear hd hm2
   by_cases hm3:(1000000000:Int) < (m:Int)
   ·go_wp2_with fail
    all_goals
     go_ret2
     exact ⟨by rw [HALL2.out,if_neg (by omega)];rfl,rfl⟩
   ·go_wp2_with fail
    all_goals
     go_ret2
     exact ⟨by rw [HALL2.out,if_pos (by omega)];first | rfl | (congr 1;congr 1;go_num),rfl⟩
theorem number_dn (s:ByteArray) (w:World) (hs:Small s.size):Calls Tryz.prog 55 #[.string s] w fun e w'=>e=.returned (.tuple #[.int .i64 (numV s).1,.bool (numV s).2])∧w=w':=by
 by_cases h:∃ h:1 < s.size,s[0]=45
 ·obtain ⟨h1,h2⟩:=h
  have e:numV s=numT true (s.extract 1 s.size).data.toList:=by
   have hl:s.data.toList=45::(s.extract 1 s.size).data.toList:=by
    rw [Lib.extract_to_end]
    have:=head_get s (by omega)
    cases hq:s.data.toList with
    | nil=>have hz:=Lib.size_eq s;rw [hq,List.length_nil] at hz;omega
    | cons a l =>
     rw [hq] at this
     have this:a=s[0]:=this
     simp only [List.drop_succ_cons,List.drop_zero]
     rw [this,h2]
   rw [numV_of hl]
   refine numT_neg _ fun e=>?_
   rw [e] at hl
   have hz:=Lib.size_eq s
   rw [hl,List.length_cons,List.length_nil] at hz
   omega
  rw [e]
  exact number_neg s w hs h1 h2
 ·have hp:s.size≤1∨∃ h:0 < s.size,s[0]≠45:=by
   by_cases h1:s.size≤1
   ·exact .inl h1
   ·exact .inr ⟨by omega,fun e=>h ⟨by omega,e⟩⟩
  have e:numV s=numT false s.data.toList:=by
   rw [numV_of rfl]
   refine numT_pos _ ?_
   rcases hp with h | ⟨h,h2⟩
   ·exact .inl (by rw [← Lib.size_eq];exact h)
   ·refine .inr fun e=>h2 ?_
    have:=head_get s h
    cases hq:s.data.toList with
    | nil=>rw [hq] at e;cases e
    | cons a l =>
     rw [hq] at e this
     simp only [List.head?_cons,Option.some.injEq] at e
     have this:a=s[0]:=this
     rw [← this,e]
  rw [e]
  exact number_pos s w hs hp
theorem eqS_as {a b:ByteArray} {q:Bool} (h:eqS a b=q):(a.toList==b.data.toList)=q:=by rw [← ByteArray.toList_eq];exact h
def Kn (n:Nat) (w w':World):Prop:=Kb (fun k=>n≤k) w w'
theorem Kn.refl (n:Nat) (w:World):Kn n w w:=Kb.refl _ w
theorem Kn.aft {n:Nat} {w w1 w2:World} (h:Kn n w w1) (a:Aft w1 w2):Kn n w w2:=Kb.trans h (Kb.of_aft a)
theorem Kn.alloc {n:Nat} {w w1:World} (h:Kn n w w1) (o:Obj):Kn n w (w1.alloc o):=h.aft ((Aft.refl _).alloc o)
theorem Kn.set {n:Nat} {w w1:World} (h:Kn n w w1) (g j:Nat) (v:Value) (hg:n≤g):Kn n w (w1.setCell ⟨g,j,none⟩ v) :=
 ⟨h.os,h.tape,h.output,by simpa using h.size,fun k hk hn=>by
  have hne:¬ k=g:=by have hn':¬ n≤k:=hn;omega
  rw [Below.heap_setCell _ _ _ _ hne]
  exact h.block k hk hn⟩
theorem Kw.kn {b n:Nat} {w w1 w2:World} (h:Kw b w w1) (k:Kn n w1 w2) (hn:w.heap.size≤n):Kw b w w2 :=
 ⟨k.os.trans h.os,k.tape.trans h.tape,k.output.trans h.output,Nat.le_trans h.size k.size,fun j hj hne=>(k.block j (Nat.lt_of_lt_of_le hj h.size) (by omega)).trans (h.block j hj hne)⟩
theorem WdS.kn {b p n:Nat} {w1 w2:World} {W:Ws} (h:WdS w1 b p W) (k:Kn n w1 w2) (hb:b < n) (hp:p < n):WdS w2 b p W:=h.kb k (by omega) (by omega) (by omega)
theorem WdS.plt {w:World} {b p:Nat} {W:Ws} (h:WdS w b p W):p < w.heap.size:=by obtain ⟨o,c,_,h2⟩:=h.ex;exact h2.2.1
theorem lvCol_at {V:World} {r:Nat} {v0 v1 v2:Value} (h0:V.cell? ⟨r,0,none⟩=some v0) (h1:V.cell? ⟨r,1,none⟩=some v1) (h2:V.cell? ⟨r,2,none⟩=some v2) :
  (loadVar 67 ⟨r,0,none⟩).run Tryz.prog V=.ok (.agg #[v0,v1,v2]) V:=by
 have h:=run_lvCol V r 0 (by rw [h0];rfl) (by rw [Nat.zero_add,h1];rfl) (by rw [Nat.zero_add,h2];rfl)
 simp only [Nat.zero_add,h0,h1,h2,Option.getD_some] at h
 exact h
theorem lvVal_at {V:World} {r:Nat} {v0 v1 v2:Value} (h0:V.cell? ⟨r,0,none⟩=some v0) (h1:V.cell? ⟨r,1,none⟩=some v1) (h2:V.cell? ⟨r,2,none⟩=some v2) :
  (loadVar 39 ⟨r,0,none⟩).run Tryz.prog V=.ok (.agg #[v0,v1,v2]) V:=by
 have h:=run_lvVal V r 0 (by rw [h0];rfl) (by rw [Nat.zero_add,h1];rfl) (by rw [Nat.zero_add,h2];rfl)
 simp only [Nat.zero_add,h0,h1,h2,Option.getD_some] at h
 exact h
theorem set3 (w2:World) (r:Nat) (v0 v1 v2:Value) (h0:(w2.cell? ⟨r,0,none⟩).isSome=true) (h1:(w2.cell? ⟨r,1,none⟩).isSome=true) (h2:(w2.cell? ⟨r,2,none⟩).isSome=true) :
  (((w2.setCell ⟨r,0,none⟩ v0).setCell ⟨r,1,none⟩ v1).setCell ⟨r,2,none⟩ v2).cell? ⟨r,0,none⟩=some v0∧(((w2.setCell ⟨r,0,none⟩ v0).setCell ⟨r,1,none⟩ v1).setCell ⟨r,2,none⟩ v2).cell? ⟨r,1,none⟩=some v1 ∧
  (((w2.setCell ⟨r,0,none⟩ v0).setCell ⟨r,1,none⟩ v1).setCell ⟨r,2,none⟩ v2).cell? ⟨r,2,none⟩=some v2:=by
 refine ⟨?_,?_,?_⟩<;>go_simp
theorem lvCol_set (w2:World) (r:Nat) (v0 v1 v2:Value) (o:Obj) (hr:r < w2.heap.size) (h0:(w2.cell? ⟨r,0,none⟩).isSome=true) (h1:(w2.cell? ⟨r,1,none⟩).isSome=true) (h2:(w2.cell? ⟨r,2,none⟩).isSome=true) :
  (loadVar 67 ⟨r,0,none⟩).run Tryz.prog ((((w2.setCell ⟨r,0,none⟩ v0).setCell ⟨r,1,none⟩ v1).setCell ⟨r,2,none⟩ v2).alloc o)=.ok (.agg #[v0,v1,v2]) ((((w2.setCell ⟨r,0,none⟩ v0).setCell ⟨r,1,none⟩ v1).setCell ⟨r,2,none⟩ v2).alloc o):=by
 obtain ⟨a,b,c⟩:=set3 w2 r v0 v1 v2 h0 h1 h2
 have hl:r < (((w2.setCell ⟨r,0,none⟩ v0).setCell ⟨r,1,none⟩ v1).setCell ⟨r,2,none⟩ v2).heap.size:=by simpa using hr
 exact lvCol_at ((World.cell?_alloc_past _ _ _ hl).trans a) ((World.cell?_alloc_past _ _ _ hl).trans b) ((World.cell?_alloc_past _ _ _ hl).trans c)
theorem lvVal_set (w2:World) (r:Nat) (v0 v1 v2:Value) (h0:(w2.cell? ⟨r,0,none⟩).isSome=true) (h1:(w2.cell? ⟨r,1,none⟩).isSome=true) (h2:(w2.cell? ⟨r,2,none⟩).isSome=true) :
  (loadVar 39 ⟨r,0,none⟩).run Tryz.prog (((w2.setCell ⟨r,0,none⟩ v0).setCell ⟨r,1,none⟩ v1).setCell ⟨r,2,none⟩ v2)=.ok (.agg #[v0,v1,v2]) (((w2.setCell ⟨r,0,none⟩ v0).setCell ⟨r,1,none⟩ v1).setCell ⟨r,2,none⟩ v2):=by
 obtain ⟨a,b,c⟩:=set3 w2 r v0 v1 v2 h0 h1 h2
 exact lvVal_at a b c
theorem kw_box {b:Nat} {w w1:World} {c:Array Value} {t:TypeId} (h:Kw b (w.alloc (.cells c t)) w1) (hb:b < w.heap.size) :
  (∀ o,w1.cell? ⟨w.heap.size,o,none⟩=c[o]?)∧(∀ o,w1.frozen? ⟨w.heap.size,o,none⟩=false)∧w.heap.size < w1.heap.size:=by
 have h1:=h.block w.heap.size (by simp) (by omega)
 have hz:=h.size
 have hz':(w.alloc (.cells c t)).heap.size=w.heap.size+1:=by simp
 rw [hz'] at hz
 refine ⟨fun o=>?_,fun o=>?_,by omega⟩
 ·have h2:(w.alloc (.cells c t)).cell? ⟨w.heap.size,o,none⟩=c[o]? := by simp
  rw [← h2];simp [World.cell?,h1]
 ·have h2:(w.alloc (.cells c t)).frozen? ⟨w.heap.size,o,none⟩=false:=World.frozen?_alloc_at _ _ _ _ rfl
  rw [← h2];simp [World.frozen?,h1]
theorem small_z:Small zBy.size:=by unfold Small zBy;decide
theorem colP_cons (s:ByteArray) (W:Ws):colP (s::W)=(colB s).map fun x=>(x,W):=rfl
theorem valP_cons (s:ByteArray) (W:Ws):valP (s::W)=(valB s).map fun x=>(x,W):=rfl
theorem column_rd (b p:Nat) (W:Ws) (w:World) (h:WdS w b p W):Calls Tryz.prog 50 #[.pointer (some ⟨b,0,none⟩)] w (RdQ b p w ColV (colP W)):=by
 cases W with
 | nil =>
  have HM:=gH (fun w1 (h:WdS w1 b p [])=>word_no b p w1 h)
  have HH:=gH (h.aft ((Aft.refl w).alloc (.cells #[.string ⟨#[]⟩,.int .i64 0,.bool false] 67)))
  clear h
  go_enter Tryz.func50,Tryz.ntmps50
  go_wp2_with (first | (go_at_call 27;refine (HM.out _ HH.out).mono ?_;rintro e w' ⟨he,rfl⟩;unfold NoL at he;subst he))
  exact ⟨rfl,(Kw.refl _ _).alloc _,rfl⟩
 | cons s W =>
  have HM:=gH (fun w1 (h:WdS w1 b p (s::W))=>word_yes b p s W w1 h)
  have HH:=gH (h.aft ((Aft.refl w).alloc (.cells #[.string ⟨#[]⟩,.int .i64 0,.bool false] 67)))
  have hs:=h.small
  have hle:=h.le
  have hb:=h.lt
  have HPL:=gH h.plt
  clear h
  obtain ⟨t,ht⟩:∃ t,nulless s=t:=⟨_,rfl⟩
  have KS:=gH (show ∀ w1:World,Calls Tryz.prog 82 #[.string s,.string ⟨#[63]⟩] w1 fun e w'=>e=.returned (.tuple #[.string t,.bool (nulB s)])∧w'=w1 from fun w1=>ht▸Tryz.strings_CutSuffix s ⟨#[63]⟩ w1 hs.le)
  have htz:t.size≤4096:=by have:=nulless_le s;rw [ht] at this;omega
  obtain ⟨n,hn⟩:∃ n,cutN t=n:=⟨_,rfl⟩
  obtain ⟨k,hk⟩:∃ k,cutK t=k:=⟨_,rfl⟩
  have KC:=gH (show ∀ w1:World,LibV w1→Calls Tryz.prog 83 #[.string t,.string ⟨#[58]⟩] w1 fun e w'=>∃ f,e=.returned (.tuple #[.string n,.string k,.bool f])∧Aft w1 w' from
   fun w1 ⟨m,hm⟩=>(Tryz.strings_Cut t ⟨#[58]⟩ m w1 (by omega) hm).mono fun e w' ⟨he,q,hq⟩=>⟨(Lib.cut t.data.toList [58]).2.2,by rw [he,← hn,← hk];rfl,by subst hq;exact (Aft.refl _).drewN q⟩)
  have hnz:n.size≤4096:=by have:=cutN_le t;rw [hn] at this;omega
  obtain ⟨q,hq⟩:∃ q,nameB n=q:=⟨_,rfl⟩
  have HN:=gH (show ∀ w1:World,Calls Tryz.prog 81 #[.string n] w1 fun e w'=>e=.returned (.bool q)∧w1=w' from fun w1=>hq▸name_any n w1 (Small.max (Nat.le_trans hnz (by decide))))
  obtain ⟨q1,hq1⟩:∃ q,eqS k b_int=q:=⟨_,rfl⟩
  obtain ⟨q2,hq2⟩:∃ q,eqS k b_text=q:=⟨_,rfl⟩
  have e1:=eqS_as hq1
  have e2:=eqS_as hq2
  have HC:=gH (show colB s=if q&&(q1 || q2) then some ⟨n,if q2 then 3 else 2,nulB s⟩ else none by unfold colB;rw [ht,hn,hk,hq,hq1,hq2])
  unfold b_int at e1
  unfold b_text at e2
  simp only at e1 e2
  generalize nulB s=u at *
  clear hq hq1 hq2 hn hk ht hs hle htz
  cases q<;>cases q1<;>cases q2
  all_goals
   simp only [Bool.false_and,Bool.true_and,Bool.false_or,Bool.true_or,Bool.or_false,Bool.or_true,if_true,if_false,Bool.false_eq_true] at HC
   go_enter Tryz.func50,Tryz.ntmps50
   go_wp2_with (first | (go_at_call 27;refine (HM.out _ HH.out).mono ?_;rintro e w1 ⟨rfl,d1,k1⟩;have D1:=gH d1;have K1:=gH (((Kw.refl b w).alloc _).trans k1);have KB:=gH (kw_box k1 hb);clear d1 k1) | (go_at_call 82;refine (KS.out _).mono ?_;rintro e w' ⟨rfl,rfl⟩) | (go_at_call 83;refine (KC.out _ D1.out.lib).mono ?_;rintro e w2 ⟨f,rfl,a2⟩;have A2:=gH a2;obtain ⟨cb,cf,⟨cz,-,cz1,cz2,-,-⟩,-⟩:=box_aft KB.out.1 KB.out.2.1 KB.out.2.2 a2;have c0:=cb 0;have c1:=cb 1;have c2:=cb 2;simp at c0 c1 c2;have f0:=cf 0;have f1:=cf 1;have f2:=cf 2;clear a2 cb cf) | (go_at_call 81;refine (HN.out _).mono ?_;rintro e w' ⟨rfl,rfl⟩) | (go_at_call 18;first | (refine (dis_no _).mono ?_;rintro e w' ⟨he,rfl⟩;unfold NoL at he;subst he) | (refine (dis_ok _).mono ?_;rintro e w' ⟨rfl,rfl⟩)))
  all_goals first
   | (
    refine ⟨rfl,K1.out.aft A2.out,?_⟩
    have e:colP (s::W)=none:=by simp [colP,oneP,HC.out]
    rw [e];rfl)
   | (
    refine bodyPost_ret (results_cell rfl _ rfl (lvCol_set w2 w.heap.size _ _ _ _ cz (by rw [c0];rfl) (by rw [c1];rfl) (by rw [c2];rfl))) rfl ?_
    refine ⟨(K1.out.aft A2.out).kn (((((Kn.refl w.heap.size w2).set w.heap.size 0 _ (Nat.le_refl _)).set w.heap.size 1 _ (Nat.le_refl _)).set w.heap.size 2 _ (Nat.le_refl _)).alloc _) (Nat.le_refl _),?_⟩
    rw [colP_cons,HC.out]
    exact ⟨_,rfl,⟨rfl,Nat.le_trans hnz (by decide)⟩,(D1.out.aft A2.out).kn (((((Kn.refl w.heap.size w2).set w.heap.size 0 _ (Nat.le_refl _)).set w.heap.size 1 _ (Nat.le_refl _)).set w.heap.size 2 _ (Nat.le_refl _)).alloc _) hb HPL.out⟩)
theorem value_rd (b p:Nat) (W:Ws) (w:World) (h:WdS w b p W):Calls Tryz.prog 53 #[.pointer (some ⟨b,0,none⟩)] w (RdQ b p w ValV (valP W)):=by
 cases W with
 | nil =>
  have HM:=gH (fun w1 (h:WdS w1 b p [])=>word_no b p w1 h)
  have HH:=gH (h.aft ((Aft.refl w).alloc (.cells #[.int .i64 0,.int .i64 0,.string ⟨#[]⟩] 39)))
  clear h
  go_enter Tryz.func53,Tryz.ntmps53
  go_wp2_with (first | (go_at_call 27;refine (HM.out _ HH.out).mono ?_;rintro e w' ⟨he,rfl⟩;unfold NoL at he;subst he))
  exact ⟨rfl,(Kw.refl _ _).alloc _,rfl⟩
 | cons s W =>
  have HM:=gH (fun w1 (h:WdS w1 b p (s::W))=>word_yes b p s W w1 h)
  have HH:=gH (h.aft ((Aft.refl w).alloc (.cells #[.int .i64 0,.int .i64 0,.string ⟨#[]⟩] 39)))
  have hs:=h.small
  have hle:=h.le
  have hb:=h.lt
  have HPL:=gH h.plt
  clear h
  obtain ⟨t,ht⟩:∃ t,quoless s=t:=⟨_,rfl⟩
  have KS:=gH (show ∀ w1:World,Calls Tryz.prog 85 #[.string s,.string ⟨#[39]⟩] w1 fun e w'=>e=.returned (.tuple #[.string t,.bool (quoB s)])∧w'=w1 from fun w1=>ht▸Tryz.strings_CutPrefix s ⟨#[39]⟩ w1)
  have htz:t.size≤4096:=by have:=quoless_le s;rw [ht] at this;omega
  obtain ⟨q,hq⟩:∃ q,txtB t=q:=⟨_,rfl⟩
  have HP:=gH (show ∀ w1:World,Calls Tryz.prog 86 #[.string t] w1 fun e w'=>e=.returned (.bool q)∧w1=w' from fun w1=>hq▸dplain_any t w1 (Nat.le_trans htz (by decide)))
  obtain ⟨q1,hq1⟩:∃ q,eqS s b_null=q:=⟨_,rfl⟩
  have e1:=eqS_as hq1
  unfold b_null at e1
  simp only at e1
  obtain ⟨q2,hq2⟩:∃ q,quoB s=q:=⟨_,rfl⟩
  rw [hq2] at KS
  obtain ⟨m,hm⟩:∃ m,numB s=m:=⟨_,rfl⟩
  have HN:=gH (show ∀ w1:World,Calls Tryz.prog 47 #[.string s] w1 fun e w'=>Aft w1 w'∧∃ n,e=.returned (.tuple #[.int .i64 n,.bool m.isSome])∧∀ k,m=some k→n=k from fun w1=>by rw [← hm];exact toNumber_any s w1 hs)
  have HV:=gH (show valB s=if q1 then some ⟨1,0,zBy⟩ else if q2 then (if q then some ⟨3,0,t⟩ else none) else m.map fun n=>⟨2,n,zBy⟩ by unfold valB;rw [ht,hq,hq1,hq2,hm])
  clear hq hq1 hq2 hm ht hs hle
  have fin3:∀ (w2:World) (v0 v1 v2:Value),Kw b w w2→WdS w2 b p W→Kw b w (((w2.setCell ⟨w.heap.size,0,none⟩ v0).setCell ⟨w.heap.size,1,none⟩ v1).setCell ⟨w.heap.size,2,none⟩ v2)∧WdS (((w2.setCell ⟨w.heap.size,0,none⟩ v0).setCell ⟨w.heap.size,1,none⟩ v1).setCell ⟨w.heap.size,2,none⟩ v2) b p W:=by
   intro w2 v0 v1 v2 k d
   have kn:=(((Kn.refl w.heap.size w2).set w.heap.size 0 v0 (Nat.le_refl _)).set w.heap.size 1 v1 (Nat.le_refl _)).set w.heap.size 2 v2 (Nat.le_refl _)
   exact ⟨k.kn kn (Nat.le_refl _),d.kn kn hb HPL.out⟩
  have FIN:=gH fin3
  clear fin3
  cases q1
  ·cases q2
   ·cases m with
    | none =>
     go_enter Tryz.func53,Tryz.ntmps53
     go_wp2_with (first | (go_at_call 27;refine (HM.out _ HH.out).mono ?_;rintro e w1 ⟨rfl,d1,k1⟩;have D1:=gH d1;have K1:=gH (((Kw.refl b w).alloc _).trans k1);clear d1 k1) | (go_at_call 85;refine (KS.out _).mono ?_;rintro e w' ⟨rfl,rfl⟩) | (go_at_call 47;refine (HN.out _).mono ?_;rintro e w2 ⟨a2,n,rfl,hn⟩;have A2:=gH a2;clear a2 hn) | (go_at_call 18;refine (dis_no _).mono ?_;rintro e w' ⟨he,rfl⟩;unfold NoL at he;subst he))
     refine ⟨rfl,K1.out.aft A2.out,?_⟩
     rw [valP_cons,HV.out];rfl
    | some n =>
     go_enter Tryz.func53,Tryz.ntmps53
     go_wp2_with (first | (go_at_call 27;refine (HM.out _ HH.out).mono ?_;rintro e w1 ⟨rfl,d1,k1⟩;have D1:=gH d1;have K1:=gH (((Kw.refl b w).alloc _).trans k1);have KB:=gH (kw_box k1 hb);clear d1 k1) | (go_at_call 85;refine (KS.out _).mono ?_;rintro e w' ⟨rfl,rfl⟩) | (go_at_call 47;refine (HN.out _).mono ?_;rintro e w2 ⟨a2,n',rfl,hn⟩;have A2:=gH a2;obtain rfl:=hn n rfl;obtain ⟨cb,cf,⟨cz,-,cz1,cz2,-,-⟩,-⟩:=box_aft KB.out.1 KB.out.2.1 KB.out.2.2 a2;have c0:=cb 0;have c1:=cb 1;have c2:=cb 2;simp at c0 c1 c2;have f0:=cf 0;have f1:=cf 1;have f2:=cf 2;clear a2 hn cb cf) | (go_at_call 18;refine (dis_ok _).mono ?_;rintro e w' ⟨rfl,rfl⟩))
     refine bodyPost_ret (results_cell rfl _ rfl (lvVal_set w2 w.heap.size _ _ _ (by rw [c0];rfl) (by rw [c1];rfl) (by rw [c2];rfl))) rfl ?_
     obtain ⟨g1,g2⟩:=FIN.out w2 (.int .i64 2) (.int .i64 n') (.string ⟨#[]⟩) (K1.out.aft A2.out) (D1.out.aft A2.out)
     refine ⟨g1,?_⟩
     rw [valP_cons,HV.out]
     exact ⟨_,rfl,⟨rfl,small_z⟩,g2⟩
   ·cases q
    ·go_enter Tryz.func53,Tryz.ntmps53
     go_wp2_with (first | (go_at_call 27;refine (HM.out _ HH.out).mono ?_;rintro e w1 ⟨rfl,d1,k1⟩;have D1:=gH d1;have K1:=gH (((Kw.refl b w).alloc _).trans k1);clear d1 k1) | (go_at_call 85;refine (KS.out _).mono ?_;rintro e w' ⟨rfl,rfl⟩) | (go_at_call 86;refine (HP.out _).mono ?_;rintro e w' ⟨rfl,rfl⟩) | (go_at_call 18;refine (dis_no _).mono ?_;rintro e w' ⟨he,rfl⟩;unfold NoL at he;subst he))
     refine ⟨rfl,K1.out,?_⟩
     rw [valP_cons,HV.out];rfl
    ·go_enter Tryz.func53,Tryz.ntmps53
     go_wp2_with (first | (go_at_call 27;refine (HM.out _ HH.out).mono ?_;rintro e w1 ⟨rfl,d1,k1⟩;have D1:=gH d1;have K1:=gH (((Kw.refl b w).alloc _).trans k1);obtain ⟨cb,cf,cz⟩:=kw_box k1 hb;have c0:=cb 0;have c1:=cb 1;have c2:=cb 2;simp at c0 c1 c2;have f0:=cf 0;have f1:=cf 1;have f2:=cf 2;clear d1 k1 cb cf) | (go_at_call 85;refine (KS.out _).mono ?_;rintro e w' ⟨rfl,rfl⟩) | (go_at_call 86;refine (HP.out _).mono ?_;rintro e w' ⟨rfl,rfl⟩) | (go_at_call 18;refine (dis_ok _).mono ?_;rintro e w' ⟨rfl,rfl⟩))
     refine bodyPost_ret (results_cell rfl _ rfl (lvVal_set _ w.heap.size _ _ _ (by rw [c0];rfl) (by rw [c1];rfl) (by rw [c2];rfl))) rfl ?_
     obtain ⟨g1,g2⟩:=FIN.out _ (.int .i64 3) (.int .i64 0) (.string t) K1.out D1.out
     refine ⟨g1,?_⟩
     rw [valP_cons,HV.out]
     exact ⟨_,rfl,⟨rfl,Nat.le_trans htz (by decide)⟩,g2⟩
  ·go_enter Tryz.func53,Tryz.ntmps53
   go_wp2_with (first | (go_at_call 27;refine (HM.out _ HH.out).mono ?_;rintro e w1 ⟨rfl,d1,k1⟩;have D1:=gH d1;have K1:=gH (((Kw.refl b w).alloc _).trans k1);obtain ⟨cb,cf,cz⟩:=kw_box k1 hb;have c0:=cb 0;have c1:=cb 1;have c2:=cb 2;simp at c0 c1 c2;have f0:=cf 0;have f1:=cf 1;have f2:=cf 2;clear d1 k1 cb cf))
   refine bodyPost_ret (results_cell rfl _ rfl (lvVal_set _ w.heap.size _ _ _ (by rw [c0];rfl) (by rw [c1];rfl) (by rw [c2];rfl))) rfl ?_
   obtain ⟨g1,g2⟩:=FIN.out _ (.int .i64 1) (.int .i64 0) (.string ⟨#[]⟩) K1.out D1.out
   refine ⟨g1,?_⟩
   rw [valP_cons,HV.out]
   exact ⟨_,rfl,⟨rfl,small_z⟩,g2⟩
theorem infoDS:(Tryz.prog.info? 9).map (fun i=>(i.zero,i.size,i.bytes))=some (some (.string ByteArray.empty),1,16):=by kernel_rfl
theorem infoDC:(Tryz.prog.info? 67).map (fun i=>(i.zero,i.size,i.bytes))=some (some (.agg #[.string ByteArray.empty,.int .i64 0,.bool false]),3,32):=by kernel_rfl
theorem infoDV:(Tryz.prog.info? 39).map (fun i=>(i.zero,i.size,i.bytes))=some (some (.agg #[.int .i64 0,.int .i64 0,.string ByteArray.empty]),3,32):=by kernel_rfl
theorem info_partsD {t:TypeId} {z:Value} {k n:Nat} (h:(Tryz.prog.info? t).map (fun i=>(i.zero,i.size,i.bytes))=some (some z,k,n)):∃ i,Tryz.prog.info? t=some i∧i.zero=some z∧i.size=k∧i.bytes=n:=by
 cases hq:Tryz.prog.info? t with
 | none=>rw [hq] at h;cases h
 | some i =>
  rw [hq] at h
  simp only [Option.map_some,Option.some.injEq,Prod.mk.injEq] at h
  exact ⟨i,rfl,h⟩
def valC (v:Val):List Value:=[.int .i64 v.kind,.int .i64 v.int,.string v.text]
def OwnR {α:Type} (ty:TypeId) (size:Nat) (cells:α→List Value) (b B:Nat) (w':World) (v:Value) (l:List α):Prop :=
 ∃ h:Hd,v=.slice h.a l.length h.c∧w'.ownsRow B ty size (.slice h.a l.length h.c) l.length (l.flatMap cells)∧b < B
theorem OwnR.kw {α:Type} {ty:TypeId} {size:Nat} {cells:α→List Value} {b B:Nat} {w w':World} {v:Value} {l:List α} (h:OwnR ty size cells b B w v l) (k:Kw b w w'):OwnR ty size cells b B w' v l:=by
 obtain ⟨hd,h1,h2,h3⟩:=h
 exact ⟨hd,h1,own_kb h2 k (fun g hg e=>by have:=(h2.lt g hg).1;have e':g=b:=e;omega),h3⟩
theorem own_one (w:World) (B:Nat) (ty:TypeId) (size:Nat) (cs:List Value) (hs:cs.length=size) (hB:B≤w.heap.size):(w.alloc (.cells cs.toArray ty)).ownsRow B ty size (.slice (some ⟨w.heap.size,0,none⟩) 1 1) 1 cs :=
 ⟨by omega,.inr ⟨w.heap.size,1,cs.toArray,rfl,hB,heap_alloc_new w _,by omega,by unfold maxLen;omega,by simp [hs],by simp [← hs]⟩⟩
theorem many_done {α:Type} {f:ByteArray→Option α} {W:Ws} {l:List α} (hl:l≠[]) (h:W.mapM f=some l):manyP f W=some (l,[]):=by
 unfold manyP
 have hW:W≠[]:=by rintro rfl;simp at h;exact hl h
 rw [if_neg hW,h];rfl
theorem mapM_app {α:Type} {f:ByteArray→Option α}:∀ {W V:Ws} {l:List α},W.mapM f=some l→(W++V).mapM f=(V.mapM f).map (l++·)
 | [],V,l,h=>by simp at h;subst h;simp
 | s::W,V,l,h=>by
  rw [List.mapM_cons] at h
  simp only [bind,Option.bind_eq_some_iff,pure,Option.some.injEq] at h
  obtain ⟨x,h1,m,h2,rfl⟩:=h
  rw [List.cons_append,List.mapM_cons,mapM_app (V:=V) h2,h1]
  cases V.mapM f<;>rfl
theorem many_fail {α:Type} {f:ByteArray→Option α} {W V:Ws} {s:ByteArray} {l:List α} (h:W.mapM f=some l) (hs:f s=none):manyP f (W++s::V)=none:=by
 unfold manyP
 rw [if_neg (by simp),mapM_app h,List.mapM_cons,hs];rfl
theorem many_step {α:Type} {f:ByteArray→Option α} {W:Ws} {s:ByteArray} {l:List α} {x:α} (h:W.mapM f=some l) (hs:f s=some x):(W++[s]).mapM f=some (l++[x]):=by
 rw [mapM_app h,List.mapM_cons,hs];rfl
theorem app_desk {ops:Array Oper} {rest:List Oper} {o:Oper} {a:Act} {w:World} {Q:Exit→Act→World→Prop} {ts ty:TypeId} {size:Nat} {z:Value} {bytes:Nat} (hu:Tryz.prog.underlying ts=some (.slice ty))
  (hin:(Tryz.prog.info? ty).map (fun i=>(i.zero,i.size,i.bytes))=some (some z,size,bytes)) (hz:z.cells.size=size) (h1:0 < size) (hb1:bytes≤64) (hgd:o.guard=none) (s x:Operand)
  (ho:o.op=.call { callee:=.builtin .append,args:=#[s,x],argTypes:=#[ts,ts] }) (base:Nat) (v:Value) (n:Nat) (xs:List Value) (hs:a.eval s=v) (hown:w.ownsRow base ty size v n xs)
  (b:Nat) (cs:List Value) (hx:a.eval x=.slice (some ⟨b,0,none⟩) 1 1) (hb:w.heap[b]? = some (.cells cs.toArray ty)) (hcs:cs.length=size) (hone:∀ u∈cs,u.oneCell'=true) (hn:n≤1000000) (hbase:base≤w.heap.size)
  (h:∀ g cap w',w'.ownsRow base ty size (.slice (some ⟨g,0,none⟩) (n+1) cap) (n+1) (xs++cs)→w.grownBy w' v.ownBlock→(v.ownBlock=some g∨g=w.heap.size)→wpList Tryz.prog ops Q rest (a.put o.dst (.slice (some ⟨g,0,none⟩) (n+1) cap)) w'):wpList Tryz.prog ops Q (o::rest) a w:=by
 obtain ⟨i0,hi0,hz0,hz1,hz2⟩:=info_partsD hin
 exact wpList_append_lies w hgd s x ts ho base ty i0 z size bytes hu hi0 hz0 hz1 hz2 hz h1 v n xs hs hown ⟨b,0,none⟩ 1 1 cs hx (by omega) (World.news_of_block (cs:=cs.toArray) (t:=ty) (fr:=(0,0)) hb) hone (by omega) (by unfold maxLen;omega)
  (by
    have:(n+1)*bytes≤(n+1)*64:=Nat.mul_le_mul_left _ hb1
    omega) hbase _ rfl fun g cap w' h1 h2 h3 _=>h g cap w' h1 h2 h3
structure Grow {α:Type} (ty:TypeId) (size:Nat) (cells:α→List Value) (f:ByteArray→Option α) (b p:Nat) (w:World) (W:Ws) (wr:World) (pre rest:Ws) (l:List α) (h:Hd):Prop where
 split:W=pre++rest
 some:pre.mapM f=Option.some l
 ne:l≠[]
 ds:WdS wr b p rest
 kw:Kw b w wr
 own:wr.ownsRow w.heap.size ty size (.slice h.a l.length h.c) l.length (l.flatMap cells)
 lt:b < w.heap.size
 plt:p < w.heap.size
section
variable {α : Type} {ty : TypeId} {size : Nat} {cells : α → List Value} {f : ByteArray → Option α} {b p : Nat} {w : World} {W : Ws} {wr : World} {pre rest : Ws} {l : List α} {h : Hd}
theorem mapM_len {α β:Type} {f:α→Option β}:∀ {W:List α} {l:List β},W.mapM f=some l→W.length=l.length
 | [],l,h=>by simp at h;subst h;rfl
 | s::W,l,h=>by
  rw [List.mapM_cons] at h
  simp only [bind,Option.bind_eq_some_iff,pure,Option.some.injEq] at h
  obtain ⟨x,h1,m,h2,rfl⟩:=h
  simp [mapM_len h2]
theorem Grow.small (g:Grow ty size cells f b p w W wr pre rest l h) (hW:W.length≤4097):l.length≤4097:=by
 have:=mapM_len g.some
 have:=congrArg List.length g.split
 simp at this
 omega
theorem Grow.more (g:Grow ty size cells f b p w W wr pre rest l h) {s:ByteArray} {r:Ws} (hr:rest=s::r):l.length < W.length:=by
 have:=mapM_len g.some
 have:=congrArg List.length g.split
 simp [hr] at this
 omega
theorem Grow.step {s:ByteArray} (g:Grow ty size cells f b p w W wr pre (s::rest) l h) {x:α} {w1 w5:World} {o:Obj} {gg cap:Nat} (hs:f s=Option.some x) (k1:Kw b wr w1) (d1:WdS w1 b p rest)
  (ho:w5.ownsRow w.heap.size ty size (.slice (Option.some ⟨gg,0,none⟩) (l.length+1) cap) (l.length+1) (l.flatMap cells++cells x)) (hg:(w1.alloc o).grownBy w5 (Value.slice h.a l.length h.c).ownBlock) :
  Grow ty size cells f b p w W w5 (pre++[s]) rest (l++[x]) ⟨Option.some ⟨gg,0,none⟩,l.length+1,cap⟩:=by
 have hB:∀ k,(Value.slice h.a l.length h.c).ownBlock=Option.some k→w.heap.size≤k:=fun k hk=>(g.own.lt k hk).1
 have kz:=(g.kw.trans k1).size
 have hz:w1.heap.size≤(w1.alloc o).heap.size:=by simp
 have kb:Kw b w w5:=by
  refine ⟨hg.os.trans (g.kw.trans k1).os,hg.tape.trans (g.kw.trans k1).tape,hg.output.trans (g.kw.trans k1).output,Nat.le_trans kz (Nat.le_trans hz hg.size),fun k hk hn=>?_⟩
  have h2:=((g.kw.trans k1).alloc o).block k hk hn
  exact (hg.block k (by omega) (fun e=>by have:=hB k e.symm;omega)).trans h2
 have kn:Kn w.heap.size (w1.alloc o) w5:=⟨hg.os,hg.tape,hg.output,hg.size,fun k hk hn=>hg.block k hk (fun e=>hn (hB k e.symm))⟩
 exact ⟨by rw [g.split];simp,many_step g.some hs,by simp,(d1.aft ((Aft.refl _).alloc o)).kn kn g.lt g.plt,kb,by rw [List.length_append,List.flatMap_append,List.flatMap_cons,List.flatMap_nil,List.append_nil];exact ho,g.lt,g.plt⟩
end
def lenV:Value→Nat
 | .slice _ n _=>n
 | _=>0
theorem rd_cons {α:Type} {b p:Nat} {w:World} {V:World→Value→α→Prop} {f:ByteArray→Option α} {s:ByteArray} {W:Ws} {e:Ending} {w':World} (h:RdQ b p w V (oneP f (s::W)) e w') :
  (f s=none∧e=NoL∧Kw b w w')∨(∃ x v,f s=some x∧e=.returned v∧V w' v x∧WdS w' b p W∧Kw b w w'):=by
 obtain ⟨k,h2⟩:=h
 simp only [oneP] at h2
 cases hq:f s with
 | none=>rw [hq] at h2;exact .inl ⟨rfl,h2,k⟩
 | some x =>
  rw [hq] at h2
  obtain ⟨v,h3,h4,h5⟩:=h2
  exact .inr ⟨x,v,rfl,h3,h4,h5,k⟩
def NamesV (b B:Nat) (w':World) (v:Value) (l:List ByteArray):Prop:=OwnR 9 1 nameC b B w' v l∧l.length≤4097∧∀ x∈l,nameB x=true
theorem names_ok:∀ {W l:Ws},W.mapM nameO=some l→∀ x∈l,nameB x=true
 | [],l,h=>by simp at h;subst h;simp
 | s::W,l,h=>by
  rw [List.mapM_cons] at h
  simp only [bind,Option.bind_eq_some_iff,pure,Option.some.injEq] at h
  obtain ⟨x,h1,m,h2,rfl⟩:=h
  obtain ⟨rfl,h3⟩:=nameO_some.1 h1
  simpa [h3] using names_ok h2
theorem names_rd (b p:Nat) (W:Ws) (w:World) (h:WdS w b p W):Calls Tryz.prog 84 #[.pointer (some ⟨b,0,none⟩)] w (RdQ b p w (NamesV b w.heap.size) (namesP W)):=by
 have hbig:=h.big
 have hb:=h.lt
 have hpl:=h.plt
 cases W with
 | nil =>
  have HM:=gH (name_rd b p [] w h)
  clear h
  go_enter Tryz.func84,Tryz.ntmps84
  go_wp2_with (first | (go_at_call 48;refine HM.out.mono ?_;rintro e w1 ⟨k1,he⟩;have he:e=NoL:=he;have K1:=gH k1;clear k1;unfold NoL at he;subst he))
  exact ⟨rfl,K1.out,rfl⟩
 | cons s W =>
  obtain ⟨q,hq⟩:∃ q,nameO s=q:=⟨_,rfl⟩
  have HM:=gH (name_rd b p (s::W) w h)
  have HQ:=gH hq
  have HZ:=gH hbig
  have HB:=gH hb
  have HPL:=gH hpl
  clear h hbig hb hpl
  cases q with
  | none =>
   have HM':=gH (HM.out.mono fun e w1 (h:RdQ _ _ _ _ _ _ _)=>(rd_cons h).elim (fun h=>h.2) (fun ⟨x,v,h,_⟩=>absurd (hq.symm.trans h) (by simp)))
   clear hq HM
   go_enter Tryz.func84,Tryz.ntmps84
   go_wp2_with (first | (go_at_call 48;refine HM'.out.mono ?_;rintro e w1 ⟨he,k1⟩;have K1:=gH k1;clear k1;unfold NoL at he;subst he))
   refine ⟨rfl,K1.out,?_⟩
   have:namesP (s::W)=none:=many_fail (W:=[]) (l:=[]) rfl HQ.out
   rw [this];rfl
  | some x =>
   have HM':=gH (HM.out.mono fun e w1 (h:RdQ _ _ _ _ _ _ _)=>(rd_cons h).elim (fun ⟨h,_⟩=>absurd (hq.symm.trans h) (by simp)) (fun ⟨y,v,h1,h2,h3,h4,h5⟩=>(show e=Ending.returned (.string x)∧WdS w1 b p W∧Kw b w w1 from by
    rw [hq] at h1;cases h1;exact ⟨by rw [h2,h3.1],h4,h5⟩)))
   clear hq HM
   go_enter Tryz.func84,Tryz.ntmps84
   go_wp2_with (first | (go_at_call 48;refine HM'.out.mono ?_;rintro e w1 ⟨rfl,d1,k1⟩;have D1:=gH d1;have K1:=gH k1;clear d1 k1))
   go_loopw [3] (fun u3 wr=>∃ (pre rest l:Ws) (h:Hd),u3=.slice h.a l.length h.c∧Grow 9 1 nameC nameO b p w (s::W) wr pre rest l h) (fun u3 _=>(s::W).length - lenV u3)
   case atStart =>
    refine ⟨[s],W,[x],⟨_,1,1⟩,rfl,⟨rfl,?_,by simp,D1.out.aft ((Aft.refl _).alloc _),K1.out.alloc _,?_,HB.out,HPL.out⟩⟩
    ·rw [List.mapM_cons,HQ.out];rfl
    ·exact own_one w1 w.heap.size _ 1 [.string x] rfl K1.out.size
   case round =>
    obtain ⟨pre,rest,l,h,rfl,g⟩:=hrel
    have hz:=g.small HZ.out
    have G:=gH g
    cases rest with
    | nil =>
     have HN:=gH (more_no b p wr g.ds)
     clear g
     go_wp2_with (first | (go_at_call 19;refine HN.out.mono ?_;rintro e w' ⟨rfl,rfl⟩))
     go_ret
     refine ⟨G.out.kw,?_⟩
     have e1:s::W=pre:=by have:=G.out.split;simpa using this
     have:namesP (s::W)=some (l,[]):=by rw [e1];exact many_done G.out.ne G.out.some
     rw [this]
     exact ⟨_,rfl,⟨⟨h,rfl,G.out.own,HB.out⟩,hz,names_ok G.out.some⟩,G.out.ds⟩
    | cons t rest =>
     have HN:=gH (more_yes b p t rest wr g.ds)
     have HT:=gH (name_rd b p (t::rest) wr g.ds)
     have HL:=gH (g.more rfl)
     clear g
     obtain ⟨q,hq⟩:∃ q,nameO t=q:=⟨_,rfl⟩
     have HQT:=gH hq
     cases q with
     | none =>
      have HT':=gH (HT.out.mono fun e w1 (h:RdQ _ _ _ _ _ _ _)=>(rd_cons h).elim (fun h=>h.2) (fun ⟨x,v,h,_⟩=>absurd (hq.symm.trans h) (by simp)))
      clear hq HT
      go_wp2_with (first | (go_at_call 19;refine HN.out.mono ?_;rintro e w' ⟨rfl,rfl⟩) | (go_at_call 48;refine HT'.out.mono ?_;rintro e w1 ⟨he,k1⟩;have K2:=gH k1;clear k1;unfold NoL at he;subst he))
      refine ⟨rfl,G.out.kw.trans K2.out,?_⟩
      have:namesP (s::W)=none:=by rw [G.out.split];exact many_fail G.out.some HQT.out
      rw [this];rfl
     | some y =>
      have HT':=gH (HT.out.mono fun e w1 (h:RdQ _ _ _ _ _ _ _)=>(rd_cons h).elim (fun ⟨h,_⟩=>absurd (hq.symm.trans h) (by simp)) (fun ⟨z,v,h1,h2,h3,h4,h5⟩=>(show e=Ending.returned (.string y)∧WdS w1 b p rest∧Kw b wr w1 from by
       rw [hq] at h1;cases h1;exact ⟨by rw [h2,h3.1],h4,h5⟩)))
      clear hq HT
      go_wp2_with (first | (go_at_call 19;refine HN.out.mono ?_;rintro e w' ⟨rfl,rfl⟩) | (go_at_call 48;refine HT'.out.mono ?_;rintro e w2 ⟨rfl,d2,k2⟩;have D2:=gH d2;have K2:=gH k2;clear d2 k2;have OW:=gH (own_kb G.out.own K2.out (fun g hg e=>by have:=(G.out.own.lt g hg).1;have:=HB.out;have e':g=b:=e;omega))) | (at_builtin;go_must (refine app_desk Tryz.underlying26 infoDS rfl (by decide) (by decide) rfl _ _ rfl w.heap.size (.slice h.a l.length h.c) l.length (l.flatMap nameC) rfl (OW.out.alloc _) w2.heap.size [.string y] rfl (heap_alloc_new w2 _) rfl (by simp [Value.oneCell']) (by omega) ?qb ?_);rotate_left;intro gg cap' w5 hown5 hgrow hat;have G5:=gH (G.out.step HQT.out K2.out D2.out hown5 hgrow);clear hown5 hgrow hat))
      case qb =>
       have h1:=K2.out.size
       have h2:=G.out.kw.size
       have h3:(w2.alloc (.cells #[.string y] 9)).heap.size=w2.heap.size+1:=by simp
       omega
      go_roundw
      case rel=>exact ⟨pre++[t],rest,l++[y],⟨some ⟨gg,0,none⟩,l.length+1,cap'⟩,by simp,G5.out⟩
      case measure=>have:=HL.out;rw [List.length_cons] at this;simp [lenV];omega
structure LnS (w:World) (b p:Nat) (W:Ws) (d:Bool):Prop where
 ex:∃ o c,RowAt w b [.slice (some ⟨p,o,none⟩) W.length c,.bool d]∧Pcs w p o c W
 ne:¬ p=b
 big:W.length≤4097
theorem LnS.lt {w:World} {b p:Nat} {W:Ws} {d:Bool} (h:LnS w b p W d):b < w.heap.size:=by
 obtain ⟨o,c,r,_⟩:=h.ex
 exact r.1
theorem LnS.plt {w:World} {b p:Nat} {W:Ws} {d:Bool} (h:LnS w b p W d):p < w.heap.size:=by
 obtain ⟨o,c,r,q⟩:=h.ex
 exact q.2.1
theorem LnS.kb {w w':World} {b p:Nat} {W:Ws} {d:Bool} {P:Nat→Prop} (h:LnS w b p W d) (k:Kb P w w') (hb:¬ P b) (hp:¬ P p):LnS w' b p W d:=by
 obtain ⟨o,c,r,q⟩:=h.ex
 exact ⟨⟨o,c,k.row r hb,q.kb k hp⟩,h.ne,h.big⟩
theorem LnS.aft {w w':World} {b p:Nat} {W:Ws} {d:Bool} (h:LnS w b p W d) (a:Aft w w'):LnS w' b p W d:=h.kb (P:=fun _=>False) (Kb.of_aft a) id id
theorem LnS.bad {w:World} {b p:Nat} {W:Ws} {d:Bool} (h:LnS w b p W d) (x:Bool):LnS (w.setCell ⟨b,1,none⟩ (.bool x)) b p W x∧Kw b w (w.setCell ⟨b,1,none⟩ (.bool x)):=by
 have hk:Kw b w (w.setCell ⟨b,1,none⟩ (.bool x)):=(Kw.refl b w).set b 1 _ (.inl rfl)
 obtain ⟨o,c,r,q⟩:=h.ex
 exact ⟨⟨⟨o,c,r.set 1 _ (by simp),q.kb hk h.ne⟩,h.ne,h.big⟩,hk⟩
theorem LnS.setW {w:World} {b p o c:Nat} {W W0:Ws} {d:Bool} (h:LnS w b p W0 d) (hl:W.length≤W0.length) (hp:Pcs w p o c W) :
  LnS (w.setCell ⟨b,0,none⟩ (.slice (some ⟨p,o,none⟩) W.length c)) b p W d∧Kw b w (w.setCell ⟨b,0,none⟩ (.slice (some ⟨p,o,none⟩) W.length c)):=by
 have hk:Kw b w (w.setCell ⟨b,0,none⟩ (.slice (some ⟨p,o,none⟩) W.length c)):=(Kw.refl b w).set b 0 _ (.inl rfl)
 obtain ⟨o0,c0,r,_⟩:=h.ex
 exact ⟨⟨⟨o,c,r.set 0 _ (by simp),hp.kb hk h.ne⟩,h.ne,Nat.le_trans hl h.big⟩,hk⟩
theorem LnS.le {w:World} {b p:Nat} {s:ByteArray} {W:Ws} {d:Bool} (h:LnS w b p (s::W) d):s.size≤4096:=by
 obtain ⟨o,c,r,q⟩:=h.ex
 exact (q.2.2 0 (by simp)).2
def RdN {α:Type} (b p:Nat) (w:World) (V:World→Value→α→Prop) (r:RD α) (e:Ending) (w':World):Prop :=
 Kw b w w'∧∃ v,e=.returned v∧V w' v r.1∧LnS w' b p r.2.1 r.2.2
theorem more_dn (b p:Nat) (W:Ws) (d:Bool) (w:World) (h:LnS w b p W d):Calls Tryz.prog 54 #[.pointer (some ⟨b,0,none⟩)] w fun e w'=>e=.returned (.bool (moreD W d))∧w=w':=by
 obtain ⟨o,c,r,hp⟩:=h.ex
 have hb:=h.lt
 have hl:=hp.1
 have hz:=h.big
 have c0:=r.cell (j:=0) rfl
 have c1:=r.cell (j:=1) rfl
 cases W with
 | nil =>
  rw [List.length_nil] at c0
  clear h hp r
  go_enter Tryz.func54,Tryz.ntmps54
  go_wp2_with fail
  go_ret
  exact ⟨rfl,rfl⟩
 | cons s W =>
  rw [List.length_cons] at c0 hl hz
  have e:moreD (s::W) d=!d:=by unfold moreD;simp
  rw [e]
  generalize W.length=n at *
  clear h hp r e
  have hn:(0:Int) < (n:Int)+1:=by omega
  have hn2:(0:Int) < ((n+1:Nat):Int):=by omega
  cases d
  all_goals
   go_enter Tryz.func54,Tryz.ntmps54
   go_wp2_with fail
   go_ret
   exact ⟨rfl,rfl⟩
theorem word_dn (b p:Nat) (W:Ws) (d:Bool) (w:World) (h:LnS w b p W d):Calls Tryz.prog 32 #[.pointer (some ⟨b,0,none⟩)] w (RdN b p w (fun _ v x=>v=.string x) (wordD W d)):=by
 obtain ⟨m,hm⟩:∃ m,moreD W d=m:=⟨_,rfl⟩
 have HM:=gH (hm▸more_dn b p W d w h)
 have HH:=gH h
 have HE:=gH hm
 obtain ⟨o,c,r,hp⟩:=h.ex
 have hb:=h.lt
 have hf:=r.2.2 0 (by simp)
 have hf1:=r.2.2 1 (by simp)
 have c1:=r.cell (j:=1) rfl
 cases m with
 | false =>
  clear h hp hm
  go_enter Tryz.func32,Tryz.ntmps32
  go_wp2_with (first | (go_at_call 54;refine HM.out.mono ?_;rintro e w' ⟨rfl,rfl⟩))
  go_ret
  have e:wordD W d=(zBy,W,true):=by
   have:=HE.out
   unfold moreD at this
   unfold wordD oneD
   cases W with
   | nil=>rfl
   | cons s W=>cases d<;>simp_all
  rw [e]
  exact ⟨(HH.out.bad true).2,_,rfl,rfl,(HH.out.bad true).1⟩
 | true =>
  cases W with
  | nil=>simp [moreD] at hm
  | cons s W =>
   cases d with
   | true=>simp [moreD] at hm
   | false =>
    have hne:=h.ne
    have hl:=hp.1
    have hz:=h.big
    have hpl:=hp.2.1
    have c0:=r.cell (j:=0) rfl
    obtain ⟨c2,-⟩:=hp.2.2 0 (by simp)
    simp only [List.getElem_cons_zero,Nat.add_zero] at c2
    have HP:=gH hp.tail
    rw [List.length_cons] at c0 hl hz
    clear h hp hm r
    go_enter Tryz.func32,Tryz.ntmps32
    go_wp2_with (first | (go_at_call 54;refine HM.out.mono ?_;rintro e w' ⟨rfl,rfl⟩))
    ·have hW:W=[]:=List.eq_nil_of_length_eq_zero (by omega)
     go_ret
     have q:=HH.out.setW (W:=W) (by simp) (o:=o) (c:=0) (by subst hW;exact ⟨Nat.zero_le _,hpl,fun i hi=>absurd hi (by simp)⟩)
     exact ⟨q.2,_,rfl,rfl,q.1⟩
    ·go_ret
     have q:=HH.out.setW (W:=W) (by simp) (o:=o+1) (c:=c - 1) HP.out
     exact ⟨q.2,_,rfl,rfl,q.1⟩
theorem one_word {α:Type} (f:ByteArray→α × Bool) (W:Ws) (d:Bool):oneD f W d=((f (wordD W d).1).1,(wordD W d).2.1,(wordD W d).2.2 || !(f (wordD W d).1).2):=by
 cases W with
 | nil=>rfl
 | cons s W=>cases d<;>rfl
theorem word_le {w:World} {b p:Nat} {W:Ws} {d:Bool} (h:LnS w b p W d):(wordD W d).1.size≤4096:=by
 cases W with
 | nil=>exact Nat.zero_le _
 | cons s W =>
  cases d with
  | false=>exact h.le
  | true=>exact Nat.zero_le _
theorem lword_cases (b p:Nat) (W:Ws) (d:Bool) (w:World) (h:LnS w b p W d):∃ s1 W1 d1,wordD W d=(s1,W1,d1)∧s1.size≤4096∧Calls Tryz.prog 32 #[.pointer (some ⟨b,0,none⟩)] w fun e w'=>e=.returned (.string s1)∧LnS w' b p W1 d1∧Kw b w w':=by
 refine ⟨(wordD W d).1,(wordD W d).2.1,(wordD W d).2.2,rfl,word_le h,(word_dn b p W d w h).mono ?_⟩
 rintro e w' ⟨k,v,rfl,rfl,l⟩
 exact ⟨rfl,l,k⟩
theorem LnS.c1 {w:World} {b p:Nat} {W:Ws} {d:Bool} (h:LnS w b p W d):w.cell? ⟨b,1,none⟩=some (.bool d):=by
 obtain ⟨o,c,r,_⟩:=h.ex
 exact r.cell (j:=1) rfl
theorem LnS.f1 {w:World} {b p:Nat} {W:Ws} {d:Bool} (h:LnS w b p W d):w.frozen? ⟨b,1,none⟩=false:=by
 obtain ⟨o,c,r,_⟩:=h.ex
 exact r.2.2 1 (by simp)
theorem lnumber_dn (b p:Nat) (W:Ws) (d:Bool) (w:World) (h:LnS w b p W d):Calls Tryz.prog 33 #[.pointer (some ⟨b,0,none⟩)] w (RdN b p w (fun _ v x=>v=.int .i64 x) (numD W d)):=by
 obtain ⟨s1,W1,d1,hq,hs,hc⟩:=lword_cases b p W d w h
 have HC:=gH hc
 have e:numD W d=((numV s1).1,W1,d1 || !(numV s1).2):=by unfold numD;rw [one_word,hq]
 rw [e]
 obtain ⟨n,ok,hn⟩:∃ n ok,numV s1=(n,ok):=⟨_,_,rfl⟩
 have HN:=gH (number_dn s1)
 rw [hn] at HN
 have HN:=gH (show ∀ V:World,Calls Tryz.prog 55 #[.string s1] V fun e w'=>e=.returned (.tuple #[.int .i64 n,.bool ok])∧V=w' from fun V=>HN.out V (Nat.le_trans hs (by decide)))
 rw [hn]
 have hb:=h.lt
 clear hc hq e h hn hs
 cases d1
 all_goals
  cases ok
  all_goals
   go_enter Tryz.func33,Tryz.ntmps33
   go_wp2_with (first | (go_at_call 32;with_reducible refine HC.out.mono ?_;rintro e w1 ⟨rfl,l1,k1⟩;have y1:=l1.c1;have y2:=l1.f1;have L1:=gH l1;have K1:=gH k1;clear l1 k1) | (go_at_call 55;with_reducible refine (HN.out _).mono ?_;rintro e w2 ⟨rfl,rfl⟩))
   go_ret
   exact ⟨K1.out.trans (L1.out.bad _).2,_,rfl,rfl,(L1.out.bad _).1⟩
theorem lname_dn (b p:Nat) (W:Ws) (d:Bool) (w:World) (h:LnS w b p W d):Calls Tryz.prog 57 #[.pointer (some ⟨b,0,none⟩)] w (RdN b p w (fun _ v x=>v=.string x∧x.size≤4096) (nameD W d)):=by
 obtain ⟨s1,W1,d1,hq,hs,hc⟩:=lword_cases b p W d w h
 have HC:=gH hc
 have e:nameD W d=(s1,W1,d1 || !(nameB s1)):=by unfold nameD;rw [one_word,hq];rfl
 rw [e]
 obtain ⟨ok,hn⟩:∃ ok,nameB s1=ok:=⟨_,rfl⟩
 have HN:=gH (show ∀ V:World,Calls Tryz.prog 87 #[.string s1] V fun e w'=>e=.returned (.bool ok)∧V=w' from fun V=>hn▸rname_any s1 V (Nat.le_trans hs (by decide)))
 rw [hn]
 have hb:=h.lt
 have HS:=gH hs
 clear hc hq e h hn hs
 cases d1
 all_goals
  cases ok
  all_goals
   go_enter Tryz.func57,Tryz.ntmps57
   go_wp2_with (first | (go_at_call 32;with_reducible refine HC.out.mono ?_;rintro e w1 ⟨rfl,l1,k1⟩;have y1:=l1.c1;have y2:=l1.f1;have L1:=gH l1;have K1:=gH k1;clear l1 k1) | (go_at_call 87;with_reducible refine (HN.out _).mono ?_;rintro e w2 ⟨rfl,rfl⟩))
   go_ret
   exact ⟨K1.out.trans (L1.out.bad _).2,_,rfl,⟨rfl,HS.out⟩,(L1.out.bad _).1⟩
end Go.Proofs.YtbdanlipghhgpaaGreatDoor
