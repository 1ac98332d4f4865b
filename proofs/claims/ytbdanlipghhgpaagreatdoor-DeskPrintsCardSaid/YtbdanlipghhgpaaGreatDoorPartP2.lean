import Derived.Lib.Atoi
import Derived.Lib.ItoaNum
import Derived.Lib.Split
import Derived.Lib.SplitLaws
import Derived.Lib.CutLaws
import Derived.Lib.Strings
import Derived.Lib.SlTrimSet
import Derived.OwnWalk
import Derived.Laws.AppendOwn
import Derived.Deep.Upon
import Derived.Laws.EntriesVeiled
import Derived.Shelf.Strings.Builder1
import Derived.Shelf.Strings.Builder2
import Derived.Shelf.Strings.OnBuilder
import Derived.Shelf.Strings.Trim
import Derived.Shelf.Small.Utf8
import Derived.Shelf.Small.Strs
import Derived.Shelf.Small.Wraps
import Derived.Shelf.Strconv.Atoi
import Derived.Shelf.Strconv.Itoa0
import Derived.Shelf.Strconv.Itoa1
import Derived.Shelf.LaysM
import Derived.Shelf.Strconv.Itoa2
import Derived.Shelf.Strconv.Itoa3
import Derived.Shelf.Strings.Search1
import Derived.Shelf.Strings.Search2
import Derived.Shelf.Strings.Search3
import Derived.Shelf.Strings.Cut
import Derived.Shelf.Strings.Count
import Derived.Shelf.Strings.Shaped
import Derived.Shelf.Strings.Prefix
import Derived.Shelf.Strings.Split
import Derived.Shelf.Strings.Runes
import Derived.Shelf.Strings.AsciiSet
import Derived.Shelf.Unicode.DecodeSlow
import Derived.Shelf.Slices.Equal
import Derived.Shelf.Slices.Empties2
import Derived.Shelf.Strings.SlTrimAscii
import Derived.Test.YtbdanlipghhgpaaGreatDoorProg
import Derived.Test.YtbdanlipghhgpaaGreatDoorPartP1
namespace Go.Proofs.YtbdanlipghhgpaaGreatDoor
open Go.RowKit
set_option maxRecDepth 100000
set_option linter.unusedVariables false
set_option maxHeartbeats 64000000
structure Val where
 kind:Int
 int:Int
 text:ByteArray
def ValR (_:World) (cs:List Value) (v:Val):Prop:=cs=[.int .i64 v.kind,.int .i64 v.int,.string v.text]∧Small v.text.size
theorem vals_aft {w w':World} {A:Option Addr} {cap:Nat} {l:List Val} (hw:Aft w w') (h:SlAt w 3 ValR A cap l):SlAt w' 3 ValR A cap l:=h.aft hw fun _ _ h=>h
theorem val_at {w:World} {A:Option Addr} {cap:Nat} {l:List Val} (h:SlAt w 3 ValR A cap l) {k:Nat} (hk:k < l.length) :
  ∃ b off,A=some ⟨b,off,none⟩∧b < w.heap.size∧w.cell? ⟨b,off+k*3,none⟩=some (.int .i64 l[k].kind)∧w.cell? ⟨b,off+k*3+1,none⟩=some (.int .i64 l[k].int)∧w.cell? ⟨b,off+k*3+2,none⟩=some (.string l[k].text)∧Small l[k].text.size:=by
 obtain ⟨b,off,cs,hA,hb,hl,⟨rfl,hs⟩,hc⟩:=h.2.2 k hk
 exact ⟨b,off,hA,hb,by simpa using hc 0 (by omega),by simpa [Nat.add_assoc] using hc 1 (by omega),by simpa [Nat.add_assoc] using hc 2 (by omega),hs⟩
def eqV3 (k n:Int) (s:ByteArray) (k' n':Int) (s':ByteArray):Bool:=k==k'&&(n==n'&&eqS s s')
def eqV (a b:Val):Bool:=eqV3 a.kind a.int a.text b.kind b.int b.text
theorem run_eqVal (w:World) (k n:Int) (s:ByteArray) (k' n':Int) (s':ByteArray) :
  (Op.equalIn 10000 39 (.agg #[.int .i64 k,.int .i64 n,.string s]) (.agg #[.int .i64 k',.int .i64 n',.string s'])).run Tryz.prog w=.ok (eqV3 k n s k' n' s') w:=by
 cases h1:(k==k')<;>cases h2:(n==n')<;>cases h3:eqS s s'<;>(have h3':=h3;unfold eqS at h3')<;>go_simp<;>simp_all [eqV3]
@[go_sem ↓] theorem run_eqlVal (w:World) (k n:Int) (s:ByteArray) (k' n':Int) (s':ByteArray) :
  (binOp .eql 39 (.agg #[.int .i64 k,.int .i64 n,.string s]) (.agg #[.int .i64 k',.int .i64 n',.string s'])).run Tryz.prog w=.ok (.bool (eqV3 k n s k' n' s')) w:=by
 rw [run_eql_struct,run_eqVal];rfl
@[go_sem ↓] theorem run_neqVal (w:World) (k n:Int) (s:ByteArray) (k' n':Int) (s':ByteArray) :
  (binOp .neq 39 (.agg #[.int .i64 k,.int .i64 n,.string s]) (.agg #[.int .i64 k',.int .i64 n',.string s'])).run Tryz.prog w=.ok (.bool (!eqV3 k n s k' n' s')) w:=by
 rw [run_neq_struct,run_eqVal];rfl
def eqVs:List Val→List Val→Bool
 | [],[]=>true
 | a::l,b::m=>eqV a b&&eqVs l m
 | _,_=>false
theorem eqVs_len:∀ (l m:List Val),¬ l.length=m.length→eqVs l m=false
 | [],[],h=>absurd rfl h
 | [],_::_,_=>rfl
 | _::_,[],_=>rfl
 | a::l,b::m,h=>by rw [eqVs,eqVs_len l m (by simpa using h),Bool.and_false]
theorem eqVs_false:∀ (l m:List Val) (k:Nat) (h1:k < l.length) (h2:k < m.length),eqV l[k] m[k]=false→eqVs l m=false
 | [],_,_,h,_,_=>by simp at h
 | _::_,[],_,_,h,_=>by simp at h
 | a::l,b::m,0,_,_,h=>by rw [eqVs,show eqV a b=false from h];rfl
 | a::l,b::m,k+1,h1,h2,h=>by rw [eqVs,eqVs_false l m k (by simpa using h1) (by simpa using h2) h,Bool.and_false]
theorem eqVs_true:∀ (l m:List Val),l.length=m.length→(∀ k (h1:k < l.length) (h2:k < m.length),eqV l[k] m[k]=true)→eqVs l m=true
 | [],[],_,_=>rfl
 | [],_::_,h,_=>by simp at h
 | _::_,[],h,_=>by simp at h
 | a::l,b::m,h,hp=>by
  rw [eqVs,show eqV a b=true from hp 0 (by simp) (by simp),eqVs_true l m (by simpa using h) fun k h1 h2=>hp (k+1) (Nat.succ_lt_succ h1) (Nat.succ_lt_succ h2)];rfl
theorem eqVal_any (A:Option Addr) (cap:Nat) (l:List Val) (A2:Option Addr) (cap2:Nat) (l2:List Val) (w:World) (h:SlAt w 3 ValR A cap l) (h2:SlAt w 3 ValR A2 cap2 l2) :
  Calls Tryz.prog 39 #[.slice A l.length cap,.slice A2 l2.length cap2] w fun e w'=>e=.returned (.bool (eqVs l l2))∧Aft w w':=by
 have hlen:=h.len
 have hlen2:=h2.len
 by_cases hl:l.length=l2.length
 ·have e1:((l.length:Int) != (l2.length:Int))=false:=by simp [hl]
  go_enter Tryz.func39,Tryz.ntmps39
  go_wp2_with fail
  go_loopw [13] (fun i wr=>∃ k:Nat,k≤l.length∧i=.int .i64 k∧Aft w wr∧∀ j,j < k→∀ (hj:j < l.length) (hj2:j < l2.length),eqV l[j] l2[j]=true) (fun i _=>l.length - (intOf i).toNat)
  case atStart=>exact ⟨0,Nat.zero_le _,rfl,Aft.refl _,fun j hj=>absurd hj (Nat.not_lt_zero j)⟩
  case round =>
   obtain ⟨k,hk,rfl,ha,hp⟩:=hrel
   have HA:=gH ha
   have HP:=gH hp;clear hp
   by_cases hlt:k < l.length
   ·have hlt2:k < l2.length:=by omega
    obtain ⟨b,off,rfl,hb,c0,c1,c2,_⟩:=val_at (vals_aft ha h) hlt
    obtain ⟨b2,off2,rfl,hb2,d0,d1,d2,_⟩:=val_at (vals_aft ha h2) hlt2
    clear ha
    cases heq:eqV l[k] l2[k]
    ·have h3:eqV3 l[k].kind l[k].int l[k].text l2[k].kind l2[k].int l2[k].text=false:=heq
     have HN:=gH (eqVs_false l l2 k hlt hlt2 heq)
     clear heq
     go_wp2_with fail
     refine wp_region_lat (by kernel_rfl) (by kernel_rfl) ?_
     repeat (go_big_quiet_step (fail))
     refine wpQuiet_nil ?_
     intro _ hw'
     obtain ⟨x,hw''⟩:=hw'
     subst hw''
     go_wp2_with fail
     go_ret
     exact ⟨by rw [HN.out];rfl,HA.out.lat x⟩
    ·have h3:eqV3 l[k].kind l[k].int l[k].text l2[k].kind l2[k].int l2[k].text=true:=heq
     have HN:=gH (ext_lt (p:=fun j=>∀ (hj:j < l.length) (hj2:j < l2.length),eqV l[j] l2[j]=true) HP.out (fun _ _=>heq))
     clear heq
     go_wp2_with fail
     refine wp_region_lat (by kernel_rfl) (by kernel_rfl) ?_
     repeat (go_big_quiet_step (fail))
     refine wpQuiet_nil ?_
     intro _ hw'
     obtain ⟨x,hw''⟩:=hw'
     subst hw''
     go_wp2_with fail
     go_roundw
     case rel=>exact ⟨k+1,by omega,by go_num,HA.out.lat x,HN.out⟩
     case measure=>simp [intOf];omega
   ·have HN:=gH (eqVs_true l l2 hl fun j hj hj2=>HP.out j (by omega) hj hj2)
    clear ha
    go_wp2_with fail
    go_ret
    exact ⟨by rw [HN.out];rfl,HA.out⟩
 ·have e1:((l.length:Int) != (l2.length:Int))=true:=by simp;omega
  have HN:=gH (eqVs_len l l2 hl)
  go_enter Tryz.func39,Tryz.ntmps39
  go_wp2_with fail
  go_ret
  exact ⟨by rw [HN.out];rfl,Aft.refl _⟩
end Go.Proofs.YtbdanlipghhgpaaGreatDoor
namespace Go.Proofs.YtbdanlipghhgpaaGreatDoor
set_option maxRecDepth 100000
set_option linter.unusedVariables false
set_option maxHeartbeats 64000000
structure Cmd where
 kind:Int
 actor:ByteArray
 schema:ByteArray
 table:ByteArray
 name:ByteArray
 role:ByteArray
 cols:List Col
 rule:Rul
 right:Int
 opt:Bool
structure ROp where
 kind:Int
 role:ByteArray
 schema:ByteArray
 table:ByteArray
 row:List Val
 col:ByteArray
 v:Val
structure Dact where
 kind:Int
 node:Int
 n:Int
 client:Int
 number:Int
 cmd:Cmd
 ck:Int
 cn:Int
 row:ROp
abbrev z17:List Value:=[.int .i64 0,.string ⟨#[]⟩,.string ⟨#[]⟩,.string ⟨#[]⟩,.string ⟨#[]⟩,.string ⟨#[]⟩,.slice none 0 0,.string ⟨#[]⟩,.int .i64 0,.slice none 0 0,.int .i64 0,.int .i64 0,.string ⟨#[]⟩,.string ⟨#[]⟩,.string ⟨#[]⟩,.int .i64 0,.bool false]
abbrev z33:List Value:=.int .i64 0::.int .i64 0::.int .i64 0::.int .i64 0::.int .i64 0::.int .i64 0::.string ⟨#[]⟩::.string ⟨#[]⟩::.string ⟨#[]⟩::.string ⟨#[]⟩::.string ⟨#[]⟩::.slice none 0 0::.string ⟨#[]⟩::.int .i64 0::.slice none 0 0::.int .i64 0::.int .i64 0::.string ⟨#[]⟩::.string ⟨#[]⟩::.string ⟨#[]⟩::.int .i64 0::.bool false::.int .i64 0::.int .i64 0::.int .i64 0::.string ⟨#[]⟩::.string ⟨#[]⟩::.string ⟨#[]⟩::.slice none 0 0::.string ⟨#[]⟩::.int .i64 0::.int .i64 0::.string ⟨#[]⟩::[]
def zBy:ByteArray:=⟨#[]⟩
def zRul:Rul:=⟨zBy,0,[],0,0,zBy,zBy,zBy⟩
def zCmd:Cmd:=⟨0,zBy,zBy,zBy,zBy,zBy,[],zRul,0,false⟩
def zVal:Val:=⟨0,0,zBy⟩
def zROp:ROp:=⟨0,zBy,zBy,zBy,[],zBy,zVal⟩
def zAct:Dact:=⟨0,0,0,0,0,zCmd,0,0,zROp⟩
abbrev Bts:=List UInt8
def wd (l:Bts):ByteArray:=⟨l.toArray⟩
theorem wd_data (l:Bts):(wd l).data.toList=l:=by simp [wd]
theorem wd_of (s:ByteArray):wd s.data.toList=s:=by simp [wd]
theorem ba_ext {a b:ByteArray} (h:a.data.toList=b.data.toList):a=b:=by rw [← wd_of a,h,wd_of]
theorem wd_size (l:Bts):(wd l).size=l.length:=by rw [Lib.size_eq,wd_data]
def cutL (b:UInt8):Bts→List Bts
 | []=>[[]]
 | c::l=>if c=b then []::cutL b l else match cutL b l with
  | []=>[[c]]
  | w::r=>(c::w)::r
def joinL (b:UInt8):List Bts→Bts
 | []=>[]
 | [w]=>w
 | w::v::r=>w++b::joinL b (v::r)
theorem cutL_ne (b:UInt8):∀ l,cutL b l≠[]
 | []=>by simp [cutL]
 | c::l=>by
  unfold cutL
  split
  ·simp
  ·split<;>simp
theorem join_cut (b:UInt8):∀ l,joinL b (cutL b l)=l
 | []=>rfl
 | c::l=>by
  have ih:=join_cut b l
  have hn:=cutL_ne b l
  unfold cutL
  split
  ·rename_i h
   subst h
   cases hc:cutL c l with
   | nil=>exact absurd hc hn
   | cons w r=>rw [hc] at ih;simp [joinL,ih]
  ·cases hc:cutL b l with
   | nil=>exact absurd hc hn
   | cons w r =>
    rw [hc] at ih
    cases r with
    | nil=>simp only [joinL] at ih ⊢;rw [ih]
    | cons v r=>simp only [joinL,List.cons_append] at ih ⊢;rw [ih]
theorem cut_pre (b:UInt8):∀ (w l:Bts),b∉w→cutL b (w++b::l)=w::cutL b l
 | [],l,_=>by simp [cutL]
 | c::w,l,h=>by
  simp only [List.mem_cons,not_or] at h
  rw [List.cons_append,cutL,if_neg (Ne.symm h.1),cut_pre b w l h.2]
theorem cut_free (b:UInt8):∀ (w:Bts),b∉w→cutL b w=[w]
 | [],_=>rfl
 | c::w,h=>by
  simp only [List.mem_cons,not_or] at h
  rw [cutL,if_neg (Ne.symm h.1),cut_free b w h.2]
theorem cut_len (b:UInt8):∀ (l:Bts),(cutL b l).length≤l.length+1
 | []=>by simp [cutL]
 | c::l=>by
  have:=cut_len b l
  unfold cutL
  split
  ·simp;omega
  ·split
   ·simp
   ·rename_i h;rw [h] at this;simp at this ⊢;omega
theorem join_len (b:UInt8):∀ (W:List Bts),W≠[]→(joinL b W).length+1=(W.map (·.length+1)).sum
 | [],h=>absurd rfl h
 | [w],_=>by simp [joinL]
 | w::v::r,_=>by
  have:=join_len b (v::r) (by simp)
  simp only [joinL,List.length_append,List.length_cons,List.map_cons,List.sum_cons] at this ⊢
  omega
def isDig (b:UInt8):Bool:=decide (48≤b.toNat)&&decide (b.toNat≤57)
def minusless (l:Bts):Bts:=Lib.trimPrefix l [45]
theorem minus_yes (l:Bts):minusless (45::l)=l:=by simp [minusless,Lib.trimPrefix,Lib.hasPrefix,List.isPrefixOf]
theorem minus_no (c:UInt8) (l:Bts) (h:c≠45):minusless (c::l)=c::l:=by
 have:(45==c)=false:=by rw [beq_eq_false_iff_ne];exact Ne.symm h
 simp [minusless,Lib.trimPrefix,Lib.hasPrefix,List.isPrefixOf,this]
def formN (l:Bts):Bool :=
 !(minusless l).isEmpty&&decide ((minusless l).length≤10)&&(minusless l).all isDig&&!((minusless l).head? == some 48&&l != [48])
def inN (n:Int):Bool:=decide (-1000000000≤n)&&decide (n≤1000000000)
def numL (l:Bts):Option Int:=if formN l then (Lib.atoi l).bind fun n=>if inN n then some n else none else none
theorem digV {b:UInt8} (h:isDig b=true):Lib.digitVal b=some (b.toNat - 48):=by
 unfold isDig at h
 simp only [Bool.and_eq_true,decide_eq_true_eq] at h
 unfold Lib.digitVal;rw [if_pos h]
def accN (a:Nat) (l:Bts):Nat:=l.foldl (fun a b=>a*10+(b.toNat - 48)) a
theorem dec_all:∀ (l:Bts) (a:Nat),l.all isDig=true→Lib.decFrom a l=some (accN a l)
 | [],a,_=>rfl
 | b::l,a,h=>by
  simp only [List.all_cons,Bool.and_eq_true] at h
  simp only [Lib.decFrom,digV h.1,dec_all l _ h.2,accN,List.foldl_cons]
theorem dec_digits_snoc (u d:Nat) (hu:u≠0) (hd:d < 10):Lib.decDigits (u*10+d)=Lib.decDigits u++[UInt8.ofNat (48+d)]:=by
 rw [Lib.decDigits,dif_neg (by omega)]
 have h1:(u*10+d) / 10=u:=by omega
 have h2:(u*10+d) % 10=d:=by omega
 rw [h1,h2]
theorem dig_back {b:UInt8} (h:isDig b=true):UInt8.ofNat (48+(b.toNat - 48))=b∧b.toNat - 48 < 10:=by
 unfold isDig at h
 simp only [Bool.and_eq_true,decide_eq_true_eq] at h
 refine ⟨?_,by omega⟩
 rw [show 48+(b.toNat - 48)=b.toNat by omega];simp
theorem acc_digits:∀ (l:Bts) (a:Nat),a≠0→l.all isDig=true→Lib.decDigits (accN a l)=Lib.decDigits a++l
 | [],a,_,_=>by simp [accN]
 | b::l,a,ha,h=>by
  simp only [List.all_cons,Bool.and_eq_true] at h
  obtain ⟨e1,e2⟩:=dig_back h.1
  have:=acc_digits l (a*10+(b.toNat - 48)) (by omega) h.2
  rw [show accN a (b::l)=accN (a*10+(b.toNat - 48)) l from rfl,this,dec_digits_snoc a _ ha e2,e1,List.append_assoc,List.singleton_append]
theorem dec_back (b:UInt8) (l:Bts) (h:(b::l).all isDig=true) (h0:b≠48∨l=[]):Lib.decDigits (accN 0 (b::l))=b::l:=by
 simp only [List.all_cons,Bool.and_eq_true] at h
 obtain ⟨e1,e2⟩:=dig_back h.1
 have e3:Lib.decDigits (b.toNat - 48)=[b]:=by rw [Lib.decDigits,dif_pos e2,e1]
 show Lib.decDigits (accN (0*10+(b.toNat - 48)) l)=_
 rw [Nat.zero_mul,Nat.zero_add]
 rcases h0 with h0 | rfl
 ·have hb:b.toNat - 48≠0:=by
   intro e
   apply h0
   rw [← e1,e];rfl
  rw [acc_digits l _ hb h.2,e3,List.singleton_append]
 ·exact e3
theorem num_word {l:Bts} {n:Int} (h:numL l=some n):l=Lib.itoa n∧inN n=true:=by
 unfold numL at h
 split at h
 ·rename_i hf
  unfold formN at hf
  simp only [Bool.and_eq_true,decide_eq_true_eq,Bool.not_eq_true'] at hf
  obtain ⟨⟨⟨h1,h2⟩,h3⟩,h4⟩:=hf
  cases ha:Lib.atoi l with
  | none=>rw [ha] at h;simp at h
  | some m =>
   rw [ha] at h
   simp only [Option.bind_some] at h
   split at h
   ·rename_i hi
    simp only [Option.some.injEq] at h
    subst h
    refine ⟨?_,hi⟩
    cases l with
    | nil=>simp [Lib.atoi] at ha
    | cons c r =>
     by_cases hc:c=45
     ·subst hc
      rw [minus_yes] at h1 h2 h3 h4
      cases r with
      | nil=>simp at h1
      | cons b r =>
       simp only [Lib.atoi,Lib.decNat,List.isEmpty_cons,Bool.false_eq_true,if_false,beq_self_eq_true,if_true,dec_all _ _ h3,Option.map_some,Option.some.injEq] at ha
       have hb:b≠48:=by
        intro e;subst e;simp at h4
       have hd:=dec_back b r h3 (.inl hb)
       have hpos:0 < accN 0 (b::r):=by
        rcases Nat.eq_zero_or_pos (accN 0 (b::r)) with e | e
        ·rw [e] at hd
         have h5:Lib.decDigits 0=[48]:=by rw [Lib.decDigits,dif_pos (by omega)];rfl
         rw [h5] at hd
         simp only [List.cons.injEq] at hd
         exact absurd hd.1.symm hb
        ·exact e
       subst ha
       unfold Lib.itoa
       rw [if_pos (by omega),Int.natAbs_neg,Int.natAbs_natCast,hd]
     ·rw [minus_no c r hc] at h1 h2 h3 h4
      have hc2:c≠43:=by
       intro e;subst e
       simp [isDig] at h3
      have e1:(c==45)=false:=by rw [beq_eq_false_iff_ne];exact hc
      have e2:(c==43)=false:=by rw [beq_eq_false_iff_ne];exact hc2
      simp only [Lib.atoi,e1,e2,Bool.false_eq_true,if_false,Lib.decNat,List.isEmpty_cons,dec_all _ _ h3,Option.map_some,Option.some.injEq] at ha
      have hb:c≠48∨r=[]:=by
       by_cases e:c=48
       ·subst e
        simp at h4
        exact .inr h4
       ·exact .inl e
      have hd:=dec_back c r h3 hb
      subst ha
      unfold Lib.itoa
      rw [if_neg (by omega),Int.toNat_natCast,hd]
   ·simp at h
 ·simp at h
abbrev Ws:=List ByteArray
def b_tick:ByteArray:=⟨#[116,105,99,107]⟩
def b_world:ByteArray:=⟨#[119,111,114,108,100]⟩
def b_start:ByteArray:=⟨#[115,116,97,114,116]⟩
def b_deliver:ByteArray:=⟨#[100,101,108,105,118,101,114]⟩
def b_drop:ByteArray:=⟨#[100,114,111,112]⟩
def b_double:ByteArray:=⟨#[100,111,117,98,108,101]⟩
def b_ask:ByteArray:=⟨#[97,115,107]⟩
def b_read:ByteArray:=⟨#[114,101,97,100]⟩
def b_learner:ByteArray:=⟨#[108,101,97,114,110,101,114]⟩
def b_voter:ByteArray:=⟨#[118,111,116,101,114]⟩
def b_remove:ByteArray:=⟨#[114,101,109,111,118,101]⟩
def b_lease:ByteArray:=⟨#[108,101,97,115,101]⟩
def b_row:ByteArray:=⟨#[114,111,119]⟩
def b_crash:ByteArray:=⟨#[99,114,97,115,104]⟩
def b_schema:ByteArray:=⟨#[115,99,104,101,109,97]⟩
def b_dropschema:ByteArray:=⟨#[100,114,111,112,115,99,104,101,109,97]⟩
def b_table:ByteArray:=⟨#[116,97,98,108,101]⟩
def b_droptable:ByteArray:=⟨#[100,114,111,112,116,97,98,108,101]⟩
def b_column:ByteArray:=⟨#[99,111,108,117,109,110]⟩
def b_dropcolumn:ByteArray:=⟨#[100,114,111,112,99,111,108,117,109,110]⟩
def b_index:ByteArray:=⟨#[105,110,100,101,120]⟩
def b_key:ByteArray:=⟨#[107,101,121]⟩
def b_check:ByteArray:=⟨#[99,104,101,99,107]⟩
def b_foreign:ByteArray:=⟨#[102,111,114,101,105,103,110]⟩
def b_droprule:ByteArray:=⟨#[100,114,111,112,114,117,108,101]⟩
def b_owner:ByteArray:=⟨#[111,119,110,101,114]⟩
def b_role:ByteArray:=⟨#[114,111,108,101]⟩
def b_droprole:ByteArray:=⟨#[100,114,111,112,114,111,108,101]⟩
def b_member:ByteArray:=⟨#[109,101,109,98,101,114]⟩
def b_unmember:ByteArray:=⟨#[117,110,109,101,109,98,101,114]⟩
def b_grant:ByteArray:=⟨#[103,114,97,110,116]⟩
def b_revoke:ByteArray:=⟨#[114,101,118,111,107,101]⟩
def b_write:ByteArray:=⟨#[119,114,105,116,101]⟩
def b_option:ByteArray:=⟨#[111,112,116,105,111,110]⟩
def b_int:ByteArray:=⟨#[105,110,116]⟩
def b_text:ByteArray:=⟨#[116,101,120,116]⟩
def b_null:ByteArray:=⟨#[110,117,108,108]⟩
def b_insert:ByteArray:=⟨#[105,110,115,101,114,116]⟩
def b_select:ByteArray:=⟨#[115,101,108,101,99,116]⟩
def txtB (s:ByteArray):Bool:=plB s&&decide (s.size≤32)
def nulB (s:ByteArray):Bool:=Lib.hasSuffix s.data.toList [63]
def nulless (s:ByteArray):ByteArray:=wd (Lib.trimSuffix s.data.toList [63])
def cutN (s:ByteArray):ByteArray:=wd (Lib.cut s.data.toList [58]).1
def cutK (s:ByteArray):ByteArray:=wd (Lib.cut s.data.toList [58]).2.1
def colB (s:ByteArray):Option Col :=
 if nameB (cutN (nulless s))&&(eqS (cutK (nulless s)) b_int || eqS (cutK (nulless s)) b_text) then
  some ⟨cutN (nulless s),if eqS (cutK (nulless s)) b_text then 3 else 2,nulB s⟩
 else none
def numB (s:ByteArray):Option Int:=numL s.data.toList
def quoB (s:ByteArray):Bool:=Lib.hasPrefix s.data.toList [39]
def quoless (s:ByteArray):ByteArray:=wd (Lib.trimPrefix s.data.toList [39])
def valB (s:ByteArray):Option Val :=
 if eqS s b_null then some ⟨1,0,zBy⟩
 else if quoB s then (if txtB (quoless s) then some ⟨3,0,quoless s⟩ else none)
 else (numB s).map fun n=>⟨2,n,zBy⟩
def oneP {α:Type} (f:ByteArray→Option α):Ws→Option (α × Ws)
 | []=>none
 | s::W=>(f s).map fun x=>(x,W)
def nameO (s:ByteArray):Option ByteArray:=if nameB s then some s else none
def wordP:Ws→Option (ByteArray × Ws):=oneP some
def nameP:Ws→Option (ByteArray × Ws):=oneP nameO
def numP:Ws→Option (Int × Ws):=oneP numB
def colP:Ws→Option (Col × Ws):=oneP colB
def valP:Ws→Option (Val × Ws):=oneP valB
def manyP {α:Type} (f:ByteArray→Option α) (W:Ws):Option (List α × Ws):=if W=[] then none else (W.mapM f).map fun l=>(l,[])
def namesP:Ws→Option (List ByteArray × Ws):=manyP nameO
def colsP:Ws→Option (List Col × Ws):=manyP colB
def valsP:Ws→Option (List Val × Ws):=manyP valB
def ruleP (k:Int) (W:Ws):Option (Rul × Ws) :=
 (nameP W).bind fun (n,W) =>
 if k=3 then (nameP W).bind fun (c,W)=>(numP W).bind fun (lo,W)=>(numP W).bind fun (hi,W)=>some (⟨n,3,[c],lo,hi,zBy,zBy,zBy⟩,W)
 else if k=4 then (nameP W).bind fun (s,W)=>(nameP W).bind fun (t,W)=>(nameP W).bind fun (q,W)=>(namesP W).bind fun (l,W)=>some (⟨n,4,l,0,0,s,t,q⟩,W)
 else (namesP W).bind fun (l,W)=>some (⟨n,k,l,0,0,zBy,zBy,zBy⟩,W)
def tableP (x:Cmd) (W:Ws):Option (Cmd × Ws):=(nameP W).bind fun (s,W)=>(nameP W).bind fun (t,W)=>some ({ x with schema:=s,table:=t },W)
def rightO (s:ByteArray):Option Int:=if eqS s b_read then some 1 else if eqS s b_write then some 2 else none
def rightP (x:Cmd) (W:Ws):Option (Cmd × Ws):=(oneP rightO W).bind fun (r,W)=>(nameP W).bind fun (t,W)=>some ({ x with right:=r,role:=t },W)
def optP (x:Cmd):Ws→Option (Cmd × Ws)
 | []=>some (x,[])
 | s::W=>if eqS s b_option then some ({ x with opt:=true },W) else none
def bodyP (f:ByteArray) (x:Cmd) (W:Ws):Option (Cmd × Ws) :=
 if eqS f b_schema then (nameP W).bind fun (s,W)=>some ({ x with kind:=1,schema:=s },W)
 else if eqS f b_dropschema then (nameP W).bind fun (s,W)=>some ({ x with kind:=2,schema:=s },W)
 else if eqS f b_table then (tableP { x with kind:=3 } W).bind fun (x,W)=>(colsP W).bind fun (l,W)=>some ({ x with cols:=l },W)
 else if eqS f b_droptable then tableP { x with kind:=4 } W
 else if eqS f b_column then (tableP { x with kind:=5 } W).bind fun (x,W)=>(colP W).bind fun (c,W)=>some ({ x with cols:=[c] },W)
 else if eqS f b_dropcolumn then (tableP { x with kind:=6 } W).bind fun (x,W)=>(nameP W).bind fun (s,W)=>some ({ x with name:=s },W)
 else if eqS f b_index then (tableP { x with kind:=7 } W).bind fun (x,W)=>(ruleP 1 W).bind fun (r,W)=>some ({ x with rule:=r },W)
 else if eqS f b_key then (tableP { x with kind:=7 } W).bind fun (x,W)=>(ruleP 2 W).bind fun (r,W)=>some ({ x with rule:=r },W)
 else if eqS f b_check then (tableP { x with kind:=7 } W).bind fun (x,W)=>(ruleP 3 W).bind fun (r,W)=>some ({ x with rule:=r },W)
 else if eqS f b_foreign then (tableP { x with kind:=7 } W).bind fun (x,W)=>(ruleP 4 W).bind fun (r,W)=>some ({ x with rule:=r },W)
 else if eqS f b_droprule then (tableP { x with kind:=8 } W).bind fun (x,W)=>(nameP W).bind fun (s,W)=>some ({ x with name:=s },W)
 else if eqS f b_owner then (tableP { x with kind:=9 } W).bind fun (x,W)=>(nameP W).bind fun (s,W)=>some ({ x with role:=s },W)
 else if eqS f b_role then (nameP W).bind fun (s,W)=>some ({ x with kind:=10,role:=s },W)
 else if eqS f b_droprole then (nameP W).bind fun (s,W)=>some ({ x with kind:=11,role:=s },W)
 else if eqS f b_member then (nameP W).bind fun (s,W)=>(nameP W).bind fun (t,W)=>some ({ x with kind:=12,role:=s,name:=t },W)
 else if eqS f b_unmember then (nameP W).bind fun (s,W)=>(nameP W).bind fun (t,W)=>some ({ x with kind:=13,role:=s,name:=t },W)
 else if eqS f b_grant then (tableP { x with kind:=14 } W).bind fun (x,W)=>(rightP x W).bind fun (x,W)=>optP x W
 else if eqS f b_revoke then (tableP { x with kind:=15 } W).bind fun (x,W)=>rightP x W
 else none
def cmdP (W:Ws):Option (Cmd × Ws):=(wordP W).bind fun (f,W)=>(nameP W).bind fun (a,W)=>bodyP f { zCmd with actor:=a } W
def rowP (W:Ws):Option (ROp × Ws) :=
 (wordP W).bind fun (f,W)=>(nameP W).bind fun (r,W)=>(nameP W).bind fun (s,W)=>(nameP W).bind fun (t,W) =>
 if eqS f b_insert then (valsP W).bind fun (l,W)=>some (⟨1,r,s,t,l,zBy,zVal⟩,W)
 else if eqS f b_remove then (nameP W).bind fun (c,W)=>(valP W).bind fun (v,W)=>some (⟨2,r,s,t,[],c,v⟩,W)
 else if eqS f b_select then (if W=[] then some (⟨3,r,s,t,[],zBy,zVal⟩,W) else (nameP W).bind fun (c,W)=>(valP W).bind fun (v,W)=>some (⟨3,r,s,t,[],c,v⟩,W))
 else none
def chgP (k:Int) (W:Ws):Option (Dact × Ws):=(numP W).bind fun (n,W)=>(numP W).bind fun (m,W)=>some ({ zAct with kind:=8,node:=n,ck:=k,cn:=m },W)
def threeP (k:Int) (W:Ws):Option (Dact × Ws):=(numP W).bind fun (a,W)=>(numP W).bind fun (b,W)=>(numP W).bind fun (c,W)=>some ({ zAct with kind:=k,node:=a,client:=b,number:=c },W)
def actP (W:Ws):Option (Dact × Ws) :=
 (wordP W).bind fun (f,W) =>
 if eqS f b_tick then (numP W).bind fun (n,W)=>some ({ zAct with kind:=1,node:=n },W)
 else if eqS f b_world then some ({ zAct with kind:=2 },W)
 else if eqS f b_start then (numP W).bind fun (n,W)=>some ({ zAct with kind:=12,node:=n },W)
 else if eqS f b_deliver then (numP W).bind fun (n,W)=>some ({ zAct with kind:=3,n:=n },W)
 else if eqS f b_drop then (numP W).bind fun (n,W)=>some ({ zAct with kind:=4,n:=n },W)
 else if eqS f b_double then (numP W).bind fun (n,W)=>some ({ zAct with kind:=5,n:=n },W)
 else if eqS f b_ask then (threeP 6 W).bind fun (a,W)=>(cmdP W).bind fun (x,W)=>some ({ a with cmd:=x },W)
 else if eqS f b_read then threeP 7 W
 else if eqS f b_learner then chgP 1 W
 else if eqS f b_voter then chgP 2 W
 else if eqS f b_remove then chgP 3 W
 else if eqS f b_lease then (numP W).bind fun (n,W)=>(numP W).bind fun (m,W)=>some ({ zAct with kind:=9,n:=n,node:=m },W)
 else if eqS f b_row then (numP W).bind fun (n,W)=>(rowP W).bind fun (x,W)=>some ({ zAct with kind:=10,n:=n,row:=x },W)
 else if eqS f b_crash then (numP W).bind fun (n,W)=>(numP W).bind fun (m,W)=>some ({ zAct with kind:=11,node:=n,n:=m },W)
 else none
def wordsB (s:ByteArray):Ws:=(cutL 32 s.data.toList).map wd
def parseW (W:Ws):Option Dact:=(actP W).bind fun (a,W)=>if W=[] then some a else none
def parseB (s:ByteArray):Option Dact:=if s.size≤4096 then parseW (wordsB s) else none
end Go.Proofs.YtbdanlipghhgpaaGreatDoor
namespace Go.Proofs.YtbdanlipghhgpaaGreatDoor
open Go.RowKit
set_option maxRecDepth 100000
set_option linter.unusedVariables false
set_option maxHeartbeats 64000000
theorem results_cell {fn:Func} {a:Tmp} {t:TypeId} (h:fn.results=#[.cell a t]) (tmps:Array Value) {P:Program} {w:World} {p:Addr} {v:Value} (ha:tmps.getD a undef=.pointer (some p)) (hl:(loadVar t p).run P w=.ok v w) :
  (results fn tmps).run P w=.ok v w:=by
 rw [Array.getD_eq_getD_getElem?] at ha
 simp [results,h,ha,asAddr,hl]
theorem slAt_one {α:Type} {size:Nat} {R:World→List Value→α→Prop} {w:World} {b cap:Nat} (x:α) (cs:List Value) (c:Array Value) (hb:b < w.heap.size) (hc:∀ o,w.cell? ⟨b,o,none⟩=c[o]?) (e:c.toList=cs) (hf:cs.length=size)
  (hR:R w cs x) (hcap:1≤cap):SlAt w size R (some ⟨b,0,none⟩) cap [x] :=
 ⟨hcap,by simp [Small],fun i hi=>by
  have:i=0:=by simpa using hi
  subst this
  exact ⟨b,0,cs,rfl,hb,hf,hR,fun j hj=>by rw [← e,hc];simp⟩⟩
theorem Aft.cell_kept {w w':World} (h:Aft w w') {a:Addr} {v:Value} (hc:w.cell? a=some v):w'.cell? a=some v:=(Below.cell h (World.block_lt_of_cell? w a hc)).trans hc
def RowAt (w:World) (g:Nat) (xs:List Value):Prop:=g < w.heap.size∧(∀ j,j < xs.length→w.cell? ⟨g,j,none⟩=xs[j]?)∧∀ j,j < xs.length→w.frozen? ⟨g,j,none⟩=false
theorem RowAt.aft {w w':World} {g:Nat} {xs:List Value} (h:RowAt w g xs) (a:Aft w w'):RowAt w' g xs :=
 ⟨Nat.lt_of_lt_of_le h.1 a.size,fun j hj=>(Below.cell a (p:=⟨g,j,none⟩) h.1).trans (h.2.1 j hj),fun j hj=>(Below.frozen a (p:=⟨g,j,none⟩) h.1).trans (h.2.2 j hj)⟩
theorem RowAt.cell {w:World} {g:Nat} {xs:List Value} (h:RowAt w g xs) {j:Nat} {v:Value} (hj:xs[j]? = some v):w.cell? ⟨g,j,none⟩=some v :=
 (h.2.1 j (List.getElem?_eq_some_iff.1 hj).1).trans hj
theorem RowAt.set {w:World} {g:Nat} {xs:List Value} (h:RowAt w g xs) (j:Nat) (v:Value) (hj:j < xs.length):RowAt (w.setCell ⟨g,j,none⟩ v) g (xs.set j v):=by
 have hc:w.cell? ⟨g,j,none⟩=some xs[j]:=(h.2.1 j hj).trans (List.getElem?_eq_getElem hj)
 refine ⟨by simpa using h.1,fun k hk=>?_,fun k hk=>?_⟩
 ·rw [List.length_set] at hk
  by_cases e:k=j
  ·subst e
   rw [World.cell?_setCell_same (h:=hc),List.getElem?_set_self hj]
  ·rw [World.cell?_setCell_other (h:=by intro e2;injection e2 with _ e3 _;exact e e3.symm),List.getElem?_set_ne (fun e2=>e e2.symm)]
   exact h.2.1 k hk
 ·rw [List.length_set] at hk
  rw [World.frozen?_setCell];exact h.2.2 k hk
def RowV (w:World) (base:Nat) (v:Value) (n:Nat) (xs:List Value):Prop:=∃ A cap,v=.slice A n cap∧n≤cap∧(0 < n→∃ g,A=some ⟨g,0,none⟩∧base≤g∧RowAt w g xs)
theorem own_rowV {w:World} {base size n:Nat} {e:TypeId} {v:Value} {xs:List Value} (h:w.ownsRow base e size v n xs):RowV w base v n xs:=by
 rcases h.2 with ⟨rfl,hn⟩ | ⟨g,cap,cur,rfl,hb,hgg,hnc,_,hcs,htk⟩
 ·exact ⟨none,0,by rw [hn],by omega,fun h0=>by omega⟩
 ·refine ⟨_,cap,rfl,hnc,fun _=>⟨g,rfl,hb,(Array.getElem?_eq_some_iff.1 hgg).1,fun j hj=>?_,fun j _=>?_⟩⟩
  ·rw [h.1] at hj
   rw [← htk,List.getElem?_take_of_lt hj]
   simp [World.cell?,hgg]
  ·simp [World.frozen?,hgg]
section
variable {α : Type} {size : Nat} {R : World → List Value → α → Prop} {w w' : World}
theorem flat_len:∀ (css:List (List Value)),(∀ c∈css,c.length=size)→css.flatten.length=css.length*size
 | [],_=>by simp
 | c::css,h=>by
  rw [List.flatten_cons,List.length_append,h c (by simp),flat_len css fun x hx=>h x (by simp [hx]),List.length_cons,Nat.succ_mul];omega
theorem flat_get:∀ (css:List (List Value)),(∀ c∈css,c.length=size)→∀ i j (hi:i < css.length),j < size→css.flatten[i*size+j]? = css[i][j]?
 | [],_,i,j,hi,_=>by simp at hi
 | c::css,h,0,j,_,hj=>by
  rw [List.flatten_cons,Nat.zero_mul,Nat.zero_add,List.getElem?_append_left (by rw [h c (by simp)];exact hj)];rfl
 | c::css,h,i+1,j,hi,hj=>by
  have e:(i+1)*size+j=size+(i*size+j):=by rw [Nat.succ_mul];omega
  rw [List.flatten_cons,e,List.getElem?_append_right (by rw [h c (by simp)];omega),h c (by simp),Nat.add_sub_cancel_left]
  exact flat_get css (fun x hx=>h x (by simp [hx])) i j (by simpa using hi) hj
def Chunks (w:World) (size:Nat) (R:World→List Value→α→Prop) (css:List (List Value)) (l:List α):Prop:=css.length=l.length∧∀ i (h:i < css.length) (h':i < l.length),css[i].length=size∧R w css[i] l[i]
theorem Chunks.all {css:List (List Value)} {l:List α} (h:Chunks w size R css l):∀ c∈css,c.length=size:=by
 intro c hc
 obtain ⟨i,hi,rfl⟩:=List.getElem_of_mem hc
 exact (h.2 i hi (by rw [← h.1];exact hi)).1
theorem Chunks.len {css:List (List Value)} {l:List α} (h:Chunks w size R css l):css.flatten.length=l.length*size:=by rw [flat_len css h.all,h.1]
theorem row_slAt {g cap:Nat} {css:List (List Value)} {l:List α} (hr:RowAt w g css.flatten) (hc:Chunks w size R css l) (hcap:l.length≤cap) (hs:Small (l.length*16)):SlAt w size R (some ⟨g,0,none⟩) cap l:=by
 refine ⟨hcap,hs,fun i hi=>?_⟩
 have hi':i < css.length:=by rw [hc.1];exact hi
 refine ⟨g,0,css[i],rfl,hr.1,(hc.2 i hi' hi).1,(hc.2 i hi' hi).2,fun j hj=>?_⟩
 rw [Nat.zero_add,← flat_get css hc.all i j hi' hj]
 refine hr.2.1 _ ?_
 rw [hc.len]
 have:(i+1)*size≤l.length*size:=Nat.mul_le_mul_right _ hi
 rw [Nat.succ_mul] at this;omega
theorem rowV_slAt {base:Nat} {v:Value} {css:List (List Value)} {l:List α} (h:RowV w base v l.length css.flatten) (hc:Chunks w size R css l) (hs:Small (l.length*16)):∃ A cap,v=.slice A l.length cap∧SlAt w size R A cap l:=by
 obtain ⟨A,cap,e,hcap,hg⟩:=h
 by_cases h0:0 < l.length
 ·obtain ⟨g,rfl,_,hr⟩:=hg h0
  exact ⟨_,cap,e,row_slAt hr hc hcap hs⟩
 ·have:l=[]:=List.eq_nil_of_length_eq_zero (by omega)
  subst this
  exact ⟨A,cap,e,hcap,hs,fun i hi=>by simp at hi⟩
end
structure Hd where
 a:Option Addr
 n:Nat
 c:Nat
def Hd.v (h:Hd):Value:=.slice h.a h.n h.c
end Go.Proofs.YtbdanlipghhgpaaGreatDoor
namespace Go.Proofs.YtbdanlipghhgpaaGreatDoor
open Go.RowKit Go.Deep
set_option maxRecDepth 100000
set_option linter.unusedVariables false
set_option maxHeartbeats 64000000
structure Kb (P:Nat→Prop) (w w':World):Prop where
 os:w'.os=w.os
 tape:w'.tape=w.tape
 output:w'.output=w.output
 size:w.heap.size≤w'.heap.size
 block:∀ k,k < w.heap.size→¬ P k→w'.heap[k]? = w.heap[k]?
theorem Kb.refl (P:Nat→Prop) (w:World):Kb P w w:=⟨rfl,rfl,rfl,Nat.le_refl _,fun _ _ _=>rfl⟩
theorem Kb.of_aft {P:Nat→Prop} {w w':World} (a:Aft w w'):Kb P w w':=⟨a.os,a.tape,a.output,a.size,fun k hk _=>a.block k hk⟩
theorem Kb.of_grown {w w':World} {row:Option Nat} (h:w.grownBy w' row):Kb (fun k=>row=some k) w w':=⟨h.os,h.tape,h.output,h.size,fun k hk hn=>h.block k hk fun e=>hn e.symm⟩
theorem Kb.mono {P Q:Nat→Prop} {w w':World} (h:Kb P w w') (hq:∀ k,k < w.heap.size→P k→Q k):Kb Q w w':=⟨h.os,h.tape,h.output,h.size,fun k hk hn=>h.block k hk fun hp=>hn (hq k hk hp)⟩
theorem Kb.trans {P:Nat→Prop} {w w' w'':World} (h:Kb P w w') (h':Kb P w' w''):Kb P w w'' :=
 ⟨h'.os.trans h.os,h'.tape.trans h.tape,h'.output.trans h.output,Nat.le_trans h.size h'.size,fun k hk hn=>(h'.block k (Nat.lt_of_lt_of_le hk h.size) hn).trans (h.block k hk hn)⟩
theorem Kb.set (w:World) (g j:Nat) (v:Value):Kb (fun k=>k=g) w (w.setCell ⟨g,j,none⟩ v) :=
 ⟨rfl,rfl,rfl,by simp,fun k hk hn=>Below.heap_setCell _ _ _ _ hn⟩
theorem Kb.to_aft {P:Nat→Prop} {W w w':World} (h:Kb P w w') (a:Aft W w) (hP:∀ k,k < W.heap.size→¬ P k):Aft W w' :=
 ⟨h.os.trans a.os,h.tape.trans a.tape,h.output.trans a.output,Nat.le_trans a.size h.size,fun k hk=>(h.block k (Nat.lt_of_lt_of_le hk a.size) (hP k hk)).trans (a.block k hk)⟩
theorem Kb.cell {P:Nat→Prop} {w w':World} (h:Kb P w w') {p:Addr} {v:Value} (hc:w.cell? p=some v) (hb:¬ P p.block):w'.cell? p=some v:=by
 have:=h.block p.block (World.block_lt_of_cell? w p hc) hb
 unfold World.cell? at hc ⊢
 rw [this];exact hc
theorem Kb.row {P:Nat→Prop} {w w':World} (h:Kb P w w') {g:Nat} {xs:List Value} (hr:RowAt w g xs) (hb:¬ P g):RowAt w' g xs:=by
 have:=h.block g hr.1 hb
 refine ⟨Nat.lt_of_lt_of_le hr.1 h.size,fun j hj=>?_,fun j hj=>?_⟩
 ·rw [← hr.2.1 j hj];simp [World.cell?,this]
 ·rw [← hr.2.2 j hj];simp [World.frozen?,this]
theorem own_kb {P:Nat→Prop} {w w':World} {B size n:Nat} {e:TypeId} {v:Value} {xs:List Value} (h:w.ownsRow B e size v n xs) (k:Kb P w w') (hne:∀ g,v.ownBlock=some g→¬ P g):w'.ownsRow B e size v n xs:=by
 refine ⟨h.1,?_⟩
 rcases h.2 with hn | ⟨g,cap,cur,rfl,hb,hgg,rest⟩
 ·exact .inl hn
 ·exact .inr ⟨g,cap,cur,rfl,hb,(k.block g (lt_of_block hgg) (hne g rfl)).trans hgg,rest⟩
theorem own_base {w:World} {B B' size n:Nat} {e:TypeId} {v:Value} {xs:List Value} (h:w.ownsRow B e size v n xs) (hb:∀ g,v.ownBlock=some g→B'≤g):w.ownsRow B' e size v n xs:=by
 refine ⟨h.1,?_⟩
 rcases h.2 with hn | ⟨g,cap,cur,rfl,hb',rest⟩
 ·exact .inl hn
 ·exact .inr ⟨g,cap,cur,rfl,hb g rfl,rest⟩
theorem own_down {w:World} {B B' size n:Nat} {e:TypeId} {v:Value} {xs:List Value} (h:w.ownsRow B e size v n xs) (hb:B'≤B):w.ownsRow B' e size v n xs :=
 own_base h fun g hg=>Nat.le_trans hb (h.lt g hg).1
theorem own_sl {α:Type} {w:World} {B size:Nat} {e:TypeId} {h:Hd} {l:List α} {css:List (List Value)} {R:World→List Value→α→Prop} (o:w.ownsRow B e size h.v l.length css.flatten) (hc:Chunks w size R css l) (hs:Small (l.length*16)):SlAt w size R h.a h.c l:=by
 obtain ⟨A,cap,hv,sl⟩:=rowV_slAt (own_rowV o) hc hs
 unfold Hd.v at hv
 simp only [Value.slice.injEq] at hv
 rw [hv.1,hv.2.2];exact sl
theorem chunks_map {α:Type} {w:World} {size:Nat} {R:World→List Value→α→Prop} (f:α→List Value) (l:List α) (hf:∀ x∈l,(f x).length=size∧R w (f x) x):Chunks w size R (l.map f) l :=
 ⟨by simp,fun i h h'=>by simpa using hf l[i] (List.getElem_mem h')⟩
theorem own_slf {α:Type} {w:World} {B size:Nat} {e:TypeId} {h:Hd} {l:List α} {R:World→List Value→α→Prop} (f:α→List Value) (o:w.ownsRow B e size h.v l.length (l.flatMap f)) (hf:∀ x∈l,(f x).length=size∧R w (f x) x) (hs:Small (l.length*16)):SlAt w size R h.a h.c l :=
 own_sl (css:=l.map f) (by rw [← List.flatMap_def];exact o) (chunks_map f l hf) hs
def nameC (s:ByteArray):List Value:=[.string s]
def colC (c:Col):List Value:=[.string c.name,.int .i64 c.kind,.bool c.null]
def NoL:Ending:=.panicked [{ v:=.iface 74 (.agg #[]),recovered:=false }]
theorem dis_ok (w:World):Calls Tryz.prog 18 #[.bool true] w fun e w'=>e=.returned (.tuple #[])∧w=w':=by
 go_enter Tryz.func18,Tryz.ntmps18
 go_wp2_with fail
 go_end0
 exact ⟨rfl,rfl⟩
theorem dis_no (w:World):Calls Tryz.prog 18 #[.bool false] w fun e w'=>e=NoL∧w=w':=by
 go_enter Tryz.func18,Tryz.ntmps18
 go_wp2_with fail
 exact ⟨rfl,rfl,rfl⟩
def Pcs (w:World) (p o c:Nat) (W:Ws):Prop:=W.length≤c∧p < w.heap.size∧∀ i (h:i < W.length),w.cell? ⟨p,o+i,none⟩=some (.string W[i])∧W[i].size≤4096
theorem Pcs.kb {w w':World} {p o c:Nat} {W:Ws} {P:Nat→Prop} (h:Pcs w p o c W) (k:Kb P w w') (hp:¬ P p):Pcs w' p o c W :=
 ⟨h.1,Nat.lt_of_lt_of_le h.2.1 k.size,fun i hi=>⟨k.cell (h.2.2 i hi).1 hp,(h.2.2 i hi).2⟩⟩
theorem Pcs.tail {w:World} {p o c:Nat} {s:ByteArray} {W:Ws} (h:Pcs w p o c (s::W)):Pcs w p (o+1) (c - 1) W:=by
 have h1:=h.1
 simp only [List.length_cons] at h1
 refine ⟨by omega,h.2.1,fun i hi=>?_⟩
 have:=h.2.2 (i+1) (by simpa using hi)
 rw [show o+1+i=o+(i+1) by omega]
 simpa using this
def LibV (w:World):Prop:=∃ m,w.cell? ⟨0,0,none⟩=some (.int .i64 m)
theorem LibV.kb {w w':World} {P:Nat→Prop} (h:LibV w) (k:Kb P w w') (hp:¬ P 0):LibV w':=by
 obtain ⟨m,hm⟩:=h
 exact ⟨m,k.cell hm hp⟩
structure WdS (w:World) (b p:Nat) (W:Ws):Prop where
 ex:∃ o c,w.cell? ⟨b,0,none⟩=some (.slice (some ⟨p,o,none⟩) W.length c)∧Pcs w p o c W
 lt:b < w.heap.size
 free:w.frozen? ⟨b,0,none⟩=false
 ne:¬ p=b
 big:W.length≤4097
 lib:LibV w
 low:0 < b
def Kw (b:Nat) (w w':World):Prop:=Kb (fun k=>k=b) w w'
theorem Kw.refl (b:Nat) (w:World):Kw b w w:=Kb.refl _ w
theorem Kw.trans {b:Nat} {w w1 w2:World} (h:Kw b w w1) (h2:Kw b w1 w2):Kw b w w2:=Kb.trans h h2
theorem Kw.aft {b:Nat} {w w1 w2:World} (h:Kw b w w1) (a:Aft w1 w2):Kw b w w2:=Kb.trans h (Kb.of_aft a)
theorem Kw.alloc {b:Nat} {w w1:World} (h:Kw b w w1) (o:Obj):Kw b w (w1.alloc o):=h.aft ((Aft.refl _).alloc o)
theorem Kw.drew {b:Nat} {w w1:World} (h:Kw b w w1):Kw b w w1.drew:=h.aft (Aft.refl _).drew
theorem Kw.set {b:Nat} {w w1:World} (h:Kw b w w1) (g j:Nat) (v:Value) (hg:g=b∨w.heap.size≤g):Kw b w (w1.setCell ⟨g,j,none⟩ v) :=
 ⟨h.os,h.tape,h.output,by simpa using h.size,fun k hk hn=>by
  have hne:¬ k=g:=by
   rcases hg with rfl | hg
   ·exact hn
   ·omega
  rw [Below.heap_setCell _ _ _ _ hne]
  exact h.block k hk hn⟩
theorem WdS.kb {w w':World} {b p:Nat} {W:Ws} {P:Nat→Prop} (h:WdS w b p W) (k:Kb P w w') (hb:¬ P b) (hp:¬ P p) (h0:¬ P 0):WdS w' b p W:=by
 obtain ⟨o,c,h1,h2⟩:=h.ex
 have:=k.block b h.lt hb
 exact ⟨⟨o,c,k.cell h1 hb,h2.kb k hp⟩,Nat.lt_of_lt_of_le h.lt k.size,by simpa [World.frozen?,this] using h.free,h.ne,h.big,h.lib.kb k h0,h.low⟩
theorem WdS.aft {w w':World} {b p:Nat} {W:Ws} (h:WdS w b p W) (a:Aft w w'):WdS w' b p W:=h.kb (P:=fun _=>False) (Kb.of_aft a) id id id
theorem WdS.le {w:World} {b p:Nat} {s:ByteArray} {W:Ws} (h:WdS w b p (s::W)):s.size≤4096:=by
 obtain ⟨o,c,_,h2⟩:=h.ex
 exact (h2.2.2 0 (by simp)).2
theorem WdS.small {w:World} {b p:Nat} {s:ByteArray} {W:Ws} (h:WdS w b p (s::W)):Small s.size:=Nat.le_trans h.le (by decide)
theorem wds_set {w:World} {b p o c:Nat} {W W0:Ws} (h:WdS w b p W0) (hl:W.length≤W0.length) (hp:Pcs w p o c W) :
  WdS (w.setCell ⟨b,0,none⟩ (.slice (some ⟨p,o,none⟩) W.length c)) b p W∧Kw b w (w.setCell ⟨b,0,none⟩ (.slice (some ⟨p,o,none⟩) W.length c)):=by
 have hk:Kw b w (w.setCell ⟨b,0,none⟩ (.slice (some ⟨p,o,none⟩) W.length c)):=(Kw.refl b w).set b 0 _ (.inl rfl)
 obtain ⟨o0,c0,h1,_⟩:=h.ex
 exact ⟨⟨⟨o,c,World.cell?_setCell_same _ _ _ h1,hp.kb hk h.ne⟩,by simpa using h.lt,by simpa using h.free,h.ne,Nat.le_trans hl h.big,h.lib.kb hk (by have:=h.low;omega),h.low⟩,hk⟩
theorem more_yes (b p:Nat) (s:ByteArray) (W:Ws) (w:World) (h:WdS w b p (s::W)):Calls Tryz.prog 19 #[.pointer (some ⟨b,0,none⟩)] w fun e w'=>e=.returned (.bool true)∧w=w':=by
 obtain ⟨o,c,c0,hp⟩:=h.ex
 have hb:=h.lt
 have hl:=hp.1
 have hz:=h.big
 rw [List.length_cons] at c0 hl hz
 generalize W.length=n at *
 clear h hp
 go_enter Tryz.func19,Tryz.ntmps19
 go_wp2_with fail
 go_ret
 refine ⟨?_,rfl⟩
 refine Eq.trans (b:=.returned (.bool _)) rfl (ret_of (bool_of ?_))
 first | rfl | (simp;done) | (simp;omega)
theorem more_no (b p:Nat) (w:World) (h:WdS w b p []):Calls Tryz.prog 19 #[.pointer (some ⟨b,0,none⟩)] w fun e w'=>e=.returned (.bool false)∧w=w':=by
 obtain ⟨o,c,c0,hp⟩:=h.ex
 have hb:=h.lt
 rw [List.length_nil] at c0
 clear h hp
 go_enter Tryz.func19,Tryz.ntmps19
 go_wp2_with fail
 go_ret
 exact ⟨rfl,rfl⟩
theorem word_yes (b p:Nat) (s:ByteArray) (W:Ws) (w:World) (h:WdS w b p (s::W)):Calls Tryz.prog 27 #[.pointer (some ⟨b,0,none⟩)] w fun e w'=>e=.returned (.string s)∧WdS w' b p W∧Kw b w w':=by
 have HM:=gH (more_yes b p s W w h)
 have HH:=gH h
 obtain ⟨o,c,c0,hp⟩:=h.ex
 have hb:=h.lt
 have hf:=h.free
 have hne:=h.ne
 have hl:=hp.1
 have hz:=h.big
 have hpl:=hp.2.1
 obtain ⟨c1,-⟩:=hp.2.2 0 (by simp)
 simp only [List.getElem_cons_zero,Nat.add_zero] at c1
 have HP:=gH hp.tail
 rw [List.length_cons] at c0 hl hz
 clear h hp
 go_enter Tryz.func27,Tryz.ntmps27
 go_wp2_with (first | (go_at_call 19;refine HM.out.mono ?_;rintro e w' ⟨rfl,rfl⟩) | (go_at_call 18;refine (dis_ok _).mono ?_;rintro e w' ⟨rfl,rfl⟩))
 ·have hW:W=[]:=List.eq_nil_of_length_eq_zero (by omega)
  go_ret
  refine ⟨rfl,wds_set HH.out (by simp) ?_⟩
  subst hW
  exact ⟨Nat.zero_le _,hpl,fun i hi=>absurd hi (by simp)⟩
 ·go_ret
  exact ⟨rfl,wds_set HH.out (by simp) HP.out⟩
theorem word_no (b p:Nat) (w:World) (h:WdS w b p []):Calls Tryz.prog 27 #[.pointer (some ⟨b,0,none⟩)] w fun e w'=>e=NoL∧w=w':=by
 have HM:=gH (more_no b p w h)
 clear h
 go_enter Tryz.func27,Tryz.ntmps27
 go_wp2_with (first | (go_at_call 19;refine HM.out.mono ?_;rintro e w' ⟨rfl,rfl⟩) | (go_at_call 18;refine (dis_no _).mono ?_;rintro e w' ⟨he,rfl⟩;unfold NoL at he;subst he))
 all_goals exact ⟨rfl,rfl,rfl⟩
def RdQ {α:Type} (b p:Nat) (w:World) (V:World→Value→α→Prop) (o:Option (α × Ws)) (e:Ending) (w':World):Prop :=
 Kw b w w'∧match o with
 | some (x,W)=>∃ v,e=.returned v∧V w' v x∧WdS w' b p W
 | none=>e=NoL
theorem name_rd (b p:Nat) (W:Ws) (w:World) (h:WdS w b p W):Calls Tryz.prog 48 #[.pointer (some ⟨b,0,none⟩)] w (RdQ b p w (fun _ v x=>v=.string x∧nameB x=true) (nameP W)):=by
 cases W with
 | nil =>
  have HM:=gH (word_no b p w h)
  clear h
  go_enter Tryz.func48,Tryz.ntmps48
  go_wp2_with (first | (go_at_call 27;refine HM.out.mono ?_;rintro e w' ⟨he,rfl⟩;unfold NoL at he;subst he))
  exact ⟨rfl,Kw.refl _ _,rfl⟩
 | cons s W =>
  have HM:=gH (word_yes b p s W w h)
  have hs:=h.small
  obtain ⟨q,hq⟩:∃ q,nameB s=q:=⟨_,rfl⟩
  have HN:=gH (show ∀ w1:World,Calls Tryz.prog 81 #[.string s] w1 fun e w'=>e=.returned (.bool q)∧w1=w' from fun w1=>hq▸name_any s w1 hs.max)
  have HQ:=gH hq
  clear h hq hs
  cases q
  ·go_enter Tryz.func48,Tryz.ntmps48
   go_wp2_with (first | (go_at_call 27;refine HM.out.mono ?_;rintro e w1 ⟨rfl,d1,k1⟩;have D1:=gH d1;have K1:=gH k1;clear d1 k1) | (go_at_call 81;refine (HN.out _).mono ?_;rintro e w' ⟨rfl,rfl⟩) | (go_at_call 18;refine (dis_no _).mono ?_;rintro e w' ⟨he,rfl⟩;unfold NoL at he;subst he))
   refine ⟨rfl,K1.out,?_⟩
   have:nameP (s::W)=none:=by simp [nameP,oneP,nameO,HQ.out]
   rw [this];rfl
  ·go_enter Tryz.func48,Tryz.ntmps48
   go_wp2_with (first | (go_at_call 27;refine HM.out.mono ?_;rintro e w1 ⟨rfl,d1,k1⟩;have D1:=gH d1;have K1:=gH k1;clear d1 k1) | (go_at_call 81;refine (HN.out _).mono ?_;rintro e w' ⟨rfl,rfl⟩) | (go_at_call 18;refine (dis_ok _).mono ?_;rintro e w' ⟨rfl,rfl⟩))
   go_ret
   have:nameP (s::W)=some (s,W):=by simp [nameP,oneP,nameO,HQ.out]
   unfold RdQ
   rw [this]
   exact ⟨K1.out,_,rfl,⟨rfl,HQ.out⟩,D1.out⟩
end Go.Proofs.YtbdanlipghhgpaaGreatDoor
namespace Go.Proofs
open Go.Shelf
set_option maxRecDepth 100000
set_option linter.unusedVariables false
set_option maxHeartbeats 64000000
def Tryz.lays156_ren:Go.Shelf.Ren:=⟨fun | 156=>37 | 165=>65 | 166=>66 | 169=>67 | 240=>97 | 241=>98 | 276=>121 | 277=>122 | n=>n,fun | 31=>26 | 9=>9 | 3=>3 | 4=>4 | 0=>0 | 20=>20 | 72=>109 | 76=>113 | 70=>106 | 37=>107 | 75=>112 | 127=>133 | 164=>145 | 5=>5 | 80=>76 | n=>n,fun | n=>n⟩
theorem Tryz.lays156:Go.Proofs.Lays.n156 Tryz.prog Tryz.lays156_ren:={
 mixed:=by kernel_rfl
 f156:=Tryz.func37.trans (congrArg some (by kernel_rfl))
 f165:=Tryz.func65.trans (congrArg some (by kernel_rfl))
 f166:=Tryz.func66.trans (congrArg some (by kernel_rfl))
 f169:=Tryz.func67.trans (congrArg some (by kernel_rfl))
 f240:=Tryz.func97.trans (congrArg some (by kernel_rfl))
 f241:=Tryz.func98.trans (congrArg some (by kernel_rfl))
 f276:=Tryz.func121.trans (congrArg some (by kernel_rfl))
 f277:=Tryz.func122.trans (congrArg some (by kernel_rfl))
 t0:=Tryz.underlying0
 a0:=Tryz.isAgg0
 z0:=Tryz.sizeOf0
 v0:=Tryz.zeroValue0
 t3:=Tryz.underlying3
 a3:=Tryz.isAgg3
 z3:=Tryz.sizeOf3
 v3:=Tryz.zeroValue3
 t4:=Tryz.underlying4
 a4:=Tryz.isAgg4
 z4:=Tryz.sizeOf4
 v4:=Tryz.zeroValue4
 t9:=Tryz.underlying9
 a9:=Tryz.isAgg9
 z9:=Tryz.sizeOf9
 v9:=Tryz.zeroValue9
 t20:=Tryz.underlying20
 a20:=Tryz.isAgg20
 z20:=Tryz.sizeOf20
 v20:=Tryz.zeroValue20
 t31:=Tryz.underlying26
 a31:=Tryz.isAgg26
 z31:=Tryz.sizeOf26
 v31:=Tryz.zeroValue26
 t37:=Tryz.underlying107
 a37:=Tryz.isAgg107
 z37:=Tryz.sizeOf107
 v37:=Tryz.zeroValue107
 t70:=Tryz.underlying106
 a70:=Tryz.isAgg106
 z70:=Tryz.sizeOf106
 v70:=Tryz.zeroValue106
 t72:=Tryz.underlying109
 a72:=Tryz.isAgg109
 z72:=Tryz.sizeOf109
 v72:=Tryz.zeroValue109
 t75:=Tryz.underlying112
 a75:=Tryz.isAgg112
 z75:=Tryz.sizeOf112
 v75:=Tryz.zeroValue112
 t76:=Tryz.underlying113
 a76:=Tryz.isAgg113
 z76:=Tryz.sizeOf113
 v76:=Tryz.zeroValue113
 t127:=Tryz.underlying133
 a127:=Tryz.isAgg133
 z127:=Tryz.sizeOf133
 v127:=Tryz.zeroValue133
 t164:=Tryz.underlying145
 a164:=Tryz.isAgg145
 z164:=Tryz.sizeOf145
 v164:=Tryz.zeroValue145 }
theorem Tryz.Builder_Extra_156:Builder.Extra Tryz.prog Tryz.lays156_ren:={
 sizeBuilder:=by kernel_rfl
 liesBuilder:=by kernel_rfl
 t5:=Tryz.underlying5
 a5:=Tryz.isAgg5
 z5:=Tryz.sizeOf5
 v5:=Tryz.zeroValue5
 infoByte:=by kernel_rfl
 cellsByte:=by kernel_rfl
 sizeByte:=by kernel_rfl
 neB5:=by decide }
open Go.RowKit in
theorem Tryz.strings_Join (bk o c:Nat) (xs:List ByteArray) (sep:ByteArray) (w:World) (hcells:∀ (j:Nat) x,xs[j]? = some x→w.cell? ⟨bk,o+j,none⟩=some (.string x)) (hbk:bk < w.heap.size) (hN:xs.length≤140737488355328) (hcap:xs.length≤c) (hlen:(Lib.join (xs.map (·.data.toList)) sep.data.toList).length≤140737488355328) :
  Calls Tryz.prog 37 #[.slice (some ⟨bk,o,none⟩) xs.length c,.string sep] w fun e w'=>e=.returned (.string ⟨(Lib.join (xs.map (·.data.toList)) sep.data.toList).toArray⟩)∧Below w.heap.size w w':=Any.strings_Join Tryz.lays156 Tryz.Builder_Extra_156 bk o c xs sep w hcells hbk hN hcap hlen
def Tryz.lays160_ren:Go.Shelf.Ren:=⟨fun | 160=>79 | 232=>106 | 231=>105 | 227=>107 | 234=>109 | 233=>108 | 236=>111 | 235=>110 | 228=>126 | 271=>128 | 151=>127 | 197=>75 | 120=>137 | 152=>136 | 260=>99 | 137=>114 | 119=>145 | 224=>102 | 225=>101 | 217=>100 | 266=>123 | n=>n,fun | 9=>9 | 4=>4 | 3=>3 | 5=>5 | 117=>139 | 116=>138 | 0=>0 | 124=>142 | 21=>21 | 105=>120 | 46=>135 | 119=>148 | 139=>151 | 138=>150 | n=>n,fun | 3=>1 | 4=>2 | n=>n⟩
theorem Tryz.lays160:Go.Proofs.Lays.n160 Tryz.prog Tryz.lays160_ren:={
 mixed:=by kernel_rfl
 f119:=Tryz.func145.trans (congrArg some (by kernel_rfl))
 f120:=Tryz.func137.trans (congrArg some (by kernel_rfl))
 f137:=Tryz.func114.trans (congrArg some (by kernel_rfl))
 f151:=Tryz.func127.trans (congrArg some (by kernel_rfl))
 f152:=Tryz.func136.trans (congrArg some (by kernel_rfl))
 f160:=Tryz.func79.trans (congrArg some (by kernel_rfl))
 f197:=Tryz.func75.trans (congrArg some (by kernel_rfl))
 f217:=Tryz.func100.trans (congrArg some (by kernel_rfl))
 f224:=Tryz.func102.trans (congrArg some (by kernel_rfl))
 f225:=Tryz.func101.trans (congrArg some (by kernel_rfl))
 f227:=Tryz.func107.trans (congrArg some (by kernel_rfl))
 f228:=Tryz.func126.trans (congrArg some (by kernel_rfl))
 f231:=Tryz.func105.trans (congrArg some (by kernel_rfl))
 f232:=Tryz.func106.trans (congrArg some (by kernel_rfl))
 f233:=Tryz.func108.trans (congrArg some (by kernel_rfl))
 f234:=Tryz.func109.trans (congrArg some (by kernel_rfl))
 f235:=Tryz.func110.trans (congrArg some (by kernel_rfl))
 f236:=Tryz.func111.trans (congrArg some (by kernel_rfl))
 f260:=Tryz.func99.trans (congrArg some (by kernel_rfl))
 f266:=Tryz.func123.trans (congrArg some (by kernel_rfl))
 f271:=Tryz.func128.trans (congrArg some (by kernel_rfl))
 t0:=Tryz.underlying0
 a0:=Tryz.isAgg0
 z0:=Tryz.sizeOf0
 v0:=Tryz.zeroValue0
 t3:=Tryz.underlying3
 a3:=Tryz.isAgg3
 z3:=Tryz.sizeOf3
 v3:=Tryz.zeroValue3
 t4:=Tryz.underlying4
 a4:=Tryz.isAgg4
 z4:=Tryz.sizeOf4
 v4:=Tryz.zeroValue4
 t5:=Tryz.underlying5
 a5:=Tryz.isAgg5
 z5:=Tryz.sizeOf5
 v5:=Tryz.zeroValue5
 t9:=Tryz.underlying9
 a9:=Tryz.isAgg9
 z9:=Tryz.sizeOf9
 v9:=Tryz.zeroValue9
 t21:=Tryz.underlying21
 a21:=Tryz.isAgg21
 z21:=Tryz.sizeOf21
 v21:=Tryz.zeroValue21
 t46:=Tryz.underlying135
 a46:=Tryz.isAgg135
 z46:=Tryz.sizeOf135
 v46:=Tryz.zeroValue135
 t105:=Tryz.underlying120
 a105:=Tryz.isAgg120
 z105:=Tryz.sizeOf120
 v105:=Tryz.zeroValue120
 t116:=Tryz.underlying138
 a116:=Tryz.isAgg138
 z116:=Tryz.sizeOf138
 t117:=Tryz.underlying139
 a117:=Tryz.isAgg139
 z117:=Tryz.sizeOf139
 v117:=Tryz.zeroValue139
 t119:=Tryz.underlying148
 a119:=Tryz.isAgg148
 z119:=Tryz.sizeOf148
 t124:=Tryz.underlying142
 a124:=Tryz.isAgg142
 z124:=Tryz.sizeOf142
 v124:=Tryz.zeroValue142
 t138:=Tryz.underlying150
 a138:=Tryz.isAgg150
 z138:=Tryz.sizeOf150
 v138:=Tryz.zeroValue150
 t139:=Tryz.underlying151
 a139:=Tryz.isAgg151
 z139:=Tryz.sizeOf151
 v139:=Tryz.zeroValue151
 g3:=by kernel_rfl
 g4:=by kernel_rfl }
def Tryz.lays103_ren:Go.Shelf.Ren:=⟨fun | 103=>85 | 210=>118 | 206=>125 | n=>n,fun | 9=>9 | 4=>4 | 24=>124 | 3=>3 | n=>n,fun | n=>n⟩
theorem Tryz.lays103:Go.Proofs.Lays.n103 Tryz.prog Tryz.lays103_ren:={
 mixed:=by kernel_rfl
 f103:=Tryz.func85.trans (congrArg some (by kernel_rfl))
 f206:=Tryz.func125.trans (congrArg some (by kernel_rfl))
 f210:=Tryz.func118.trans (congrArg some (by kernel_rfl))
 t3:=Tryz.underlying3
 a3:=Tryz.isAgg3
 z3:=Tryz.sizeOf3
 v3:=Tryz.zeroValue3
 t4:=Tryz.underlying4
 a4:=Tryz.isAgg4
 z4:=Tryz.sizeOf4
 v4:=Tryz.zeroValue4
 t9:=Tryz.underlying9
 a9:=Tryz.isAgg9
 z9:=Tryz.sizeOf9
 v9:=Tryz.zeroValue9
 t24:=Tryz.underlying124
 a24:=Tryz.isAgg124
 z24:=Tryz.sizeOf124
 v24:=Tryz.zeroValue124 }
open Go.RowKit in
theorem Tryz.strings_CutPrefix (s p:ByteArray) (w:World) :
  Calls Tryz.prog 85 #[.string s,.string p] w fun e w'=>e=.returned (.tuple #[.string ⟨(Lib.trimPrefix s.data.toList p.data.toList).toArray⟩,.bool (Lib.hasPrefix s.data.toList p.data.toList)])∧w'=w:=Any.strings_CutPrefix Tryz.lays103 s p w
def Tryz.lays104_ren:Go.Shelf.Ren:=⟨fun | 104=>82 | 211=>116 | 207=>134 | n=>n,fun | 9=>9 | 4=>4 | 24=>124 | 3=>3 | n=>n,fun | n=>n⟩
theorem Tryz.lays104:Go.Proofs.Lays.n104 Tryz.prog Tryz.lays104_ren:={
 mixed:=by kernel_rfl
 f104:=Tryz.func82.trans (congrArg some (by kernel_rfl))
 f207:=Tryz.func134.trans (congrArg some (by kernel_rfl))
 f211:=Tryz.func116.trans (congrArg some (by kernel_rfl))
 t3:=Tryz.underlying3
 a3:=Tryz.isAgg3
 z3:=Tryz.sizeOf3
 v3:=Tryz.zeroValue3
 t4:=Tryz.underlying4
 a4:=Tryz.isAgg4
 z4:=Tryz.sizeOf4
 v4:=Tryz.zeroValue4
 t9:=Tryz.underlying9
 a9:=Tryz.isAgg9
 z9:=Tryz.sizeOf9
 v9:=Tryz.zeroValue9
 t24:=Tryz.underlying124
 a24:=Tryz.isAgg124
 z24:=Tryz.sizeOf124
 v24:=Tryz.zeroValue124 }
open Go.RowKit in
theorem Tryz.strings_CutSuffix (s p:ByteArray) (w:World) (hs:s.size≤9223372036854775807) :
  Calls Tryz.prog 82 #[.string s,.string p] w fun e w'=>e=.returned (.tuple #[.string ⟨(Lib.trimSuffix s.data.toList p.data.toList).toArray⟩,.bool (Lib.hasSuffix s.data.toList p.data.toList)])∧w'=w:=Any.strings_CutSuffix Tryz.lays104 s p w hs
def Tryz.lays172_ren:Go.Shelf.Ren:=⟨fun | 172=>80 | 244=>112 | 245=>113 | 247=>129 | 279=>130 | 280=>131 | 281=>132 | 282=>133 | 287=>138 | 316=>139 | 171=>90 | 205=>140 | 321=>146 | 322=>147 | 243=>119 | 246=>135 | 283=>141 | 284=>142 | 285=>143 | 286=>144 | 129=>149 | 317=>148 | 318=>150 | 319=>151 | 320=>152 | 337=>153 | 338=>154 | n=>n,fun | 9=>9 | 3=>3 | 75=>112 | 76=>113 | 4=>4 | 5=>5 | 167=>158 | 37=>107 | 0=>0 | 85=>159 | 2=>2 | 168=>161 | 53=>166 | 175=>167 | 46=>135 | 210=>170 | 127=>133 | 145=>181 | 143=>179 | 21=>21 | 171=>172 | 173=>175 | 212=>183 | 51=>152 | 20=>20 | 213=>184 | 232=>188 | 233=>189 | 80=>76 | n=>n,fun | 15=>3 | 16=>4 | 17=>5 | 18=>6 | 19=>7 | n=>n⟩
theorem Tryz.lays172:Go.Proofs.Lays.n172 Tryz.prog Tryz.lays172_ren:={
 mixed:=by kernel_rfl
 f129:=Tryz.func149.trans (congrArg some (by kernel_rfl))
 f171:=Tryz.func90.trans (congrArg some (by kernel_rfl))
 f172:=Tryz.func80.trans (congrArg some (by kernel_rfl))
 f205:=Tryz.func140.trans (congrArg some (by kernel_rfl))
 f243:=Tryz.func119.trans (congrArg some (by kernel_rfl))
 f244:=Tryz.func112.trans (congrArg some (by kernel_rfl))
 f245:=Tryz.func113.trans (congrArg some (by kernel_rfl))
 f246:=Tryz.func135.trans (congrArg some (by kernel_rfl))
 f247:=Tryz.func129.trans (congrArg some (by kernel_rfl))
 f279:=Tryz.func130.trans (congrArg some (by kernel_rfl))
 f280:=Tryz.func131.trans (congrArg some (by kernel_rfl))
 f281:=Tryz.func132.trans (congrArg some (by kernel_rfl))
 f282:=Tryz.func133.trans (congrArg some (by kernel_rfl))
 f283:=Tryz.func141.trans (congrArg some (by kernel_rfl))
 f284:=Tryz.func142.trans (congrArg some (by kernel_rfl))
 f285:=Tryz.func143.trans (congrArg some (by kernel_rfl))
 f286:=Tryz.func144.trans (congrArg some (by kernel_rfl))
 f287:=Tryz.func138.trans (congrArg some (by kernel_rfl))
 f316:=Tryz.func139.trans (congrArg some (by kernel_rfl))
 f317:=Tryz.func148.trans (congrArg some (by kernel_rfl))
 f318:=Tryz.func150.trans (congrArg some (by kernel_rfl))
 f319:=Tryz.func151.trans (congrArg some (by kernel_rfl))
 f320:=Tryz.func152.trans (congrArg some (by kernel_rfl))
 f321:=Tryz.func146.trans (congrArg some (by kernel_rfl))
 f322:=Tryz.func147.trans (congrArg some (by kernel_rfl))
 f337:=Tryz.func153.trans (congrArg some (by kernel_rfl))
 f338:=Tryz.func154.trans (congrArg some (by kernel_rfl))
 t0:=Tryz.underlying0
 a0:=Tryz.isAgg0
 z0:=Tryz.sizeOf0
 v0:=Tryz.zeroValue0
 t2:=Tryz.underlying2
 a2:=Tryz.isAgg2
 z2:=Tryz.sizeOf2
 v2:=Tryz.zeroValue2
 t3:=Tryz.underlying3
 a3:=Tryz.isAgg3
 z3:=Tryz.sizeOf3
 v3:=Tryz.zeroValue3
 t4:=Tryz.underlying4
 a4:=Tryz.isAgg4
 z4:=Tryz.sizeOf4
 v4:=Tryz.zeroValue4
 t5:=Tryz.underlying5
 a5:=Tryz.isAgg5
 z5:=Tryz.sizeOf5
 v5:=Tryz.zeroValue5
 t9:=Tryz.underlying9
 a9:=Tryz.isAgg9
 z9:=Tryz.sizeOf9
 v9:=Tryz.zeroValue9
 t20:=Tryz.underlying20
 a20:=Tryz.isAgg20
 z20:=Tryz.sizeOf20
 v20:=Tryz.zeroValue20
 t21:=Tryz.underlying21
 a21:=Tryz.isAgg21
 z21:=Tryz.sizeOf21
 v21:=Tryz.zeroValue21
 t37:=Tryz.underlying107
 a37:=Tryz.isAgg107
 z37:=Tryz.sizeOf107
 v37:=Tryz.zeroValue107
 t46:=Tryz.underlying135
 a46:=Tryz.isAgg135
 z46:=Tryz.sizeOf135
 v46:=Tryz.zeroValue135
 t51:=Tryz.underlying152
 a51:=Tryz.isAgg152
 z51:=Tryz.sizeOf152
 v51:=Tryz.zeroValue152
 t53:=Tryz.underlying166
 a53:=Tryz.isAgg166
 z53:=Tryz.sizeOf166
 v53:=Tryz.zeroValue166
 t75:=Tryz.underlying112
 a75:=Tryz.isAgg112
 z75:=Tryz.sizeOf112
 v75:=Tryz.zeroValue112
 t76:=Tryz.underlying113
 a76:=Tryz.isAgg113
 z76:=Tryz.sizeOf113
 v76:=Tryz.zeroValue113
 t85:=Tryz.underlying159
 a85:=Tryz.isAgg159
 z85:=Tryz.sizeOf159
 v85:=Tryz.zeroValue159
 t127:=Tryz.underlying133
 a127:=Tryz.isAgg133
 z127:=Tryz.sizeOf133
 v127:=Tryz.zeroValue133
 t143:=Tryz.underlying179
 a143:=Tryz.isAgg179
 z143:=Tryz.sizeOf179
 v143:=Tryz.zeroValue179
 t145:=Tryz.underlying181
 a145:=Tryz.isAgg181
 z145:=Tryz.sizeOf181
 v145:=Tryz.zeroValue181
 t167:=Tryz.underlying158
 a167:=Tryz.isAgg158
 z167:=Tryz.sizeOf158
 v167:=Tryz.zeroValue158
 t168:=Tryz.underlying161
 a168:=Tryz.isAgg161
 z168:=Tryz.sizeOf161
 v168:=Tryz.zeroValue161
 t171:=Tryz.underlying172
 a171:=Tryz.isAgg172
 z171:=Tryz.sizeOf172
 v171:=Tryz.zeroValue172
 t173:=Tryz.underlying175
 a173:=Tryz.isAgg175
 z173:=Tryz.sizeOf175
 v173:=Tryz.zeroValue175
 t175:=Tryz.underlying167
 a175:=Tryz.isAgg167
 z175:=Tryz.sizeOf167
 v175:=Tryz.zeroValue167
 t210:=Tryz.underlying170
 a210:=Tryz.isAgg170
 z210:=Tryz.sizeOf170
 v210:=Tryz.zeroValue170
 t212:=Tryz.underlying183
 a212:=Tryz.isAgg183
 z212:=Tryz.sizeOf183
 v212:=Tryz.zeroValue183
 t213:=Tryz.underlying184
 a213:=Tryz.isAgg184
 z213:=Tryz.sizeOf184
 t232:=Tryz.underlying188
 a232:=Tryz.isAgg188
 z232:=Tryz.sizeOf188
 v232:=Tryz.zeroValue188
 t233:=Tryz.underlying189
 a233:=Tryz.isAgg189
 z233:=Tryz.sizeOf189
 v233:=Tryz.zeroValue189
 g15:=by kernel_rfl
 g16:=by kernel_rfl
 g17:=by kernel_rfl
 g18:=by kernel_rfl
 g19:=by kernel_rfl }
open Go.RowKit in
theorem Tryz.strconv_Atoi (s:ByteArray) (n:Int) (hl:s.size≤18) (h:Lib.atoi s.data.toList=some n) (w:World) :
  Calls Tryz.prog 80 #[.string s] w fun e w'=>e=.returned (.tuple #[.int .i64 n,.nilIface])∧∃ t,w'=Lib.bytesWorld w 5 t:=Any.strconv_Atoi Tryz.lays172 s n hl h w
def Tryz.laysM171_ren:Go.Shelf.Ren:=⟨fun | 171=>90 | 243=>119 | 246=>135 | 283=>141 | 284=>142 | 285=>143 | 286=>144 | 129=>149 | 317=>148 | 318=>150 | 319=>151 | 320=>152 | 337=>153 | 338=>154 | n=>n,fun | 3=>3 | 9=>9 | 2=>2 | 4=>4 | 171=>172 | 0=>0 | 53=>166 | 37=>107 | 5=>5 | 173=>175 | 212=>183 | 51=>152 | 20=>20 | 213=>184 | 46=>135 | 232=>188 | 233=>189 | n=>n,fun | 17=>5 | 18=>6 | 19=>7 | n=>n⟩
theorem Tryz.laysM171:Go.Proofs.LaysM.n171 Tryz.prog Tryz.laysM171_ren:={
 mixed:=by kernel_rfl
 f129:=Tryz.func149.trans (congrArg some (by kernel_rfl))
 f171:=Tryz.func90.trans (congrArg some (by kernel_rfl))
 f243:=Tryz.func119.trans (congrArg some (by kernel_rfl))
 f246:=Tryz.func135.trans (congrArg some (by kernel_rfl))
 f283:=Tryz.func141.trans (congrArg some (by kernel_rfl))
 f284:=Tryz.func142.trans (congrArg some (by kernel_rfl))
 f285:=Tryz.func143.trans (congrArg some (by kernel_rfl))
 f286:=Tryz.func144.trans (congrArg some (by kernel_rfl))
 f317:=Tryz.func148.trans (congrArg some (by kernel_rfl))
 f318:=Tryz.func150.trans (congrArg some (by kernel_rfl))
 f319:=Tryz.func151.trans (congrArg some (by kernel_rfl))
 f320:=Tryz.func152.trans (congrArg some (by kernel_rfl))
 f337:=Tryz.func153.trans (congrArg some (by kernel_rfl))
 f338:=Tryz.func154.trans (congrArg some (by kernel_rfl))
 t0:=Tryz.underlying0
 a0:=Tryz.isAgg0
 z0:=Tryz.sizeOf0
 v0:=Tryz.zeroValue0
 t2:=Tryz.underlying2
 a2:=Tryz.isAgg2
 z2:=Tryz.sizeOf2
 v2:=Tryz.zeroValue2
 t3:=Tryz.underlying3
 a3:=Tryz.isAgg3
 z3:=Tryz.sizeOf3
 v3:=Tryz.zeroValue3
 t4:=Tryz.underlying4
 a4:=Tryz.isAgg4
 z4:=Tryz.sizeOf4
 v4:=Tryz.zeroValue4
 t5:=Tryz.underlying5
 a5:=Tryz.isAgg5
 z5:=Tryz.sizeOf5
 v5:=Tryz.zeroValue5
 t9:=Tryz.underlying9
 a9:=Tryz.isAgg9
 z9:=Tryz.sizeOf9
 v9:=Tryz.zeroValue9
 t20:=Tryz.underlying20
 a20:=Tryz.isAgg20
 z20:=Tryz.sizeOf20
 v20:=Tryz.zeroValue20
 t37:=Tryz.underlying107
 a37:=Tryz.isAgg107
 z37:=Tryz.sizeOf107
 v37:=Tryz.zeroValue107
 t46:=Tryz.underlying135
 a46:=Tryz.isAgg135
 z46:=Tryz.sizeOf135
 v46:=Tryz.zeroValue135
 t51:=Tryz.underlying152
 a51:=Tryz.isAgg152
 z51:=Tryz.sizeOf152
 v51:=Tryz.zeroValue152
 t53:=Tryz.underlying166
 a53:=Tryz.isAgg166
 z53:=Tryz.sizeOf166
 v53:=Tryz.zeroValue166
 t171:=Tryz.underlying172
 a171:=Tryz.isAgg172
 z171:=Tryz.sizeOf172
 v171:=Tryz.zeroValue172
 t173:=Tryz.underlying175
 a173:=Tryz.isAgg175
 z173:=Tryz.sizeOf175
 v173:=Tryz.zeroValue175
 t212:=Tryz.underlying183
 a212:=Tryz.isAgg183
 z212:=Tryz.sizeOf183
 v212:=Tryz.zeroValue183
 t213:=Tryz.underlying184
 a213:=Tryz.isAgg184
 z213:=Tryz.sizeOf184
 t232:=Tryz.underlying188
 a232:=Tryz.isAgg188
 z232:=Tryz.sizeOf188
 v232:=Tryz.zeroValue188
 t233:=Tryz.underlying189
 a233:=Tryz.isAgg189
 z233:=Tryz.sizeOf189
 v233:=Tryz.zeroValue189
 g17:=by kernel_rfl
 g18:=by kernel_rfl
 g19:=by kernel_rfl
 i0:=by kernel_rfl
 i2:=by kernel_rfl
 i3:=by kernel_rfl
 i4:=by kernel_rfl
 i5:=by kernel_rfl
 i9:=by kernel_rfl
 i20:=by kernel_rfl
 i37:=by kernel_rfl
 i46:=by kernel_rfl
 i51:=by kernel_rfl
 i53:=by kernel_rfl
 i171:=by kernel_rfl
 i173:=by kernel_rfl
 i212:=by kernel_rfl
 i232:=by kernel_rfl
 i233:=by kernel_rfl
 m17:=by kernel_rfl
 m18:=by kernel_rfl
 m19:=by kernel_rfl }
open Go.RowKit Go.Sort Go.Lib in
theorem Tryz.strconv_Itoa (n:Int) (h0 : -9223372036854775808≤n) (h1:n≤9223372036854775807) (w:World) (htab:Lib.TabIs Tryz.prog w "internal/strconv.uint64pow10" .u64 Lib.pow10Tab) :
  Calls Tryz.prog 90 #[.int .i64 n] w fun e w'=>e=.returned (.string ⟨(Lib.itoa n).toArray⟩)∧∃ k os,w'=grow (w.drewN k) os:=Any.strconv_Itoa Tryz.laysM171 n h0 h1 w htab
def Tryz.lays145_ren:Go.Shelf.Ren:=⟨fun | 145=>83 | 220=>117 | 219=>77 | 217=>100 | 225=>101 | 224=>102 | 267=>103 | 266=>123 | 314=>124 | n=>n,fun | 9=>9 | 4=>4 | 59=>126 | 3=>3 | 5=>5 | 46=>135 | 146=>153 | 51=>152 | n=>n,fun | 1=>0 | n=>n⟩
theorem Tryz.lays145:Go.Proofs.Lays.n145 Tryz.prog Tryz.lays145_ren:={
 mixed:=by kernel_rfl
 f145:=Tryz.func83.trans (congrArg some (by kernel_rfl))
 f217:=Tryz.func100.trans (congrArg some (by kernel_rfl))
 f219:=Tryz.func77.trans (congrArg some (by kernel_rfl))
 f220:=Tryz.func117.trans (congrArg some (by kernel_rfl))
 f224:=Tryz.func102.trans (congrArg some (by kernel_rfl))
 f225:=Tryz.func101.trans (congrArg some (by kernel_rfl))
 f266:=Tryz.func123.trans (congrArg some (by kernel_rfl))
 f267:=Tryz.func103.trans (congrArg some (by kernel_rfl))
 f314:=Tryz.func124.trans (congrArg some (by kernel_rfl))
 t3:=Tryz.underlying3
 a3:=Tryz.isAgg3
 z3:=Tryz.sizeOf3
 v3:=Tryz.zeroValue3
 t4:=Tryz.underlying4
 a4:=Tryz.isAgg4
 z4:=Tryz.sizeOf4
 v4:=Tryz.zeroValue4
 t5:=Tryz.underlying5
 a5:=Tryz.isAgg5
 z5:=Tryz.sizeOf5
 v5:=Tryz.zeroValue5
 t9:=Tryz.underlying9
 a9:=Tryz.isAgg9
 z9:=Tryz.sizeOf9
 v9:=Tryz.zeroValue9
 t46:=Tryz.underlying135
 a46:=Tryz.isAgg135
 z46:=Tryz.sizeOf135
 v46:=Tryz.zeroValue135
 t51:=Tryz.underlying152
 a51:=Tryz.isAgg152
 z51:=Tryz.sizeOf152
 v51:=Tryz.zeroValue152
 t59:=Tryz.underlying126
 a59:=Tryz.isAgg126
 z59:=Tryz.sizeOf126
 v59:=Tryz.zeroValue126
 t146:=Tryz.underlying153
 a146:=Tryz.isAgg153
 z146:=Tryz.sizeOf153
 v146:=Tryz.zeroValue153
 g1:=by kernel_rfl }
open Go.RowKit Go.Lib in
theorem Tryz.strings_Cut (s sep:ByteArray) (m:Int) (w:World) (hs:s.size < 4294967281) (hm:w.cell? ⟨0,0,none⟩=some (.int .i64 m)) :
  Calls Tryz.prog 83 #[.string s,.string sep] w fun e w'=>e=.returned (.tuple #[.string ⟨(Lib.cut s.data.toList sep.data.toList).1.toArray⟩,.string ⟨(Lib.cut s.data.toList sep.data.toList).2.1.toArray⟩,.bool (Lib.cut s.data.toList sep.data.toList).2.2])∧∃ n,w'=w.drewN n:=Any.strings_Cut Tryz.lays145 s sep m w hs hm
def Tryz.lays101_ren:Go.Shelf.Ren:=⟨fun | 101=>78 | 208=>104 | 206=>125 | n=>n,fun | 9=>9 | 4=>4 | 3=>3 | n=>n,fun | n=>n⟩
theorem Tryz.lays101:Go.Proofs.Lays.n101 Tryz.prog Tryz.lays101_ren:={
 mixed:=by kernel_rfl
 f101:=Tryz.func78.trans (congrArg some (by kernel_rfl))
 f206:=Tryz.func125.trans (congrArg some (by kernel_rfl))
 f208:=Tryz.func104.trans (congrArg some (by kernel_rfl))
 t3:=Tryz.underlying3
 a3:=Tryz.isAgg3
 z3:=Tryz.sizeOf3
 v3:=Tryz.zeroValue3
 t4:=Tryz.underlying4
 a4:=Tryz.isAgg4
 z4:=Tryz.sizeOf4
 v4:=Tryz.zeroValue4
 t9:=Tryz.underlying9
 a9:=Tryz.isAgg9
 z9:=Tryz.sizeOf9
 v9:=Tryz.zeroValue9 }
open Go.RowKit Go.Lib in
theorem Tryz.strings_TrimPrefix (s p:ByteArray) (w:World) :
  Calls Tryz.prog 78 #[.string s,.string p] w fun e w'=>e=.returned (.string ⟨(Lib.trimPrefix s.data.toList p.data.toList).toArray⟩)∧w'=w:=Any.strings_TrimPrefix Tryz.lays101 s p w
def Tryz.lays146_ren:Go.Shelf.Ren:=⟨fun | 146=>16 | 221=>26 | 268=>44 | 138=>45 | 143=>46 | 195=>74 | 197=>75 | 218=>76 | 219=>77 | 260=>99 | 217=>100 | 225=>101 | 224=>102 | 267=>103 | 266=>123 | 314=>124 | n=>n,fun | 9=>9 | 31=>26 | 3=>3 | 4=>4 | 0=>0 | 105=>120 | 21=>21 | 5=>5 | 46=>135 | 119=>148 | 139=>151 | 138=>150 | 146=>153 | 51=>152 | n=>n,fun | 1=>0 | 3=>1 | 4=>2 | n=>n⟩
theorem Tryz.lays146:Go.Proofs.Lays.n146 Tryz.prog Tryz.lays146_ren:={
 mixed:=by kernel_rfl
 f138:=Tryz.func45.trans (congrArg some (by kernel_rfl))
 f143:=Tryz.func46.trans (congrArg some (by kernel_rfl))
 f146:=Tryz.func16.trans (congrArg some (by kernel_rfl))
 f195:=Tryz.func74.trans (congrArg some (by kernel_rfl))
 f197:=Tryz.func75.trans (congrArg some (by kernel_rfl))
 f217:=Tryz.func100.trans (congrArg some (by kernel_rfl))
 f218:=Tryz.func76.trans (congrArg some (by kernel_rfl))
 f219:=Tryz.func77.trans (congrArg some (by kernel_rfl))
 f221:=Tryz.func26.trans (congrArg some (by kernel_rfl))
 f224:=Tryz.func102.trans (congrArg some (by kernel_rfl))
 f225:=Tryz.func101.trans (congrArg some (by kernel_rfl))
 f260:=Tryz.func99.trans (congrArg some (by kernel_rfl))
 f266:=Tryz.func123.trans (congrArg some (by kernel_rfl))
 f267:=Tryz.func103.trans (congrArg some (by kernel_rfl))
 f268:=Tryz.func44.trans (congrArg some (by kernel_rfl))
 f314:=Tryz.func124.trans (congrArg some (by kernel_rfl))
 t0:=Tryz.underlying0
 a0:=Tryz.isAgg0
 z0:=Tryz.sizeOf0
 v0:=Tryz.zeroValue0
 t3:=Tryz.underlying3
 a3:=Tryz.isAgg3
 z3:=Tryz.sizeOf3
 v3:=Tryz.zeroValue3
 t4:=Tryz.underlying4
 a4:=Tryz.isAgg4
 z4:=Tryz.sizeOf4
 v4:=Tryz.zeroValue4
 t5:=Tryz.underlying5
 a5:=Tryz.isAgg5
 z5:=Tryz.sizeOf5
 v5:=Tryz.zeroValue5
 t9:=Tryz.underlying9
 a9:=Tryz.isAgg9
 z9:=Tryz.sizeOf9
 v9:=Tryz.zeroValue9
 t21:=Tryz.underlying21
 a21:=Tryz.isAgg21
 z21:=Tryz.sizeOf21
 v21:=Tryz.zeroValue21
 t31:=Tryz.underlying26
 a31:=Tryz.isAgg26
 z31:=Tryz.sizeOf26
 v31:=Tryz.zeroValue26
 t46:=Tryz.underlying135
 a46:=Tryz.isAgg135
 z46:=Tryz.sizeOf135
 v46:=Tryz.zeroValue135
 t51:=Tryz.underlying152
 a51:=Tryz.isAgg152
 z51:=Tryz.sizeOf152
 v51:=Tryz.zeroValue152
 t105:=Tryz.underlying120
 a105:=Tryz.isAgg120
 z105:=Tryz.sizeOf120
 v105:=Tryz.zeroValue120
 t119:=Tryz.underlying148
 a119:=Tryz.isAgg148
 z119:=Tryz.sizeOf148
 t138:=Tryz.underlying150
 a138:=Tryz.isAgg150
 z138:=Tryz.sizeOf150
 v138:=Tryz.zeroValue150
 t139:=Tryz.underlying151
 a139:=Tryz.isAgg151
 z139:=Tryz.sizeOf151
 v139:=Tryz.zeroValue151
 t146:=Tryz.underlying153
 a146:=Tryz.isAgg153
 z146:=Tryz.sizeOf153
 v146:=Tryz.zeroValue153
 g1:=by kernel_rfl
 g3:=by kernel_rfl
 g4:=by kernel_rfl }
open Go.RowKit Go.Lib in
theorem Tryz.strings_Split (s sep:ByteArray) (m:Int) (w:World) (hs:s.size < 4294967281) (hm:w.cell? ⟨0,0,none⟩=some (.int .i64 m)) (h1:1≤sep.size) :
  Calls Tryz.prog 16 #[.string s,.string sep] w fun e w' =>
   e=.returned (.slice (some ⟨w.heap.size,0,none⟩) (Lib.countB s sep+1) (Lib.countB s sep+1))∧w'=w.alloc (.cells ((Lib.splitB sep 0 (Lib.countB s sep) s).map Value.string).toArray 9):=Any.strings_Split Tryz.lays146 (by kernel_rfl) s sep m w hs hm h1
open Go.RowKit Go.Lib in
theorem Tryz.strings_Trim (s cutset:ByteArray) (w:World) (hs:s.size≤9223372036854775807) (hcs:cutset.size < 4294967281) (hascii:∀ (j:Nat) b,cutset.data.toList[j]? = some b→b.toNat < 128) :
  Calls Tryz.prog 79 #[.string s,.string cutset] w fun e w'=>e=.returned (.string ⟨(Lib.trimS s.data.toList cutset.data.toList).toArray⟩)∧Below w.heap.size w w' :=
 Any.strings_Trim_laid Tryz.lays160 (by kernel_rfl) s cutset w hs hcs hascii
end Go.Proofs
