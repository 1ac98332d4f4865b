import Derived.Deep.DeepCutAuto
import Derived.Deep.CutRange
import Derived.Deep.RegionHeld3
import Derived.Test.YtbdanlipghhgpaaGreatDoorPartP8
namespace Go.Proofs.YtbdanlipghhgpaaGreatDoor
open Go.RowKit
set_option maxRecDepth 100000
set_option linter.unusedVariables false
set_option maxHeartbeats 64000000
def SameQ (w:World) (p:Prop) (e:Ending) (w':World):Prop:=Aft w w'∧∃ r,e=.returned (.bool r)∧(r=true↔p)
theorem SameQ.no {w w':World} {p:Prop} (h:¬ p) (a:Aft w w'):SameQ w p (.returned (.bool false)) w':=⟨a,false,rfl,fun e=>(by cases e),fun e=>absurd e h⟩
theorem SameQ.yes {w w':World} {p:Prop} (h:p) (a:Aft w w'):SameQ w p (.returned (.bool true)) w':=⟨a,true,rfl,fun _=>h,fun _=>rfl⟩
theorem eqL_iff (a b:ByteArray):(a.toList==b.toList)=true↔a=b:=eqS_iffD a b
theorem eqL_no {a b:ByteArray} (h:(a.toList==b.toList)=false):¬ a=b:=fun e=>by rw [(eqL_iff a b).2 e] at h;cases h
theorem eqI_no {a b:Int} (h:(a==b)=false):¬ a=b:=fun e=>by simp [e] at h
theorem eqI_yes {a b:Int} (h:(a==b)=true):a=b:=by simpa using h
theorem eqB_no {a b:Bool} (h:(a==b)=false):¬ a=b:=fun e=>by simp [e] at h
theorem eqB_yes {a b:Bool} (h:(a==b)=true):a=b:=by simpa using h
def eqC3 (n:ByteArray) (k:Int) (b:Bool) (n':ByteArray) (k':Int) (b':Bool):Bool:=eqS n n'&&(k==k'&&b==b')
theorem run_eqCol (w:World) (n:ByteArray) (k:Int) (b:Bool) (n':ByteArray) (k':Int) (b':Bool) :
  (Op.equalIn 10000 67 (.agg #[.string n,.int .i64 k,.bool b]) (.agg #[.string n',.int .i64 k',.bool b'])).run Tryz.prog w=.ok (eqC3 n k b n' k' b') w:=by
 cases h1:(k==k')<;>cases b<;>cases b'<;>cases h3:eqS n n'<;>(have h3':=h3;unfold eqS at h3')<;>go_simp<;>simp_all [eqC3]
@[go_sem ↓] theorem run_eqlCol (w:World) (n:ByteArray) (k:Int) (b:Bool) (n':ByteArray) (k':Int) (b':Bool) :
  (binOp .eql 67 (.agg #[.string n,.int .i64 k,.bool b]) (.agg #[.string n',.int .i64 k',.bool b'])).run Tryz.prog w=.ok (.bool (eqC3 n k b n' k' b')) w:=by
 rw [run_eql_struct,run_eqCol];rfl
@[go_sem ↓] theorem run_neqCol (w:World) (n:ByteArray) (k:Int) (b:Bool) (n':ByteArray) (k':Int) (b':Bool) :
  (binOp .neq 67 (.agg #[.string n,.int .i64 k,.bool b]) (.agg #[.string n',.int .i64 k',.bool b'])).run Tryz.prog w=.ok (.bool (!eqC3 n k b n' k' b')) w:=by
 rw [run_neq_struct,run_eqCol];rfl
theorem eqC_iff (c d:Col):eqC3 c.name c.kind c.null d.name d.kind d.null=true↔c=d:=by
 obtain ⟨n,k,b⟩:=c
 obtain ⟨n',k',b'⟩:=d
 simp only [eqC3,Bool.and_eq_true,eqS_iffD,beq_iff_eq,Col.mk.injEq]
theorem eqVd_iff (c d:Val):eqV3 c.kind c.int c.text d.kind d.int d.text=true↔c=d:=by
 obtain ⟨n,k,b⟩:=c
 obtain ⟨n',k',b'⟩:=d
 simp only [eqV3,Bool.and_eq_true,eqS_iffD,beq_iff_eq,Val.mk.injEq]
theorem eqVs_iff:∀ l m:List Val,eqVs l m=true↔l=m
 | [],[]=>by simp [eqVs]
 | [],_::_=>by simp [eqVs]
 | _::_,[]=>by simp [eqVs]
 | a::l,b::m=>by
  rw [eqVs,Bool.and_eq_true,eqVs_iff l m,List.cons.injEq,show eqV a b=eqV3 a.kind a.int a.text b.kind b.int b.text from rfl,eqVd_iff]
theorem list_ne {α:Type} {l m:List α} {k:Nat} (h1:k < l.length) (h2:k < m.length) (h:¬ l[k]=m[k]):¬ l=m:=fun e=>h (by subst e;rfl)
theorem list_eq {α:Type} {l m:List α} (hl:l.length=m.length) (h:∀ j,j < l.length→∀ (hj:j < l.length) (hj2:j < m.length),l[j]=m[j]):l=m:=List.ext_getElem hl fun j h1 h2=>h j h1 h1 h2
theorem eqCols (A:Option Addr) (cap:Nat) (l:List Col) (A2:Option Addr) (cap2:Nat) (l2:List Col) (w:World) (h:SlAt w 3 ColR A cap l) (h2:SlAt w 3 ColR A2 cap2 l2) :
  Calls Tryz.prog 40 #[.slice A l.length cap,.slice A2 l2.length cap2] w (SameQ w (l=l2)):=by
 have hlen:=h.len
 have hlen2:=h2.len
 by_cases hl:l.length=l2.length
 ·have e1:((l.length:Int) != (l2.length:Int))=false:=by simp [hl]
  go_enter Tryz.func40,Tryz.ntmps40
  go_wp2_with fail
  go_loopw [13] (fun i wr=>∃ k:Nat,k≤l.length∧i=.int .i64 k∧Aft w wr∧∀ j,j < k→∀ (hj:j < l.length) (hj2:j < l2.length),l[j]=l2[j]) (fun i _=>l.length - (intOf i).toNat)
  case atStart=>exact ⟨0,Nat.zero_le _,rfl,Aft.refl _,fun j hj=>absurd hj (Nat.not_lt_zero j)⟩
  case round =>
   obtain ⟨k,hk,rfl,ha,hp⟩:=hrel
   have HA:=gH ha
   have HP:=gH hp;clear hp
   by_cases hlt:k < l.length
   ·have hlt2:k < l2.length:=by omega
    obtain ⟨b,off,rfl,hb,c0,c1,c2,_⟩:=col_at (cols_aft ha h) hlt
    obtain ⟨b2,off2,rfl,hb2,d0,d1,d2,_⟩:=col_at (cols_aft ha h2) hlt2
    clear ha
    cases h3:eqC3 l[k].name l[k].kind l[k].null l2[k].name l2[k].kind l2[k].null
    ·have HN:=gH (list_ne hlt hlt2 (fun e=>by rw [(eqC_iff l[k] l2[k]).2 e] at h3;cases h3))
     go_wp2_with fail
     refine wp_region_lat (by kernel_rfl) (by kernel_rfl) ?_
     repeat (go_big_quiet_step (fail))
     refine wpQuiet_nil ?_
     intro _ hw'
     obtain ⟨x,hw''⟩:=hw'
     subst hw''
     go_wp2_with fail
     go_ret
     exact .no HN.out (HA.out.lat x)
    ·have HN:=gH (ext_lt (p:=fun j=>∀ (hj:j < l.length) (hj2:j < l2.length),l[j]=l2[j]) HP.out (fun _ _=>(eqC_iff l[k] l2[k]).1 h3))
     go_wp2_with fail
     refine wp_region_lat (by kernel_rfl) (by kernel_rfl) ?_
     repeat (go_big_quiet_step (fail))
     refine wpQuiet_nil ?_
     intro _ hw'
     obtain ⟨x,hw''⟩:=hw'
     subst hw''
     go_wp2_with fail
     go_roundw
     case rel=>exact ⟨k+1,by omega,by go_num,HA.out.lat x,HN.out⟩
     case measure=>simp [intOf];omega
   ·have HN:=gH (list_eq hl fun j hj _ hj2=>HP.out j (by omega) hj hj2)
    clear ha
    go_wp2_with fail
    go_ret
    exact .yes HN.out HA.out
 ·have e1:((l.length:Int) != (l2.length:Int))=true:=by simp;omega
  have HN:=gH (show ¬ l=l2 from fun e=>hl (by rw [e]))
  go_enter Tryz.func40,Tryz.ntmps40
  go_wp2_with fail
  go_ret
  exact .no HN.out (Aft.refl _)
theorem eqStrs (A:Option Addr) (cap:Nat) (l:List ByteArray) (A2:Option Addr) (cap2:Nat) (l2:List ByteArray) (w:World) (h:SlAt w 1 StrR A cap l) (h2:SlAt w 1 StrR A2 cap2 l2) :
  Calls Tryz.prog 38 #[.slice A l.length cap,.slice A2 l2.length cap2] w (SameQ w (l=l2)):=by
 have hlen:=h.len
 have hlen2:=h2.len
 by_cases hl:l.length=l2.length
 ·have e1:((l.length:Int) != (l2.length:Int))=false:=by simp [hl]
  go_enter Tryz.func38,Tryz.ntmps38
  go_wp2_with fail
  go_loopw [13] (fun i wr=>∃ k:Nat,k≤l.length∧i=.int .i64 k∧Aft w wr∧∀ j,j < k→∀ (hj:j < l.length) (hj2:j < l2.length),l[j]=l2[j]) (fun i _=>l.length - (intOf i).toNat)
  case atStart=>exact ⟨0,Nat.zero_le _,rfl,Aft.refl _,fun j hj=>absurd hj (Nat.not_lt_zero j)⟩
  case round =>
   obtain ⟨k,hk,rfl,ha,hp⟩:=hrel
   have HA:=gH ha
   have HP:=gH hp;clear hp
   by_cases hlt:k < l.length
   ·have hlt2:k < l2.length:=by omega
    obtain ⟨b,off,rfl,hb,c0,_⟩:=str_at (strs_aft ha h) hlt
    obtain ⟨b2,off2,rfl,hb2,d0,_⟩:=str_at (strs_aft ha h2) hlt2
    clear ha
    cases h3:(l[k].toList==l2[k].toList)
    ·have HN:=gH (list_ne hlt hlt2 (fun e=>by rw [(eqL_iff l[k] l2[k]).2 e] at h3;cases h3))
     go_wp2_with fail
     refine wp_region_lat (by kernel_rfl) (by kernel_rfl) ?_
     repeat (go_big_quiet_step (fail))
     refine wpQuiet_nil ?_
     intro _ hw'
     obtain ⟨x,hw''⟩:=hw'
     subst hw''
     go_wp2_with fail
     go_ret
     exact .no HN.out (HA.out.lat x)
    ·have HN:=gH (ext_lt (p:=fun j=>∀ (hj:j < l.length) (hj2:j < l2.length),l[j]=l2[j]) HP.out (fun _ _=>(eqL_iff l[k] l2[k]).1 h3))
     go_wp2_with fail
     refine wp_region_lat (by kernel_rfl) (by kernel_rfl) ?_
     repeat (go_big_quiet_step (fail))
     refine wpQuiet_nil ?_
     intro _ hw'
     obtain ⟨x,hw''⟩:=hw'
     subst hw''
     go_wp2_with fail
     go_roundw
     case rel=>exact ⟨k+1,by omega,by go_num,HA.out.lat x,HN.out⟩
     case measure=>simp [intOf];omega
   ·have HN:=gH (list_eq hl fun j hj _ hj2=>HP.out j (by omega) hj hj2)
    clear ha
    go_wp2_with fail
    go_ret
    exact .yes HN.out HA.out
 ·have e1:((l.length:Int) != (l2.length:Int))=true:=by simp;omega
  have HN:=gH (show ¬ l=l2 from fun e=>hl (by rw [e]))
  go_enter Tryz.func38,Tryz.ntmps38
  go_wp2_with fail
  go_ret
  exact .no HN.out (Aft.refl _)
theorem samet24 (c1 c2:List Col) (l1 l2:List Rul) (A:Option Addr) (cap:Nat) (A2:Option Addr) (cap2:Nat) (B:Option Addr) (capB:Nat) (B2:Option Addr) (capB2:Nat) (w:World) (h1:SlAt w 3 ColR A cap c1) (h2:SlAt w 8 RulR A2 cap2 l1) (h3:SlAt w 3 ColR B capB c2) (h4:SlAt w 8 RulR B2 capB2 l2) (hll:l1.length=l2.length) :
  Calls Tryz.prog 22 #[.agg #[.string ⟨#[]⟩,.string ⟨#[]⟩,.string ⟨#[]⟩,.slice A c1.length cap,.slice A2 l1.length cap2],.agg #[.string ⟨#[]⟩,.string ⟨#[]⟩,.string ⟨#[]⟩,.slice B c2.length capB,.slice B2 l2.length capB2]] w (SameQ w (c1=c2∧l1=l2)):=by
 have hlen:=h1.len
 have hlen2:=h2.len
 have hlen3:=h3.len
 have hlen4:=h4.len
 have hst:((⟨#[]⟩:ByteArray).toList==(⟨#[]⟩:ByteArray).toList)=true:=by simp
 have e2:((l1.length:Int) != (l2.length:Int))=false:=by simp [hll]
 obtain ⟨W,hW⟩:∃ W,W=(w.alloc (.cells #[.string ⟨#[]⟩,.string ⟨#[]⟩,.string ⟨#[]⟩,.slice A c1.length cap,.slice A2 l1.length cap2] 71)).alloc (.cells #[.string ⟨#[]⟩,.string ⟨#[]⟩,.string ⟨#[]⟩,.slice B c2.length capB,.slice B2 l2.length capB2] 71):=⟨_,rfl⟩
 have aW:Aft w W:=by rw [hW];exact ((Aft.refl w).alloc _).alloc _
 have hbb:=aft_box2 (w:=w) (w1:=W) (by rw [← hW];exact Aft.refl W)
 obtain ⟨ha0,hb0,hz,_⟩:=hbb
 have HAW:=gH aW
 have HLL:=gH hll
 by_cases hl:c1.length=c2.length
 ·have e1:((c1.length:Int) != (c2.length:Int))=false:=by simp [hl]
  have HL:=gH hl
  clear hl hll
  go_enter Tryz.func22,Tryz.ntmps22
  go_upto_region 1 with fail
  rw [← hW]
  clear hW
  have x0:W.cell? ⟨w.heap.size,0,none⟩=some (.string ⟨#[]⟩):=ha0 0
  have x1:W.cell? ⟨w.heap.size,1,none⟩=some (.string ⟨#[]⟩):=ha0 1
  have x2:W.cell? ⟨w.heap.size,2,none⟩=some (.string ⟨#[]⟩):=ha0 2
  have x3:W.cell? ⟨w.heap.size,3,none⟩=some (.slice A c1.length cap):=ha0 3
  have x4:W.cell? ⟨w.heap.size,4,none⟩=some (.slice A2 l1.length cap2):=ha0 4
  have y0:W.cell? ⟨w.heap.size+1,0,none⟩=some (.string ⟨#[]⟩):=hb0 0
  have y1:W.cell? ⟨w.heap.size+1,1,none⟩=some (.string ⟨#[]⟩):=hb0 1
  have y2:W.cell? ⟨w.heap.size+1,2,none⟩=some (.string ⟨#[]⟩):=hb0 2
  have y3:W.cell? ⟨w.heap.size+1,3,none⟩=some (.slice B c2.length capB):=hb0 3
  have y4:W.cell? ⟨w.heap.size+1,4,none⟩=some (.slice B2 l2.length capB2):=hb0 4
  clear ha0 hb0
  go_wp2_with fail
  go_loopw [5] (fun i wr=>∃ k:Nat,k≤c1.length∧i=.int .i64 k∧Aft W wr∧∀ j,j < k→∀ (hj:j < c1.length) (hj2:j < c2.length),c1[j]=c2[j]) (fun i _=>c1.length - (intOf i).toNat)
  case atStart=>exact ⟨0,Nat.zero_le _,rfl,Aft.refl _,fun j hj=>absurd hj (Nat.not_lt_zero j)⟩
  case round =>
   obtain ⟨k,hk,rfl,ha,hp⟩:=hrel
   have HP:=gH hp;clear hp
   have x3':=ha.cell_kept x3
   have y3':=ha.cell_kept y3
   have HAR:=gH ha
   by_cases hlt:k < c1.length
   ·have hlt2:k < c2.length:=by have:=HL.out;omega
    obtain ⟨b,off,hAe,hb,g0,g1,g2,_⟩:=col_at (cols_aft (HAW.out.trans ha) h1) hlt
    obtain ⟨b2,off2,hBe,hb2,d0,d1,d2,_⟩:=col_at (cols_aft (HAW.out.trans ha) h3) hlt2
    subst hAe
    subst hBe
    have lx:=World.block_lt_of_cell? _ _ x3'
    have ly:=World.block_lt_of_cell? _ _ y3'
    clear ha
    cases h9:eqC3 c1[k].name c1[k].kind c1[k].null c2[k].name c2[k].kind c2[k].null
    ·have HN:=gH (show ¬ (c1=c2∧l1=l2) from fun e=>list_ne hlt hlt2 (fun e=>by rw [(eqC_iff c1[k] c2[k]).2 e] at h9;cases h9) e.1)
     go_wp2_with fail
     refine wp_region_lat (by kernel_rfl) (by kernel_rfl) ?_
     repeat (go_big_quiet_step (fail))
     refine wpQuiet_nil ?_
     intro _ hw'
     obtain ⟨x,hw''⟩:=hw'
     subst hw''
     go_wp2_with fail
     go_ret
     exact .no HN.out (HAW.out.trans (HAR.out.lat x))
    ·have HN:=gH (ext_lt (p:=fun j=>∀ (hj:j < c1.length) (hj2:j < c2.length),c1[j]=c2[j]) HP.out (fun _ _=>(eqC_iff c1[k] c2[k]).1 h9))
     go_wp2_with fail
     refine wp_region_lat (by kernel_rfl) (by kernel_rfl) ?_
     repeat (go_big_quiet_step (fail))
     refine wpQuiet_nil ?_
     intro _ hw'
     obtain ⟨x,hw''⟩:=hw'
     subst hw''
     go_wp2_with fail
     go_roundw
     case rel=>exact ⟨k+1,by omega,by go_num,HAR.out.lat x,HN.out⟩
     case measure=>simp [intOf];omega
   have HC:=gH (show c1=c2 from list_eq HL.out fun j hj _ hj2=>HP.out j (by omega) hj hj2)
   go_wp2_with fail
   go_loopw [6] (fun i wrr=>∃ k:Nat,k≤l1.length∧i=.int .i64 k∧Aft W wrr∧∀ j,j < k→∀ (hj:j < l1.length) (hj2:j < l2.length),l1[j]=l2[j]) (fun i _=>l1.length - (intOf i).toNat)
   case atStart=>exact ⟨0,Nat.zero_le _,rfl,ha,fun j hj=>absurd hj (Nat.not_lt_zero j)⟩
   case round =>
    clear ha HAR x3' y3'
    obtain ⟨k2,hk2,rfl,ha,hp2⟩:=hrel
    have HP2:=gH hp2;clear hp2
    have x4':=ha.cell_kept x4
    have y4':=ha.cell_kept y4
    have HAR:=gH ha
    by_cases hlt2:k2 < l1.length
    ·have hlt5:k2 < l2.length:=by have:=HLL.out;omega
     obtain ⟨b,off,D,capD,hA2,hb,g0,g1,g2,g3,g4,g5,g6,g7,hcs,_⟩:=rul_at (ruls_aft (HAW.out.trans ha) h2) hlt2
     obtain ⟨b2,off2,E,capE,hB2,hb2,d0,d1,d2,d3,d4,d5,d6,d7,hds,_⟩:=rul_at (ruls_aft (HAW.out.trans ha) h4) hlt5
     subst hA2
     subst hB2
     obtain ⟨p,hpp⟩:∃ p,l1[k2]=p:=⟨_,rfl⟩
     obtain ⟨q,hqq⟩:∃ q,l2[k2]=q:=⟨_,rfl⟩
     have hpe:l1=l2→p=q:=fun e=>by subst e;rw [← hpp,← hqq]
     rw [hpp] at g0 g1 g2 g3 g4 g5 g6 g7 hcs
     rw [hqq] at d0 d1 d2 d3 d4 d5 d6 d7 hds
     have hlp:=hcs.len
     have hlq:=hds.len
     have lx:w.heap.size < wr.heap.size:=World.block_lt_of_cell? _ _ x4'
     have ly:w.heap.size+1 < wr.heap.size:=World.block_lt_of_cell? _ _ y4'
     have lyy:w.heap.size+1 < wr.heap.size+1:=by omega
     have lb2:b2 < wr.heap.size+1:=by omega
     obtain ⟨V,hV⟩:∃ V,V=(wr.alloc (.cells #[.string p.name,.int .i64 p.kind,.slice D p.cols.length capD,.int .i64 p.low,.int .i64 p.high,.string p.schema,.string p.table,.string p.key] 28)).alloc (.cells #[.string q.name,.int .i64 q.kind,.slice E q.cols.length capE,.int .i64 q.low,.int .i64 q.high,.string q.schema,.string q.table,.string q.key] 28):=⟨_,rfl⟩
     have aV:Aft wr V:=by rw [hV];exact ((Aft.refl wr).alloc _).alloc _
     obtain ⟨va0,vb0,vz,_⟩:=aft_box2 (w:=wr) (w1:=V) (by rw [← hV];exact Aft.refl V)
     have HRV:=gH (HAR.out.trans aV)
     have HAV:=gH (HAW.out.trans (HAR.out.trans aV))
     have hcsV:=strs_aft aV hcs
     have hdsV:=strs_aft aV hds
     obtain ⟨n1,hn1⟩:∃ n,n=wr.heap.size:=⟨_,rfl⟩
     have l1':wr.heap.size < wr.heap.size+1:=by omega
     have l2':wr.heap.size < wr.heap.size+1+1:=by omega
     clear aV
     go_upto_region 13 with fail
     rw [← hV]
     clear hV g0 g1 g2 g3 g4 g5 g6 g7 d0 d1 d2 d3 d4 d5 d6 d7 x4' y4' hcs hds
     have z0:V.cell? ⟨wr.heap.size,0,none⟩=some (.string p.name):=va0 0
     have z1:V.cell? ⟨wr.heap.size,1,none⟩=some (.int .i64 p.kind):=va0 1
     have z2:V.cell? ⟨wr.heap.size,2,none⟩=some (.slice D p.cols.length capD):=va0 2
     have z3:V.cell? ⟨wr.heap.size,3,none⟩=some (.int .i64 p.low):=va0 3
     have z4:V.cell? ⟨wr.heap.size,4,none⟩=some (.int .i64 p.high):=va0 4
     have z5:V.cell? ⟨wr.heap.size,5,none⟩=some (.string p.schema):=va0 5
     have z6:V.cell? ⟨wr.heap.size,6,none⟩=some (.string p.table):=va0 6
     have z7:V.cell? ⟨wr.heap.size,7,none⟩=some (.string p.key):=va0 7
     have u0:V.cell? ⟨wr.heap.size+1,0,none⟩=some (.string q.name):=vb0 0
     have u1:V.cell? ⟨wr.heap.size+1,1,none⟩=some (.int .i64 q.kind):=vb0 1
     have u2:V.cell? ⟨wr.heap.size+1,2,none⟩=some (.slice E q.cols.length capE):=vb0 2
     have u3:V.cell? ⟨wr.heap.size+1,3,none⟩=some (.int .i64 q.low):=vb0 3
     have u4:V.cell? ⟨wr.heap.size+1,4,none⟩=some (.int .i64 q.high):=vb0 4
     have u5:V.cell? ⟨wr.heap.size+1,5,none⟩=some (.string q.schema):=vb0 5
     have u6:V.cell? ⟨wr.heap.size+1,6,none⟩=some (.string q.table):=vb0 6
     have u7:V.cell? ⟨wr.heap.size+1,7,none⟩=some (.string q.key):=vb0 7
     rw [← hn1] at z0 z1 z2 z3 z4 z5 z6 z7 u0 u1 u2 u3 u4 u5 u6 u7 ⊢
     clear va0 vb0 vz hn1 ha
     cases b0:(p.name.toList==q.name.toList)
     ·have HN:=gH (show ¬ (c1=c2∧l1=l2) from fun e=>eqL_no b0 (by rw [hpe e.2]))
      go_wp2_with fail
      go_ret
      exact .no HN.out (HAV.out)
     ·cases b1:(p.kind==q.kind)
      ·have HN:=gH (show ¬ (c1=c2∧l1=l2) from fun e=>eqI_no b1 (by rw [hpe e.2]))
       have b1x:(p.kind != q.kind)=true:=by simp [bne,b1]
       go_wp2_with fail
       go_ret
       exact .no HN.out (HAV.out)
      ·have b1x:(p.kind != q.kind)=false:=by simp [bne,b1]
       cases b2:(p.low==q.low)
       ·have HN:=gH (show ¬ (c1=c2∧l1=l2) from fun e=>eqI_no b2 (by rw [hpe e.2]))
        have b2x:(p.low != q.low)=true:=by simp [bne,b2]
        go_wp2_with fail
        go_ret
        exact .no HN.out (HAV.out)
       ·have b2x:(p.low != q.low)=false:=by simp [bne,b2]
        cases b3:(p.high==q.high)
        ·have HN:=gH (show ¬ (c1=c2∧l1=l2) from fun e=>eqI_no b3 (by rw [hpe e.2]))
         have b3x:(p.high != q.high)=true:=by simp [bne,b3]
         go_wp2_with fail
         go_ret
         exact .no HN.out (HAV.out)
        ·have b3x:(p.high != q.high)=false:=by simp [bne,b3]
         cases b4:(p.schema.toList==q.schema.toList)
         ·have HN:=gH (show ¬ (c1=c2∧l1=l2) from fun e=>eqL_no b4 (by rw [hpe e.2]))
          go_wp2_with fail
          go_ret
          exact .no HN.out (HAV.out)
         ·cases b5:(p.table.toList==q.table.toList)
          ·have HN:=gH (show ¬ (c1=c2∧l1=l2) from fun e=>eqL_no b5 (by rw [hpe e.2]))
           go_wp2_with fail
           go_ret
           exact .no HN.out (HAV.out)
          ·cases b6:(p.key.toList==q.key.toList)
           ·have HN:=gH (show ¬ (c1=c2∧l1=l2) from fun e=>eqL_no b6 (by rw [hpe e.2]))
            go_wp2_with fail
            go_ret
            exact .no HN.out (HAV.out)
           ·by_cases hcl:p.cols.length=q.cols.length
            ·have e5:((p.cols.length:Int) != (q.cols.length:Int))=false:=by simp [hcl]
             have HPQ:=gH (show p.cols=q.cols→p=q from fun e=>by
              obtain ⟨pn,pk,pc,pl,ph,ps,pt,py⟩:=p
              obtain ⟨qn,qk,qc,ql,qh,qs,qt,qy⟩:=q
              simp only at b0 b1 b2 b3 b4 b5 b6 e
              simp only [Rul.mk.injEq]
              exact ⟨(eqL_iff _ _).1 b0,eqI_yes b1,e,eqI_yes b2,eqI_yes b3,(eqL_iff _ _).1 b4,(eqL_iff _ _).1 b5,(eqL_iff _ _).1 b6⟩)
             have HCL:=gH hcl
             clear hcl
             go_wp2_with fail
             go_loopw [9] (fun i wrr=>∃ k:Nat,k≤p.cols.length∧i=.int .i64 k∧Aft V wrr∧∀ j,j < k→∀ (hj:j < p.cols.length) (hj2:j < q.cols.length),p.cols[j]=q.cols[j]) (fun i _=>p.cols.length - (intOf i).toNat)
             case atStart=>exact ⟨0,Nat.zero_le _,rfl,Aft.refl _,fun j hj=>absurd hj (Nat.not_lt_zero j)⟩
             case round =>
              obtain ⟨k3,hk3,rfl,ha,hp3⟩:=hrel
              have HA3:=gH ha
              have HP3:=gH hp3;clear hp3
              have z2':=ha.cell_kept z2
              have u2':=ha.cell_kept u2
              by_cases hlt3:k3 < p.cols.length
              ·have hlt4:k3 < q.cols.length:=by have:=HCL.out;omega
               obtain ⟨b5',off5,hD,hb5,g5,_⟩:=str_at (strs_aft ha hcsV) hlt3
               subst hD
               obtain ⟨b6',off6,hE,hb6,g6,_⟩:=str_at (strs_aft ha hdsV) hlt4
               subst hE
               have lz:=World.block_lt_of_cell? _ _ z2'
               have lu:=World.block_lt_of_cell? _ _ u2'
               clear ha
               cases h9:(p.cols[k3].toList==q.cols[k3].toList)
               ·have HN:=gH (show ¬ (c1=c2∧l1=l2) from fun e=>list_ne hlt3 hlt4 (eqL_no h9) (by rw [hpe e.2]))
                go_wp2_with fail
                refine wp_region_lat (by kernel_rfl) (by kernel_rfl) ?_
                repeat (go_big_quiet_step (fail))
                refine wpQuiet_nil ?_
                intro _ hw'
                obtain ⟨x,hw''⟩:=hw'
                subst hw''
                go_wp2_with fail
                go_ret
                exact .no HN.out (HAV.out.trans (HA3.out.lat x))
               ·have HN:=gH (ext_lt (p:=fun j=>∀ (hj:j < p.cols.length) (hj2:j < q.cols.length),p.cols[j]=q.cols[j]) HP3.out (fun _ _=>(eqL_iff _ _).1 h9))
                go_wp2_with fail
                refine wp_region_lat (by kernel_rfl) (by kernel_rfl) ?_
                repeat (go_big_quiet_step (fail))
                refine wpQuiet_nil ?_
                intro _ hw'
                obtain ⟨x,hw''⟩:=hw'
                subst hw''
                go_wp2_with fail
                go_roundw
                case rel=>exact ⟨k3+1,by omega,by go_num,HA3.out.lat x,HN.out⟩
                case measure=>simp [intOf];omega
              ·have HN:=gH (HPQ.out (list_eq HCL.out fun j hj _ hj2=>HP3.out j (by omega) hj hj2))
               have HE:=gH (ext_lt (p:=fun j=>∀ (hj:j < l1.length) (hj2:j < l2.length),l1[j]=l2[j]) HP2.out (fun _ _=>by rw [hpp,hqq];exact HN.out))
               clear ha
               go_wp2_with fail
               go_roundw
               case rel=>exact ⟨k2+1,by omega,by go_num,HRV.out.trans HA3.out,HE.out⟩
               case measure=>simp [intOf];omega
            ·have e5:((p.cols.length:Int) != (q.cols.length:Int))=true:=by simp;omega
             have HN:=gH (show ¬ (c1=c2∧l1=l2) from fun e=>hcl (by rw [hpe e.2]))
             go_wp2_with fail
             go_ret
             exact .no HN.out HAV.out
    ·have HN:=gH (show c1=c2∧l1=l2 from ⟨HC.out,list_eq HLL.out fun j hj _ hj2=>HP2.out j (by omega) hj hj2⟩)
     clear ha
     go_wp2_with fail
     go_ret
     exact .yes HN.out (HAW.out.trans HAR.out)
 ·have e1:((c1.length:Int) != (c2.length:Int))=true:=by simp;omega
  have HN:=gH (show ¬ (c1=c2∧l1=l2) from fun e=>hl (by rw [e.1]))
  clear hl hll
  go_enter Tryz.func22,Tryz.ntmps22
  go_upto_region 1 with fail
  rw [← hW]
  clear hW
  have x0:W.cell? ⟨w.heap.size,0,none⟩=some (.string ⟨#[]⟩):=ha0 0
  have x1:W.cell? ⟨w.heap.size,1,none⟩=some (.string ⟨#[]⟩):=ha0 1
  have x2:W.cell? ⟨w.heap.size,2,none⟩=some (.string ⟨#[]⟩):=ha0 2
  have x3:W.cell? ⟨w.heap.size,3,none⟩=some (.slice A c1.length cap):=ha0 3
  have y0:W.cell? ⟨w.heap.size+1,0,none⟩=some (.string ⟨#[]⟩):=hb0 0
  have y1:W.cell? ⟨w.heap.size+1,1,none⟩=some (.string ⟨#[]⟩):=hb0 1
  have y2:W.cell? ⟨w.heap.size+1,2,none⟩=some (.string ⟨#[]⟩):=hb0 2
  have y3:W.cell? ⟨w.heap.size+1,3,none⟩=some (.slice B c2.length capB):=hb0 3
  clear ha0 hb0
  go_wp2_with fail
  go_ret
  exact .no HN.out HAW.out
end Go.Proofs.YtbdanlipghhgpaaGreatDoor
namespace Go.Proofs.YtbdanlipghhgpaaGreatDoor
open Go.RowKit Go.Deep
set_option maxRecDepth 100000
set_option linter.unusedVariables false
set_option maxHeartbeats 64000000
structure ActX (w:World) (a:Dact) (A:Option Addr) (k:Nat) (A2:Option Addr) (k2:Nat) (A3:Option Addr) (k3:Nat):Prop where
 cols:SlAt w 3 ColR A k a.cmd.cols
 nms:SlAt w 1 StrR A2 k2 a.cmd.rule.cols
 vals:SlAt w 3 ValR A3 k3 a.row.row
 z1:Small a.cmd.rule.name.size
 z2:Small a.cmd.rule.schema.size
 z3:Small a.cmd.rule.table.size
 z4:Small a.cmd.rule.key.size
theorem ActX.aft {w w':World} {a:Dact} {A:Option Addr} {k:Nat} {A2:Option Addr} {k2:Nat} {A3:Option Addr} {k3:Nat} (h:ActX w a A k A2 k2 A3 k3) (hw:Aft w w'):ActX w' a A k A2 k2 A3 k3 :=
 ⟨cols_aft hw h.cols,strs_aft hw h.nms,vals_aft hw h.vals,h.z1,h.z2,h.z3,h.z4⟩
def eqG2 (k n k' n':Int):Bool:=k==k'&&n==n'
theorem run_eqChg (w:World) (k n k' n':Int) :
  (Op.equalIn 10000 34 (.agg #[.int .i64 k,.int .i64 n]) (.agg #[.int .i64 k',.int .i64 n'])).run Tryz.prog w=.ok (eqG2 k n k' n') w:=by
 cases h1:(k==k')<;>cases h2:(n==n')<;>go_simp<;>simp_all [eqG2]
@[go_sem ↓] theorem run_neqChg (w:World) (k n k' n':Int) :
  (binOp .neq 34 (.agg #[.int .i64 k,.int .i64 n]) (.agg #[.int .i64 k',.int .i64 n'])).run Tryz.prog w=.ok (.bool (!eqG2 k n k' n')) w:=by
 rw [run_neq_struct,run_eqChg];rfl
@[go_sem ↓] theorem run_eqlChg (w:World) (k n k' n':Int) :
  (binOp .eql 34 (.agg #[.int .i64 k,.int .i64 n]) (.agg #[.int .i64 k',.int .i64 n'])).run Tryz.prog w=.ok (.bool (eqG2 k n k' n')) w:=by
 rw [run_eql_struct,run_eqChg];rfl
theorem eqG_iff (k n k' n':Int):eqG2 k n k' n'=true↔k=k'∧n=n':=by simp [eqG2]
theorem slAt_rul {w:World} {g:Nat} {r:Rul} {A2:Option Addr} {k2:Nat} (h:RowAt w g [.string r.name,.int .i64 r.kind,.slice A2 r.cols.length k2,.int .i64 r.low,.int .i64 r.high,.string r.schema,.string r.table,.string r.key]) (hs:SlAt w 1 StrR A2 k2 r.cols) (z1:Small r.name.size) (z2:Small r.schema.size) (z3:Small r.table.size) (z4:Small r.key.size):SlAt w 8 RulR (some ⟨g,0,none⟩) 1 [r]:=by
 refine ⟨by simp,by unfold Small;simp,fun i hi=>?_⟩
 have:i=0:=by simpa using hi
 subst this
 refine ⟨g,0,_,rfl,h.1,rfl,⟨A2,k2,rfl,hs,z1,z2,z3,z4⟩,fun j hj=>?_⟩
 have:=h.2.1 j (by simpa using hj)
 simpa using this
theorem cmd_same {x y:Cmd} (h0:x.kind=y.kind) (h1:x.actor=y.actor) (h2:x.schema=y.schema) (h3:x.table=y.table) (h4:x.name=y.name) (h5:x.role=y.role) (h6:x.cols=y.cols) (h7:x.rule=y.rule) (h8:x.right=y.right) (h9:x.opt=y.opt):x=y:=by
 cases x;cases y;simp_all
theorem rop_same {x y:ROp} (h0:x.kind=y.kind) (h1:x.role=y.role) (h2:x.schema=y.schema) (h3:x.table=y.table) (h4:x.row=y.row) (h5:x.col=y.col) (h6:x.v=y.v):x=y:=by
 cases x;cases y;simp_all
theorem act_same {a b:Dact} (h0:a.kind=b.kind) (h1:a.node=b.node) (h2:a.n=b.n) (h3:a.client=b.client) (h4:a.number=b.number) (h5:a.cmd=b.cmd) (h6:a.ck=b.ck∧a.cn=b.cn) (h7:a.row=b.row):a=b:=by
 cases a;cases b;simp_all
theorem samet_no {r:Bool} {p:Prop} {α:Type} {x y:α} (hr:r=true↔(p∧[x]=[y])) (h:¬ (p∧x=y)):Ending.returned (.bool r)=.returned (.bool false):=by
 cases r
 ·rfl
 ·exact absurd ((hr.1 rfl).imp id (fun e=>by simpa using e)) h
theorem box2_rowsD {w W:World} {c d:List Value} {t u:TypeId} (h:Aft ((w.alloc (.cells c.toArray t)).alloc (.cells d.toArray u)) W):RowAt W w.heap.size c∧RowAt W (w.heap.size+1) d:=by
 obtain ⟨h1,h2,hz,_⟩:=aft_box2 h
 refine ⟨⟨hz.1,fun j hj=>by rw [h1];simp,fun j hj=>?_⟩,⟨hz.2,fun j hj=>by rw [h2];simp,fun j hj=>?_⟩⟩
 ·exact (Below.frozen h (p:=⟨w.heap.size,j,none⟩) (by simp;omega)).trans ((World.frozen?_alloc_past _ _ _ (by simp)).trans (World.frozen?_alloc_at _ _ _ _ rfl))
 ·exact (Below.frozen h (p:=⟨w.heap.size+1,j,none⟩) (by simp)).trans (World.frozen?_alloc_at _ _ _ _ (by simp))
theorem same24 (a b:Dact) (A:Option Addr) (k:Nat) (A2:Option Addr) (k2:Nat) (A3:Option Addr) (k3:Nat) (B:Option Addr) (m:Nat) (B2:Option Addr) (m2:Nat) (B3:Option Addr) (m3:Nat) (w:World) (ha:ActX w a A k A2 k2 A3 k3) (hb:ActX w b B m B2 m2 B3 m3) :
  Calls Tryz.prog 9 #[.agg (actV a A k A2 k2 A3 k3).toArray,.agg (actV b B m B2 m2 B3 m3).toArray] w (SameQ w (a=b)):=by
 rw [show (actV a A k A2 k2 A3 k3).toArray=#[.int .i64 a.kind,.int .i64 a.node,.int .i64 a.n,.int .i64 a.client,.int .i64 a.number,.int .i64 a.cmd.kind,.string a.cmd.actor,.string a.cmd.schema,.string a.cmd.table,.string a.cmd.name,.string a.cmd.role,.slice A a.cmd.cols.length k,.string a.cmd.rule.name,.int .i64 a.cmd.rule.kind,.slice A2 a.cmd.rule.cols.length k2,.int .i64 a.cmd.rule.low,.int .i64 a.cmd.rule.high,.string a.cmd.rule.schema,.string a.cmd.rule.table,.string a.cmd.rule.key,.int .i64 a.cmd.right,.bool a.cmd.opt,.int .i64 a.ck,.int .i64 a.cn,.int .i64 a.row.kind,.string a.row.role,.string a.row.schema,.string a.row.table,.slice A3 a.row.row.length k3,.string a.row.col,.int .i64 a.row.v.kind,.int .i64 a.row.v.int,.string a.row.v.text] from rfl,show (actV b B m B2 m2 B3 m3).toArray=#[.int .i64 b.kind,.int .i64 b.node,.int .i64 b.n,.int .i64 b.client,.int .i64 b.number,.int .i64 b.cmd.kind,.string b.cmd.actor,.string b.cmd.schema,.string b.cmd.table,.string b.cmd.name,.string b.cmd.role,.slice B b.cmd.cols.length m,.string b.cmd.rule.name,.int .i64 b.cmd.rule.kind,.slice B2 b.cmd.rule.cols.length m2,.int .i64 b.cmd.rule.low,.int .i64 b.cmd.rule.high,.string b.cmd.rule.schema,.string b.cmd.rule.table,.string b.cmd.rule.key,.int .i64 b.cmd.right,.bool b.cmd.opt,.int .i64 b.ck,.int .i64 b.cn,.int .i64 b.row.kind,.string b.row.role,.string b.row.schema,.string b.row.table,.slice B3 b.row.row.length m3,.string b.row.col,.int .i64 b.row.v.kind,.int .i64 b.row.v.int,.string b.row.v.text] from rfl]
 have hlen:=ha.vals.len
 have hlen2:=hb.vals.len
 have HXA:=gH ha
 have HXB:=gH hb
 clear ha hb
 obtain ⟨W,hW⟩:∃ W,W=(w.alloc (.cells #[.int .i64 a.kind,.int .i64 a.node,.int .i64 a.n,.int .i64 a.client,.int .i64 a.number,.int .i64 a.cmd.kind,.string a.cmd.actor,.string a.cmd.schema,.string a.cmd.table,.string a.cmd.name,.string a.cmd.role,.slice A a.cmd.cols.length k,.string a.cmd.rule.name,.int .i64 a.cmd.rule.kind,.slice A2 a.cmd.rule.cols.length k2,.int .i64 a.cmd.rule.low,.int .i64 a.cmd.rule.high,.string a.cmd.rule.schema,.string a.cmd.rule.table,.string a.cmd.rule.key,.int .i64 a.cmd.right,.bool a.cmd.opt,.int .i64 a.ck,.int .i64 a.cn,.int .i64 a.row.kind,.string a.row.role,.string a.row.schema,.string a.row.table,.slice A3 a.row.row.length k3,.string a.row.col,.int .i64 a.row.v.kind,.int .i64 a.row.v.int,.string a.row.v.text] 43)).alloc (.cells #[.int .i64 b.kind,.int .i64 b.node,.int .i64 b.n,.int .i64 b.client,.int .i64 b.number,.int .i64 b.cmd.kind,.string b.cmd.actor,.string b.cmd.schema,.string b.cmd.table,.string b.cmd.name,.string b.cmd.role,.slice B b.cmd.cols.length m,.string b.cmd.rule.name,.int .i64 b.cmd.rule.kind,.slice B2 b.cmd.rule.cols.length m2,.int .i64 b.cmd.rule.low,.int .i64 b.cmd.rule.high,.string b.cmd.rule.schema,.string b.cmd.rule.table,.string b.cmd.rule.key,.int .i64 b.cmd.right,.bool b.cmd.opt,.int .i64 b.ck,.int .i64 b.cn,.int .i64 b.row.kind,.string b.row.role,.string b.row.schema,.string b.row.table,.slice B3 b.row.row.length m3,.string b.row.col,.int .i64 b.row.v.kind,.int .i64 b.row.v.int,.string b.row.v.text] 43):=⟨_,rfl⟩
 have aW:Aft w W:=by rw [hW];exact ((Aft.refl w).alloc _).alloc _
 obtain ⟨ra,rb⟩:=box2_rowsD (w:=w) (W:=W) (by rw [← hW];exact Aft.refl W)
 have HAW:=gH aW
 have HZ:=gH (show w.heap.size+1 < W.heap.size from rb.1)
 go_enter Tryz.func9,Tryz.ntmps9
 go_upto_region 1 with fail
 rw [← hW]
 clear hW
 have p0:W.cell? ⟨w.heap.size,0,none⟩=some (.int .i64 a.kind):=ra.cell (j:=0) rfl
 have p1:W.cell? ⟨w.heap.size,1,none⟩=some (.int .i64 a.node):=ra.cell (j:=1) rfl
 have p2:W.cell? ⟨w.heap.size,2,none⟩=some (.int .i64 a.n):=ra.cell (j:=2) rfl
 have p3:W.cell? ⟨w.heap.size,3,none⟩=some (.int .i64 a.client):=ra.cell (j:=3) rfl
 have p4:W.cell? ⟨w.heap.size,4,none⟩=some (.int .i64 a.number):=ra.cell (j:=4) rfl
 have p5:W.cell? ⟨w.heap.size,5,none⟩=some (.int .i64 a.cmd.kind):=ra.cell (j:=5) rfl
 have p6:W.cell? ⟨w.heap.size,6,none⟩=some (.string a.cmd.actor):=ra.cell (j:=6) rfl
 have p7:W.cell? ⟨w.heap.size,7,none⟩=some (.string a.cmd.schema):=ra.cell (j:=7) rfl
 have p8:W.cell? ⟨w.heap.size,8,none⟩=some (.string a.cmd.table):=ra.cell (j:=8) rfl
 have p9:W.cell? ⟨w.heap.size,9,none⟩=some (.string a.cmd.name):=ra.cell (j:=9) rfl
 have p10:W.cell? ⟨w.heap.size,10,none⟩=some (.string a.cmd.role):=ra.cell (j:=10) rfl
 have p11:W.cell? ⟨w.heap.size,11,none⟩=some (.slice A a.cmd.cols.length k):=ra.cell (j:=11) rfl
 have p12:W.cell? ⟨w.heap.size,12,none⟩=some (.string a.cmd.rule.name):=ra.cell (j:=12) rfl
 have p13:W.cell? ⟨w.heap.size,13,none⟩=some (.int .i64 a.cmd.rule.kind):=ra.cell (j:=13) rfl
 have p14:W.cell? ⟨w.heap.size,14,none⟩=some (.slice A2 a.cmd.rule.cols.length k2):=ra.cell (j:=14) rfl
 have p15:W.cell? ⟨w.heap.size,15,none⟩=some (.int .i64 a.cmd.rule.low):=ra.cell (j:=15) rfl
 have p16:W.cell? ⟨w.heap.size,16,none⟩=some (.int .i64 a.cmd.rule.high):=ra.cell (j:=16) rfl
 have p17:W.cell? ⟨w.heap.size,17,none⟩=some (.string a.cmd.rule.schema):=ra.cell (j:=17) rfl
 have p18:W.cell? ⟨w.heap.size,18,none⟩=some (.string a.cmd.rule.table):=ra.cell (j:=18) rfl
 have p19:W.cell? ⟨w.heap.size,19,none⟩=some (.string a.cmd.rule.key):=ra.cell (j:=19) rfl
 have p20:W.cell? ⟨w.heap.size,20,none⟩=some (.int .i64 a.cmd.right):=ra.cell (j:=20) rfl
 have p21:W.cell? ⟨w.heap.size,21,none⟩=some (.bool a.cmd.opt):=ra.cell (j:=21) rfl
 have p22:W.cell? ⟨w.heap.size,22,none⟩=some (.int .i64 a.ck):=ra.cell (j:=22) rfl
 have p23:W.cell? ⟨w.heap.size,23,none⟩=some (.int .i64 a.cn):=ra.cell (j:=23) rfl
 have p24:W.cell? ⟨w.heap.size,24,none⟩=some (.int .i64 a.row.kind):=ra.cell (j:=24) rfl
 have p25:W.cell? ⟨w.heap.size,25,none⟩=some (.string a.row.role):=ra.cell (j:=25) rfl
 have p26:W.cell? ⟨w.heap.size,26,none⟩=some (.string a.row.schema):=ra.cell (j:=26) rfl
 have p27:W.cell? ⟨w.heap.size,27,none⟩=some (.string a.row.table):=ra.cell (j:=27) rfl
 have p28:W.cell? ⟨w.heap.size,28,none⟩=some (.slice A3 a.row.row.length k3):=ra.cell (j:=28) rfl
 have p29:W.cell? ⟨w.heap.size,29,none⟩=some (.string a.row.col):=ra.cell (j:=29) rfl
 have p30:W.cell? ⟨w.heap.size,30,none⟩=some (.int .i64 a.row.v.kind):=ra.cell (j:=30) rfl
 have p31:W.cell? ⟨w.heap.size,31,none⟩=some (.int .i64 a.row.v.int):=ra.cell (j:=31) rfl
 have p32:W.cell? ⟨w.heap.size,32,none⟩=some (.string a.row.v.text):=ra.cell (j:=32) rfl
 have q0:W.cell? ⟨w.heap.size+1,0,none⟩=some (.int .i64 b.kind):=rb.cell (j:=0) rfl
 have q1:W.cell? ⟨w.heap.size+1,1,none⟩=some (.int .i64 b.node):=rb.cell (j:=1) rfl
 have q2:W.cell? ⟨w.heap.size+1,2,none⟩=some (.int .i64 b.n):=rb.cell (j:=2) rfl
 have q3:W.cell? ⟨w.heap.size+1,3,none⟩=some (.int .i64 b.client):=rb.cell (j:=3) rfl
 have q4:W.cell? ⟨w.heap.size+1,4,none⟩=some (.int .i64 b.number):=rb.cell (j:=4) rfl
 have q5:W.cell? ⟨w.heap.size+1,5,none⟩=some (.int .i64 b.cmd.kind):=rb.cell (j:=5) rfl
 have q6:W.cell? ⟨w.heap.size+1,6,none⟩=some (.string b.cmd.actor):=rb.cell (j:=6) rfl
 have q7:W.cell? ⟨w.heap.size+1,7,none⟩=some (.string b.cmd.schema):=rb.cell (j:=7) rfl
 have q8:W.cell? ⟨w.heap.size+1,8,none⟩=some (.string b.cmd.table):=rb.cell (j:=8) rfl
 have q9:W.cell? ⟨w.heap.size+1,9,none⟩=some (.string b.cmd.name):=rb.cell (j:=9) rfl
 have q10:W.cell? ⟨w.heap.size+1,10,none⟩=some (.string b.cmd.role):=rb.cell (j:=10) rfl
 have q11:W.cell? ⟨w.heap.size+1,11,none⟩=some (.slice B b.cmd.cols.length m):=rb.cell (j:=11) rfl
 have q12:W.cell? ⟨w.heap.size+1,12,none⟩=some (.string b.cmd.rule.name):=rb.cell (j:=12) rfl
 have q13:W.cell? ⟨w.heap.size+1,13,none⟩=some (.int .i64 b.cmd.rule.kind):=rb.cell (j:=13) rfl
 have q14:W.cell? ⟨w.heap.size+1,14,none⟩=some (.slice B2 b.cmd.rule.cols.length m2):=rb.cell (j:=14) rfl
 have q15:W.cell? ⟨w.heap.size+1,15,none⟩=some (.int .i64 b.cmd.rule.low):=rb.cell (j:=15) rfl
 have q16:W.cell? ⟨w.heap.size+1,16,none⟩=some (.int .i64 b.cmd.rule.high):=rb.cell (j:=16) rfl
 have q17:W.cell? ⟨w.heap.size+1,17,none⟩=some (.string b.cmd.rule.schema):=rb.cell (j:=17) rfl
 have q18:W.cell? ⟨w.heap.size+1,18,none⟩=some (.string b.cmd.rule.table):=rb.cell (j:=18) rfl
 have q19:W.cell? ⟨w.heap.size+1,19,none⟩=some (.string b.cmd.rule.key):=rb.cell (j:=19) rfl
 have q20:W.cell? ⟨w.heap.size+1,20,none⟩=some (.int .i64 b.cmd.right):=rb.cell (j:=20) rfl
 have q21:W.cell? ⟨w.heap.size+1,21,none⟩=some (.bool b.cmd.opt):=rb.cell (j:=21) rfl
 have q22:W.cell? ⟨w.heap.size+1,22,none⟩=some (.int .i64 b.ck):=rb.cell (j:=22) rfl
 have q23:W.cell? ⟨w.heap.size+1,23,none⟩=some (.int .i64 b.cn):=rb.cell (j:=23) rfl
 have q24:W.cell? ⟨w.heap.size+1,24,none⟩=some (.int .i64 b.row.kind):=rb.cell (j:=24) rfl
 have q25:W.cell? ⟨w.heap.size+1,25,none⟩=some (.string b.row.role):=rb.cell (j:=25) rfl
 have q26:W.cell? ⟨w.heap.size+1,26,none⟩=some (.string b.row.schema):=rb.cell (j:=26) rfl
 have q27:W.cell? ⟨w.heap.size+1,27,none⟩=some (.string b.row.table):=rb.cell (j:=27) rfl
 have q28:W.cell? ⟨w.heap.size+1,28,none⟩=some (.slice B3 b.row.row.length m3):=rb.cell (j:=28) rfl
 have q29:W.cell? ⟨w.heap.size+1,29,none⟩=some (.string b.row.col):=rb.cell (j:=29) rfl
 have q30:W.cell? ⟨w.heap.size+1,30,none⟩=some (.int .i64 b.row.v.kind):=rb.cell (j:=30) rfl
 have q31:W.cell? ⟨w.heap.size+1,31,none⟩=some (.int .i64 b.row.v.int):=rb.cell (j:=31) rfl
 have q32:W.cell? ⟨w.heap.size+1,32,none⟩=some (.string b.row.v.text):=rb.cell (j:=32) rfl
 clear aW ra rb
 cases s0:(a.kind==b.kind)
 ·have HN:=gH (show ¬ a=b from fun e=>eqI_no s0 (by rw [e]))
  have s0x:(a.kind != b.kind)=true:=by simp [bne,s0]
  go_wp2_with fail
  go_ret
  exact .no HN.out HAW.out
 ·have s0x:(a.kind != b.kind)=false:=by simp [bne,s0]
  cases s1:(a.node==b.node)
  ·have HN:=gH (show ¬ a=b from fun e=>eqI_no s1 (by rw [e]))
   have s1x:(a.node != b.node)=true:=by simp [bne,s1]
   go_wp2_with fail
   go_ret
   exact .no HN.out HAW.out
  ·have s1x:(a.node != b.node)=false:=by simp [bne,s1]
   cases s2:(a.n==b.n)
   ·have HN:=gH (show ¬ a=b from fun e=>eqI_no s2 (by rw [e]))
    have s2x:(a.n != b.n)=true:=by simp [bne,s2]
    go_wp2_with fail
    go_ret
    exact .no HN.out HAW.out
   ·have s2x:(a.n != b.n)=false:=by simp [bne,s2]
    cases s3:(a.client==b.client)
    ·have HN:=gH (show ¬ a=b from fun e=>eqI_no s3 (by rw [e]))
     have s3x:(a.client != b.client)=true:=by simp [bne,s3]
     go_wp2_with fail
     go_ret
     exact .no HN.out HAW.out
    ·have s3x:(a.client != b.client)=false:=by simp [bne,s3]
     cases s4:(a.number==b.number)
     ·have HN:=gH (show ¬ a=b from fun e=>eqI_no s4 (by rw [e]))
      have s4x:(a.number != b.number)=true:=by simp [bne,s4]
      go_wp2_with fail
      go_ret
      exact .no HN.out HAW.out
     ·have s4x:(a.number != b.number)=false:=by simp [bne,s4]
      cases s5:eqG2 a.ck a.cn b.ck b.cn
      ·have HN:=gH (show ¬ a=b from fun e=>by rw [show eqG2 a.ck a.cn b.ck b.cn=true from (eqG_iff _ _ _ _).2 (by rw [e];exact ⟨rfl,rfl⟩)] at s5;cases s5)
       go_wp2_with fail
       go_ret
       exact .no HN.out HAW.out
      ·obtain ⟨V,hV⟩:∃ V,V=(W.alloc (.cells #[.int .i64 a.cmd.kind,.string a.cmd.actor,.string a.cmd.schema,.string a.cmd.table,.string a.cmd.name,.string a.cmd.role,.slice A a.cmd.cols.length k,.string a.cmd.rule.name,.int .i64 a.cmd.rule.kind,.slice A2 a.cmd.rule.cols.length k2,.int .i64 a.cmd.rule.low,.int .i64 a.cmd.rule.high,.string a.cmd.rule.schema,.string a.cmd.rule.table,.string a.cmd.rule.key,.int .i64 a.cmd.right,.bool a.cmd.opt] 31)).alloc (.cells #[.int .i64 b.cmd.kind,.string b.cmd.actor,.string b.cmd.schema,.string b.cmd.table,.string b.cmd.name,.string b.cmd.role,.slice B b.cmd.cols.length m,.string b.cmd.rule.name,.int .i64 b.cmd.rule.kind,.slice B2 b.cmd.rule.cols.length m2,.int .i64 b.cmd.rule.low,.int .i64 b.cmd.rule.high,.string b.cmd.rule.schema,.string b.cmd.rule.table,.string b.cmd.rule.key,.int .i64 b.cmd.right,.bool b.cmd.opt] 31):=⟨_,rfl⟩
       have aV:Aft W V:=by rw [hV];exact ((Aft.refl W).alloc _).alloc _
       obtain ⟨v1,v2⟩:=box2_rowsD (w:=W) (W:=V) (by rw [← hV];exact Aft.refl V)
       have hz1:w.heap.size+1 < W.heap.size:=HZ.out
       have hz0:w.heap.size < W.heap.size:=by omega
       have hzw:w.heap.size < W.heap.size+1:=by have:=HZ.out;omega
       have hzw2:w.heap.size+1 < W.heap.size+1:=by have:=HZ.out;omega
       go_upto_region 5 with fail
       rw [← hV]
       clear hV
       have hv1:W.heap.size+1 < V.heap.size:=v2.1
       have hv0:W.heap.size < V.heap.size:=by omega
       have hv2:W.heap.size+1 < V.heap.size+1:=by omega
       have x5:V.cell? ⟨W.heap.size,0,none⟩=some (.int .i64 a.cmd.kind):=v1.cell (j:=0) rfl
       have x6:V.cell? ⟨W.heap.size,1,none⟩=some (.string a.cmd.actor):=v1.cell (j:=1) rfl
       have x7:V.cell? ⟨W.heap.size,2,none⟩=some (.string a.cmd.schema):=v1.cell (j:=2) rfl
       have x8:V.cell? ⟨W.heap.size,3,none⟩=some (.string a.cmd.table):=v1.cell (j:=3) rfl
       have x9:V.cell? ⟨W.heap.size,4,none⟩=some (.string a.cmd.name):=v1.cell (j:=4) rfl
       have x10:V.cell? ⟨W.heap.size,5,none⟩=some (.string a.cmd.role):=v1.cell (j:=5) rfl
       have x11:V.cell? ⟨W.heap.size,6,none⟩=some (.slice A a.cmd.cols.length k):=v1.cell (j:=6) rfl
       have x12:V.cell? ⟨W.heap.size,7,none⟩=some (.string a.cmd.rule.name):=v1.cell (j:=7) rfl
       have x13:V.cell? ⟨W.heap.size,8,none⟩=some (.int .i64 a.cmd.rule.kind):=v1.cell (j:=8) rfl
       have x14:V.cell? ⟨W.heap.size,9,none⟩=some (.slice A2 a.cmd.rule.cols.length k2):=v1.cell (j:=9) rfl
       have x15:V.cell? ⟨W.heap.size,10,none⟩=some (.int .i64 a.cmd.rule.low):=v1.cell (j:=10) rfl
       have x16:V.cell? ⟨W.heap.size,11,none⟩=some (.int .i64 a.cmd.rule.high):=v1.cell (j:=11) rfl
       have x17:V.cell? ⟨W.heap.size,12,none⟩=some (.string a.cmd.rule.schema):=v1.cell (j:=12) rfl
       have x18:V.cell? ⟨W.heap.size,13,none⟩=some (.string a.cmd.rule.table):=v1.cell (j:=13) rfl
       have x19:V.cell? ⟨W.heap.size,14,none⟩=some (.string a.cmd.rule.key):=v1.cell (j:=14) rfl
       have x20:V.cell? ⟨W.heap.size,15,none⟩=some (.int .i64 a.cmd.right):=v1.cell (j:=15) rfl
       have x21:V.cell? ⟨W.heap.size,16,none⟩=some (.bool a.cmd.opt):=v1.cell (j:=16) rfl
       have y5:V.cell? ⟨W.heap.size+1,0,none⟩=some (.int .i64 b.cmd.kind):=v2.cell (j:=0) rfl
       have y6:V.cell? ⟨W.heap.size+1,1,none⟩=some (.string b.cmd.actor):=v2.cell (j:=1) rfl
       have y7:V.cell? ⟨W.heap.size+1,2,none⟩=some (.string b.cmd.schema):=v2.cell (j:=2) rfl
       have y8:V.cell? ⟨W.heap.size+1,3,none⟩=some (.string b.cmd.table):=v2.cell (j:=3) rfl
       have y9:V.cell? ⟨W.heap.size+1,4,none⟩=some (.string b.cmd.name):=v2.cell (j:=4) rfl
       have y10:V.cell? ⟨W.heap.size+1,5,none⟩=some (.string b.cmd.role):=v2.cell (j:=5) rfl
       have y11:V.cell? ⟨W.heap.size+1,6,none⟩=some (.slice B b.cmd.cols.length m):=v2.cell (j:=6) rfl
       have y12:V.cell? ⟨W.heap.size+1,7,none⟩=some (.string b.cmd.rule.name):=v2.cell (j:=7) rfl
       have y13:V.cell? ⟨W.heap.size+1,8,none⟩=some (.int .i64 b.cmd.rule.kind):=v2.cell (j:=8) rfl
       have y14:V.cell? ⟨W.heap.size+1,9,none⟩=some (.slice B2 b.cmd.rule.cols.length m2):=v2.cell (j:=9) rfl
       have y15:V.cell? ⟨W.heap.size+1,10,none⟩=some (.int .i64 b.cmd.rule.low):=v2.cell (j:=10) rfl
       have y16:V.cell? ⟨W.heap.size+1,11,none⟩=some (.int .i64 b.cmd.rule.high):=v2.cell (j:=11) rfl
       have y17:V.cell? ⟨W.heap.size+1,12,none⟩=some (.string b.cmd.rule.schema):=v2.cell (j:=12) rfl
       have y18:V.cell? ⟨W.heap.size+1,13,none⟩=some (.string b.cmd.rule.table):=v2.cell (j:=13) rfl
       have y19:V.cell? ⟨W.heap.size+1,14,none⟩=some (.string b.cmd.rule.key):=v2.cell (j:=14) rfl
       have y20:V.cell? ⟨W.heap.size+1,15,none⟩=some (.int .i64 b.cmd.right):=v2.cell (j:=15) rfl
       have y21:V.cell? ⟨W.heap.size+1,16,none⟩=some (.bool b.cmd.opt):=v2.cell (j:=16) rfl
       replace p24:=aV.cell_kept p24
       replace p25:=aV.cell_kept p25
       replace p26:=aV.cell_kept p26
       replace p27:=aV.cell_kept p27
       replace p28:=aV.cell_kept p28
       replace p29:=aV.cell_kept p29
       replace p30:=aV.cell_kept p30
       replace p31:=aV.cell_kept p31
       replace p32:=aV.cell_kept p32
       replace q24:=aV.cell_kept q24
       replace q25:=aV.cell_kept q25
       replace q26:=aV.cell_kept q26
       replace q27:=aV.cell_kept q27
       replace q28:=aV.cell_kept q28
       replace q29:=aV.cell_kept q29
       replace q30:=aV.cell_kept q30
       replace q31:=aV.cell_kept q31
       replace q32:=aV.cell_kept q32
       clear p0 p1 p2 p3 p4 p5 p6 p7 p8 p9 p10 p11 p12 p13 p14 p15 p16 p17 p18 p19 p20 p21 p22 p23 q0 q1 q2 q3 q4 q5 q6 q7 q8 q9 q10 q11 q12 q13 q14 q15 q16 q17 q18 q19 q20 q21 q22 q23 v1 v2
       have HAV:=gH (HAW.out.trans aV)
       have HVW:=gH (Aft.refl V)
       have HSB:=gH (show ∀ X,Aft V X→Calls Tryz.prog 22 #[.agg #[.string ⟨#[]⟩,.string ⟨#[]⟩,.string ⟨#[]⟩,.slice A a.cmd.cols.length k,.slice (some ⟨X.heap.size,0,none⟩) 1 1],.agg #[.string ⟨#[]⟩,.string ⟨#[]⟩,.string ⟨#[]⟩,.slice B b.cmd.cols.length m,.slice (some ⟨X.heap.size+1,0,none⟩) 1 1]] ((X.alloc (.cells #[.string a.cmd.rule.name,.int .i64 a.cmd.rule.kind,.slice A2 a.cmd.rule.cols.length k2,.int .i64 a.cmd.rule.low,.int .i64 a.cmd.rule.high,.string a.cmd.rule.schema,.string a.cmd.rule.table,.string a.cmd.rule.key] 28)).alloc (.cells #[.string b.cmd.rule.name,.int .i64 b.cmd.rule.kind,.slice B2 b.cmd.rule.cols.length m2,.int .i64 b.cmd.rule.low,.int .i64 b.cmd.rule.high,.string b.cmd.rule.schema,.string b.cmd.rule.table,.string b.cmd.rule.key] 28)) (SameQ ((X.alloc (.cells #[.string a.cmd.rule.name,.int .i64 a.cmd.rule.kind,.slice A2 a.cmd.rule.cols.length k2,.int .i64 a.cmd.rule.low,.int .i64 a.cmd.rule.high,.string a.cmd.rule.schema,.string a.cmd.rule.table,.string a.cmd.rule.key] 28)).alloc (.cells #[.string b.cmd.rule.name,.int .i64 b.cmd.rule.kind,.slice B2 b.cmd.rule.cols.length m2,.int .i64 b.cmd.rule.low,.int .i64 b.cmd.rule.high,.string b.cmd.rule.schema,.string b.cmd.rule.table,.string b.cmd.rule.key] 28)) (a.cmd.cols=b.cmd.cols∧[a.cmd.rule]=[b.cmd.rule])) from fun X aX=>by
        have aY:=((Aft.refl X).alloc (.cells #[.string a.cmd.rule.name,.int .i64 a.cmd.rule.kind,.slice A2 a.cmd.rule.cols.length k2,.int .i64 a.cmd.rule.low,.int .i64 a.cmd.rule.high,.string a.cmd.rule.schema,.string a.cmd.rule.table,.string a.cmd.rule.key] 28)).alloc (.cells #[.string b.cmd.rule.name,.int .i64 b.cmd.rule.kind,.slice B2 b.cmd.rule.cols.length m2,.int .i64 b.cmd.rule.low,.int .i64 b.cmd.rule.high,.string b.cmd.rule.schema,.string b.cmd.rule.table,.string b.cmd.rule.key] 28)
        obtain ⟨r1,r2⟩:=box2_rowsD (Aft.refl ((X.alloc (.cells #[.string a.cmd.rule.name,.int .i64 a.cmd.rule.kind,.slice A2 a.cmd.rule.cols.length k2,.int .i64 a.cmd.rule.low,.int .i64 a.cmd.rule.high,.string a.cmd.rule.schema,.string a.cmd.rule.table,.string a.cmd.rule.key] 28)).alloc (.cells #[.string b.cmd.rule.name,.int .i64 b.cmd.rule.kind,.slice B2 b.cmd.rule.cols.length m2,.int .i64 b.cmd.rule.low,.int .i64 b.cmd.rule.high,.string b.cmd.rule.schema,.string b.cmd.rule.table,.string b.cmd.rule.key] 28)))
        have xa:=HXA.out.aft ((HAV.out.trans aX).trans aY)
        have xb:=HXB.out.aft ((HAV.out.trans aX).trans aY)
        exact samet24 a.cmd.cols b.cmd.cols [a.cmd.rule] [b.cmd.rule] A k _ 1 B m _ 1 _ xa.cols (slAt_rul r1 xa.nms xa.z1 xa.z2 xa.z3 xa.z4) xb.cols (slAt_rul r2 xb.nms xb.z1 xb.z2 xb.z3 xb.z4) rfl)
       clear aV
       cases s6:(a.cmd.kind==b.cmd.kind)
       ·have HN:=gH (show ¬ a=b from fun e=>eqI_no s6 (by rw [e]))
        have s6x:(a.cmd.kind != b.cmd.kind)=true:=by simp [bne,s6]
        go_wp2_with fail
        go_ret
        exact .no HN.out HAV.out
       ·have s6x:(a.cmd.kind != b.cmd.kind)=false:=by simp [bne,s6]
        cases s7:(a.cmd.actor.toList==b.cmd.actor.toList)
        ·have HN:=gH (show ¬ a=b from fun e=>eqL_no s7 (by rw [e]))
         go_wp2_with fail
         go_ret
         exact .no HN.out HAV.out
        ·cases s8:(a.cmd.schema.toList==b.cmd.schema.toList)
         ·have HN:=gH (show ¬ a=b from fun e=>eqL_no s8 (by rw [e]))
          go_wp2_with fail
          go_ret
          exact .no HN.out HAV.out
         ·cases s9:(a.cmd.table.toList==b.cmd.table.toList)
          ·have HN:=gH (show ¬ a=b from fun e=>eqL_no s9 (by rw [e]))
           go_wp2_with fail
           go_ret
           exact .no HN.out HAV.out
          ·cases s10:(a.cmd.name.toList==b.cmd.name.toList)
           ·have HN:=gH (show ¬ a=b from fun e=>eqL_no s10 (by rw [e]))
            go_wp2_with fail
            go_ret
            exact .no HN.out HAV.out
           ·cases s11:(a.cmd.role.toList==b.cmd.role.toList)
            ·have HN:=gH (show ¬ a=b from fun e=>eqL_no s11 (by rw [e]))
             go_wp2_with fail
             go_ret
             exact .no HN.out HAV.out
            ·cases s12:(a.cmd.right==b.cmd.right)
             ·have HN:=gH (show ¬ a=b from fun e=>eqI_no s12 (by rw [e]))
              have s12x:(a.cmd.right != b.cmd.right)=true:=by simp [bne,s12]
              go_wp2_with fail
              go_ret
              exact .no HN.out HAV.out
             ·have s12x:(a.cmd.right != b.cmd.right)=false:=by simp [bne,s12]
              cases s13:(a.cmd.opt==b.cmd.opt)
              ·have HN:=gH (show ¬ a=b from fun e=>eqB_no s13 (by rw [e]))
               have s13x:(a.cmd.opt != b.cmd.opt)=true:=by simp [bne,s13]
               go_wp2_with fail
               go_ret
               exact .no HN.out HAV.out
              ·have s13x:(a.cmd.opt != b.cmd.opt)=false:=by simp [bne,s13]
               by_cases hT:a.cmd.cols=b.cmd.cols∧a.cmd.rule=b.cmd.rule
               ·have HCM:=gH (show a.cmd=b.cmd from cmd_same (eqI_yes s6) ((eqL_iff _ _).1 s7) ((eqL_iff _ _).1 s8) ((eqL_iff _ _).1 s9) ((eqL_iff _ _).1 s10) ((eqL_iff _ _).1 s11) hT.1 hT.2 (eqI_yes s12) (eqB_yes s13))
                have HST:=gH (show ∀ X,Aft V X→Calls Tryz.prog 22 #[.agg #[.string ⟨#[]⟩,.string ⟨#[]⟩,.string ⟨#[]⟩,.slice A a.cmd.cols.length k,.slice (some ⟨X.heap.size,0,none⟩) 1 1],.agg #[.string ⟨#[]⟩,.string ⟨#[]⟩,.string ⟨#[]⟩,.slice B b.cmd.cols.length m,.slice (some ⟨X.heap.size+1,0,none⟩) 1 1]] ((X.alloc (.cells #[.string a.cmd.rule.name,.int .i64 a.cmd.rule.kind,.slice A2 a.cmd.rule.cols.length k2,.int .i64 a.cmd.rule.low,.int .i64 a.cmd.rule.high,.string a.cmd.rule.schema,.string a.cmd.rule.table,.string a.cmd.rule.key] 28)).alloc (.cells #[.string b.cmd.rule.name,.int .i64 b.cmd.rule.kind,.slice B2 b.cmd.rule.cols.length m2,.int .i64 b.cmd.rule.low,.int .i64 b.cmd.rule.high,.string b.cmd.rule.schema,.string b.cmd.rule.table,.string b.cmd.rule.key] 28)) fun e w1=>e=.returned (.bool true)∧Aft X w1 from fun X aX=>(HSB.out X aX).mono fun e w1 ⟨a1,r,he,hr⟩=>⟨by rw [he,hr.2 (by rw [hT.1,hT.2];exact ⟨rfl,rfl⟩)],(((Aft.refl X).alloc _).alloc _).trans a1⟩)
                clear hT
                go_upto_region 9 with (first
                 | (go_at_call 22;refine (HST.out _ (Aft.refl _)).mono ?_;rintro e w1 ⟨rfl,a1⟩;have HA1:=gH (HAV.out.trans a1);have HAW1:=gH (HVW.out.trans a1);clear a1))
                have hw1:=HAW1.out
                replace p24:=hw1.cell_kept p24
                replace p25:=hw1.cell_kept p25
                replace p26:=hw1.cell_kept p26
                replace p27:=hw1.cell_kept p27
                replace p28:=hw1.cell_kept p28
                replace p29:=hw1.cell_kept p29
                replace p30:=hw1.cell_kept p30
                replace p31:=hw1.cell_kept p31
                replace p32:=hw1.cell_kept p32
                replace q24:=hw1.cell_kept q24
                replace q25:=hw1.cell_kept q25
                replace q26:=hw1.cell_kept q26
                replace q27:=hw1.cell_kept q27
                replace q28:=hw1.cell_kept q28
                replace q29:=hw1.cell_kept q29
                replace q30:=hw1.cell_kept q30
                replace q31:=hw1.cell_kept q31
                replace q32:=hw1.cell_kept q32
                clear hw1
                cases s14:(a.row.kind==b.row.kind)
                ·have HN:=gH (show ¬ a=b from fun e=>eqI_no s14 (by rw [e]))
                 have s14x:(a.row.kind != b.row.kind)=true:=by simp [bne,s14]
                 go_wp2_with fail
                 go_ret
                 exact .no HN.out HA1.out
                ·have s14x:(a.row.kind != b.row.kind)=false:=by simp [bne,s14]
                 cases s15:(a.row.role.toList==b.row.role.toList)
                 ·have HN:=gH (show ¬ a=b from fun e=>eqL_no s15 (by rw [e]))
                  go_wp2_with fail
                  go_ret
                  exact .no HN.out HA1.out
                 ·cases s16:(a.row.schema.toList==b.row.schema.toList)
                  ·have HN:=gH (show ¬ a=b from fun e=>eqL_no s16 (by rw [e]))
                   go_wp2_with fail
                   go_ret
                   exact .no HN.out HA1.out
                  ·cases s17:(a.row.table.toList==b.row.table.toList)
                   ·have HN:=gH (show ¬ a=b from fun e=>eqL_no s17 (by rw [e]))
                    go_wp2_with fail
                    go_ret
                    exact .no HN.out HA1.out
                   ·cases s18:(a.row.col.toList==b.row.col.toList)
                    ·have HN:=gH (show ¬ a=b from fun e=>eqL_no s18 (by rw [e]))
                     go_wp2_with fail
                     go_ret
                     exact .no HN.out HA1.out
                    ·cases s19:eqV3 a.row.v.kind a.row.v.int a.row.v.text b.row.v.kind b.row.v.int b.row.v.text
                     ·have HN:=gH (show ¬ a=b from fun e=>by rw [show eqV3 a.row.v.kind a.row.v.int a.row.v.text b.row.v.kind b.row.v.int b.row.v.text=true from (eqVd_iff a.row.v b.row.v).2 (by rw [e])] at s19;cases s19)
                      go_wp2_with fail
                      go_ret
                      exact .no HN.out HA1.out
                     ·by_cases hl:a.row.row.length=b.row.row.length
                      ·have e1:((a.row.row.length:Int) != (b.row.row.length:Int))=false:=by simp [hl]
                       have HL:=gH hl
                       have HSM:=gH (show a.row.row=b.row.row→a=b from fun er=>act_same (eqI_yes s0) (eqI_yes s1) (eqI_yes s2) (eqI_yes s3) (eqI_yes s4) HCM.out ((eqG_iff _ _ _ _).1 s5) (rop_same (eqI_yes s14) ((eqL_iff _ _).1 s15) ((eqL_iff _ _).1 s16) ((eqL_iff _ _).1 s17) er ((eqL_iff _ _).1 s18) ((eqVd_iff _ _).1 s19)))
                       clear hl
                       go_wp2_with fail
                       go_loopw [7] (fun i wr=>∃ k:Nat,k≤a.row.row.length∧i=.int .i64 k∧Aft w1 wr∧∀ j,j < k→∀ (hj:j < a.row.row.length) (hj2:j < b.row.row.length),a.row.row[j]=b.row.row[j]) (fun i _=>a.row.row.length - (intOf i).toNat)
                       case atStart=>exact ⟨0,Nat.zero_le _,rfl,Aft.refl _,fun j hj=>absurd hj (Nat.not_lt_zero j)⟩
                       case round =>
                        obtain ⟨k,hk,rfl,ha,hp⟩:=hrel
                        have HA:=gH ha
                        have HP:=gH hp;clear hp
                        have p28':=ha.cell_kept p28
                        have q28':=ha.cell_kept q28
                        by_cases hlt:k < a.row.row.length
                        ·have hlt2:k < b.row.row.length:=by have:=HL.out;omega
                         have hav:=HA1.out.trans ha
                         obtain ⟨g,off,hA3,hb,c0,c1,c2,_⟩:=val_at (vals_aft hav HXA.out.vals) hlt
                         obtain ⟨g2,off2,hB3,hb2,d0,d1,d2,_⟩:=val_at (vals_aft hav HXB.out.vals) hlt2
                         subst hA3
                         subst hB3
                         have lx:=World.block_lt_of_cell? _ _ p28'
                         have ly:=World.block_lt_of_cell? _ _ q28'
                         clear ha hav
                         cases h9:eqV3 a.row.row[k].kind a.row.row[k].int a.row.row[k].text b.row.row[k].kind b.row.row[k].int b.row.row[k].text
                         ·have HN:=gH (show ¬ a=b from fun e=>list_ne hlt hlt2 (fun e=>by rw [(eqVd_iff a.row.row[k] b.row.row[k]).2 e] at h9;cases h9) (by rw [e]))
                          go_wp2_with fail
                          refine wp_region_lat (by kernel_rfl) (by kernel_rfl) ?_
                          repeat (go_big_quiet_step (fail))
                          refine wpQuiet_nil ?_
                          intro _ hw'
                          obtain ⟨x,hw''⟩:=hw'
                          subst hw''
                          go_wp2_with fail
                          go_ret
                          exact .no HN.out (HA1.out.trans (HA.out.lat x))
                         ·have HN:=gH (ext_lt (p:=fun j=>∀ (hj:j < a.row.row.length) (hj2:j < b.row.row.length),a.row.row[j]=b.row.row[j]) HP.out (fun _ _=>(eqVd_iff a.row.row[k] b.row.row[k]).1 h9))
                          go_wp2_with fail
                          refine wp_region_lat (by kernel_rfl) (by kernel_rfl) ?_
                          repeat (go_big_quiet_step (fail))
                          refine wpQuiet_nil ?_
                          intro _ hw'
                          obtain ⟨x,hw''⟩:=hw'
                          subst hw''
                          go_wp2_with fail
                          go_roundw
                          case rel=>exact ⟨k+1,by omega,by go_num,HA.out.lat x,HN.out⟩
                          case measure=>simp [intOf];omega
                        ·have HN:=gH (HSM.out (list_eq HL.out fun j hj _ hj2=>HP.out j (by omega) hj hj2))
                         clear ha
                         go_wp2_with fail
                         go_ret
                         exact .yes HN.out (HA1.out.trans HA.out)
                      ·have e1:((a.row.row.length:Int) != (b.row.row.length:Int))=true:=by simp;omega
                       have HN:=gH (show ¬ a=b from fun e=>hl (by rw [e]))
                       clear hl
                       go_wp2_with fail
                       go_ret
                       exact .no HN.out HA1.out
               ·have HN:=gH (show ¬ a=b from fun e=>hT (by rw [e];exact ⟨rfl,rfl⟩))
                have HST:=gH (show ∀ X,Aft V X→Calls Tryz.prog 22 #[.agg #[.string ⟨#[]⟩,.string ⟨#[]⟩,.string ⟨#[]⟩,.slice A a.cmd.cols.length k,.slice (some ⟨X.heap.size,0,none⟩) 1 1],.agg #[.string ⟨#[]⟩,.string ⟨#[]⟩,.string ⟨#[]⟩,.slice B b.cmd.cols.length m,.slice (some ⟨X.heap.size+1,0,none⟩) 1 1]] ((X.alloc (.cells #[.string a.cmd.rule.name,.int .i64 a.cmd.rule.kind,.slice A2 a.cmd.rule.cols.length k2,.int .i64 a.cmd.rule.low,.int .i64 a.cmd.rule.high,.string a.cmd.rule.schema,.string a.cmd.rule.table,.string a.cmd.rule.key] 28)).alloc (.cells #[.string b.cmd.rule.name,.int .i64 b.cmd.rule.kind,.slice B2 b.cmd.rule.cols.length m2,.int .i64 b.cmd.rule.low,.int .i64 b.cmd.rule.high,.string b.cmd.rule.schema,.string b.cmd.rule.table,.string b.cmd.rule.key] 28)) fun e w1=>e=.returned (.bool false)∧Aft X w1 from fun X aX=>(HSB.out X aX).mono fun e w1 ⟨a1,r,he,hr⟩=>⟨he.trans (samet_no hr hT),(((Aft.refl X).alloc _).alloc _).trans a1⟩)
                clear hT
                go_wp2_with (first
                 | (go_at_call 22;refine (HST.out _ (Aft.refl _)).mono ?_;rintro e w1 ⟨rfl,a1⟩;have HA1:=gH (HAV.out.trans a1);clear a1))
                go_ret
                exact .no HN.out HA1.out
theorem rul_same {x y:Rul} (h0:x.name=y.name) (h1:x.kind=y.kind) (h2:x.low=y.low) (h3:x.high=y.high) (h4:x.schema=y.schema) (h5:x.table=y.table) (h6:x.key=y.key) (h7:x.cols=y.cols):x=y:=by
 cases x;cases y;simp_all
theorem dsame_in (a b:Dact) (A:Option Addr) (k:Nat) (A2:Option Addr) (k2:Nat) (A3:Option Addr) (k3:Nat) (B:Option Addr) (m:Nat) (B2:Option Addr) (m2:Nat) (B3:Option Addr) (m3:Nat) (w:World) (ha:ActX w a A k A2 k2 A3 k3) (hb:ActX w b B m B2 m2 B3 m3) :
  Calls Tryz.prog 24 #[.agg #[.int .i64 a.kind,.int .i64 a.node,.int .i64 a.n,.int .i64 a.client,.int .i64 a.number,.int .i64 a.cmd.kind,.string a.cmd.actor,.string a.cmd.schema,.string a.cmd.table,.string a.cmd.name,.string a.cmd.role,.slice A a.cmd.cols.length k,.string a.cmd.rule.name,.int .i64 a.cmd.rule.kind,.slice A2 a.cmd.rule.cols.length k2,.int .i64 a.cmd.rule.low,.int .i64 a.cmd.rule.high,.string a.cmd.rule.schema,.string a.cmd.rule.table,.string a.cmd.rule.key,.int .i64 a.cmd.right,.bool a.cmd.opt,.int .i64 a.ck,.int .i64 a.cn,.int .i64 a.row.kind,.string a.row.role,.string a.row.schema,.string a.row.table,.slice A3 a.row.row.length k3,.string a.row.col,.int .i64 a.row.v.kind,.int .i64 a.row.v.int,.string a.row.v.text],.agg #[.int .i64 b.kind,.int .i64 b.node,.int .i64 b.n,.int .i64 b.client,.int .i64 b.number,.int .i64 b.cmd.kind,.string b.cmd.actor,.string b.cmd.schema,.string b.cmd.table,.string b.cmd.name,.string b.cmd.role,.slice B b.cmd.cols.length m,.string b.cmd.rule.name,.int .i64 b.cmd.rule.kind,.slice B2 b.cmd.rule.cols.length m2,.int .i64 b.cmd.rule.low,.int .i64 b.cmd.rule.high,.string b.cmd.rule.schema,.string b.cmd.rule.table,.string b.cmd.rule.key,.int .i64 b.cmd.right,.bool b.cmd.opt,.int .i64 b.ck,.int .i64 b.cn,.int .i64 b.row.kind,.string b.row.role,.string b.row.schema,.string b.row.table,.slice B3 b.row.row.length m3,.string b.row.col,.int .i64 b.row.v.kind,.int .i64 b.row.v.int,.string b.row.v.text]] w (SameQ w (a=b)):=by
 have HXA:=gH ha
 have HXB:=gH hb
 clear ha hb
 obtain ⟨W,hW⟩:∃ W,W=(w.alloc (.cells #[.int .i64 a.kind,.int .i64 a.node,.int .i64 a.n,.int .i64 a.client,.int .i64 a.number,.int .i64 a.cmd.kind,.string a.cmd.actor,.string a.cmd.schema,.string a.cmd.table,.string a.cmd.name,.string a.cmd.role,.slice A a.cmd.cols.length k,.string a.cmd.rule.name,.int .i64 a.cmd.rule.kind,.slice A2 a.cmd.rule.cols.length k2,.int .i64 a.cmd.rule.low,.int .i64 a.cmd.rule.high,.string a.cmd.rule.schema,.string a.cmd.rule.table,.string a.cmd.rule.key,.int .i64 a.cmd.right,.bool a.cmd.opt,.int .i64 a.ck,.int .i64 a.cn,.int .i64 a.row.kind,.string a.row.role,.string a.row.schema,.string a.row.table,.slice A3 a.row.row.length k3,.string a.row.col,.int .i64 a.row.v.kind,.int .i64 a.row.v.int,.string a.row.v.text] 43)).alloc (.cells #[.int .i64 b.kind,.int .i64 b.node,.int .i64 b.n,.int .i64 b.client,.int .i64 b.number,.int .i64 b.cmd.kind,.string b.cmd.actor,.string b.cmd.schema,.string b.cmd.table,.string b.cmd.name,.string b.cmd.role,.slice B b.cmd.cols.length m,.string b.cmd.rule.name,.int .i64 b.cmd.rule.kind,.slice B2 b.cmd.rule.cols.length m2,.int .i64 b.cmd.rule.low,.int .i64 b.cmd.rule.high,.string b.cmd.rule.schema,.string b.cmd.rule.table,.string b.cmd.rule.key,.int .i64 b.cmd.right,.bool b.cmd.opt,.int .i64 b.ck,.int .i64 b.cn,.int .i64 b.row.kind,.string b.row.role,.string b.row.schema,.string b.row.table,.slice B3 b.row.row.length m3,.string b.row.col,.int .i64 b.row.v.kind,.int .i64 b.row.v.int,.string b.row.v.text] 43):=⟨_,rfl⟩
 have aW:Aft w W:=by rw [hW];exact ((Aft.refl w).alloc _).alloc _
 obtain ⟨ra,rb⟩:=box2_rowsD (w:=w) (W:=W) (by rw [← hW];exact Aft.refl W)
 have HRA:=gH ra
 have HRB:=gH rb
 have HAW:=gH aW
 have hz1:w.heap.size+1 < W.heap.size:=rb.1
 have hz0:w.heap.size < W.heap.size:=ra.1
 have hz2:w.heap.size < W.heap.size+1:=by omega
 have hz3:w.heap.size+1 < W.heap.size+1:=by omega
 have hz4:W.heap.size < W.heap.size+1+1:=by omega
 have HZ1:=gH hz1
 have HZ0:=gH hz0
 go_enter Tryz.func24,Tryz.ntmps24
 go_upto_region 1 with fail
 rw [← hW]
 clear hW aW
 have p5:=ra.cell (j:=5) rfl
 have p6:=ra.cell (j:=6) rfl
 have p7:=ra.cell (j:=7) rfl
 have p8:=ra.cell (j:=8) rfl
 have p9:=ra.cell (j:=9) rfl
 have p10:=ra.cell (j:=10) rfl
 have p11:=ra.cell (j:=11) rfl
 have p12:=ra.cell (j:=12) rfl
 have p13:=ra.cell (j:=13) rfl
 have p14:=ra.cell (j:=14) rfl
 have p15:=ra.cell (j:=15) rfl
 have p16:=ra.cell (j:=16) rfl
 have p17:=ra.cell (j:=17) rfl
 have p18:=ra.cell (j:=18) rfl
 have p19:=ra.cell (j:=19) rfl
 have p20:=ra.cell (j:=20) rfl
 have p21:=ra.cell (j:=21) rfl
 have q5:=rb.cell (j:=5) rfl
 have q6:=rb.cell (j:=6) rfl
 have q7:=rb.cell (j:=7) rfl
 have q8:=rb.cell (j:=8) rfl
 have q9:=rb.cell (j:=9) rfl
 have q10:=rb.cell (j:=10) rfl
 have q11:=rb.cell (j:=11) rfl
 have q12:=rb.cell (j:=12) rfl
 have q13:=rb.cell (j:=13) rfl
 have q14:=rb.cell (j:=14) rfl
 have q15:=rb.cell (j:=15) rfl
 have q16:=rb.cell (j:=16) rfl
 have q17:=rb.cell (j:=17) rfl
 have q18:=rb.cell (j:=18) rfl
 have q19:=rb.cell (j:=19) rfl
 have q20:=rb.cell (j:=20) rfl
 have q21:=rb.cell (j:=21) rfl
 clear ra rb
 generalize Value.agg #[.int .i64 a.kind,.int .i64 a.node,.int .i64 a.n,.int .i64 a.client,.int .i64 a.number,.int .i64 a.cmd.kind,.string a.cmd.actor,.string a.cmd.schema,.string a.cmd.table,.string a.cmd.name,.string a.cmd.role,.slice A a.cmd.cols.length k,.string a.cmd.rule.name,.int .i64 a.cmd.rule.kind,.slice A2 a.cmd.rule.cols.length k2,.int .i64 a.cmd.rule.low,.int .i64 a.cmd.rule.high,.string a.cmd.rule.schema,.string a.cmd.rule.table,.string a.cmd.rule.key,.int .i64 a.cmd.right,.bool a.cmd.opt,.int .i64 a.ck,.int .i64 a.cn,.int .i64 a.row.kind,.string a.row.role,.string a.row.schema,.string a.row.table,.slice A3 a.row.row.length k3,.string a.row.col,.int .i64 a.row.v.kind,.int .i64 a.row.v.int,.string a.row.v.text]=va
 generalize Value.agg #[.int .i64 b.kind,.int .i64 b.node,.int .i64 b.n,.int .i64 b.client,.int .i64 b.number,.int .i64 b.cmd.kind,.string b.cmd.actor,.string b.cmd.schema,.string b.cmd.table,.string b.cmd.name,.string b.cmd.role,.slice B b.cmd.cols.length m,.string b.cmd.rule.name,.int .i64 b.cmd.rule.kind,.slice B2 b.cmd.rule.cols.length m2,.int .i64 b.cmd.rule.low,.int .i64 b.cmd.rule.high,.string b.cmd.rule.schema,.string b.cmd.rule.table,.string b.cmd.rule.key,.int .i64 b.cmd.right,.bool b.cmd.opt,.int .i64 b.ck,.int .i64 b.cn,.int .i64 b.row.kind,.string b.row.role,.string b.row.schema,.string b.row.table,.slice B3 b.row.row.length m3,.string b.row.col,.int .i64 b.row.v.kind,.int .i64 b.row.v.int,.string b.row.v.text]=vb
 go_cut [5,6] from 13 to 16 (fun c5 c6 wx=>∃ bx bY:Nat,c5=.pointer (some ⟨bx,0,none⟩)∧c6=.pointer (some ⟨bY,0,none⟩)∧RowAt wx bx [.int .i64 a.cmd.kind,.string a.cmd.actor,.string a.cmd.schema,.string a.cmd.table,.string a.cmd.name,.string a.cmd.role,.slice A a.cmd.cols.length k,.string a.cmd.rule.name,.int .i64 a.cmd.rule.kind,.slice A2 a.cmd.rule.cols.length k2,.int .i64 a.cmd.rule.low,.int .i64 a.cmd.rule.high,.string a.cmd.rule.schema,.string a.cmd.rule.table,.string a.cmd.rule.key,.int .i64 a.cmd.right,.bool a.cmd.opt]∧RowAt wx bY [.int .i64 b.cmd.kind,.string b.cmd.actor,.string b.cmd.schema,.string b.cmd.table,.string b.cmd.name,.string b.cmd.role,.slice B b.cmd.cols.length m,.string b.cmd.rule.name,.int .i64 b.cmd.rule.kind,.slice B2 b.cmd.rule.cols.length m2,.int .i64 b.cmd.rule.low,.int .i64 b.cmd.rule.high,.string b.cmd.rule.schema,.string b.cmd.rule.table,.string b.cmd.rule.key,.int .i64 b.cmd.right,.bool b.cmd.opt]∧Aft W wx)
 case first =>
  go_region
  ·go_wp2_with fail
   go_meet
   case rel =>
    have r2:=box2_rowsD ((Aft.refl ((W.alloc (.cells #[.int .i64 a.cmd.kind,.string a.cmd.actor,.string a.cmd.schema,.string a.cmd.table,.string a.cmd.name,.string a.cmd.role,.slice A a.cmd.cols.length k,.string a.cmd.rule.name,.int .i64 a.cmd.rule.kind,.slice A2 a.cmd.rule.cols.length k2,.int .i64 a.cmd.rule.low,.int .i64 a.cmd.rule.high,.string a.cmd.rule.schema,.string a.cmd.rule.table,.string a.cmd.rule.key,.int .i64 a.cmd.right,.bool a.cmd.opt] 31)).alloc (.cells #[.int .i64 b.cmd.kind,.string b.cmd.actor,.string b.cmd.schema,.string b.cmd.table,.string b.cmd.name,.string b.cmd.role,.slice B b.cmd.cols.length m,.string b.cmd.rule.name,.int .i64 b.cmd.rule.kind,.slice B2 b.cmd.rule.cols.length m2,.int .i64 b.cmd.rule.low,.int .i64 b.cmd.rule.high,.string b.cmd.rule.schema,.string b.cmd.rule.table,.string b.cmd.rule.key,.int .i64 b.cmd.right,.bool b.cmd.opt] 31))).drew)
    exact ⟨_,_,rfl,rfl,r2.1,r2.2,(((Aft.refl W).alloc _).alloc _).drew⟩
  ·go_wp2_with fail
   go_meet
   case rel =>
    have r2:=box2_rowsD ((Aft.refl ((W.alloc (.cells #[.int .i64 b.cmd.kind,.string b.cmd.actor,.string b.cmd.schema,.string b.cmd.table,.string b.cmd.name,.string b.cmd.role,.slice B b.cmd.cols.length m,.string b.cmd.rule.name,.int .i64 b.cmd.rule.kind,.slice B2 b.cmd.rule.cols.length m2,.int .i64 b.cmd.rule.low,.int .i64 b.cmd.rule.high,.string b.cmd.rule.schema,.string b.cmd.rule.table,.string b.cmd.rule.key,.int .i64 b.cmd.right,.bool b.cmd.opt] 31)).alloc (.cells #[.int .i64 a.cmd.kind,.string a.cmd.actor,.string a.cmd.schema,.string a.cmd.table,.string a.cmd.name,.string a.cmd.role,.slice A a.cmd.cols.length k,.string a.cmd.rule.name,.int .i64 a.cmd.rule.kind,.slice A2 a.cmd.rule.cols.length k2,.int .i64 a.cmd.rule.low,.int .i64 a.cmd.rule.high,.string a.cmd.rule.schema,.string a.cmd.rule.table,.string a.cmd.rule.key,.int .i64 a.cmd.right,.bool a.cmd.opt] 31))).drew)
    exact ⟨_,_,rfl,rfl,r2.2,r2.1,(((Aft.refl W).alloc _).alloc _).drew⟩
 case rest =>
  obtain ⟨bx,bY,rfl,rfl,rx,ry,aV⟩:=hcut
  clear hz2 hz3 hz4 p5 p6 p7 p8 p9 p10 p11 p12 p13 p14 p15 p16 p17 p18 p19 p20 p21 q5 q6 q7 q8 q9 q10 q11 q12 q13 q14 q15 q16 q17 q18 q19 q20 q21
  have HRX:=gH rx
  have HRY:=gH ry
  have HAV:=gH (HAW.out.trans aV)
  have HWV:=gH aV
  obtain ⟨V,hV⟩:∃ V,V=wc:=⟨_,rfl⟩
  rw [← hV] at rx ry aV HRX HRY HAV HWV ⊢
  clear hV wc aV
  have x0:=rx.cell (j:=0) rfl
  have x1:=rx.cell (j:=1) rfl
  have x2:=rx.cell (j:=2) rfl
  have x3:=rx.cell (j:=3) rfl
  have x4:=rx.cell (j:=4) rfl
  have x5:=rx.cell (j:=5) rfl
  have x6:=rx.cell (j:=6) rfl
  have x7:=rx.cell (j:=7) rfl
  have x8:=rx.cell (j:=8) rfl
  have x9:=rx.cell (j:=9) rfl
  have x10:=rx.cell (j:=10) rfl
  have x11:=rx.cell (j:=11) rfl
  have x12:=rx.cell (j:=12) rfl
  have x13:=rx.cell (j:=13) rfl
  have x14:=rx.cell (j:=14) rfl
  have x15:=rx.cell (j:=15) rfl
  have x16:=rx.cell (j:=16) rfl
  have y0:=ry.cell (j:=0) rfl
  have y1:=ry.cell (j:=1) rfl
  have y2:=ry.cell (j:=2) rfl
  have y3:=ry.cell (j:=3) rfl
  have y4:=ry.cell (j:=4) rfl
  have y5:=ry.cell (j:=5) rfl
  have y6:=ry.cell (j:=6) rfl
  have y7:=ry.cell (j:=7) rfl
  have y8:=ry.cell (j:=8) rfl
  have y9:=ry.cell (j:=9) rfl
  have y10:=ry.cell (j:=10) rfl
  have y11:=ry.cell (j:=11) rfl
  have y12:=ry.cell (j:=12) rfl
  have y13:=ry.cell (j:=13) rfl
  have y14:=ry.cell (j:=14) rfl
  have y15:=ry.cell (j:=15) rfl
  have y16:=ry.cell (j:=16) rfl
  have lbx:=rx.1
  have lby:=ry.1
  clear rx ry
  go_upto_region 2 with fail
  go_cut [7] from 17 to 49 (fun c wx=>∃ r,c=.bool r∧(r=true↔(a.cmd.actor=b.cmd.actor∧a.cmd.schema=b.cmd.schema∧a.cmd.table=b.cmd.table∧a.cmd.name=b.cmd.name∧a.cmd.role=b.cmd.role))∧wx=V)
  case first =>
   cases n0:(a.cmd.actor.toList==b.cmd.actor.toList)
   ·have HNN:=gH (show ¬ (a.cmd.actor=b.cmd.actor∧a.cmd.schema=b.cmd.schema∧a.cmd.table=b.cmd.table∧a.cmd.name=b.cmd.name∧a.cmd.role=b.cmd.role) from fun e=>eqL_no n0 (e.1))
    go_wp2_with fail
    go_meet
    case rel=>exact ⟨false,rfl,⟨fun e=>(by cases e),fun e=>absurd e HNN.out⟩,rfl⟩
   ·cases n1:(a.cmd.schema.toList==b.cmd.schema.toList)
    ·have HNN:=gH (show ¬ (a.cmd.actor=b.cmd.actor∧a.cmd.schema=b.cmd.schema∧a.cmd.table=b.cmd.table∧a.cmd.name=b.cmd.name∧a.cmd.role=b.cmd.role) from fun e=>eqL_no n1 (e.2.1))
     go_wp2_with fail
     go_meet
     case rel=>exact ⟨false,rfl,⟨fun e=>(by cases e),fun e=>absurd e HNN.out⟩,rfl⟩
    ·cases n2:(a.cmd.table.toList==b.cmd.table.toList)
     ·have HNN:=gH (show ¬ (a.cmd.actor=b.cmd.actor∧a.cmd.schema=b.cmd.schema∧a.cmd.table=b.cmd.table∧a.cmd.name=b.cmd.name∧a.cmd.role=b.cmd.role) from fun e=>eqL_no n2 (e.2.2.1))
      go_wp2_with fail
      go_meet
      case rel=>exact ⟨false,rfl,⟨fun e=>(by cases e),fun e=>absurd e HNN.out⟩,rfl⟩
     ·cases n3:(a.cmd.name.toList==b.cmd.name.toList)
      ·have HNN:=gH (show ¬ (a.cmd.actor=b.cmd.actor∧a.cmd.schema=b.cmd.schema∧a.cmd.table=b.cmd.table∧a.cmd.name=b.cmd.name∧a.cmd.role=b.cmd.role) from fun e=>eqL_no n3 (e.2.2.2.1))
       go_wp2_with fail
       go_meet
       case rel=>exact ⟨false,rfl,⟨fun e=>(by cases e),fun e=>absurd e HNN.out⟩,rfl⟩
      ·cases n4:(a.cmd.role.toList==b.cmd.role.toList)
       ·have HNN:=gH (show ¬ (a.cmd.actor=b.cmd.actor∧a.cmd.schema=b.cmd.schema∧a.cmd.table=b.cmd.table∧a.cmd.name=b.cmd.name∧a.cmd.role=b.cmd.role) from fun e=>eqL_no n4 (e.2.2.2.2))
        go_wp2_with fail
        go_meet
        case rel=>exact ⟨false,rfl,⟨fun e=>(by cases e),fun e=>absurd e HNN.out⟩,rfl⟩
       ·have HNN:=gH (show (a.cmd.actor=b.cmd.actor∧a.cmd.schema=b.cmd.schema∧a.cmd.table=b.cmd.table∧a.cmd.name=b.cmd.name∧a.cmd.role=b.cmd.role) from ⟨(eqL_iff _ _).1 n0,(eqL_iff _ _).1 n1,(eqL_iff _ _).1 n2,(eqL_iff _ _).1 n3,(eqL_iff _ _).1 n4⟩)
        go_wp2_with fail
        go_meet
        case rel=>exact ⟨true,rfl,⟨fun _=>HNN.out,fun _=>rfl⟩,rfl⟩
  case rest =>
   obtain ⟨rN,rfl,hN,hwc⟩:=hcut
   rw [hwc]
   clear hwc wc
   have HN7:=gH hN
   clear hN
   have z1:bx < V.heap.size+1:=by omega
   have z2:bY < V.heap.size+1:=by omega
   have z3:V.heap.size < V.heap.size+1+1:=by omega
   go_upto_region 3 with fail
   go_cut [8,9] from 50 to 53 (fun c8 c9 wx=>∃ gx gY:Nat,c8=.pointer (some ⟨gx,0,none⟩)∧c9=.pointer (some ⟨gY,0,none⟩)∧RowAt wx gx [.string a.cmd.rule.name,.int .i64 a.cmd.rule.kind,.slice A2 a.cmd.rule.cols.length k2,.int .i64 a.cmd.rule.low,.int .i64 a.cmd.rule.high,.string a.cmd.rule.schema,.string a.cmd.rule.table,.string a.cmd.rule.key]∧RowAt wx gY [.string b.cmd.rule.name,.int .i64 b.cmd.rule.kind,.slice B2 b.cmd.rule.cols.length m2,.int .i64 b.cmd.rule.low,.int .i64 b.cmd.rule.high,.string b.cmd.rule.schema,.string b.cmd.rule.table,.string b.cmd.rule.key]∧Aft V wx)
   case first =>
    go_region
    ·go_wp2_with fail
     go_meet
     case rel =>
      have r2:=box2_rowsD ((Aft.refl ((V.alloc (.cells #[.string a.cmd.rule.name,.int .i64 a.cmd.rule.kind,.slice A2 a.cmd.rule.cols.length k2,.int .i64 a.cmd.rule.low,.int .i64 a.cmd.rule.high,.string a.cmd.rule.schema,.string a.cmd.rule.table,.string a.cmd.rule.key] 28)).alloc (.cells #[.string b.cmd.rule.name,.int .i64 b.cmd.rule.kind,.slice B2 b.cmd.rule.cols.length m2,.int .i64 b.cmd.rule.low,.int .i64 b.cmd.rule.high,.string b.cmd.rule.schema,.string b.cmd.rule.table,.string b.cmd.rule.key] 28))).drew)
      exact ⟨_,_,rfl,rfl,r2.1,r2.2,(((Aft.refl V).alloc _).alloc _).drew⟩
    ·go_wp2_with fail
     go_meet
     case rel =>
      have r2:=box2_rowsD ((Aft.refl ((V.alloc (.cells #[.string b.cmd.rule.name,.int .i64 b.cmd.rule.kind,.slice B2 b.cmd.rule.cols.length m2,.int .i64 b.cmd.rule.low,.int .i64 b.cmd.rule.high,.string b.cmd.rule.schema,.string b.cmd.rule.table,.string b.cmd.rule.key] 28)).alloc (.cells #[.string a.cmd.rule.name,.int .i64 a.cmd.rule.kind,.slice A2 a.cmd.rule.cols.length k2,.int .i64 a.cmd.rule.low,.int .i64 a.cmd.rule.high,.string a.cmd.rule.schema,.string a.cmd.rule.table,.string a.cmd.rule.key] 28))).drew)
      exact ⟨_,_,rfl,rfl,r2.2,r2.1,(((Aft.refl V).alloc _).alloc _).drew⟩
   case rest =>
    obtain ⟨gx,gY,rfl,rfl,rx,ry,aU⟩:=hcut
    clear z1 z2 z3 x0 x1 x2 x3 x4 x5 x6 x7 x8 x9 x10 x11 x12 x13 x14 x15 x16 y0 y1 y2 y3 y4 y5 y6 y7 y8 y9 y10 y11 y12 y13 y14 y15 y16 lbx lby
    obtain ⟨U,hU⟩:∃ U,U=wc:=⟨_,rfl⟩
    rw [← hU] at rx ry aU ⊢
    clear hU wc
    have HVU:=gH aU
    have HU:=gH (HAV.out.trans aU)
    clear aU
    have x0:=rx.cell (j:=0) rfl
    have x1:=rx.cell (j:=1) rfl
    have x2:=rx.cell (j:=2) rfl
    have x3:=rx.cell (j:=3) rfl
    have x4:=rx.cell (j:=4) rfl
    have x5:=rx.cell (j:=5) rfl
    have x6:=rx.cell (j:=6) rfl
    have x7:=rx.cell (j:=7) rfl
    have y0:=ry.cell (j:=0) rfl
    have y1:=ry.cell (j:=1) rfl
    have y2:=ry.cell (j:=2) rfl
    have y3:=ry.cell (j:=3) rfl
    have y4:=ry.cell (j:=4) rfl
    have y5:=ry.cell (j:=5) rfl
    have y6:=ry.cell (j:=6) rfl
    have y7:=ry.cell (j:=7) rfl
    clear rx ry
    go_upto_region 4 with fail
    go_cut [10] from 54 to 107 (fun c wx=>∃ r,c=.bool r∧(r=true↔a.cmd.rule=b.cmd.rule)∧Aft U wx)
    case first =>
     cases n0:(a.cmd.rule.name.toList==b.cmd.rule.name.toList)
     ·have HNN:=gH (show ¬ (a.cmd.rule=b.cmd.rule) from fun e=>eqL_no n0 (by rw [e]))
      go_wp2_with fail
      go_meet
      case rel=>exact ⟨false,rfl,⟨fun e=>(by cases e),fun e=>absurd e HNN.out⟩,Aft.refl _⟩
     ·cases n1:(a.cmd.rule.kind==b.cmd.rule.kind)
      ·have HNN:=gH (show ¬ (a.cmd.rule=b.cmd.rule) from fun e=>eqI_no n1 (by rw [e]))
       go_wp2_with fail
       go_meet
       case rel=>exact ⟨false,rfl,⟨fun e=>(by cases e),fun e=>absurd e HNN.out⟩,Aft.refl _⟩
      ·cases n2:(a.cmd.rule.low==b.cmd.rule.low)
       ·have HNN:=gH (show ¬ (a.cmd.rule=b.cmd.rule) from fun e=>eqI_no n2 (by rw [e]))
        go_wp2_with fail
        go_meet
        case rel=>exact ⟨false,rfl,⟨fun e=>(by cases e),fun e=>absurd e HNN.out⟩,Aft.refl _⟩
       ·cases n3:(a.cmd.rule.high==b.cmd.rule.high)
        ·have HNN:=gH (show ¬ (a.cmd.rule=b.cmd.rule) from fun e=>eqI_no n3 (by rw [e]))
         go_wp2_with fail
         go_meet
         case rel=>exact ⟨false,rfl,⟨fun e=>(by cases e),fun e=>absurd e HNN.out⟩,Aft.refl _⟩
        ·cases n4:(a.cmd.rule.schema.toList==b.cmd.rule.schema.toList)
         ·have HNN:=gH (show ¬ (a.cmd.rule=b.cmd.rule) from fun e=>eqL_no n4 (by rw [e]))
          go_wp2_with fail
          go_meet
          case rel=>exact ⟨false,rfl,⟨fun e=>(by cases e),fun e=>absurd e HNN.out⟩,Aft.refl _⟩
         ·cases n5:(a.cmd.rule.table.toList==b.cmd.rule.table.toList)
          ·have HNN:=gH (show ¬ (a.cmd.rule=b.cmd.rule) from fun e=>eqL_no n5 (by rw [e]))
           go_wp2_with fail
           go_meet
           case rel=>exact ⟨false,rfl,⟨fun e=>(by cases e),fun e=>absurd e HNN.out⟩,Aft.refl _⟩
          ·cases n6:(a.cmd.rule.key.toList==b.cmd.rule.key.toList)
           ·have HNN:=gH (show ¬ (a.cmd.rule=b.cmd.rule) from fun e=>eqL_no n6 (by rw [e]))
            go_wp2_with fail
            go_meet
            case rel=>exact ⟨false,rfl,⟨fun e=>(by cases e),fun e=>absurd e HNN.out⟩,Aft.refl _⟩
           ·have HEQ:=gH (show a.cmd.rule.cols=b.cmd.rule.cols→a.cmd.rule=b.cmd.rule from fun e=>rul_same ((eqL_iff _ _).1 n0) (eqI_yes n1) (eqI_yes n2) (eqI_yes n3) ((eqL_iff _ _).1 n4) ((eqL_iff _ _).1 n5) ((eqL_iff _ _).1 n6) e)
            have HCE:=gH (eqStrs A2 k2 a.cmd.rule.cols B2 m2 b.cmd.rule.cols U (HXA.out.aft HU.out).nms (HXB.out.aft HU.out).nms)
            go_wp2_with (first
             | (go_at_call 38;(with_reducible refine HCE.out.mono ?_);rintro e w5 ⟨a5,rr,rfl,hrr⟩;have H5:=gH a5;have H6:=gH hrr;clear a5 hrr))
            go_meet
            case rel=>exact ⟨rr,rfl,⟨fun e=>HEQ.out (H6.out.1 e),fun e=>H6.out.2 (by rw [e])⟩,H5.out⟩
    case rest =>
     obtain ⟨rR,rfl,hR,aT⟩:=hcut
     have HR10:=gH hR
     obtain ⟨T,hT⟩:∃ T,T=wc:=⟨_,rfl⟩
     rw [← hT] at aT ⊢
     clear hT wc hR x0 x1 x2 x3 x4 x5 x6 x7 y0 y1 y2 y3 y4 y5 y6 y7
     have HUT:=gH aT
     have HT:=gH (HU.out.trans aT)
     have rp:=HRA.out.aft ((HWV.out.trans HVU.out).trans aT)
     have rq:=HRB.out.aft ((HWV.out.trans HVU.out).trans aT)
     clear aT
     have p24:=rp.cell (j:=24) rfl
     have p25:=rp.cell (j:=25) rfl
     have p26:=rp.cell (j:=26) rfl
     have p27:=rp.cell (j:=27) rfl
     have p28:=rp.cell (j:=28) rfl
     have p29:=rp.cell (j:=29) rfl
     have p30:=rp.cell (j:=30) rfl
     have p31:=rp.cell (j:=31) rfl
     have p32:=rp.cell (j:=32) rfl
     have q24:=rq.cell (j:=24) rfl
     have q25:=rq.cell (j:=25) rfl
     have q26:=rq.cell (j:=26) rfl
     have q27:=rq.cell (j:=27) rfl
     have q28:=rq.cell (j:=28) rfl
     have q29:=rq.cell (j:=29) rfl
     have q30:=rq.cell (j:=30) rfl
     have q31:=rq.cell (j:=31) rfl
     have q32:=rq.cell (j:=32) rfl
     clear rp rq
     go_upto_region 5 with fail
     go_cut [11] from 108 to 168 (fun c wx=>∃ r,c=.bool r∧(r=true↔a.row=b.row)∧Aft T wx)
     case first =>
      cases n0:(a.row.kind==b.row.kind)
      ·have HNN:=gH (show ¬ (a.row=b.row) from fun e=>eqI_no n0 (by rw [e]))
       go_wp2_with fail
       go_meet
       case rel=>exact ⟨false,rfl,⟨fun e=>(by cases e),fun e=>absurd e HNN.out⟩,Aft.refl _⟩
      ·cases n1:(a.row.role.toList==b.row.role.toList)
       ·have HNN:=gH (show ¬ (a.row=b.row) from fun e=>eqL_no n1 (by rw [e]))
        go_wp2_with fail
        go_meet
        case rel=>exact ⟨false,rfl,⟨fun e=>(by cases e),fun e=>absurd e HNN.out⟩,Aft.refl _⟩
       ·cases n2:(a.row.schema.toList==b.row.schema.toList)
        ·have HNN:=gH (show ¬ (a.row=b.row) from fun e=>eqL_no n2 (by rw [e]))
         go_wp2_with fail
         go_meet
         case rel=>exact ⟨false,rfl,⟨fun e=>(by cases e),fun e=>absurd e HNN.out⟩,Aft.refl _⟩
        ·cases n3:(a.row.table.toList==b.row.table.toList)
         ·have HNN:=gH (show ¬ (a.row=b.row) from fun e=>eqL_no n3 (by rw [e]))
          go_wp2_with fail
          go_meet
          case rel=>exact ⟨false,rfl,⟨fun e=>(by cases e),fun e=>absurd e HNN.out⟩,Aft.refl _⟩
         ·cases n4:(a.row.col.toList==b.row.col.toList)
          ·have HNN:=gH (show ¬ (a.row=b.row) from fun e=>eqL_no n4 (by rw [e]))
           go_wp2_with fail
           go_meet
           case rel=>exact ⟨false,rfl,⟨fun e=>(by cases e),fun e=>absurd e HNN.out⟩,Aft.refl _⟩
          ·cases n5:eqV3 a.row.v.kind a.row.v.int a.row.v.text b.row.v.kind b.row.v.int b.row.v.text
           ·have HNN:=gH (show ¬ (a.row=b.row) from fun e=>(by rw [(eqVd_iff a.row.v b.row.v).2 (by rw [e])] at n5;cases n5))
            go_wp2_with fail
            go_meet
            case rel=>exact ⟨false,rfl,⟨fun e=>(by cases e),fun e=>absurd e HNN.out⟩,Aft.refl _⟩
           ·have HEQ:=gH (show a.row.row=b.row.row→a.row=b.row from fun e=>rop_same (eqI_yes n0) ((eqL_iff _ _).1 n1) ((eqL_iff _ _).1 n2) ((eqL_iff _ _).1 n3) e ((eqL_iff _ _).1 n4) ((eqVd_iff _ _).1 n5))
            have HCE:=gH (eqVal_any A3 k3 a.row.row B3 m3 b.row.row T (HXA.out.aft HT.out).vals (HXB.out.aft HT.out).vals)
            have HBE:=gH (eqVs_iff a.row.row b.row.row)
            go_wp2_with (first
             | (go_at_call 39;(with_reducible refine HCE.out.mono ?_);rintro e w5 ⟨rfl,a5⟩;have H5:=gH a5;clear a5))
            go_meet
            case rel=>exact ⟨eqVs a.row.row b.row.row,rfl,⟨fun e=>HEQ.out (HBE.out.1 e),fun e=>HBE.out.2 (by rw [e])⟩,H5.out⟩
     case rest =>
      obtain ⟨rO,rfl,hO,aS⟩:=hcut
      have HR11:=gH hO
      obtain ⟨S,hS⟩:∃ S,S=wc:=⟨_,rfl⟩
      rw [← hS] at aS ⊢
      clear hS wc hO p24 p25 p26 p27 p28 p29 p30 p31 p32 q24 q25 q26 q27 q28 q29 q30 q31 q32
      have HS:=gH (HT.out.trans aS)
      have rp:=HRA.out.aft (((HWV.out.trans HVU.out).trans HUT.out).trans aS)
      have rq:=HRB.out.aft (((HWV.out.trans HVU.out).trans HUT.out).trans aS)
      have rx:=HRX.out.aft ((HVU.out.trans HUT.out).trans aS)
      have ry:=HRY.out.aft ((HVU.out.trans HUT.out).trans aS)
      clear aS
      have p0:=rp.cell (j:=0) rfl
      have p1:=rp.cell (j:=1) rfl
      have p2:=rp.cell (j:=2) rfl
      have p3:=rp.cell (j:=3) rfl
      have p4:=rp.cell (j:=4) rfl
      have p22:=rp.cell (j:=22) rfl
      have p23:=rp.cell (j:=23) rfl
      have q0:=rq.cell (j:=0) rfl
      have q1:=rq.cell (j:=1) rfl
      have q2:=rq.cell (j:=2) rfl
      have q3:=rq.cell (j:=3) rfl
      have q4:=rq.cell (j:=4) rfl
      have q22:=rq.cell (j:=22) rfl
      have q23:=rq.cell (j:=23) rfl
      have x0:=rx.cell (j:=0) rfl
      have x6:=rx.cell (j:=6) rfl
      have x15:=rx.cell (j:=15) rfl
      have x16:=rx.cell (j:=16) rfl
      have y0:=ry.cell (j:=0) rfl
      have y6:=ry.cell (j:=6) rfl
      have y15:=ry.cell (j:=15) rfl
      have y16:=ry.cell (j:=16) rfl
      clear rp rq
      have HRX2:=gH rx
      have HRY2:=gH ry
      clear rx ry
      go_upto_region 6 with fail
      go_cut [12] from 169 to 208 (fun c wx=>∃ r,c=.bool r∧(r=true↔(a.kind=b.kind∧a.node=b.node∧a.n=b.n∧a.client=b.client∧a.number=b.number∧a.ck=b.ck∧a.cn=b.cn))∧wx=S)
      case first =>
       cases n0:(a.kind==b.kind)
       ·have HNN:=gH (show ¬ (a.kind=b.kind∧a.node=b.node∧a.n=b.n∧a.client=b.client∧a.number=b.number∧a.ck=b.ck∧a.cn=b.cn) from fun e=>eqI_no n0 (e.1))
        go_wp2_with fail
        go_meet
        case rel=>exact ⟨false,rfl,⟨fun e=>(by cases e),fun e=>absurd e HNN.out⟩,rfl⟩
       ·cases n1:(a.node==b.node)
        ·have HNN:=gH (show ¬ (a.kind=b.kind∧a.node=b.node∧a.n=b.n∧a.client=b.client∧a.number=b.number∧a.ck=b.ck∧a.cn=b.cn) from fun e=>eqI_no n1 (e.2.1))
         go_wp2_with fail
         go_meet
         case rel=>exact ⟨false,rfl,⟨fun e=>(by cases e),fun e=>absurd e HNN.out⟩,rfl⟩
        ·cases n2:(a.n==b.n)
         ·have HNN:=gH (show ¬ (a.kind=b.kind∧a.node=b.node∧a.n=b.n∧a.client=b.client∧a.number=b.number∧a.ck=b.ck∧a.cn=b.cn) from fun e=>eqI_no n2 (e.2.2.1))
          go_wp2_with fail
          go_meet
          case rel=>exact ⟨false,rfl,⟨fun e=>(by cases e),fun e=>absurd e HNN.out⟩,rfl⟩
         ·cases n3:(a.client==b.client)
          ·have HNN:=gH (show ¬ (a.kind=b.kind∧a.node=b.node∧a.n=b.n∧a.client=b.client∧a.number=b.number∧a.ck=b.ck∧a.cn=b.cn) from fun e=>eqI_no n3 (e.2.2.2.1))
           go_wp2_with fail
           go_meet
           case rel=>exact ⟨false,rfl,⟨fun e=>(by cases e),fun e=>absurd e HNN.out⟩,rfl⟩
          ·cases n4:(a.number==b.number)
           ·have HNN:=gH (show ¬ (a.kind=b.kind∧a.node=b.node∧a.n=b.n∧a.client=b.client∧a.number=b.number∧a.ck=b.ck∧a.cn=b.cn) from fun e=>eqI_no n4 (e.2.2.2.2.1))
            go_wp2_with fail
            go_meet
            case rel=>exact ⟨false,rfl,⟨fun e=>(by cases e),fun e=>absurd e HNN.out⟩,rfl⟩
           ·cases n5:eqG2 a.ck a.cn b.ck b.cn
            ·have HNN:=gH (show ¬ (a.kind=b.kind∧a.node=b.node∧a.n=b.n∧a.client=b.client∧a.number=b.number∧a.ck=b.ck∧a.cn=b.cn) from fun e=>(by rw [(eqG_iff _ _ _ _).2 e.2.2.2.2.2] at n5;cases n5))
             go_wp2_with fail
             go_meet
             case rel=>exact ⟨false,rfl,⟨fun e=>(by cases e),fun e=>absurd e HNN.out⟩,rfl⟩
            ·have HNN:=gH (show (a.kind=b.kind∧a.node=b.node∧a.n=b.n∧a.client=b.client∧a.number=b.number∧a.ck=b.ck∧a.cn=b.cn) from ⟨eqI_yes n0,eqI_yes n1,eqI_yes n2,eqI_yes n3,eqI_yes n4,(eqG_iff _ _ _ _).1 n5⟩)
             go_wp2_with fail
             go_meet
             case rel=>exact ⟨true,rfl,⟨fun _=>HNN.out,fun _=>rfl⟩,rfl⟩
      case rest =>
       obtain ⟨rA,rfl,hA,hwc⟩:=hcut
       rw [hwc]
       clear hwc wc
       have HR12:=gH hA
       clear hA
       cases rA
       ·have HNN:=gH (show ¬ a=b from fun e=>(by have:=HR12.out.2 (by rw [e];exact ⟨rfl,rfl,rfl,rfl,rfl,rfl,rfl⟩);cases this))
        go_wp2_with fail
        go_ret
        exact .no HNN.out HS.out
       ·cases rN
        ·have HNN:=gH (show ¬ a=b from fun e=>(by have:=HN7.out.2 (by rw [e];exact ⟨rfl,rfl,rfl,rfl,rfl⟩);cases this))
         go_wp2_with fail
         go_ret
         exact .no HNN.out HS.out
        ·cases rR
         ·have HNN:=gH (show ¬ a=b from fun e=>(by have:=HR10.out.2 (by rw [e]);cases this))
          go_wp2_with fail
          go_ret
          exact .no HNN.out HS.out
         ·cases rO
          ·have HNN:=gH (show ¬ a=b from fun e=>(by have:=HR11.out.2 (by rw [e]);cases this))
           go_wp2_with fail
           go_ret
           exact .no HNN.out HS.out
          ·have HR12:=gH (HR12.out.1 rfl)
           have HN7':=gH (HN7.out.1 rfl)
           have HR10':=gH (HR10.out.1 rfl)
           have HR11':=gH (HR11.out.1 rfl)
           have HCC:=gH (eqCols A k a.cmd.cols B m b.cmd.cols S (HXA.out.aft HS.out).cols (HXB.out.aft HS.out).cols)
           cases g0:(a.cmd.kind==b.cmd.kind)
           ·have HNN:=gH (show ¬ a=b from fun e=>eqI_no g0 (by rw [e]))
            go_wp2_with fail
            go_ret
            exact .no HNN.out HS.out
           ·by_cases hcol:a.cmd.cols=b.cmd.cols
            ·have HCE:=gH (HCC.out.mono fun e w1 (h:SameQ _ _ _ _)=>(show e=.returned (.bool true)∧Aft S w1 from ⟨by obtain ⟨_,r,he,hr⟩:=h;rw [he,hr.2 hcol],h.1⟩))
             have HCOL:=gH hcol
             clear hcol
             cases g1:(a.cmd.right==b.cmd.right)
             ·have HNN:=gH (show ¬ a=b from fun e=>eqI_no g1 (by rw [e]))
              go_wp2_with (first
               | (go_at_call 40;(with_reducible refine HCE.out.mono ?_);rintro e w5 ⟨rfl,a5⟩;have H5:=gH a5;have x15:=(HRX2.out.aft a5).cell (j:=15) rfl;have x16:=(HRX2.out.aft a5).cell (j:=16) rfl;have y15:=(HRY2.out.aft a5).cell (j:=15) rfl;have y16:=(HRY2.out.aft a5).cell (j:=16) rfl;clear a5))
              go_ret
              exact .no HNN.out (HS.out.trans H5.out)
             ·cases g2:(a.cmd.opt==b.cmd.opt)
              ·have HNN:=gH (show ¬ a=b from fun e=>eqB_no g2 (by rw [e]))
               go_wp2_with (first
                | (go_at_call 40;(with_reducible refine HCE.out.mono ?_);rintro e w5 ⟨rfl,a5⟩;have H5:=gH a5;have x15:=(HRX2.out.aft a5).cell (j:=15) rfl;have x16:=(HRX2.out.aft a5).cell (j:=16) rfl;have y15:=(HRY2.out.aft a5).cell (j:=15) rfl;have y16:=(HRY2.out.aft a5).cell (j:=16) rfl;clear a5))
               go_ret
               exact .no HNN.out (HS.out.trans H5.out)
              ·have HNN:=gH (show a=b from act_same HR12.out.1 HR12.out.2.1 HR12.out.2.2.1 HR12.out.2.2.2.1 HR12.out.2.2.2.2.1 (cmd_same (eqI_yes g0) HN7'.out.1 HN7'.out.2.1 HN7'.out.2.2.1 HN7'.out.2.2.2.1 HN7'.out.2.2.2.2 HCOL.out HR10'.out (eqI_yes g1) (eqB_yes g2)) HR12.out.2.2.2.2.2 HR11'.out)
               go_wp2_with (first
                | (go_at_call 40;(with_reducible refine HCE.out.mono ?_);rintro e w5 ⟨rfl,a5⟩;have H5:=gH a5;have x15:=(HRX2.out.aft a5).cell (j:=15) rfl;have x16:=(HRX2.out.aft a5).cell (j:=16) rfl;have y15:=(HRY2.out.aft a5).cell (j:=15) rfl;have y16:=(HRY2.out.aft a5).cell (j:=16) rfl;clear a5))
               go_ret
               exact .yes HNN.out (HS.out.trans H5.out)
            ·have HNN:=gH (show ¬ a=b from fun e=>hcol (by rw [e]))
             have HCE:=gH (HCC.out.mono fun e w1 (h:SameQ _ _ _ _)=>(show e=.returned (.bool false)∧Aft S w1 from ⟨by
              obtain ⟨_,r,he,hr⟩:=h
              rw [he]
              cases r
              ·rfl
              ·exact absurd (hr.1 rfl) hcol,h.1⟩))
             clear hcol
             go_wp2_with (first
              | (go_at_call 40;(with_reducible refine HCE.out.mono ?_);rintro e w5 ⟨rfl,a5⟩;have H5:=gH a5;clear a5))
             go_ret
             exact .no HNN.out (HS.out.trans H5.out)
end Go.Proofs.YtbdanlipghhgpaaGreatDoor
