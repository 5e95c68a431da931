/- slices.Equal at lists of identities. -/
import Derived.Test.YtjolcnopipbkhaaGreatDoorFo09
import Derived.Lib.SliceRun
import Derived.Laws.OwnMore
import Derived.Test.YtjolcnopipbkhaaGreatDoorRows
import Derived.ProofKit
import Derived.ShutString
import Derived.ChangeOld
import Derived.Below
import Derived.SizedLaws
import Derived.Deep.DeepHandedRow
import Derived.Deep.Slices
import Derived.Test.YtjolcnopipbkhaaGreatDoorCards
import Derived.Test.YtjolcnopipbkhaaGreatDoorTie
import Derived.LaidSub
import Derived.Lay
import Derived.LaidMore
namespace Go.Proofs.YtjolcnopipbkhaaGreatDoor
open Go.Proofs.Tryz
open Go.RowKit Go.Maps
set_option linter.unusedVariables false
set_option maxHeartbeats 100000000
set_option maxRecDepth 100000
theorem Yef (w:World)(v1 v2:Value)(l1 l2:List (List Nat))(h1:IRow w v1 l1)(h2:IRow w v2 l2)(hn1:l1.length≤1000000)(hn2:l2.length≤1000000)(o1:∀x∈l1,IdOk x)(o2:∀x∈l2,IdOk x):
    Rz 62 #[v1,v2] w (.bool (decide (l1=l2))):=by
 obtain⟨a1,c1,rfl,hc1,r1⟩:=h1
 obtain⟨a2,c2,rfl,hc2,r2⟩:=h2
 obtain⟨n,hn⟩:=xq l1.length
 obtain⟨m,hm⟩:=xq l2.length
 rw[←hn] at hn1⊢
 rw[←hm] at hn2⊢
 have HN:=Hd hn;have HM:=Hd hm
 have R1:=Hd r1;have R2:=Hd r2;have O1:=Hd o1;have O2:=Hd o2
 clear hn hm r1 r2 o1 o2 hc1 hc2
 by_cases hnm:n=m
 ·have hz:((n:Int) !=(m:Int))=false:=by rw[hnm];simp
  have HNM:=Hd hnm
  clear hnm
  go_enter func62,ntmps62
  go_wp2_with fail
  go_loopg [5,13] n (fun k v5 i wr=>∃j:Nat,j≤n∧k=n-j∧i=.int .i64 (j:Int)∧Hid (∀q (h:q<l1.length) (h':q<l2.length),q<j→l1[q]=l2[q])∧Hid (Dr w wr))
  case atStart=>exact⟨0,by omega,rfl,rfl,Hd (fun q _ _ hq=>by omega),Hd (Dr.refl w)⟩
  case round=>
   obtain⟨j,hj,rfl,rfl,hg,hdr⟩:=hrel
   by_cases hlt:j<n
   ·have hl1:j<l1.length:=by rw[←HN.o];exact hlt
    have hl2:j<l2.length:=by rw[←HM.o,←HNM.o];exact hlt
    obtain⟨b1,f1,rfl,_,e1⟩:=R1.o (fun e=>by rw[e] at hl1;simp at hl1)
    obtain⟨b2,f2,rfl,_,e2⟩:=R2.o (fun e=>by rw[e] at hl2;simp at hl2)
    have ok1:=O1.o _ (zG hl1)
    have ok2:=O2.o _ (zG hl2)
    have hlt2:j<m:=by rw[←HNM.o];exact hlt
    have LD1:Hid (∀q,Ld 26 ⟨b1,f1+j*32,none⟩ (wr.drewN q) (.agg (idA l1[j]))):=Hd (fun q=>by
     obtain⟨p,hp⟩:=hdr.o
     rw[hp]
     exact Xah _ b1 (f1+j*32) 26 _ _ underlying26 rfl (by rw[Xag,ok1.len];exact Xa3) (fun k u hu=>e1 j hl1 k u hu))
    have LD2:Hid (∀q,Ld 26 ⟨b2,f2+j*32,none⟩ (wr.drewN q) (.agg (idA l2[j]))):=Hd (fun q=>by
     obtain⟨p,hp⟩:=hdr.o
     rw[hp]
     exact Xah _ b2 (f2+j*32) 26 _ _ underlying26 rfl (by rw[Xag,ok2.len];exact Xa3) (fun k u hu=>e2 j hl2 k u hu))
    have EQ:Hid (∀w,(Op.equal 26 (.agg (idA l1[j])) (.agg (idA l2[j]))).run prog w=.ok (decide (l1[j]=l2[j])) w):=Hd (fun w=>Xqd w ok1 ok2)
    obtain⟨x1,hx1⟩:=xq (idA l1[j])
    obtain⟨x2,hx2⟩:=xq (idA l2[j])
    obtain⟨r,hr⟩:=xq (decide (l1[j]=l2[j]))
    rw[←hx1] at LD1 EQ
    rw[←hx2] at LD2 EQ
    rw[←hr] at EQ
    have HR:=Hd hr
    clear hx1 hx2 hr ok1 ok2 e1 e2
    go_upto_region 6 with fail
    refine wp_region_quiet_lit (by kernel_rfl) (by kernel_rfl) ?_
    quiet_step (fail)
    quiet_step (fail)
    quiet_step (fail)
    refine Xc0 26 rfl _ rfl ⟨_,.agg x1,rfl,?_,?_⟩
    ·rintro w2 ⟨q,rfl⟩
     exact LD1.o q
    quiet_step (fail)
    quiet_step (fail)
    quiet_step (fail)
    refine Xc0 26 rfl _ rfl ⟨_,.agg x2,rfl,?_,?_⟩
    ·rintro w2 ⟨q,rfl⟩
     exact LD2.o q
    refine Xj5 26 rfl _ _ rfl Xeo ⟨_,_,_,rfl,rfl,EQ.o,?_⟩
    refine wpQuiet_nil ?_
    rintro _ ⟨nq,rfl⟩
    clear LD1 LD2 EQ
    cases r
    ·have NE:Hid (decide (l1=l2)=false):=Hd (by
        rw[decide_eq_false_iff_not]
        intro e
        have:=of_decide_eq_false HR.o.symm
        subst e
        exact this rfl)
     clear HR hl1 hl2
     go_wp2_with fail
     go_ret
     obtain⟨p,hp⟩:=hdr.o
     exact⟨by rw[NE.o];rfl,p+nq,by rw[hp,Xb2]⟩
    ·have G2:Hid (∀q (h:q<l1.length) (h':q<l2.length),q<j+1→l1[q]=l2[q]):=Hd (fun q h h' hq=>by
        by_cases e:q=j
        ·subst e;exact of_decide_eq_true HR.o.symm
        ·exact hg.o q h h' (by omega))
     clear HR hl1 hl2 hg
     go_wp2_with fail
     go_roundg (n-(j+1))
     case measure=>omega
     case rel=>
      obtain⟨p,hp⟩:=hdr.o
      exact⟨j+1,by omega,rfl,by go_num,G2,Hd ⟨p+nq,by rw[hp,Xb2]⟩⟩
   ·obtain rfl:j=n:=by omega
    have EQ:Hid (decide (l1=l2)=true):=Hd (by
     rw[decide_eq_true_iff]
     exact List.ext_getElem (by rw[←HN.o,←HM.o];exact HNM.o) (fun q h h'=>hg.o q h h' (by rw[HN.o];exact h)))
    clear hg
    go_wp2_with fail
    go_ret
    exact⟨by rw[EQ.o];rfl,hdr.o⟩
 ·have hz:((n:Int) !=(m:Int))=true:=by simp;omega
  have NE:Hid (decide (l1=l2)=false):=Hd (by
   rw[decide_eq_false_iff_not]
   intro e
   exact hnm (by rw[HN.o,HM.o,e]))
  clear hnm
  go_enter func62,ntmps62
  go_wp2_with fail
  go_ret
  exact⟨by rw[NE.o];rfl,Dr.refl w⟩
def Xbi (l:List (List Nat)):List Value:=l.flatMap fun x=>x.map U
theorem Xhe:∀(l:List (List Nat)),(∀x∈l,IdOk x)→(Xbi l).length=l.length*32
 |[],_=>rfl
 |x::l,h=>by
  show(x.map U++Xbi l).length=_
  rw[List.length_append,List.length_map,(h x (List.mem_cons_self ..)).len,Xhe l (fun y hy=>h y (List.mem_cons_of_mem _ hy)),List.length_cons]
  omega
theorem Xgd:∀(l:List (List Nat)) (q k:Nat) (hq:q<l.length),(∀x∈l,IdOk x)→k<32→(Xbi l)[q*32+k]?=((l[q]).map U)[k]?
 |x::l,0,k,_,h,hk=>by
  show(x.map U++Xbi l)[0*32+k]?=_
  rw[List.getElem?_append_left (by rw[List.length_map,(h x (List.mem_cons_self ..)).len];omega),Nat.zero_mul,Nat.zero_add]
  rfl
 |x::l,q+1,k,hq,h,hk=>by
  show(x.map U++Xbi l)[(q+1)*32+k]?=_
  rw[List.getElem?_append_right (by rw[List.length_map,(h x (List.mem_cons_self ..)).len];omega),List.length_map,(h x (List.mem_cons_self ..)).len,show(q+1)*32+k-32=q*32+k by omega]
  exact Xgd l q k (by simpa using hq) (fun y hy=>h y (List.mem_cons_of_mem _ hy)) hk
theorem Xr4 (l:List (List Nat)):∀u∈Xbi l,u.oneCell'=true:=by
 intro u hu
 obtain⟨x,_,hx⟩:=List.mem_flatMap.1 hu
 obtain⟨y,_,rfl⟩:=List.mem_map.1 hx
 rfl
theorem Xt7 {w:World}{base:Nat}{v:Value}{l:List (List Nat)}(ho:∀x∈l,IdOk x)(h:w.ownsRow base 26 32 v l.length (Xbi l)):IRow w v l:=by
 rcases h.2 with⟨rfl,h0⟩|⟨g,cap,cur,rfl,hb,hg,hc,_,hs,ht⟩
 ·exact⟨none,0,by rw[h0],by rw[h0];exact zL _,fun hne=>absurd (List.length_eq_zero_iff.1 h0) hne⟩
 ·refine⟨some ⟨g,0,none⟩,cap,rfl,hc,fun _=>⟨g,0,rfl,zY hg,fun j hj k u hu=>?_⟩⟩
  have hk:k<32:=by
   have:=(Array.getElem?_eq_some_iff.1 hu).1
   rw[Xag,(ho _ (zG hj)).len] at this
   exact this
  rw[Nat.zero_add,cell_of_row w g _ _ _ _ hg]
  have e1:(cur.toList.take (l.length*32))[j*32+k]?=some u:=by
   rw[ht,Xgd l j k hj ho hk]
   unfold idA at hu
   rw[List.getElem?_toArray] at hu
   exact hu
  rw[List.getElem?_take,qP (by omega)] at e1
  simpa using e1
theorem IRow.cells {w:World}{b off n c:Nat}{l:List (List Nat)}(ho:∀x∈l,IdOk x)(h:∀j (h:j<l.length) k u,(idA l[j])[k]?=some u→w.cell? ⟨b,off+j*32+k,none⟩=some u):∀j u,(Xbi l)[j]?=some u→w.cell? ((⟨b,off,none⟩:Addr).add j)=some u:=by
 intro j u hu
 have hj:j<l.length*32:=by rw[←Xhe l ho];exact(List.getElem?_eq_some_iff.1 hu).1
 obtain⟨q,hq⟩:=xq (j/32)
 obtain⟨k,hk⟩:=xq (j%32)
 have e:j=q*32+k:=by omega
 have hql:q<l.length:=by omega
 rw[e,Xgd l q k hql ho (by omega)] at hu
 rw[Addr.add_mid,e,←Nat.add_assoc]
 exact h q hql k u (by unfold idA;rw[List.getElem?_toArray];exact hu)
theorem SRow.cells {w:World}{b off:Nat}{l:List ByteArray}(h:∀j (h:j<l.length),w.cell? ⟨b,off+j,none⟩=some (.string l[j])):∀j u,(l.map Value.string)[j]?=some u→w.cell? ((⟨b,off,none⟩:Addr).add j)=some u:=by
 intro j u hu
 have hj:j<l.length:=by have:=(List.getElem?_eq_some_iff.1 hu).1;simpa using this
 rw[List.getElem?_map,List.getElem?_eq_getElem hj] at hu
 cases hu
 rw[Addr.add_mid]
 exact h j hj
theorem Xzy:(prog.info? 26).map (fun i=>(i.zero,i.size,i.bytes))=some (some (.agg (idA zero32)),32,32):=by kernel_rfl
theorem Xft (w:World)(base:Nat)(e:TypeId)(size:Nat)(hb:base≤w.heap.size):(w.alloc (.cells #[] e)).ownsRow base e size (.slice (some ⟨w.heap.size,0,none⟩) 0 0) 0 []:=
 ⟨by simp,.inr ⟨w.heap.size,0,#[],rfl,hb,zN w _,zL _,Nat.zero_le _,by simp,by simp⟩⟩
theorem Yg5 (w:World)(v1 v2:Value)(l1 l2:List ByteArray)(h1:SRow w v1 l1)(h2:SRow w v2 l2)(hn1:l1.length≤1000000)(hn2:l2.length≤1000000):
    Rz 61 #[v1,v2] w (.bool (decide (l1=l2))):=by
 obtain⟨a1,c1,rfl,hc1,r1⟩:=h1
 obtain⟨a2,c2,rfl,hc2,r2⟩:=h2
 obtain⟨n,hn⟩:=xq l1.length
 obtain⟨m,hm⟩:=xq l2.length
 rw[←hn] at hn1⊢
 rw[←hm] at hn2⊢
 have HN:=Hd hn;have HM:=Hd hm
 have R1:=Hd r1;have R2:=Hd r2
 clear hn hm r1 r2 hc1 hc2
 by_cases hnm:n=m
 ·have hz:((n:Int) !=(m:Int))=false:=by rw[hnm];simp
  have HNM:=Hd hnm
  clear hnm
  go_enter func61,ntmps61
  go_wp2_with fail
  go_loopg [5,13] n (fun k v5 i wr=>∃j:Nat,j≤n∧k=n-j∧i=.int .i64 (j:Int)∧Hid (∀q (h:q<l1.length) (h':q<l2.length),q<j→l1[q]=l2[q])∧Hid (Dr w wr))
  case atStart=>exact⟨0,by omega,rfl,rfl,Hd (fun q _ _ hq=>by omega),Hd (Dr.refl w)⟩
  case round=>
   obtain⟨j,hj,rfl,rfl,hg,hdr⟩:=hrel
   by_cases hlt:j<n
   ·have hl1:j<l1.length:=by rw[←HN.o];exact hlt
    have hl2:j<l2.length:=by rw[←HM.o,←HNM.o];exact hlt
    obtain⟨b1,f1,rfl,_,e1⟩:=R1.o (fun e=>by rw[e] at hl1;simp at hl1)
    obtain⟨b2,f2,rfl,_,e2⟩:=R2.o (fun e=>by rw[e] at hl2;simp at hl2)
    have hlt2:j<m:=by rw[←HNM.o];exact hlt
    obtain⟨x1,hx1⟩:=xq (l1[j])
    obtain⟨x2,hx2⟩:=xq (l2[j])
    have k1:wr.cell? ⟨b1,f1+j,none⟩=some (.string x1):=by obtain⟨p,hp⟩:=hdr.o;rw[hp,hx1];exact e1 j hl1
    have k2:wr.cell? ⟨b2,f2+j,none⟩=some (.string x2):=by obtain⟨p,hp⟩:=hdr.o;rw[hp,hx2];exact e2 j hl2
    have HX1:=Hd hx1;have HX2:=Hd hx2
    clear hx1 hx2 e1 e2
    by_cases hx:x1=x2
    ·have G2:Hid (∀q (h:q<l1.length) (h':q<l2.length),q<j+1→l1[q]=l2[q]):=Hd (fun q h h' hq=>by
        by_cases e:q=j
        ·subst e;rw[←HX1.o,←HX2.o];exact hx
        ·exact hg.o q h h' (by omega))
     have e:(x1.toList==x2.toList)=true:=by rw[hx];exact beq_self_eq_true _
     clear HX1 HX2 hx hg hl1 hl2
     go_upto_region 6 with fail
     go_quiet (fail)
     go_wp2_with fail
     go_roundg (n-(j+1))
     case measure=>omega
     case rel=>
      obtain⟨p,hp⟩:=hdr.o
      exact⟨j+1,by omega,rfl,by go_num,G2,Hd ⟨p+nq,by rw[hp,Xb2]⟩⟩
    ·have NE:Hid (decide (l1=l2)=false):=Hd (by
        rw[decide_eq_false_iff_not]
        intro e
        subst e
        exact hx (HX1.o.trans HX2.o.symm))
     have e:(x1.toList==x2.toList)=false:=by
      rw[beq_eq_false_iff_ne,ByteArray.toList_eq,ByteArray.toList_eq]
      exact fun h=>hx (ByteArray.ext (Array.toList_inj.1 h))
     clear HX1 HX2 hx hg hl1 hl2
     go_upto_region 6 with fail
     go_quiet (fail)
     go_wp2_with fail
     go_ret
     obtain⟨p,hp⟩:=hdr.o
     exact⟨by rw[NE.o];rfl,p+nq,by rw[hp,Xb2]⟩
   ·obtain rfl:j=n:=by omega
    have EQ:Hid (decide (l1=l2)=true):=Hd (by
     rw[decide_eq_true_iff]
     exact List.ext_getElem (by rw[←HN.o,←HM.o];exact HNM.o) (fun q h h'=>hg.o q h h' (by rw[HN.o];exact h)))
    clear hg
    go_wp2_with fail
    go_ret
    exact⟨by rw[EQ.o];rfl,hdr.o⟩
 ·have hz:((n:Int) !=(m:Int))=true:=by simp;omega
  have NE:Hid (decide (l1=l2)=false):=Hd (by
   rw[decide_eq_false_iff_not]
   intro e
   exact hnm (by rw[HN.o,HM.o,e]))
  clear hnm
  go_enter func61,ntmps61
  go_wp2_with fail
  go_ret
  exact⟨by rw[NE.o];rfl,Dr.refl w⟩
theorem Xn4 {T:TypeId}{n:Nat}(hu:prog.underlying T=some (.array n 5))(hc:prog.cellsOf T=n)(D:Nat){l:List Nat}(hl:l.length=n)(hx:∀x∈l,x<256):prog.keyLits (D+2) T (l.map U)=some (Xcn l):=by
 rw[Xhu hu,qP (by rw[List.length_map,hl,hc])]
 rw[Xkw _ (fun i=>[Lit.int .u8 (l.getD i 0:Int)])]
 ·simp only[Option.map_some,Option.some.injEq]
  unfold Xcn
  have:(List.range n).map (fun i=>[Lit.int .u8 (l.getD i 0:Int)])=(l.map fun n:Nat=>[Lit.int .u8 (n:Int)]):=by
   apply List.ext_getElem
   ·simp[hl]
   ·intro i h1 h2
    simp at h1
    simp[List.getD,List.getElem?_eq_getElem (show i<l.length by rw[hl];exact h1)]
  rw[this]
  clear this hx hl
  induction l with
  |nil=>rfl
  |cons x l ih=>simp[ih]
 ·intro i hi
  have hi':i<l.length:=by rw[hl];exact List.mem_range.1 hi
  have hx:=hx _ (zG hi')
  have e:((l.map U).drop (i*prog.cellsOf 5)).take (prog.cellsOf 5)=[Value.int .u8 (l[i]:Int)]:=by
   rw[Ygj,Nat.mul_one,List.drop_eq_getElem_cons (by simpa using hi')]
   simp[U]
  rw[e,Xhb underlying5 (by simp[Lit.wf,IntKind.min,IntKind.max,IntKind.signed,IntKind.bits];omega)]
  simp[List.getD,List.getElem?_eq_getElem hi']
theorem Xh3 {T:TypeId}{n:Nat}(hu:prog.underlying T=some (.array n 5))(hc:prog.cellsOf T=n)(hk:prog.keyTypeAt 3 T=true)(w:World){l m:List Nat}(hl:l.length=n)(hlx:∀x∈l,x<256)(hm:m.length=n)(hmx:∀x∈m,x<256):
    (Op.equal T (.agg (idA l)) (.agg (idA m))).run prog w=.ok (decide (l=m)) w:=by
 obtain⟨r,hr,hiff⟩:=run_equalIn_deep (P:=prog) 9997 3 T hk w 2 2 (.agg (idA l)) (.agg (idA m)) (Xcn l) (Xcn m) (by simp[Value.formed,hu,hc,Xag,hl]) (by simp[Value.formed,hu,hc,Xag,hm]) (Xn4 hu hc 0 hl hlx) (Xn4 hu hc 0 hm hmx)
 have e:r=decide (l=m):=by
  rw[Bool.eq_iff_iff,hiff,decide_eq_true_iff]
  exact⟨Xf0,fun e=>by rw[e]⟩
 rw[←e]
 exact hr
theorem Yat (w:World){l m:List Nat}(hl:B16 l)(hm:B16 m):(Op.equal 35 (.agg (idA l)) (.agg (idA m))).run prog w=.ok (decide (l=m)) w:=
 Xh3 underlying35 (by kernel_rfl) (by kernel_rfl) w hl.len hl.lt hm.len hm.lt
theorem Ygf (w:World){l m:List Nat}(hl:B16 l)(hm:B16 m):(Op.equal 22 (.agg (idA l)) (.agg (idA m))).run prog w=.ok (decide (l=m)) w:=
 Xh3 underlying22 (by kernel_rfl) (by kernel_rfl) w hl.len hl.lt hm.len hm.lt
theorem Xp6:prog.eqGuardType prog.depth 35=false:=by kernel_rfl
theorem Yab:prog.eqGuardType prog.depth 22=false:=by kernel_rfl
theorem Yei:prog.eqGuardType prog.depth 37=false:=by kernel_rfl
theorem Xzd (D:Nat){h:Int}(hh:(Lit.int .i64 h).wf=true){r:List Nat}(hr:B16 r):prog.keyLits (D+3) 37 (pkC h r).toList=some (Lit.int .i64 h::Xcn r):=by
 rw[Xl8 underlying37,qP ⟨by rw[Array.length_toList,Xfc hr.len];kernel_rfl,by kernel_rfl⟩]
 have h1:prog.keyLits (D+2) 3 [.int .i64 h]=some [.int .i64 h]:=Xhb underlying3 hh
 have h2:=Xn4 (T:=22) underlying22 (by kernel_rfl) D hr.len hr.lt
 have c1:prog.cellsOf 3=1:=by kernel_rfl
 have c2:prog.cellsOf 22=16:=by kernel_rfl
 have e1:((pkC h r).toList.drop 0).take 1=[.int .i64 h]:=rfl
 have e2:((pkC h r).toList.drop 1).take 16=r.map U:=by
  show(r.map U).take 16=_
  exact List.take_of_length_le (by rw[List.length_map,hr.len];exact zL _)
 simp only[List.mapM_cons,List.mapM_nil,c1,c2,e1,e2,h1,h2]
 simp
theorem Ym0 (w:World){h g:Int}(hh:(Lit.int .i64 h).wf=true)(hg:(Lit.int .i64 g).wf=true){l m:List Nat}(hl:B16 l)(hm:B16 m):(Op.equal 37 (.agg (pkC h l)) (.agg (pkC g m))).run prog w=.ok (decide (h=g)&&decide (l=m)) w:=by
 obtain⟨r,hr,hiff⟩:=run_equalIn_deep (P:=prog) 9996 4 37 (by kernel_rfl) w 3 3 (.agg (pkC h l)) (.agg (pkC g m)) _ _ (by simp[Value.formed,underlying37,Xfc hl.len];kernel_rfl) (by simp[Value.formed,underlying37,Xfc hm.len];kernel_rfl) (Xzd 0 hh hl) (Xzd 0 hg hm)
 have e:r=(decide (h=g)&&decide (l=m)):=by
  rw[Bool.eq_iff_iff,hiff,Bool.and_eq_true,decide_eq_true_iff,decide_eq_true_iff]
  constructor
  ·intro e
   injection e with e1 e2
   injection e1 with _ e3
   exact⟨e3,Xf0 e2⟩
  ·rintro⟨rfl,rfl⟩;rfl
 rw[←e]
 exact hr
theorem Xe3 {P:Program}{ops:Array Oper}{rest:List Oper}{o:Oper}{a:Act}{w w':World}{Q:Exit→Act→World→Prop}{v:Value}(hw:Region.wanted o (yielded ops a.tmps)=true)(h:(execOp a.eval o).run P w=.ok (.value v) w')(hk:wpList P ops Q rest (a.put o.dst v) w'):wpList P ops Q (o::rest) a w:=by
 refine wpList_step fun K hK=>?_
 rw[qP hw]
 unfold Oper.wp
 rw[h]
 exact hK _ _ hk
theorem Xe4 {P:Program}{ops:Array Oper}{rest:List Oper}{o:Oper}{a:Act}{w:World}{Q:Exit→Act→World→Prop}(t:TypeId){t':TypeId}(x y:Operand)(ho:o.op=.binOp .eql t x y t')(hw:Region.wanted o (yielded ops a.tmps)=true)(hm:P.eqGuardType P.depth t=false)
    (h:∃xs ys r,a.eval x=.agg xs∧a.eval y=.agg ys∧(Op.equal t (.agg xs) (.agg ys)).run P w=.ok r w∧wpList P ops Q rest (a.put o.dst (.bool r)) w):wpList P ops Q (o::rest) a w:=by
 obtain⟨xs,ys,r,h1,h2,h3,h4⟩:=h
 exact Xe3 hw (Xh1 ho h1 h2 hm h3) h4
theorem Xgy {P:Program}{ops:Array Oper}{rest:List Oper}{o:Oper}{a:Act}{w:World}{Q:Exit→Act→World→Prop}(t:TypeId){t':TypeId}(x y:Operand)(ho:o.op=.binOp .neq t x y t')(hw:Region.wanted o (yielded ops a.tmps)=true)(hm:P.eqGuardType P.depth t=false)
    (h:∃xs ys r,a.eval x=.agg xs∧a.eval y=.agg ys∧(Op.equal t (.agg xs) (.agg ys)).run P w=.ok r w∧wpList P ops Q rest (a.put o.dst (.bool !r)) w):wpList P ops Q (o::rest) a w:=by
 obtain⟨xs,ys,r,h1,h2,h3,h4⟩:=h
 exact Xe3 hw (Xoc ho h1 h2 hm h3) h4
theorem Xb0 {P:Program}{ops:Array Oper}{rest:List Oper}{o:Oper}{a:Act}{w:World}{Q:Exit→Act→World→Prop}(ty:TypeId)(x:Operand)(ho:o.op=.load ty x)(hw:Region.wanted o (yielded ops a.tmps)=true)(h:∃ad v,a.eval x=.pointer (some ad)∧(loadVar ty ad).run P w=.ok v w∧wpList P ops Q rest (a.put o.dst v) w):wpList P ops Q (o::rest) a w:=by
 obtain⟨ad,v,h1,h2,h3⟩:=h
 exact Xe3 hw (Xai ho h1 h2) h3
theorem toList_eq {x y:ByteArray}(h:x=y):(x.toList==y.toList)=true:=by rw[h];exact beq_self_eq_true _
theorem Xxx {x y:ByteArray}(h:¬x=y):(x.toList==y.toList)=false:=by
 rw[beq_eq_false_iff_ne,ByteArray.toList_eq,ByteArray.toList_eq]
 exact fun e=>h (ByteArray.ext (Array.toList_inj.1 e))
theorem Xr2 {x y:Int}(h:x=y):(x==y)=true:=by rw[h];exact beq_self_eq_true _
theorem Xmb {u v w:World}(h:Dr u v)(h':Dr v w):Dr u w:=by
 obtain⟨p,rfl⟩:=h
 obtain⟨q,rfl⟩:=h'
 exact⟨p+q,Xb2 _ _ _⟩
theorem Xze {l m:List ByteArray}(h:l.map bs=m.map bs):l=m:=by
 have:=congrArg (List.map Xaq) h
 simpa [Function.comp_def,Xd3] using this
def cn0:Cn:=⟨⟨#[]⟩,List.replicate 16 0,0,[],⟨#[]⟩,[],zero32,⟨#[]⟩,⟨#[]⟩,0,0,List.replicate 16 0,0,⟨#[]⟩⟩
theorem Xh9:cn0.cells (.slice none 0 0) (.slice none 0 0)=Tryz.zeroCells39:=by kernel_rfl
theorem Xgv:cn0.Ok:=⟨⟨by simp[cn0],fun x hx=>by simp[cn0] at hx;omega⟩,⟨by simp[cn0],fun x hx=>by simp[cn0] at hx;omega⟩,⟨by simp[cn0,zero32],fun x hx=>by simp[cn0,zero32] at hx;omega⟩,fun x hx=>(by cases hx),by decide,by decide,by decide,by decide⟩
theorem Xd4 (X:List Value)(u v:Value)(Y:List Value)(n:Nat)(hn:X.length=n):(X++(u::Y)).toArray.setIfInBounds n v=(X++(v::Y)).toArray:=by
 subst hn
 simp
theorem Xsx {c:Cn}(h:c.Ok)(gv rv g':Value):(c.cells gv rv).setIfInBounds 18 g'=c.cells g' rv:=by
 have:=Xd4 (([.string c.name]:List Value)++(c.author.map U++([.int .i64 c.date]:List Value))) gv g' ([.string c.subject,rv]++(c.sup.map U++(([.string c.ctl,.string c.dist,.int .i64 c.number,.int .i64 c.height]:List Value)++(c.root.map U++([.int .i64 c.leaf,.string c.body]:List Value))))) 18 (by simp[h.author.len])
 simpa [Cn.cells,List.append_assoc] using this
theorem Xsw {c:Cn}(h:c.Ok)(gv rv r':Value):(c.cells gv rv).setIfInBounds 20 r'=c.cells gv r':=by
 have:=Xd4 (([.string c.name]:List Value)++(c.author.map U++([.int .i64 c.date,gv,.string c.subject]:List Value))) rv r' (c.sup.map U++(([.string c.ctl,.string c.dist,.int .i64 c.number,.int .i64 c.height]:List Value)++(c.root.map U++([.int .i64 c.leaf,.string c.body]:List Value)))) 20 (by simp[h.author.len])
 simpa [Cn.cells,List.append_assoc] using this
theorem CB.set18 {w:World}{b:Nat}{c:Cn}{gv rv:Value}{T:TypeId}(h:CB w b c gv rv T)(ok:c.Ok)(g':Value):CB (w.setCell ⟨b,18,none⟩ g') b c g' rv T:=by
 have:=Xd8 h 18 g'
 rw[Xsx ok] at this
 exact this
theorem CB.set20 {w:World}{b:Nat}{c:Cn}{gv rv:Value}{T:TypeId}(h:CB w b c gv rv T)(ok:c.Ok)(r':Value):CB (w.setCell ⟨b,20,none⟩ r') b c gv r' T:=by
 have:=Xd8 h 20 r'
 rw[Xsw ok] at this
 exact this
theorem Yi9 (l:List Value)(h:∀v∈l,v.oneCell'=true):l.toArray.all (·.oneCell')=true:=by
 rw[Array.all_eq_true']
 intro x hx
 exact h x (by simpa using hx)
theorem Xch (c:Cn)(gv rv:Value)(hg:gv.oneCell'=true)(hr:rv.oneCell'=true):(c.cells gv rv).all (·.oneCell')=true:=by
 refine Yi9 _ (fun v hv=>?_)
 simp only[List.mem_append,List.mem_cons,List.not_mem_nil,or_false,List.mem_map] at hv
 rcases hv with rfl|⟨y,_,rfl⟩|(rfl|rfl|rfl|rfl)|⟨y,_,rfl⟩|(rfl|rfl|rfl|rfl)|⟨y,_,rfl⟩|(rfl|rfl)
 all_goals first|rfl|assumption
theorem Xf7 {w w':World}{base b:Nat}{e:TypeId}{size n:Nat}{v:Value}{xs:List Value}(h:w.ownsRow base e size v n xs)(hf:Fr1 b w w')(hb:b<base):w'.ownsRow base e size v n xs:=by
 rcases h.2 with⟨rfl,h0⟩|⟨g,cap,cur,rfl,hg,hgb,r⟩
 ·exact⟨h.1,.inl ⟨rfl,h0⟩⟩
 ·exact⟨h.1,.inr ⟨g,cap,cur,rfl,hg,(hf.other g (zY hgb) (by omega)).trans hgb,r⟩⟩
theorem Xew {w:World}{base base':Nat}{e:TypeId}{size n:Nat}{v:Value}{xs:List Value}(h:w.ownsRow base e size v n xs)(hb:base'≤base):w.ownsRow base' e size v n xs:=by
 rcases h.2 with⟨rfl,h0⟩|⟨g,cap,cur,rfl,hg,r⟩
 ·exact⟨h.1,.inl ⟨rfl,h0⟩⟩
 ·exact⟨h.1,.inr ⟨g,cap,cur,rfl,by omega,r⟩⟩
theorem Xex {w:World}{base:Nat}{e:TypeId}{size n:Nat}{v:Value}{xs:List Value}(h:w.ownsRow base e size v n xs):∃a m c,v=.slice a m c:=by
 rcases h.2 with⟨e,_⟩|⟨g,cap,_,e,_⟩
 ·exact⟨_,_,_,e⟩
 ·exact⟨_,_,_,e⟩
def Yl8 (c:Cn)(w:World)(e:Ending)(w':World):Prop:=
 ∃gv rv,e=.returned (.agg (c.cells gv rv))∧w'.ownsRow w.heap.size 9 1 gv c.groups.length (c.groups.map Value.string)∧w'.ownsRow w.heap.size 26 32 rv c.refs.length (Xbi c.refs)∧Bw w w'
theorem Xgc {x y:Int}(h:x=y):(x !=y)=false:=by rw[h];simp
theorem Xra:(prog.info? 28).map (·.size)=some 75:=by kernel_rfl
theorem Xtm:(prog.info? 22).map (·.size)=some 16:=by kernel_rfl
theorem CB.author16 {w:World}{b:Nat}{c:Cn}{gv rv:Value}{T:TypeId}(h:CB w b c gv rv T)(hc:c.Ok):Ld 22 ⟨b,1,none⟩ w (.agg (idA c.author)):=Xah w b 1 22 _ _ underlying22 rfl (by rw[Xag,hc.author.len];exact Xtm) (h.part 1 (Xqn c gv rv))
theorem CB.root16 {w:World}{b:Nat}{c:Cn}{gv rv:Value}{T:TypeId}(h:CB w b c gv rv T)(hc:c.Ok):Ld 22 ⟨b,57,none⟩ w (.agg (idA c.root)):=Xah w b 57 22 _ _ underlying22 rfl (by rw[Xag,hc.root.len];exact Xtm) (h.part 57 (Ya7 hc gv rv))
theorem CB.allR {w:World}{b:Nat}{c:Cn}{gv rv:Value}{T:TypeId}(h:CB w b c gv rv T)(hc:c.Ok):Ld 28 ⟨b,0,none⟩ w (.agg (c.cells gv rv)):=
 Xah w b 0 28 _ _ underlying28 rfl (by rw[Xa2 hc];exact Xra) (Xgg w b T _ _ h)
theorem Xcf {P:Program}{o:Oper}{a:Act}{w:World}{v:Value}{t:TypeId}{ps:Array (Nat×Operand)}{vs:Array (Nat×Value)}(ho:o.op=.build t ps)(hv:ps.map (fun(i,x)=>(i,a.eval x))=vs)(h:(Instr.build t vs).run P w=.ok v w):(execOp a.eval o).run P w=.ok (.value v) w:=by
 subst hv
 exact Xc1 ho h
theorem Xcg {P:Program}{o:Oper}{a:Act}{w w':World}{s x:Operand}{t:TypeId}{v u v':Value}(ho:o.op=.call {callee:=.builtin .append,args:=#[s,x],argTypes:=#[t,t]})(hs:a.eval s=v)(hx:a.eval x=u)(h:(Builtin.append_ #[t,t] o.type #[v,u]).run P w=.ok v' w'):(execOp a.eval o).run P w=.ok (.value v') w':=by
 unfold execOp
 simp only[ho,resolve,invoke,builtin,Sem.run_bind,Sem.run_pure,Result.andThen_ok,List.map_toArray,List.map_cons,List.map_nil,hs,hx,h]
theorem Xh2 {P:Program}{o:Oper}{a:Act}(w:World){t e:TypeId}(ho:o.op=.buildSlice t 0 #[])(h:(Instr.buildSlice t 0 #[]).run P w=.ok (.slice (some ⟨w.heap.size,0,none⟩) 0 0) (w.alloc (.cells #[] e))):(execOp a.eval o).run P w=.ok (.value (.slice (some ⟨w.heap.size,0,none⟩) 0 0)) (w.alloc (.cells #[] e)):=by
 unfold execOp
 rw[ho]
 simp only[List.map_toArray,List.map_nil]
 rw[Sem.run_bind,h]
 rfl
theorem Yln (w:World):(Instr.buildSlice 23 0 #[]).run prog w=.ok (.slice (some ⟨w.heap.size,0,none⟩) 0 0) (w.alloc (.cells #[] 9)):=by kernel_rfl
theorem Yiw (w:World):(Instr.buildSlice 24 0 #[]).run prog w=.ok (.slice (some ⟨w.heap.size,0,none⟩) 0 0) (w.alloc (.cells #[] 26)):=by kernel_rfl
theorem Xu4 {P:Program}(w:World)(t ty e:TypeId)(i:TypeInfo)(ht:P.underlying t=some (.slice e))(hi:P.info? e=some i)(g c:Nat):(Builtin.append_ #[t,t] ty #[.slice (some ⟨g,0,none⟩) 0 0,.slice none 0 c]).run P w=.ok (.slice (some ⟨g,0,none⟩) 0 0) w:=by
 simp[Builtin.append_,run_underlying ht,sizeOf,typeInfo,hi,Builtin.lenOf,Builtin.firstCells,storeCells]
theorem Yi6 (w:World)(base g:Nat)(sv:Value)(l:List ByteArray)(ty:TypeId)(ho:w.ownsRow base 9 1 (.slice (some ⟨g,0,none⟩) 0 0) 0 [])(hr:SRow w sv l)(hl:l.length≤1000000)(hb:base≤w.heap.size):
    ∃v' w',(Builtin.append_ #[23,23] ty #[.slice (some ⟨g,0,none⟩) 0 0,sv]).run prog w=.ok v' w'∧w'.ownsRow base 9 1 v' l.length (l.map Value.string)∧w.grownBy w' (some g):=by
 obtain⟨i0,hi0,hz0,hz1,hz2⟩:=info_parts Yed
 obtain⟨a,c,rfl,hc,r⟩:=hr
 cases a with
 |none=>
  have h0:l=[]:=by
   cases l with
   |nil=>rfl
   |cons x y=>obtain⟨b,off,e,_⟩:=r (by simp);cases e
  subst h0
  exact⟨_,_,Xu4 w 23 ty 9 i0 underlying23 hi0 g c,ho,⟨rfl,rfl,rfl,zL _,fun k _ _=>rfl⟩⟩
 |some ad=>
  obtain⟨v',w',h1,h2,h3,_⟩:=run_append_own (P:=prog) w base 23 ty 9 i0 (.string ⟨#[]⟩) 1 16 underlying23 hi0 hz0 hz1 hz2 rfl (by decide) _ 0 [] ho ad l.length c (l.map Value.string) (by simp) (fun j u hu=>by
   have hne:l≠[]:=fun e=>by subst e;cases hu
   obtain⟨b,off,e,hb,hcell⟩:=r hne
   cases e
   exact SRow.cells hcell j u hu) (fun u hu=>by obtain⟨y,_,rfl⟩:=List.mem_map.1 hu;rfl) (by unfold maxLen;omega) (by omega) hb
  rw[Nat.zero_add,List.nil_append] at h2
  exact⟨v',w',h1,h2,h3⟩
theorem Yi7 (w:World)(base g:Nat)(sv:Value)(l:List (List Nat))(ty:TypeId)(ho:w.ownsRow base 26 32 (.slice (some ⟨g,0,none⟩) 0 0) 0 [])(hr:IRow w sv l)(hok:∀x∈l,IdOk x)(hl:l.length≤1000000)(hb:base≤w.heap.size):
    ∃v' w',(Builtin.append_ #[24,24] ty #[.slice (some ⟨g,0,none⟩) 0 0,sv]).run prog w=.ok v' w'∧w'.ownsRow base 26 32 v' l.length (Xbi l)∧w.grownBy w' (some g):=by
 obtain⟨i0,hi0,hz0,hz1,hz2⟩:=info_parts Xzy
 obtain⟨a,c,rfl,hc,r⟩:=hr
 cases a with
 |none=>
  have h0:l=[]:=by
   cases l with
   |nil=>rfl
   |cons x y=>obtain⟨b,off,e,_⟩:=r (by simp);cases e
  subst h0
  exact⟨_,_,Xu4 w 24 ty 26 i0 underlying24 hi0 g c,ho,⟨rfl,rfl,rfl,zL _,fun k _ _=>rfl⟩⟩
 |some ad=>
  obtain⟨v',w',h1,h2,h3,_⟩:=run_append_own (P:=prog) w base 24 ty 26 i0 (.agg (idA zero32)) 32 32 underlying24 hi0 hz0 hz1 hz2 rfl (by decide) _ 0 [] ho ad l.length c (Xbi l) (Xhe l hok) (fun j u hu=>by
   have hne:l≠[]:=fun e=>by subst e;cases hu
   obtain⟨b,off,e,hb,hcell⟩:=r hne
   cases e
   exact IRow.cells (n:=0) (c:=0) hok hcell j u hu) (Xr4 l) (by unfold maxLen;omega) (by omega) hb
  rw[Nat.zero_add,List.nil_append] at h2
  exact⟨v',w',h1,h2,h3⟩
theorem Ybm (w:World)(nm su ct di bo:ByteArray)(da nu he le:Int)(ga ra:Option Addr)(gn gc rn rc:Nat):∀(au sp ro:List Value),au.length=16→sp.length=32→ro.length=16→
    (Instr.build 39 #[(0,.string nm),(1,.agg au.toArray),(2,.int .i64 da),(3,.slice ga gn gc),(4,.string su),(5,.slice ra rn rc),(6,.agg sp.toArray),(7,.string ct),(8,.string di),(9,.int .i64 nu),(10,.agg (Value.int .i64 he::ro).toArray),(11,.int .i64 le),(12,.string bo)]).run prog w=
     .ok (.agg (([Value.string nm]:List Value)++(au++(([.int .i64 da,.slice ga gn gc,.string su,.slice ra rn rc]:List Value)++(sp++(([.string ct,.string di,.int .i64 nu,.int .i64 he]:List Value)++(ro++([.int .i64 le,.string bo]:List Value))))))).toArray) w
 |[a0,a1,a2,a3,a4,a5,a6,a7,a8,a9,a10,a11,a12,a13,a14,a15],[s0,s1,s2,s3,s4,s5,s6,s7,s8,s9,s10,s11,s12,s13,s14,s15,s16,s17,s18,s19,s20,s21,s22,s23,s24,s25,s26,s27,s28,s29,s30,s31],[r0,r1,r2,r3,r4,r5,r6,r7,r8,r9,r10,r11,r12,r13,r14,r15],_,_,_=>by kernel_rfl
theorem Xfu {w:World}{base1 base2 e1 e2 s1 s2 n1 n2 g c:Nat}{v:Value}{xs ys:List Value}(h1:w.ownsRow base1 e1 s1 v n1 xs)(h2:w.ownsRow base2 e2 s2 (.slice (some ⟨g,0,none⟩) n2 c) n2 ys)(hne:e1≠e2):v.ownBlock=none∨v.ownBlock≠some g:=by
 rcases h1.2 with⟨rfl,_⟩|⟨g1,c1,cur1,rfl,_,hg1,_⟩
 ·exact .inl rfl
 ·refine .inr (fun e=>?_)
  simp[Value.ownBlock] at e
  subst e
  rcases h2.2 with⟨e,_⟩|⟨g2,c2,cur2,e,_,hg2,_⟩
  ·cases e
  ·cases e
   rw[hg1] at hg2
   cases hg2
   exact hne rfl
theorem Ybj (w:World)(h:Int){r:List Nat}(hr:r.length=16):(Instr.build 37 #[(0,.int .i64 h),(1,.agg (idA r))]).run prog w=.ok (.agg (pkC h r)) w:=Xuy w h r hr
theorem Ybl (w:World)(c:Cn)(ok:c.Ok)(ga ra:Option Addr)(gn gc rn rc:Nat):
    (Instr.build 39 #[(0,.string c.name),(1,.agg (idA c.author)),(2,.int .i64 c.date),(3,.slice ga gn gc),(4,.string c.subject),(5,.slice ra rn rc),(6,.agg (idA c.sup)),(7,.string c.ctl),(8,.string c.dist),(9,.int .i64 c.number),(10,.agg (pkC c.height c.root)),(11,.int .i64 c.leaf),(12,.string c.body)]).run prog w=.ok (.agg (c.cells (.slice ga gn gc) (.slice ra rn rc))) w:=
 Ybm w c.name c.subject c.ctl c.dist c.body c.date c.number c.height c.leaf ga ra gn gc rn rc (c.author.map U) (c.sup.map U) (c.root.map U) (by simp[ok.author.len]) (by simp[ok.sup.len]) (by simp[ok.root.len])
theorem Yhm (w:World)(c:Cn)(gv rv:Value)(hin:CnIn w c gv rv):
    Calls prog 9 #[.agg (c.cells gv rv)] w (Yl8 c w):=by
 obtain⟨zs,hzs⟩:=xq (cn0.cells (.slice none 0 0) (.slice none 0 0))
 have Z0:Hid (zs=Tryz.zeroCells39):=Hd (by rw[hzs];exact Xh9)
 obtain⟨w0,hw0⟩:=xq ((w.alloc (.cells (c.cells gv rv) 28)).alloc (.cells zs 39))
 have B0:Hid (Bw w w0):=Hd (by rw[hw0];exact((zR _ _).alloc (zL _) _).alloc (by simp) _)
 have CX:Hid (∀wx,Bw w0 wx→CB wx w.heap.size c gv rv 28):=Hd (fun wx hb=>by
  have:CB w0 w.heap.size c gv rv 28:=by unfold CB;rw[hw0];exact Xae (heap_alloc_last w _)
  exact this.on hb)
 have RX:Hid (∀wx,Bw w0 wx→CB wx (w.heap.size+1) cn0 (.slice none 0 0) (.slice none 0 0) 39):=Hd (fun wx hb=>by
  have:CB w0 (w.heap.size+1) cn0 (.slice none 0 0) (.slice none 0 0) 39:=by
   unfold CB;rw[hw0,←hzs];have:=heap_alloc_last (w.alloc (.cells (c.cells gv rv) 28)) (.cells zs 39);rw[World.size_alloc] at this;exact this
  exact this.on hb)
 have SZ0:Hid (w0.heap.size=w.heap.size+2):=Hd (by rw[hw0];simp)
 have OK:=Hd hin.ok;have HIN:=Hd hin
 obtain⟨au,hau⟩:=xq (idA c.author)
 obtain⟨sp,hsp⟩:=xq (idA c.sup)
 obtain⟨ro,hro⟩:=xq (idA c.root)
 obtain⟨pk,hpk⟩:=xq (pkC c.height c.root)
 have LDA:Hid (∀wx,CB wx w.heap.size c gv rv 28→Ld 22 ⟨w.heap.size,1,none⟩ wx (.agg au)):=Hd (fun wx h=>by rw[hau];exact CB.author16 h OK.o)
 have LDS:Hid (∀wx,CB wx w.heap.size c gv rv 28→Ld 26 ⟨w.heap.size,21,none⟩ wx (.agg sp)):=Hd (fun wx h=>by rw[hsp];exact CB.sup h OK.o)
 have LDR:Hid (∀wx,CB wx w.heap.size c gv rv 28→Ld 22 ⟨w.heap.size,57,none⟩ wx (.agg ro)):=Hd (fun wx h=>by rw[hro];exact CB.root16 h OK.o)
 have BPK:Hid (∀w,(Instr.build 37 #[(0,.int .i64 c.height),(1,.agg ro)]).run prog w=.ok (.agg pk) w):=Hd (fun w=>by rw[hro,hpk];exact Ybj w c.height OK.o.root.len)
 have BCN:Hid (∀w ga gn gc ra rn rc,(Instr.build 39 #[(0,.string c.name),(1,.agg au),(2,.int .i64 c.date),(3,.slice ga gn gc),(4,.string c.subject),(5,.slice ra rn rc),(6,.agg sp),(7,.string c.ctl),(8,.string c.dist),(9,.int .i64 c.number),(10,.agg pk),(11,.int .i64 c.leaf),(12,.string c.body)]).run prog w=.ok (.agg (c.cells (.slice ga gn gc) (.slice ra rn rc))) w):=Hd (fun w ga gn gc ra rn rc=>by rw[hau,hsp,hpk];exact Ybl w c OK.o ga ra gn gc rn rc)
 have SR:Hid (∀wx,Bw w0 wx→SRow wx gv c.groups):=Hd (fun wx hb=>HIN.o.srow.below (bg B0.o hb))
 have IR:Hid (∀wx,Bw w0 wx→IRow wx rv c.refs):=Hd (fun wx hb=>HIN.o.irow.below (bg B0.o hb))
 obtain⟨cs,hcs⟩:=xq (c.cells gv rv)
 rw[←hcs] at hw0⊢
 have HW:=Hd hw0
 clear hw0 hzs hcs hin hau hsp hro hpk
 go_enter func9,ntmps9
 go_upto_region 1 with fail
 have W':=HW.o
 rw[Z0.o] at W'
 rw[←W']
 clear W' HW
 refine wp_region_held (S:=fun wx=>CB wx w.heap.size c gv rv 28) (by kernel_rfl) ?_
 change wpAnyH _ _ _ _ _ _ _ _ w0.drew
 obtain⟨wd,hwd⟩:=xq w0.drew
 rw[←hwd]
 have BD0:Hid (Bw w0 wd):=Hd (by rw[hwd];exact(zR _ _).drew)
 clear hwd
 have hB:(fun wx:World=>CB wx w.heap.size c gv rv 28) wd:=CX.o wd BD0.o
 refine Xad 0 (.pointer (some ⟨w.heap.size,0,none⟩)) rfl (fun _ _=>by go_simp) hB ?_
 refine Xad 1 (.string c.name) rfl (fun w' hw'=>by have cl:=hw'.at (Ya9 c gv rv);go_simp) hB ?_
 refine Xad 2 (.pointer (some ⟨w.heap.size,1,none⟩)) rfl (fun _ _=>by go_simp) hB ?_
 refine Xad 3 (.agg au) rfl (fun w' hw'=>Xai (ty:=22) (x:=.tmp 5) (ad:=⟨w.heap.size,1,none⟩) rfl (by kernel_rfl) (LDA.o w' hw')) hB ?_
 refine Xad 4 (.pointer (some ⟨w.heap.size,17,none⟩)) rfl (fun _ _=>by go_simp) hB ?_
 refine Xad 5 (.int .i64 c.date) rfl (fun w' hw'=>by have cl:=hw'.at (Xln OK.o gv rv);go_simp) hB ?_
 refine Xad 7 (.pointer (some ⟨w.heap.size,18,none⟩)) rfl (fun _ _=>by go_simp) hB ?_
 refine Xad 8 (gv) rfl (fun w' hw'=>by have cl:=hw'.at (Xh8 OK.o gv rv);go_simp) hB ?_
 refine Xad 10 (.pointer (some ⟨w.heap.size,19,none⟩)) rfl (fun _ _=>by go_simp) hB ?_
 refine Xad 11 (.string c.subject) rfl (fun w' hw'=>by have cl:=hw'.at (Xlm OK.o gv rv);go_simp) hB ?_
 refine Xad 13 (.pointer (some ⟨w.heap.size,20,none⟩)) rfl (fun _ _=>by go_simp) hB ?_
 refine Xad 14 (rv) rfl (fun w' hw'=>by have cl:=hw'.at (Xh7 OK.o gv rv);go_simp) hB ?_
 refine Xad 16 (.pointer (some ⟨w.heap.size,21,none⟩)) rfl (fun _ _=>by go_simp) hB ?_
 refine Xad 17 (.agg sp) rfl (fun w' hw'=>Xai (ty:=26) (x:=.tmp 19) (ad:=⟨w.heap.size,21,none⟩) rfl (by kernel_rfl) (LDS.o w' hw')) hB ?_
 refine Xad 18 (.pointer (some ⟨w.heap.size,53,none⟩)) rfl (fun _ _=>by go_simp) hB ?_
 refine Xad 19 (.string c.ctl) rfl (fun w' hw'=>by have cl:=hw'.at (Xjn OK.o gv rv);go_simp) hB ?_
 refine Xad 20 (.pointer (some ⟨w.heap.size,54,none⟩)) rfl (fun _ _=>by go_simp) hB ?_
 refine Xad 21 (.string c.dist) rfl (fun w' hw'=>by have cl:=hw'.at (Xll OK.o gv rv);go_simp) hB ?_
 refine Xad 22 (.pointer (some ⟨w.heap.size,55,none⟩)) rfl (fun _ _=>by go_simp) hB ?_
 refine Xad 23 (.int .i64 c.number) rfl (fun w' hw'=>by have cl:=hw'.at (Xjm OK.o gv rv);go_simp) hB ?_
 refine Xad 24 (.pointer (some ⟨w.heap.size,56,none⟩)) rfl (fun _ _=>by go_simp) hB ?_
 refine Xad 25 (.int .i64 c.height) rfl (fun w' hw'=>by have cl:=hw'.at (Xst OK.o gv rv);go_simp) hB ?_
 refine Xad 26 (.pointer (some ⟨w.heap.size,57,none⟩)) rfl (fun _ _=>by go_simp) hB ?_
 refine Xad 27 (.agg ro) rfl (fun w' hw'=>Xai (ty:=22) (x:=.tmp 29) (ad:=⟨w.heap.size,57,none⟩) rfl (by kernel_rfl) (LDR.o w' hw')) hB ?_
 refine Xad 28 (.agg pk) rfl (fun w' hw'=>Xcf rfl (by kernel_rfl) (BPK.o w')) hB ?_
 refine Xad 29 (.pointer (some ⟨w.heap.size,73,none⟩)) rfl (fun _ _=>by go_simp) hB ?_
 refine Xad 30 (.int .i64 c.leaf) rfl (fun w' hw'=>by have cl:=hw'.at (Xh6 OK.o gv rv);go_simp) hB ?_
 refine Xad 31 (.pointer (some ⟨w.heap.size,74,none⟩)) rfl (fun _ _=>by go_simp) hB ?_
 refine Xad 32 (.string c.body) rfl (fun w' hw'=>by have cl:=hw'.at (Xjl OK.o gv rv);go_simp) hB ?_
 refine Xef (i:=6) (k:=12) (by kernel_rfl) ?_ ?_
 ·skip
  refine Xbl rfl rfl (Xh2 wd rfl (Yln wd)) ?_
  obtain⟨y1,hy1⟩:=xq (wd.alloc (.cells #[] 9))
  rw[←hy1]
  have By1:Hid (Bw w0 y1):=Hd (by rw[hy1];exact BD0.o.alloc BD0.o.size _)
  have Os:Hid (y1.ownsRow w0.heap.size 9 1 (.slice (some ⟨wd.heap.size,0,none⟩) 0 0) 0 []):=Hd (by rw[hy1];exact Xft wd w0.heap.size 9 1 BD0.o.size)
  obtain⟨gs,hgs⟩:=xq wd.heap.size
  rw[←hgs] at Os⊢
  clear hy1 hgs
  refine⟨CX.o y1 By1.o,?_⟩
  refine Xef (i:=9) (k:=12) (by kernel_rfl) ?_ ?_
  ·skip
   obtain⟨gv',y2,hap,how,hgr⟩:=Yi6 y1 w0.heap.size gs gv c.groups 23 Os.o (SR.o y1 By1.o) HIN.o.gl By1.o.size
   refine Xbl rfl rfl (Xcg (s:=.tmp 9) (x:=.tmp 11) (t:=23) (v:=.slice (some ⟨gs,0,none⟩) 0 0) (u:=gv) rfl (by kernel_rfl) (by kernel_rfl) hap) ?_
   have By2:Hid (Bw w0 y2):=Hd (Below.grown By1.o hgr By1.o.size (fun k hk=>by cases hk;exact(Os.o.lt gs rfl).1))
   have OS:=Hd how
   clear hap how hgr
   refine⟨CX.o y2 By2.o,?_⟩
   refine Xak (i:=12) (by kernel_rfl) ?_
   refine Xbl rfl rfl (Xh2 y2 rfl (Yiw y2)) ?_
   obtain⟨y3,hy3⟩:=xq (y2.alloc (.cells #[] 26))
   rw[←hy3]
   have By3:Hid (Bw w0 y3):=Hd (by rw[hy3];exact By2.o.alloc By2.o.size _)
   have Oi:Hid (y3.ownsRow w0.heap.size 26 32 (.slice (some ⟨y2.heap.size,0,none⟩) 0 0) 0 []):=Hd (by rw[hy3];exact Xft y2 w0.heap.size 26 32 By2.o.size)
   replace OS:=Hd (show y3.ownsRow _ _ _ _ _ _ by rw[hy3];exact OS.o.alloc _)
   obtain⟨gi,hgi⟩:=xq y2.heap.size
   rw[←hgi] at Oi⊢
   clear hy3 hgi
   refine⟨CX.o y3 By3.o,?_⟩
   refine Xak (i:=15) (by kernel_rfl) ?_
   obtain⟨rv',y4,hap,how,hgr⟩:=Yi7 y3 w0.heap.size gi rv c.refs 24 Oi.o (IR.o y3 By3.o) OK.o.refs HIN.o.rl By3.o.size
   refine Xbl rfl rfl (Xcg (s:=.tmp 15) (x:=.tmp 17) (t:=24) (v:=.slice (some ⟨gi,0,none⟩) 0 0) (u:=rv) rfl (by kernel_rfl) (by kernel_rfl) hap) ?_
   have By4:Hid (Bw w0 y4):=Hd (Below.grown By3.o hgr By3.o.size (fun k hk=>by cases hk;exact(Oi.o.lt gi rfl).1))
   replace OS:=Hd (OS.o.kept hgr (Xfu OS.o Oi.o (by decide)))
   have OI:=Hd how
   clear hap how hgr
   refine⟨CX.o y4 By4.o,?_⟩
   obtain⟨ga,gn,gc,rfl⟩:=Xex OS.o
   obtain⟨ra,rn,rc,rfl⟩:=Xex OI.o
   have hB:=CX.o y4 By4.o
   refine Xad 33 (.agg (c.cells (.slice ga gn gc) (.slice ra rn rc))) rfl (fun w' hw'=>Xcf rfl (by kernel_rfl) (BCN.o w' ga gn gc ra rn rc)) hB ?_
   refine Xak (i:=34) (by kernel_rfl) ?_
   have R4:=RX.o y4 By4.o
   have STR:=Hd (run_storeVar_row (P:=prog) y4 (w.heap.size+1) _ 39 _ (c.cells (.slice ga gn gc) (.slice ra rn rc)) R4 (by rw[Xa2 OK.o];exact Xbg) (by rw[Xa2 OK.o,Xa2 Xgv]) (Xch c _ _ rfl rfl))
   have W5:=Hd (setRow_heap y4 (w.heap.size+1) _ (c.cells (.slice ga gn gc) (.slice ra rn rc)) _ _ R4)
   have BW:=bg B0.o By4.o
   have FIN:Hid (Yl8 c w (.returned (.agg (c.cells (.slice ga gn gc) (.slice ra rn rc)))) (y4.setRow (w.heap.size+1) (c.cells (.slice ga gn gc) (.slice ra rn rc)))):=Hd
    ⟨_,_,rfl,Xew (Xf7 OS.o (Xhf _ (w.heap.size+1) _) (by rw[SZ0.o];omega)) (by rw[SZ0.o];omega),Xew (Xf7 OI.o (Xhf _ (w.heap.size+1) _) (by rw[SZ0.o];omega)) (by rw[SZ0.o];omega),below_setRow BW (Nat.le_succ _) _⟩
   have SZ:Hid ((prog.info? 39).map (·.size)=some (c.cells (.slice ga gn gc) (.slice ra rn rc)).size):=Hd (by rw[Xa2 OK.o];exact Xbg)
   have CN:CB (y4.setRow (w.heap.size+1) (c.cells (.slice ga gn gc) (.slice ra rn rc))) w.heap.size c gv rv 28:=(setRow_other y4 (w.heap.size+1) w.heap.size _ (by omega)).trans hB
   have HCN:=Hd CN
   refine Xco rfl rfl (Xar (t:=39) (x:=.tmp 2) (y:=.tmp 36) (ad:=⟨w.heap.size+1,0,none⟩) (u:=.agg (c.cells (.slice ga gn gc) (.slice ra rn rc))) rfl (by kernel_rfl) (by kernel_rfl) STR.o) ?_
   refine⟨HCN.o,?_⟩
   refine wpAnyH_done (by kernel_rfl) ?_ _
   clear R4 BW CN hB
   obtain⟨ds,hds⟩:=xq (c.cells (.slice ga gn gc) (.slice ra rn rc))
   rw[←hds] at W5 FIN SZ STR HCN⊢
   clear hds
   go_simp
   refine‹∀(a:Act) (w_1:World),_→_› _ _ ?_
   go_wp2_with fail
   exact zP (results_cell_row results9 _ _ (w.heap.size+1) _ _ _ _ rfl W5.o underlying39 rfl SZ.o) rfl FIN.o
  ·skip
   refine Xbl rfl rfl (Xh2 y1 rfl (Yiw y1)) ?_
   obtain⟨y5,hy5⟩:=xq (y1.alloc (.cells #[] 26))
   rw[←hy5]
   have By5:Hid (Bw w0 y5):=Hd (by rw[hy5];exact By1.o.alloc By1.o.size _)
   have Oi:Hid (y5.ownsRow w0.heap.size 26 32 (.slice (some ⟨y1.heap.size,0,none⟩) 0 0) 0 []):=Hd (by rw[hy5];exact Xft y1 w0.heap.size 26 32 By1.o.size)
   replace Os:=Hd (show y5.ownsRow _ _ _ _ _ _ by rw[hy5];exact Os.o.alloc _)
   obtain⟨gi,hgi⟩:=xq y1.heap.size
   rw[←hgi] at Oi⊢
   clear hy5 hgi
   refine⟨CX.o y5 By5.o,?_⟩
   refine Xak (i:=9) (by kernel_rfl) ?_
   obtain⟨gv',y6,hap,how,hgr⟩:=Yi6 y5 w0.heap.size gs gv c.groups 23 Os.o (SR.o y5 By5.o) HIN.o.gl By5.o.size
   refine Xbl rfl rfl (Xcg (s:=.tmp 9) (x:=.tmp 11) (t:=23) (v:=.slice (some ⟨gs,0,none⟩) 0 0) (u:=gv) rfl (by kernel_rfl) (by kernel_rfl) hap) ?_
   have By6:Hid (Bw w0 y6):=Hd (Below.grown By5.o hgr By5.o.size (fun k hk=>by cases hk;exact(Os.o.lt gs rfl).1))
   replace Oi:=Hd (Oi.o.kept hgr (Xfu Oi.o Os.o (by decide)))
   have OS:=Hd how
   clear hap how hgr
   refine⟨CX.o y6 By6.o,?_⟩
   refine Xak (i:=15) (by kernel_rfl) ?_
   obtain⟨rv',y7,hap,how,hgr⟩:=Yi7 y6 w0.heap.size gi rv c.refs 24 Oi.o (IR.o y6 By6.o) OK.o.refs HIN.o.rl By6.o.size
   refine Xbl rfl rfl (Xcg (s:=.tmp 15) (x:=.tmp 17) (t:=24) (v:=.slice (some ⟨gi,0,none⟩) 0 0) (u:=rv) rfl (by kernel_rfl) (by kernel_rfl) hap) ?_
   have By7:Hid (Bw w0 y7):=Hd (Below.grown By6.o hgr By6.o.size (fun k hk=>by cases hk;exact(Oi.o.lt gi rfl).1))
   replace OS:=Hd (OS.o.kept hgr (Xfu OS.o Oi.o (by decide)))
   have OI:=Hd how
   clear hap how hgr
   refine⟨CX.o y7 By7.o,?_⟩
   obtain⟨ga,gn,gc,rfl⟩:=Xex OS.o
   obtain⟨ra,rn,rc,rfl⟩:=Xex OI.o
   have hB:=CX.o y7 By7.o
   refine Xad 33 (.agg (c.cells (.slice ga gn gc) (.slice ra rn rc))) rfl (fun w' hw'=>Xcf rfl (by kernel_rfl) (BCN.o w' ga gn gc ra rn rc)) hB ?_
   refine Xak (i:=34) (by kernel_rfl) ?_
   have R4:=RX.o y7 By7.o
   have STR:=Hd (run_storeVar_row (P:=prog) y7 (w.heap.size+1) _ 39 _ (c.cells (.slice ga gn gc) (.slice ra rn rc)) R4 (by rw[Xa2 OK.o];exact Xbg) (by rw[Xa2 OK.o,Xa2 Xgv]) (Xch c _ _ rfl rfl))
   have W5:=Hd (setRow_heap y7 (w.heap.size+1) _ (c.cells (.slice ga gn gc) (.slice ra rn rc)) _ _ R4)
   have BW:=bg B0.o By7.o
   have FIN:Hid (Yl8 c w (.returned (.agg (c.cells (.slice ga gn gc) (.slice ra rn rc)))) (y7.setRow (w.heap.size+1) (c.cells (.slice ga gn gc) (.slice ra rn rc)))):=Hd
    ⟨_,_,rfl,Xew (Xf7 OS.o (Xhf _ (w.heap.size+1) _) (by rw[SZ0.o];omega)) (by rw[SZ0.o];omega),Xew (Xf7 OI.o (Xhf _ (w.heap.size+1) _) (by rw[SZ0.o];omega)) (by rw[SZ0.o];omega),below_setRow BW (Nat.le_succ _) _⟩
   have SZ:Hid ((prog.info? 39).map (·.size)=some (c.cells (.slice ga gn gc) (.slice ra rn rc)).size):=Hd (by rw[Xa2 OK.o];exact Xbg)
   have CN:CB (y7.setRow (w.heap.size+1) (c.cells (.slice ga gn gc) (.slice ra rn rc))) w.heap.size c gv rv 28:=(setRow_other y7 (w.heap.size+1) w.heap.size _ (by omega)).trans hB
   have HCN:=Hd CN
   refine Xco rfl rfl (Xar (t:=39) (x:=.tmp 2) (y:=.tmp 36) (ad:=⟨w.heap.size+1,0,none⟩) (u:=.agg (c.cells (.slice ga gn gc) (.slice ra rn rc))) rfl (by kernel_rfl) (by kernel_rfl) STR.o) ?_
   refine⟨HCN.o,?_⟩
   refine wpAnyH_done (by kernel_rfl) ?_ _
   clear R4 BW CN hB
   obtain⟨ds,hds⟩:=xq (c.cells (.slice ga gn gc) (.slice ra rn rc))
   rw[←hds] at W5 FIN SZ STR HCN⊢
   clear hds
   go_simp
   refine‹∀(a:Act) (w_1:World),_→_› _ _ ?_
   go_wp2_with fail
   exact zP (results_cell_row results9 _ _ (w.heap.size+1) _ _ _ _ rfl W5.o underlying39 rfl SZ.o) rfl FIN.o
 ·skip
  refine Xbl rfl rfl (Xh2 wd rfl (Yiw wd)) ?_
  obtain⟨y8,hy8⟩:=xq (wd.alloc (.cells #[] 26))
  rw[←hy8]
  have By8:Hid (Bw w0 y8):=Hd (by rw[hy8];exact BD0.o.alloc BD0.o.size _)
  have Oi:Hid (y8.ownsRow w0.heap.size 26 32 (.slice (some ⟨wd.heap.size,0,none⟩) 0 0) 0 []):=Hd (by rw[hy8];exact Xft wd w0.heap.size 26 32 BD0.o.size)
  obtain⟨gi,hgi⟩:=xq wd.heap.size
  rw[←hgi] at Oi⊢
  clear hy8 hgi
  refine⟨CX.o y8 By8.o,?_⟩
  refine Xak (i:=6) (by kernel_rfl) ?_
  refine Xbl rfl rfl (Xh2 y8 rfl (Yln y8)) ?_
  obtain⟨y9,hy9⟩:=xq (y8.alloc (.cells #[] 9))
  rw[←hy9]
  have By9:Hid (Bw w0 y9):=Hd (by rw[hy9];exact By8.o.alloc By8.o.size _)
  have Os:Hid (y9.ownsRow w0.heap.size 9 1 (.slice (some ⟨y8.heap.size,0,none⟩) 0 0) 0 []):=Hd (by rw[hy9];exact Xft y8 w0.heap.size 9 1 By8.o.size)
  replace Oi:=Hd (show y9.ownsRow _ _ _ _ _ _ by rw[hy9];exact Oi.o.alloc _)
  obtain⟨gs,hgs⟩:=xq y8.heap.size
  rw[←hgs] at Os⊢
  clear hy9 hgs
  refine⟨CX.o y9 By9.o,?_⟩
  refine Xak (i:=9) (by kernel_rfl) ?_
  obtain⟨gv',y10,hap,how,hgr⟩:=Yi6 y9 w0.heap.size gs gv c.groups 23 Os.o (SR.o y9 By9.o) HIN.o.gl By9.o.size
  refine Xbl rfl rfl (Xcg (s:=.tmp 9) (x:=.tmp 11) (t:=23) (v:=.slice (some ⟨gs,0,none⟩) 0 0) (u:=gv) rfl (by kernel_rfl) (by kernel_rfl) hap) ?_
  have By10:Hid (Bw w0 y10):=Hd (Below.grown By9.o hgr By9.o.size (fun k hk=>by cases hk;exact(Os.o.lt gs rfl).1))
  replace Oi:=Hd (Oi.o.kept hgr (Xfu Oi.o Os.o (by decide)))
  have OS:=Hd how
  clear hap how hgr
  refine⟨CX.o y10 By10.o,?_⟩
  refine Xak (i:=15) (by kernel_rfl) ?_
  obtain⟨rv',y11,hap,how,hgr⟩:=Yi7 y10 w0.heap.size gi rv c.refs 24 Oi.o (IR.o y10 By10.o) OK.o.refs HIN.o.rl By10.o.size
  refine Xbl rfl rfl (Xcg (s:=.tmp 15) (x:=.tmp 17) (t:=24) (v:=.slice (some ⟨gi,0,none⟩) 0 0) (u:=rv) rfl (by kernel_rfl) (by kernel_rfl) hap) ?_
  have By11:Hid (Bw w0 y11):=Hd (Below.grown By10.o hgr By10.o.size (fun k hk=>by cases hk;exact(Oi.o.lt gi rfl).1))
  replace OS:=Hd (OS.o.kept hgr (Xfu OS.o Oi.o (by decide)))
  have OI:=Hd how
  clear hap how hgr
  refine⟨CX.o y11 By11.o,?_⟩
  obtain⟨ga,gn,gc,rfl⟩:=Xex OS.o
  obtain⟨ra,rn,rc,rfl⟩:=Xex OI.o
  have hB:=CX.o y11 By11.o
  refine Xad 33 (.agg (c.cells (.slice ga gn gc) (.slice ra rn rc))) rfl (fun w' hw'=>Xcf rfl (by kernel_rfl) (BCN.o w' ga gn gc ra rn rc)) hB ?_
  refine Xak (i:=34) (by kernel_rfl) ?_
  have R4:=RX.o y11 By11.o
  have STR:=Hd (run_storeVar_row (P:=prog) y11 (w.heap.size+1) _ 39 _ (c.cells (.slice ga gn gc) (.slice ra rn rc)) R4 (by rw[Xa2 OK.o];exact Xbg) (by rw[Xa2 OK.o,Xa2 Xgv]) (Xch c _ _ rfl rfl))
  have W5:=Hd (setRow_heap y11 (w.heap.size+1) _ (c.cells (.slice ga gn gc) (.slice ra rn rc)) _ _ R4)
  have BW:=bg B0.o By11.o
  have FIN:Hid (Yl8 c w (.returned (.agg (c.cells (.slice ga gn gc) (.slice ra rn rc)))) (y11.setRow (w.heap.size+1) (c.cells (.slice ga gn gc) (.slice ra rn rc)))):=Hd
   ⟨_,_,rfl,Xew (Xf7 OS.o (Xhf _ (w.heap.size+1) _) (by rw[SZ0.o];omega)) (by rw[SZ0.o];omega),Xew (Xf7 OI.o (Xhf _ (w.heap.size+1) _) (by rw[SZ0.o];omega)) (by rw[SZ0.o];omega),below_setRow BW (Nat.le_succ _) _⟩
  have SZ:Hid ((prog.info? 39).map (·.size)=some (c.cells (.slice ga gn gc) (.slice ra rn rc)).size):=Hd (by rw[Xa2 OK.o];exact Xbg)
  have CN:CB (y11.setRow (w.heap.size+1) (c.cells (.slice ga gn gc) (.slice ra rn rc))) w.heap.size c gv rv 28:=(setRow_other y11 (w.heap.size+1) w.heap.size _ (by omega)).trans hB
  have HCN:=Hd CN
  refine Xco rfl rfl (Xar (t:=39) (x:=.tmp 2) (y:=.tmp 36) (ad:=⟨w.heap.size+1,0,none⟩) (u:=.agg (c.cells (.slice ga gn gc) (.slice ra rn rc))) rfl (by kernel_rfl) (by kernel_rfl) STR.o) ?_
  refine⟨HCN.o,?_⟩
  refine wpAnyH_done (by kernel_rfl) ?_ _
  clear R4 BW CN hB
  obtain⟨ds,hds⟩:=xq (c.cells (.slice ga gn gc) (.slice ra rn rc))
  rw[←hds] at W5 FIN SZ STR HCN⊢
  clear hds
  go_simp
  refine‹∀(a:Act) (w_1:World),_→_› _ _ ?_
  go_wp2_with fail
  exact zP (results_cell_row results9 _ _ (w.heap.size+1) _ _ _ _ rfl W5.o underlying39 rfl SZ.o) rfl FIN.o
theorem Ybi (w:World)(nm su ct di bo:ByteArray)(da nu he le:Int)(ga ra:Option Addr)(gn gc rn rc:Nat):∀(au sp ro:List Value),au.length=16→sp.length=32→ro.length=16→
    (Instr.build 28 #[(0,.string nm),(1,.agg au.toArray),(2,.int .i64 da),(3,.slice ga gn gc),(4,.string su),(5,.slice ra rn rc),(6,.agg sp.toArray),(7,.string ct),(8,.string di),(9,.int .i64 nu),(10,.int .i64 he),(11,.agg ro.toArray),(12,.int .i64 le),(13,.string bo)]).run prog w=
     .ok (.agg (([Value.string nm]:List Value)++(au++(([.int .i64 da,.slice ga gn gc,.string su,.slice ra rn rc]:List Value)++(sp++(([.string ct,.string di,.int .i64 nu,.int .i64 he]:List Value)++(ro++([.int .i64 le,.string bo]:List Value))))))).toArray) w
 |[a0,a1,a2,a3,a4,a5,a6,a7,a8,a9,a10,a11,a12,a13,a14,a15],[s0,s1,s2,s3,s4,s5,s6,s7,s8,s9,s10,s11,s12,s13,s14,s15,s16,s17,s18,s19,s20,s21,s22,s23,s24,s25,s26,s27,s28,s29,s30,s31],[r0,r1,r2,r3,r4,r5,r6,r7,r8,r9,r10,r11,r12,r13,r14,r15],_,_,_=>by kernel_rfl
theorem Yl9:cn0.cells (.slice none 0 0) (.slice none 0 0)=Tryz.zeroCells28:=by kernel_rfl
theorem Yff (w:World)(c:Cn)(ok:c.Ok)(ga ra:Option Addr)(gn gc rn rc:Nat):
    zJ 18 #[.agg (c.cells (.slice ga gn gc) (.slice ra rn rc))] w (.agg (c.cells (.slice ga gn gc) (.slice ra rn rc))):=by
 obtain⟨zs,hzs⟩:=xq (cn0.cells (.slice none 0 0) (.slice none 0 0))
 have Z0:Hid (zs=Tryz.zeroCells28):=Hd (by rw[hzs];exact Yl9)
 obtain⟨w0,hw0⟩:=xq ((w.alloc (.cells (c.cells (.slice ga gn gc) (.slice ra rn rc)) 39)).alloc (.cells zs 28))
 have B0:Hid (Bw w w0):=Hd (by rw[hw0];exact((zR _ _).alloc (zL _) _).alloc (by simp) _)
 have C0:CB w0 w.heap.size c (.slice ga gn gc) (.slice ra rn rc) 39:=by unfold CB;rw[hw0];exact Xae (heap_alloc_last w _)
 have R0:CB w0 (w.heap.size+1) cn0 (.slice none 0 0) (.slice none 0 0) 28:=by
  unfold CB;rw[hw0,←hzs];have:=heap_alloc_last (w.alloc (.cells (c.cells (.slice ga gn gc) (.slice ra rn rc)) 39)) (.cells zs 28);rw[World.size_alloc] at this;exact this
 obtain⟨au,hau⟩:=xq (idA c.author)
 obtain⟨sp,hsp⟩:=xq (idA c.sup)
 obtain⟨ro,hro⟩:=xq (idA c.root)
 obtain⟨cs,hcs⟩:=xq (c.cells (.slice ga gn gc) (.slice ra rn rc))
 have LDA:Hid (Ld 35 ⟨w.heap.size,1,none⟩ w0 (.agg au)):=Hd (by rw[hau];exact C0.author ok)
 have LDS:Hid (Ld 26 ⟨w.heap.size,21,none⟩ w0 (.agg sp)):=Hd (by rw[hsp];exact C0.sup ok)
 have LDR:Hid (Ld 22 ⟨w.heap.size,57,none⟩ w0 (.agg ro)):=Hd (by rw[hro];exact C0.root16 ok)
 have BRC:Hid (∀w,(Instr.build 28 #[(0,.string c.name),(1,.agg au),(2,.int .i64 c.date),(3,.slice ga gn gc),(4,.string c.subject),(5,.slice ra rn rc),(6,.agg sp),(7,.string c.ctl),(8,.string c.dist),(9,.int .i64 c.number),(10,.int .i64 c.height),(11,.agg ro),(12,.int .i64 c.leaf),(13,.string c.body)]).run prog w=.ok (.agg cs) w):=Hd (fun w=>by
  rw[hau,hsp,hro,hcs]
  exact Ybi w c.name c.subject c.ctl c.dist c.body c.date c.number c.height c.leaf ga ra gn gc rn rc (c.author.map U) (c.sup.map U) (c.root.map U) (by simp[ok.author.len]) (by simp[ok.sup.len]) (by simp[ok.root.len]))
 have STR:=Hd (run_storeVar_row (P:=prog) w0 (w.heap.size+1) _ 28 _ (c.cells (.slice ga gn gc) (.slice ra rn rc)) R0 (by rw[Xa2 ok];exact Xra) (by rw[Xa2 ok,Xa2 Xgv]) (Xch c _ _ rfl rfl))
 have W5:=Hd (setRow_heap w0 (w.heap.size+1) _ (c.cells (.slice ga gn gc) (.slice ra rn rc)) _ _ R0)
 have FIN:=Hd (below_setRow B0.o (Nat.le_succ _) (c.cells (.slice ga gn gc) (.slice ra rn rc)))
 have SZ:Hid ((prog.info? 28).map (·.size)=some (c.cells (.slice ga gn gc) (.slice ra rn rc)).size):=Hd (by rw[Xa2 ok];exact Xra)
 have c0:=C0.at (Ya9 c (.slice ga gn gc) (.slice ra rn rc))
 have c17:=C0.at (Xln ok (.slice ga gn gc) (.slice ra rn rc))
 have c18:=C0.at (Xh8 ok (.slice ga gn gc) (.slice ra rn rc))
 have c19:=C0.at (Xlm ok (.slice ga gn gc) (.slice ra rn rc))
 have c20:=C0.at (Xh7 ok (.slice ga gn gc) (.slice ra rn rc))
 have c53:=C0.at (Xjn ok (.slice ga gn gc) (.slice ra rn rc))
 have c54:=C0.at (Xll ok (.slice ga gn gc) (.slice ra rn rc))
 have c55:=C0.at (Xjm ok (.slice ga gn gc) (.slice ra rn rc))
 have c56:=C0.at (Xst ok (.slice ga gn gc) (.slice ra rn rc))
 have c73:=C0.at (Xh6 ok (.slice ga gn gc) (.slice ra rn rc))
 have c74:=C0.at (Xjl ok (.slice ga gn gc) (.slice ra rn rc))
 rw[←hcs] at hw0 STR W5 FIN SZ⊢
 have HW:=Hd hw0
 clear hw0 hzs hcs hau hsp hro C0 R0 ok
 go_enter func18,ntmps18
 go_upto_region 1 with fail
 have W':=HW.o
 rw[Z0.o] at W'
 rw[←W']
 clear W' HW
 go_wp2_with (first
  |((with_reducible refine Xac 35 rfl _ rfl ?_);refine⟨_,_,rfl,LDA.o,?_⟩)
  |((with_reducible refine Xac 26 rfl _ rfl ?_);refine⟨_,_,rfl,LDS.o,?_⟩)
  |((with_reducible refine Xac 22 rfl _ rfl ?_);refine⟨_,_,rfl,LDR.o,?_⟩)
  |((with_reducible refine Xdu 28 rfl _ rfl ?_);refine⟨_,_,by kernel_rfl,BRC.o _,?_⟩)
  |((with_reducible refine Xab 28 rfl _ _ rfl ?_);refine⟨_,_,_,rfl,rfl,STR.o,?_⟩))
 exact zP (results_cell_row results18 _ _ (w.heap.size+1) _ _ _ _ rfl W5.o underlying28 rfl SZ.o) rfl ⟨rfl,FIN.o⟩
def Xfa:Nat:=140737488355328
structure CnArg (w:World) (c:Cn) (gv rv:Value):Prop where
 ok:c.Ok
 name:c.name.size≤Xfa
 subject:c.subject.size≤Xfa
 ctl:c.ctl.size≤Xfa
 dist:c.dist.size≤Xfa
 body:c.body.size≤Xfa
 gl:c.groups.length≤Xfa
 gz:∀g∈c.groups,g.size≤Xfa
 rl:c.refs.length≤Xfa
 srow:SRow w gv c.groups
 irow:IRow w rv c.refs
theorem CnArg.on {w w':World}{c:Cn}{gv rv:Value}(h:CnArg w c gv rv)(hb:Bw w w'):CnArg w' c gv rv:=⟨h.ok,h.name,h.subject,h.ctl,h.dist,h.body,h.gl,h.gz,h.rl,h.srow.below hb,h.irow.below hb⟩
def tot (l:List ByteArray):Nat:=(l.map ByteArray.size).sum
theorem Yco (l:List ByteArray)(g:ByteArray):tot (l++[g])=tot l+g.size:=by simp[tot]
theorem Xxw:∀{l:List ByteArray} {m:Nat},(∀g∈l,g.size≤m)→tot l≤l.length*m
 |[],_,_=>by simp[tot]
 |x::l,m,h=>by
  have h1:=h x (List.mem_cons_self ..)
  have h2:=Xxw (l:=l) (fun g hg=>h g (List.mem_cons_of_mem _ hg))
  show x.size+tot l≤(l.length+1)*m
  rw[Nat.add_mul];omega
theorem Yg0 {l:List ByteArray}{g:ByteArray}(h:g∈l):g.size≤tot l:=by
 induction l with
 |nil=>cases h
 |cons x l ih=>
  show g.size≤x.size+tot l
  rcases List.mem_cons.1 h with rfl|h
  ·omega
  ·have:=ih h;omega
structure FitsP (c:Cn):Prop where
 gl:c.groups.length≤30
 gt:tot c.groups≤3000
 rl:c.refs.length≤30
 tx:c.name.size+c.subject.size+c.ctl.size+c.dist.size≤2000
 body:c.body.size≤2000
theorem Yeo (c:Cn):FitsP c↔c.groups.length≤30∧tot c.groups≤3000∧c.refs.length≤30∧c.name.size+c.subject.size+c.ctl.size+c.dist.size≤2000∧c.body.size≤2000:=
 ⟨fun h=>⟨h.gl,h.gt,h.rl,h.tx,h.body⟩,fun⟨h1,h2,h3,h4,h5⟩=>⟨h1,h2,h3,h4,h5⟩⟩
theorem FitsP.inn {w:World}{c:Cn}{gv rv:Value}(h:FitsP c)(ha:CnArg w c gv rv):CnIn w c gv rv:=
 ⟨ha.ok,by have:=h.tx;omega,by have:=h.tx;omega,by have:=h.tx;omega,by have:=h.tx;omega,by have:=h.body;omega,by have:=h.gl;omega,fun g hg=>by have:=Yg0 hg;have:=h.gt;omega,by have:=h.rl;omega,ha.srow,ha.irow⟩
def Ynh (c:Cn)(w:World)(e:Ending)(w':World):Prop:=(∃b,e=.returned (.bool b)∧(b=true↔FitsP c))∧Bw w w'
theorem Xzi (w:World)(c:Cn)(gv rv:Value)(ha:CnArg w c gv rv):
    Calls prog 6 #[.agg (c.cells gv rv)] w (Ynh c w):=by
 obtain⟨w0,hw0⟩:=xq (w.alloc (.cells (c.cells gv rv) 28))
 have B0:Hid (Bw w w0):=Hd (by rw[hw0];exact(zR _ _).alloc (zL _) _)
 have CX:CB w0 w.heap.size c gv rv 28:=by unfold CB;rw[hw0];exact heap_alloc_last w _
 have SR:=ha.srow.below B0.o
 have IR:=ha.irow.below B0.o
 have OK:=Hd ha.ok;have HA:=Hd ha
 obtain⟨xa,xc,rfl,hxc,rx⟩:=SR
 obtain⟨ya,yc,rfl,hyc,ry⟩:=IR
 obtain⟨n,hn⟩:=xq c.groups.length
 obtain⟨m,hm⟩:=xq c.refs.length
 have c0:=CX.at (Ya9 c (.slice xa c.groups.length xc) (.slice ya c.refs.length yc))
 have c18:=CX.at (Xh8 OK.o (.slice xa c.groups.length xc) (.slice ya c.refs.length yc))
 have c19:=CX.at (Xlm OK.o (.slice xa c.groups.length xc) (.slice ya c.refs.length yc))
 have c20:=CX.at (Xh7 OK.o (.slice xa c.groups.length xc) (.slice ya c.refs.length yc))
 have c53:=CX.at (Xjn OK.o (.slice xa c.groups.length xc) (.slice ya c.refs.length yc))
 have c54:=CX.at (Xll OK.o (.slice xa c.groups.length xc) (.slice ya c.refs.length yc))
 have c74:=CX.at (Xjl OK.o (.slice xa c.groups.length xc) (.slice ya c.refs.length yc))
 rw[←hn] at c18
 rw[←hm] at c20
 have HN:=Hd hn;have HM:=Hd hm;have RX:=Hd rx
 have hn2:n≤140737488355328:=by rw[hn];exact ha.gl
 have hm2:m≤140737488355328:=by rw[hm];exact ha.rl
 have z1:c.name.size≤140737488355328:=ha.name
 have z2:c.subject.size≤140737488355328:=ha.subject
 have z3:c.ctl.size≤140737488355328:=ha.ctl
 have z4:c.dist.size≤140737488355328:=ha.dist
 have z5:c.body.size≤140737488355328:=ha.body
 have FI:=Hd (Yeo c)
 obtain⟨cs,hcs⟩:=xq (c.cells (.slice xa c.groups.length xc) (.slice ya c.refs.length yc))
 rw[←hcs] at hw0⊢
 have HW:=Hd hw0
 clear hw0 hcs ha CX hn hm rx ry hxc hyc
 go_enter func6,ntmps6
 go_upto_region 1 with fail
 rw[←HW.o]
 clear HW
 go_wp2_with fail
 go_loopg [3,4] n (fun k s i wr=>∃(j:Nat) (q:Int),j≤n∧k=n-j∧i=.int .i64 (j:Int)∧s=.int .i64 q∧Hid (n≤30→q=(tot (c.groups.take j):Nat))∧w0=wr)
 case atStart=>exact⟨0,0,by omega,rfl,rfl,rfl,Hd (fun _=>rfl),rfl⟩
 case round=>
  obtain⟨j,q,hj,rfl,rfl,rfl,hq,rfl⟩:=hrel
  by_cases hlt:j<n
  ·have hl:j<c.groups.length:=by rw[←HN.o];exact hlt
   obtain⟨b,off,rfl,_,hcell⟩:=RX.o (fun e=>by rw[e] at hl;simp at hl)
   obtain⟨g,hg⟩:=xq (c.groups[j])
   have k1:w0.cell? ⟨b,off+j,none⟩=some (.string g):=by rw[hg];exact hcell j hl
   have zg:g.size≤140737488355328:=by rw[hg];exact HA.o.gz _ (zG hl)
   obtain⟨q2,hq2⟩:=xq (IntKind.i64.wrap (q+(g.size:Int)))
   have Q2:Hid (n≤30→q2=(tot (c.groups.take (j+1)):Nat)):=Hd (fun h30=>by
    have e:=hq.o h30
    have tl:=Xxw (l:=c.groups.take j) (m:=140737488355328) (fun x hx=>HA.o.gz x (List.mem_of_mem_take hx))
    rw[List.length_take] at tl
    rw[hq2,e,List.take_succ_eq_append_getElem hl,Yco,←hg]
    have:min j c.groups.length≤30:=by rw[←HN.o];omega
    have tl2:tot (c.groups.take j)≤30*140737488355328:=Nat.le_trans tl (Nat.mul_le_mul_right _ this)
    rw[IntWalk.i64_in _ (by omega)]
    omega)
   have wq:=hq2.symm
   clear hcell hg hq hq2 hl
   go_wp2_with fail
   go_roundg (n-(j+1))
   case measure=>omega
   case rel=>exact⟨j+1,q2,by omega,rfl,by go_num,rfl,Q2,rfl⟩
  ·obtain rfl:j=n:=by omega
   have TK:Hid (j≤30→q=(tot c.groups:Nat)):=Hd (fun h30=>by rw[hq.o h30,List.take_of_length_le (by rw[HN.o];exact zL _)])
   clear hq hlt
   by_cases h1:j≤30
   ·have q1:=TK.o h1
    obtain⟨t,ht⟩:=xq (tot c.groups)
    rw[←ht] at q1
    subst q1
    have HT:=Hd ht
    clear ht TK
    by_cases h2:t≤3000
    ·by_cases h3:m≤30
     ·by_cases h4:c.name.size+c.subject.size+c.ctl.size+c.dist.size≤2000
      ·by_cases h5:c.body.size≤2000
       ·have F:Hid (FitsP c):=Hd (FI.o.2 ⟨by rw[←HN.o];exact h1,by rw[←HT.o];exact h2,by rw[←HM.o];exact h3,h4,h5⟩)
        have d5:decide ((c.body.size:Int)≤2000)=true:=zT (by omega)
        go_wp2_with fail
        go_ret
        exact⟨⟨true,rfl,⟨fun _=>F.o,fun _=>rfl⟩⟩,B0.o⟩
       ·have F:Hid (¬FitsP c):=Hd (fun h=>h5 h.body)
        have d5:decide ((c.body.size:Int)≤2000)=false:=zW (by omega)
        go_wp2_with fail
        go_ret
        exact⟨⟨false,rfl,⟨fun h=>(by cases h),fun h=>absurd h F.o⟩⟩,B0.o⟩
      ·have F:Hid (¬FitsP c):=Hd (fun h=>h4 h.tx)
       have h4':¬((c.name.size:Int)+(c.subject.size:Int)+(c.ctl.size:Int)+(c.dist.size:Int)≤2000):=by omega
       go_wp2_with fail
       go_ret
       exact⟨⟨false,rfl,⟨fun h=>(by cases h),fun h=>absurd h F.o⟩⟩,B0.o⟩
     ·have F:Hid (¬FitsP c):=Hd (fun h=>h3 (by rw[HM.o];exact h.rl))
      go_wp2_with fail
      go_ret
      exact⟨⟨false,rfl,⟨fun h=>(by cases h),fun h=>absurd h F.o⟩⟩,B0.o⟩
    ·have F:Hid (¬FitsP c):=Hd (fun h=>h2 (by rw[HT.o];exact h.gt))
     go_wp2_with fail
     go_ret
     exact⟨⟨false,rfl,⟨fun h=>(by cases h),fun h=>absurd h F.o⟩⟩,B0.o⟩
   ·have F:Hid (¬FitsP c):=Hd (fun h=>h1 (by rw[HN.o];exact h.gl))
    clear TK
    go_wp2_with fail
    go_ret
    exact⟨⟨false,rfl,⟨fun h=>(by cases h),fun h=>absurd h F.o⟩⟩,B0.o⟩
end Go.Proofs.YtjolcnopipbkhaaGreatDoor
/- What a card's proof asks of a content that came in: its cells, its lists, its sizes. -/
namespace Go.Proofs.YtjolcnopipbkhaaGreatDoor
open Go.Proofs.Tryz
open Go.ChangeShapes Go.WideShapes Go.ChangeAt Go.RowKit
open Go.ChangeMaps (open_string shut_string)
set_option linter.unusedVariables false
set_option maxHeartbeats 100000000
set_option maxRecDepth 100000
theorem own:ownKnob prog.godebug=none:=by kernel_rfl
theorem Yh5:laidOutB prog=true:=by kernel_rfl
theorem Yme:prog.cellsOf 28=75:=by kernel_rfl
theorem Xua:prog.cellsOf 26=32:=by kernel_rfl
theorem Xub:prog.cellsOf 22=16:=by kernel_rfl
theorem Yka:prog.cellsOf 5=1:=by kernel_rfl
theorem Ydr:prog.cellsOf 3=1:=by kernel_rfl
theorem Xv5:prog.cellsOf 9=1:=by kernel_rfl
theorem Ykb:prog.cellsOf 23=1:=by kernel_rfl
theorem Ykc:prog.cellsOf 24=1:=by kernel_rfl
theorem Yds {w:World}{r:Reach}{base:Nat}{v:Value}(h:Value.okWide prog w r base 28 v):∃cs,v=.agg cs:=by
 simp only[Value.okWide,underlying28] at h
 obtain⟨cs,h1,_⟩:=h
 exact⟨cs,h1⟩
theorem Xfv {H:Type}{P:Program}{e:TypeId}:∀{ds:List (DataW H)} {d:DataW H},d∈ds→∀n∈d.weights P e,n∈DataW.weightsAll P e ds
 |d0::ds,d,hd,n,hn=>by
  simp only[DataW.weightsAll,List.mem_append]
  rcases List.mem_cons.1 hd with rfl|hd
  ·exact .inl hn
  ·exact .inr (Xfv hd n hn)
theorem Xim {H:Type}{P:Program}{t e:TypeId}(hu:P.underlying t=some (.slice e)){el sp:List (DataW H)}{d:DataW H}(hd:d∈el):∀n∈d.weights P e,n∈(DataW.slice el sp).weights P t:=by
 intro n hn
 simp only[DataW.weights,hu,List.mem_cons,List.mem_append]
 exact .inr (.inl (Xfv hd n hn))
section
variable {H:Type} {enc:TypeId×Value→H} {w:World} {base:Nat} {spare:Nat→Bool} {held:Bool} {fuel:Nat} {cs:List Value} {x:DataW H×List MemPlace}
theorem Xhq {t:TypeId}{n:Nat}(ht:prog.underlying t=some (.array n 5))(hc:prog.cellsOf t=n)(h:DataW.trod enc prog w base spare held fuel t cs=some x):∃l:List Nat,l.length=n∧(∀x∈l,x<256)∧cs=l.map U:=by
 obtain⟨xs,m,_,_,hlen,hxl,hi⟩:=DataW.trod_array ht h
 rw[hc] at hlen
 have each:∀i (hi':i<cs.length),∃n:Nat,n<256∧cs[i]=U n:=by
  intro i hi'
  have h1:=hi i (by omega)
  rw[Yka,Nat.mul_one,List.drop_eq_getElem_cons hi',List.getElem?_eq_getElem (by omega)] at h1
  obtain⟨n,hn,_,hw⟩:=DataW.trod_int underlying5 h1
  simp only[List.take_succ_cons,List.take_zero,List.cons.injEq,and_true] at hn
  have hb:0≤n∧n≤255:=by
   simp[Lit.wf,IntKind.min,IntKind.max,IntKind.signed,IntKind.bits] at hw
   omega
  exact⟨n.toNat,by omega,by rw[hn,U];congr 1;omega⟩
 have key:∀cs:List Value,(∀i (hi':i<cs.length),∃n:Nat,n<256∧cs[i]=U n)→∃l:List Nat,(∀x∈l,x<256)∧cs=l.map U:=by
  intro cs
  induction cs with
  |nil=>exact fun _=>⟨[],by simp,rfl⟩
  |cons c cs ih=>
   intro h
   obtain⟨l,hl,e⟩:=ih (fun i hi'=>by have:=h (i+1) (by simpa using hi');rw[List.getElem_cons_succ] at this;exact this)
   obtain⟨n,hn,e'⟩:=h 0 (by simp)
   simp only[List.getElem_cons_zero] at e'
   exact⟨n::l,by simpa using⟨hn,hl⟩,by rw[e',e];rfl⟩
 obtain⟨l,hl,e⟩:=key cs each
 exact⟨l,by rw[e,List.length_map] at hlen;exact hlen,hl,e⟩
theorem Ydq (h:DataW.trod enc prog w base spare held fuel 23 cs=some x)(hw:∀n∈x.1.weights prog 23,n≤reachBytes):
    ∃v gs,cs=[v]∧SRow w v gs∧gs.length≤Xfa∧∀g∈gs,g.size≤Xfa:=by
 rcases Go.Deep.open_slice1 underlying23 Xv5 h with⟨rfl,_⟩|⟨a,len,cap,m,n,V,D,Pl,rfl,hb,hl,hm,hmm,rfl,hx⟩
 ·exact⟨_,[],rfl,⟨none,0,rfl,zL _,fun h=>absurd rfl h⟩,by simp,fun _ h=>by cases h⟩
 have hlm:len≤m:=by rw[hmm];split<;>omega
 have each:∀i,i<len→∃g:ByteArray,w.cell? (a.add i)=some (.string g)∧g.size≤Xfa:=by
  intro i hi
  obtain⟨h1,h2⟩:=hx i (by omega)
  obtain⟨t,e3,ex3,_⟩:=DataW.trod_string underlying9 h2
  simp only[List.cons.injEq,and_true] at e3
  refine⟨t,by rw[h1,e3],?_⟩
  have:=hw t.data.toList.length (Xim underlying23 (List.mem_map.2 ⟨i,List.mem_range.2 hi,rfl⟩) _ (by
   have:D i=.lit (.string t.data.toList):=by injection ex3
   rw[this]
   simp[DataW.weights]))
  have e:t.data.toList.length=t.size:=rfl
  rw[e] at this
  unfold reachBytes at this
  unfold Xfa
  omega
 obtain⟨y,hy⟩:=Go.Deep.choose_lt each
 have hlen:len≤Xfa:=by
  have:=hw _ (by simp only[DataW.weights,underlying23];exact List.mem_cons_self ..)
  rw[show prog.bytesOf 9=16 by kernel_rfl] at this
  simp at this
  unfold reachBytes at this
  unfold Xfa
  omega
 refine⟨_,(List.range len).map y,rfl,⟨some a,cap,by simp,by simpa using hl,fun hne=>?_⟩,by simpa using hlen,fun g hg=>?_⟩
 ·have h0:0<len:=by
     rcases Nat.eq_zero_or_pos len with h|h
     ·subst h;exact absurd rfl hne
     ·exact h
  obtain⟨b,off,spot⟩:=a
  have hc0:=(hy 0 h0).1
  have hspot:spot=none:=by simpa [Addr.add] using World.cell?_spot hc0
  subst hspot
  refine⟨b,off,rfl,by simpa [Addr.add] using World.block_lt_of_cell? w _ hc0,fun i hi=>?_⟩
  simp at hi
  have:=(hy i hi).1
  have hadd:(⟨b,off,none⟩:Addr).add i=⟨b,off+i,none⟩:=by unfold Addr.add;split<;>simp_all
  rw[hadd] at this
  rw[this];simp
 ·obtain⟨i,hi',rfl⟩:=List.mem_map.1 hg
  exact(hy i (List.mem_range.1 hi')).2
theorem Yho (h:DataW.trod enc prog w base spare held fuel 24 cs=some x)(hw:∀n∈x.1.weights prog 24,n≤reachBytes):
    ∃v ids,cs=[v]∧IRow w v ids∧ids.length≤Xfa∧∀l∈ids,IdOk l:=by
 rcases Go.Deep.open_slice underlying24 h with⟨rfl,_⟩|⟨a,len,cap,m,n,D,Pl,rfl,hb,hl,hm,hmm,rfl,hx⟩
 ·exact⟨_,[],rfl,⟨none,0,rfl,zL _,fun h=>absurd rfl h⟩,by simp,fun _ h=>by cases h⟩
 have hlm:len≤m:=by rw[hmm];split<;>omega
 have each:∀i,i<len→∃l:List Nat,IdOk l∧∀k u,(idA l)[k]?=some u→w.cell? (a.add (i*32+k))=some u:=by
  intro i hi
  obtain⟨cs',h1,h2⟩:=hx i (by omega)
  rw[Xua] at h1
  obtain⟨l,hl1,hl2,rfl⟩:=Xhq underlying26 Xua h2
  refine⟨l,⟨hl1,hl2⟩,fun k u hu=>?_⟩
  obtain⟨_,hcl,hat⟩:=World.cells?_some h1
  have hk:k<32:=by
   have:=(Array.getElem?_eq_some_iff.1 hu).1
   rw[Xag,hl1] at this
   exact this
  have:=hat k hk
  have hadd:(a.add (i*32)).add k=a.add (i*32+k):=by
   unfold Addr.add
   split<;>split<;>simp_all<;>omega
  rw[hadd] at this
  rw[this]
  simpa [idA] using hu
 obtain⟨y,hy⟩:=Go.Deep.choose_lt each
 have hlen:len≤Xfa:=by
  have:=hw _ (by simp only[DataW.weights,underlying24];exact List.mem_cons_self ..)
  rw[show prog.bytesOf 26=32 by kernel_rfl] at this
  simp at this
  unfold reachBytes at this
  unfold Xfa
  omega
 refine⟨_,(List.range len).map y,rfl,⟨some a,cap,by simp,by simpa using hl,fun hne=>?_⟩,by simpa using hlen,fun l hg=>?_⟩
 ·have h0:0<len:=by
     rcases Nat.eq_zero_or_pos len with h|h
     ·subst h;exact absurd rfl hne
     ·exact h
  obtain⟨b,off,spot⟩:=a
  have hl0:=(hy 0 h0).1
  have hc0:=(hy 0 h0).2 0 ((idA (y 0))[0]'(by rw[Xag,hl0.len];decide)) (Array.getElem?_eq_getElem _)
  have hspot:spot=none:=by simpa [Addr.add] using World.cell?_spot hc0
  subst hspot
  refine⟨b,off,rfl,by simpa [Addr.add] using World.block_lt_of_cell? w _ hc0,fun i hi k u hu=>?_⟩
  simp at hi
  simp at hu
  have:=(hy i hi).2 k u hu
  have hadd:(⟨b,off,none⟩:Addr).add (i*32+k)=⟨b,off+i*32+k,none⟩:=by unfold Addr.add;split<;>simp_all<;>omega
  rw[hadd] at this
  exact this
 ·obtain⟨i,hi',rfl⟩:=List.mem_map.1 hg
  exact(hy i (List.mem_range.1 hi')).1
theorem Xks (h:DataW.trod enc prog w base spare held fuel 9 cs=some x)(hw:∀n∈x.1.weights prog 9,n≤reachBytes):∃s:ByteArray,cs=[.string s]∧s.size≤Xfa:=by
 obtain⟨t,e3,ex3,_⟩:=DataW.trod_string underlying9 h
 refine⟨t,e3,?_⟩
 have:=hw t.data.toList.length (by rw[ex3];simp[DataW.weights])
 have e:t.data.toList.length=t.size:=rfl
 rw[e] at this
 unfold reachBytes at this
 unfold Xfa
 omega
theorem Xrq (h:DataW.trod enc prog w base spare held fuel 28 cs=some x)(hw:∀n∈x.1.weights prog 28,n≤reachBytes):
    ∃(c:Cn) (gv rv:Value),cs=(c.cells gv rv).toList∧CnArg w c gv rv:=by
 obtain⟨xs,m,_,hx,hlen,hxl,hf⟩:=DataW.trod_struct underlying28 h
 rw[Yme] at hlen
 have hl14:xs.length=14:=hxl
 have W:∀(j:Nat) (t:TypeId) (hj:j<xs.length),((prog.underlying 28).bind fun u=>match u with|.struct fs=>(fs.toList.map (·.type))[j]?|_=>none)=some t→∀n∈(xs[j]'hj).1.weights prog t,n≤reachBytes:=by
  intro j t hj ht n hn
  refine hw n ?_
  rw[hx]
  simp only[DataW.weights,underlying28]
  rw[underlying28] at ht
  exact DataW.weights_mem_each (j:=j) ht (by rw[List.getElem?_map,List.getElem?_eq_getElem hj];rfl) n hn
 have f0:DataW.trod enc prog w base spare held m 9 ((cs.drop 0).take (prog.cellsOf 9))=xs[0]?:=hf 0 _ rfl
 have f1:DataW.trod enc prog w base spare held m 22 ((cs.drop 1).take (prog.cellsOf 22))=xs[1]?:=hf 1 _ rfl
 have f2:DataW.trod enc prog w base spare held m 3 ((cs.drop 17).take (prog.cellsOf 3))=xs[2]?:=hf 2 _ rfl
 have f3:DataW.trod enc prog w base spare held m 23 ((cs.drop 18).take (prog.cellsOf 23))=xs[3]?:=hf 3 _ rfl
 have f4:DataW.trod enc prog w base spare held m 9 ((cs.drop 19).take (prog.cellsOf 9))=xs[4]?:=hf 4 _ rfl
 have f5:DataW.trod enc prog w base spare held m 24 ((cs.drop 20).take (prog.cellsOf 24))=xs[5]?:=hf 5 _ rfl
 have f6:DataW.trod enc prog w base spare held m 26 ((cs.drop 21).take (prog.cellsOf 26))=xs[6]?:=hf 6 _ rfl
 have f7:DataW.trod enc prog w base spare held m 9 ((cs.drop 53).take (prog.cellsOf 9))=xs[7]?:=hf 7 _ rfl
 have f8:DataW.trod enc prog w base spare held m 9 ((cs.drop 54).take (prog.cellsOf 9))=xs[8]?:=hf 8 _ rfl
 have f9:DataW.trod enc prog w base spare held m 3 ((cs.drop 55).take (prog.cellsOf 3))=xs[9]?:=hf 9 _ rfl
 have f10:DataW.trod enc prog w base spare held m 3 ((cs.drop 56).take (prog.cellsOf 3))=xs[10]?:=hf 10 _ rfl
 have f11:DataW.trod enc prog w base spare held m 22 ((cs.drop 57).take (prog.cellsOf 22))=xs[11]?:=hf 11 _ rfl
 have f12:DataW.trod enc prog w base spare held m 3 ((cs.drop 73).take (prog.cellsOf 3))=xs[12]?:=hf 12 _ rfl
 have f13:DataW.trod enc prog w base spare held m 9 ((cs.drop 74).take (prog.cellsOf 9))=xs[13]?:=hf 13 _ rfl
 have g (j:Nat) (hj:j<14):xs[j]?=some (xs[j]'(by omega)):=List.getElem?_eq_getElem _
 rw[g 0 (by decide),Xv5] at f0
 rw[g 1 (by decide),Xub] at f1
 rw[g 2 (by decide),Ydr] at f2
 rw[g 3 (by decide),Ykb] at f3
 rw[g 4 (by decide),Xv5] at f4
 rw[g 5 (by decide),Ykc] at f5
 rw[g 6 (by decide),Xua] at f6
 rw[g 7 (by decide),Xv5] at f7
 rw[g 8 (by decide),Xv5] at f8
 rw[g 9 (by decide),Ydr] at f9
 rw[g 10 (by decide),Ydr] at f10
 rw[g 11 (by decide),Xub] at f11
 rw[g 12 (by decide),Ydr] at f12
 rw[g 13 (by decide),Xv5] at f13
 obtain⟨s0,e0,z0⟩:=Xks f0 (W 0 _ (by omega) rfl)
 obtain⟨l1,a1,b1,e1⟩:=Xhq underlying22 Xub f1
 obtain⟨n2,e2,_,w2⟩:=DataW.trod_int underlying3 f2
 obtain⟨v3,gs,e3,r3,z3,y3⟩:=Ydq f3 (W 3 _ (by omega) rfl)
 obtain⟨s4,e4,z4⟩:=Xks f4 (W 4 _ (by omega) rfl)
 obtain⟨v5,ids,e5,r5,z5,y5⟩:=Yho f5 (W 5 _ (by omega) rfl)
 obtain⟨l6,a6,b6,e6⟩:=Xhq underlying26 Xua f6
 obtain⟨s7,e7,z7⟩:=Xks f7 (W 7 _ (by omega) rfl)
 obtain⟨s8,e8,z8⟩:=Xks f8 (W 8 _ (by omega) rfl)
 obtain⟨n9,e9,_,w9⟩:=DataW.trod_int underlying3 f9
 obtain⟨n10,e10,_,w10⟩:=DataW.trod_int underlying3 f10
 obtain⟨l11,a11,b11,e11⟩:=Xhq underlying22 Xub f11
 obtain⟨n12,e12,_,w12⟩:=DataW.trod_int underlying3 f12
 obtain⟨s13,e13,z13⟩:=Xks f13 (W 13 _ (by omega) rfl)
 refine⟨⟨s0,l1,n2,gs,s4,ids,l6,s7,s8,n9,n10,l11,n12,s13⟩,v3,v5,?_,⟨⟨⟨a1,b1⟩,⟨a11,b11⟩,⟨a6,b6⟩,y5,w2,w9,w10,w12⟩,z0,z4,z7,z8,z13,z3,y3,z5,r3,r5⟩⟩
 have cut:∀(i k:Nat),cs.drop i=(cs.drop i).take k++cs.drop (i+k):=fun i k=>by
  have:=(List.take_append_drop k (cs.drop i)).symm
  rwa [List.drop_drop] at this
 have s:cs=cs.drop 0:=rfl
 rw[s,cut 0 1,cut 1 16,cut 17 1,cut 18 1,cut 19 1,cut 20 1,cut 21 32,cut 53 1,cut 54 1,cut 55 1,cut 56 1,cut 57 16,cut 73 1,cut 74 1,e0,e1,e2,e3,e4,e5,e6,e7,e8,e9,e10,e11,e12,e13]
 rw[show cs.drop (74+1)=[] from List.drop_of_length_le (by omega)]
 simp[Cn.cells]
end
def laidL : List (String × DataW Unit) := [("math/bits.deBruijn32tab", Rows.laid_math_bits_deBruijn32tab), ("math/bits.deBruijn64tab", Rows.laid_math_bits_deBruijn64tab), ("internal/strconv.uint64pow10", Rows.laid_internal_strconv_uint64pow10), ("unicode/utf8.acceptRanges", Rows.laid_unicode_utf8_acceptRanges), ("bulletin/base64.alphabet", Rows.laid_bulletin_base64_alphabet), ("bulletin/sha256.constants", Rows.laid_bulletin_sha256_constants), ("bulletin/canonical.formWords", Rows.laid_bulletin_canonical_formWords), ("unicode/utf8.first", Rows.laid_unicode_utf8_first)]
theorem Yj7:(laidL.all fun x=>x.2.handleName?.isNone)=true:=by kernel_rfl
theorem Xf9 {W:World}(h:laidMetH prog laidL W):laidMet prog laidL W:=by rwa [MakeChecks.laidMetH_plain _ _ _ Yj7] at h
theorem Ymy : (laidL.filter fun x => x.1 == "bulletin/base64.alphabet") = [("bulletin/base64.alphabet", Lib.tabData .u8 (alph.map fun n : Nat => (n : Int)))] := by kernel_rfl
theorem Ymw : (laidL.filter fun x => x.1 == "internal/strconv.uint64pow10") = [("internal/strconv.uint64pow10", Lib.tabData .u64 Lib.pow10Tab)] := by kernel_rfl
theorem Ymx : (laidL.filter fun x => x.1 == "bulletin/sha256.constants") = [("bulletin/sha256.constants", Lib.tabData .u32 ((List.range 64).map fun c => ((shK.getD c 0 : Nat) : Int)))] := by kernel_rfl
theorem Ymv : (laidL.filter fun x => x.1 == "bulletin/canonical.formWords") = [("bulletin/canonical.formWords", .agg (fWords.map fun l => .lit (.string (l.map UInt8.ofNat))))] := by kernel_rfl
theorem Yne : prog.globalNamed "bulletin/base64.alphabet" = some 3 := by kernel_rfl
theorem Ynk : prog.globalNamed "internal/strconv.uint64pow10" = some 4 := by kernel_rfl
theorem Ynf : prog.globalNamed "bulletin/sha256.constants" = some 1 := by kernel_rfl
theorem gFw : prog.globalNamed "bulletin/canonical.formWords" = some 0 := by kernel_rfl
theorem Yjw {W:World}(h:laidMet prog laidL W):Tab W:=by
 have h1 := h.filter (fun x => x.1 == "bulletin/base64.alphabet")
 rw[Ymy] at h1
 have ht : Lib.TabIs prog W "bulletin/base64.alphabet" .u8 (alph.map fun n : Nat => (n : Int)) := Lib.tabIs_of_head (rest := []) Yne (show (prog.globals[3]?).map (·.type) = some 184 by kernel_rfl) underlying184 underlying5 (by kernel_rfl) (by kernel_rfl) h1
 have hc:∀g,g<64→W.cell? ⟨3,g,none⟩=some (U (al g)):=fun g hg=>by
  have:=ht.cell Yne g (by simp[alph];omega)
  rw[this]
  have hl:g<alph.length:=by simp[alph];omega
  simp[U,al,List.getD,List.getElem?_eq_getElem hl]
 exact⟨World.block_lt_of_cell? W _ (hc 0 (by omega)),hc⟩
theorem Yj6 {W : World}(h : laidMet prog laidL W) : Lib.TabIs prog W "internal/strconv.uint64pow10" .u64 Lib.pow10Tab := by
  have h1 := h.filter (fun x => x.1 == "internal/strconv.uint64pow10")
  rw[Ymw] at h1
  exact Lib.tabIs_of_head (rest:=[]) Ynk (show(prog.globals[4]?).map (·.type)=some 310 by kernel_rfl) underlying310 underlying158 (by kernel_rfl) (by kernel_rfl) h1
theorem Yjz {W:World}(h:laidMet prog laidL W):∀i,i<64→W.cell? ⟨1,i,none⟩=some (.int .u32 ((shK.getD i 0:Nat):Int)):=by
 have h1 := h.filter (fun x => x.1 == "bulletin/sha256.constants")
 rw[Ymx] at h1
 have ht : Lib.TabIs prog W "bulletin/sha256.constants" .u32 ((List.range 64).map fun c => ((shK.getD c 0 : Nat) : Int)) := Lib.tabIs_of_head (rest := []) Ynf (show (prog.globals[1]?).map (·.type) = some 165 by kernel_rfl) underlying165 underlying163 (by kernel_rfl) (by kernel_rfl) h1
 intro c hc
 have:=ht.cell Ynf c (by simp;omega)
 rw[this]
 simp[List.getD,hc]
theorem Xmd {H:Type}{enc:TypeId×Value→H}{W:World}{base:Nat}{sp:Nat→Bool}{held:Bool}{fuel:Nat}{cs:List Value}{ws:List (List UInt8)}{p:List MemPlace}
    (h:DataW.trod enc prog W base sp held fuel 80 cs=some (.agg (ws.map fun l=>.lit (.string l)),p)):cs=ws.map fun l=>.string ⟨l.toArray⟩:=by
 obtain⟨xs,m,_,hx,hlen,hxl,hi⟩:=DataW.trod_array underlying80 h
 rw[show prog.cellsOf 80=11 by kernel_rfl] at hlen
 simp only[Prod.mk.injEq,DataW.agg.injEq] at hx
 have hws:ws.length=11:=by
  have:=congrArg List.length hx.1
  simp at this
  omega
 refine List.ext_getElem (by simp[hlen,hws]) fun i h1 h2=>?_
 have h3:=hi i (by omega)
 rw[show prog.cellsOf 9=1 by kernel_rfl,Nat.mul_one,List.drop_eq_getElem_cons h1,List.getElem?_eq_getElem (by omega)] at h3
 obtain⟨t,e3,ex3,_⟩:=DataW.trod_string underlying9 h3
 simp only[List.take_succ_cons,List.take_zero,List.cons.injEq,and_true] at e3
 have h4:(ws.map fun l=>(DataW.lit (.string l):DataW H))[i]?=(xs.map (·.1))[i]?:=by rw[hx.1]
 rw[List.getElem?_map,List.getElem?_map,List.getElem?_eq_getElem (by omega),List.getElem?_eq_getElem (by omega)] at h4
 simp only[Option.map_some,Option.some.injEq] at h4
 rw[ex3] at h4
 simp only[DataW.lit.injEq,Lit.string.injEq] at h4
 rw[e3,List.getElem_map,h4]
theorem Ycc:∀i,i<11→((fWords.map fun l=>(l.map UInt8.ofNat:List UInt8)).map fun l=>(Value.string ⟨l.toArray⟩))[i]?=some (.string (Xaq (fWords.getD i []))):=by
 intro i hi
 rcases(by omega:i=0∨i=1∨i=2∨i=3∨i=4∨i=5∨i=6∨i=7∨i=8∨i=9∨i=10) with rfl|rfl|rfl|rfl|rfl|rfl|rfl|rfl|rfl|rfl|rfl<;>kernel_rfl
theorem Ymt {W:World}(h:laidMet prog laidL W):∀i,i<11→W.cell? ⟨0,i,none⟩=some (.string (Xaq (fWords.getD i []))):=by
 have h1 := h.filter (fun x => x.1 == "bulletin/canonical.formWords")
 rw[Ymv] at h1
 obtain⟨ps,⟨g',t',cs,fuel,p,q,hg',ht',hvar,hd,_,_⟩,_⟩:=h1
 obtain rfl:=Option.some.inj (gFw.symm.trans hg')
 obtain rfl:=Option.some.inj ((show(prog.globals[0]?).map (·.type)=some 80 by kernel_rfl).symm.trans ht')
 have hc:=Xmd (ws:=fWords.map fun l=>l.map UInt8.ofNat) (by rw[List.map_map];exact hd)
 intro i hi
 have:=World.var?_cell gFw hvar i
 rw[this]
 have e:=Ycc i hi
 rw[←hc] at e
 simpa using e
theorem Ymf {W:World}(h:W.ShapedOpen prog):∃m,W.cell? ⟨2,0,none⟩=some (.int .i64 m):=
 Go.Proofs.cell_of_shapedOpen_int (zero:=#[.int .i64 0]) (t:=3) h (of_decide_eq_true (by kernel_rfl)) (by kernel_rfl) rfl (by kernel_rfl) (by kernel_rfl) underlying3
theorem Yd9:(((begin prog (fun _ _=>0) default).world.heap[8]?).bind Obj.row?).isSome=true:=by kernel_rfl
theorem Yg2 {W:World}(h:W.ShapedOpen prog):9≤W.heap.size:=by
 obtain⟨⟨zero,t⟩,hz⟩:=Option.isSome_iff_exists.1 Yd9
 obtain⟨cs,hh,_,_⟩:=h.1 8 zero t (of_decide_eq_true (by kernel_rfl)) hz
 exact zY hh
theorem Ylb {W:World}(h:laidMetH prog laidL W)(hs:W.ShapedOpen prog):Env W:=
 ⟨Yjw (Xf9 h),Yj6 (Xf9 h),Ymf hs,Yjz (Xf9 h),Ymt (Xf9 h),Yg2 hs⟩
theorem Ygp {H:Type}{enc:TypeId×Value→H}{os:Os}{f:FuncId}{fn:Func}{s:OpenSpec}{conds:List PathCond}{apart:Bool}(args:Array Value)
    (hsh:((World.laidAll prog os laidL).forCall (fun _ _=>0) ⟨#[],args,[]⟩).Shaped prog)
    (hok:Input.okWideB prog ((World.laidAll prog os laidL).forCall (fun _ _=>0) ⟨#[],args,[]⟩) f ⟨#[],args,[]⟩=true)
    (hrow:s.preRow enc prog fn conds apart laidL ((World.laidAll prog os laidL).forCall (fun _ _=>0) ⟨#[],args,[]⟩).memory args):
    ∃(w:World) (tape:Tape) (i:Input),w.os=os∧(w.forCall tape i).Shaped prog∧i.vars=[]∧Input.okWide prog (w.forCall tape i) .any w.heap.size f i∧
     s.preRow enc prog fn conds apart laidL (w.forCall tape i).memory i.args∧({}:Assume).holds prog (lone (Frame.enter prog f i.args .normal) [] (w.forCall tape i)):=
 ⟨World.laidAll prog os laidL,fun _ _=>0,⟨#[],args,[]⟩,World.laidAll_os _ _ _,hsh,(Input.okWide_of_okWideB (base:=0) hok).1,(Input.okWide_of_okWideB hok).2,hrow,by
  simp only[Assume.holds]
  exact⟨by simp,by simp,by simp,by simp,by simp⟩⟩
theorem Ynl (os:Os):(World.holding prog os ⟨#[],#[],[]⟩).layFits prog laidL []=true:=by kernel_rfl
theorem Ykw (os:Os):(World.holding prog os ⟨#[],#[],[]⟩).layIfaces prog laidL (World.laidAll prog os laidL)=true:=by kernel_rfl
theorem Xql {W:World}{base:Nat}{v:Value}{H:Type}{enc:TypeId×Value→H}{d:DataW H}{p:List MemPlace}(hv:Value.okWide prog W .any base 28 v)(h:DataW.Trod enc prog W 0 (fun _=>true) true 28 v d p)
    (hw:∀n∈d.weights prog 28,n≤reachBytes):∃(c:Cn) (gv rv:Value),v=.agg (c.cells gv rv)∧CnArg W c gv rv:=by
 obtain⟨cs,rfl⟩:=Yds hv
 obtain⟨m,hm⟩:=h
 obtain⟨c,gv,rv,h1,h2⟩:=Xrq hm hw
 exact⟨c,gv,rv,by rw[show cs=c.cells gv rv from Array.toList_inj.1 (by simpa [Value.cells] using h1)],h2⟩
def Yca:Array Value:=cn0.cells (.slice none 0 0) (.slice none 0 0)
end Go.Proofs.YtjolcnopipbkhaaGreatDoor
