/- Walk of the reference's Encode and Size. -/
import Derived.Test.YtohmdledkhgdaaaGreatDoorPa24
namespace Go.Proofs.YtohmdledkhgdaaaGreatDoor
open Go.RowKit Go.Maps
set_option linter.unusedVariables false
set_option maxRecDepth 100000
def alphS:ByteArray:=⟨#[65,66,67,68,69,70,71,72,73,74,75,76,77,78,79,80,81,82,83,84,85,86,87,88,89,90,97,98,99,100,101,102,103,104,105,106,107,108,109,110,111,112,113,114,115,116,117,118,119,120,121,122,48,49,50,51,52,53,54,55,56,57,43,47]⟩
theorem Xpf (q:Nat) (h:q<256):bits .and .u8 (q:Int) 1=((q%2:Nat):Int):=by
 have:∀q:Fin 256,bits .and .u8 ((q.val:Nat):Int) 1=((q.val%2:Nat):Int):=by decide+kernel
 exact this ⟨q,h⟩
theorem Xgn (a b:List Nat):Xaq a++Xaq b=Xaq (a++b):=by
 apply ByteArray.ext
 simp[Xaq]
theorem Xpi (v:Nat) (h:v<64):alphS.extract v (v+1)=Xaq [al v]:=by
 have:∀v:Fin 64,alphS.extract v.val (v.val+1)=Xaq [al v.val]:=by decide+kernel
 exact this ⟨v,h⟩
set_option maxHeartbeats 1000000 in
theorem Xp0 (w:World) (a:Option Addr) (cap:Nat) (l:List Nat) (hl:l.length≤400000) (hrd:Rd w a l):
    Calls Tryz.prog 78 #[.slice a l.length cap] w fun e w'=>e=.returned (.string (Xaq (Xe5 l)))∧w=w':=by
 obtain⟨n,hn⟩:∃n,n=l.length:=⟨_,rfl⟩
 have HC:=Hd hrd.at_;have H2:=Hd hrd.lt;have HN:=Hd hn
 rw[←hn]
 have hn4:n≤400000:=by omega
 clear hrd hl hn
 go_enter Tryz.func78,Tryz.ntmps78
 go_wp2_with fail
 go_loopg [3,4,5,6] n (fun k o v h i wr=>∃(j b c:Nat) (xs:List Nat),w=wr∧j≤n∧k=n-j∧i=.int .i64 (j:Int)∧v=.int .i64 (b:Int)∧h=.int .i64 (c:Int)∧o=.string (Xaq xs)∧Xf9 (l.take j)=(b,c,xs))
 case atStart=>exact⟨0,0,0,[],rfl,by omega,by omega,rfl,rfl,rfl,rfl,rfl⟩
 case round=>
  obtain⟨j,b,c,xs,rfl,hj,rfl,rfl,rfl,rfl,rfl,hst⟩:=hrel
  have h25:∀x∈l.take j,x<256:=fun x hx=>H2.out x (List.mem_of_mem_take hx)
  have hinv:=Xg9 (l.take j) h25
  have hev:=Yb4 (l.take j) h25
  rw[hst] at hinv hev
  obtain⟨i1,i2,i3⟩:=hinv
  simp only[List.length_take] at i1 i2 i3 hev
  have hxl:xs.length≤900000:=by omega
  clear h25
  by_cases hlt:j<n
  ·have hjl:j<l.length:=by rw[←HN.out];exact hlt
   obtain⟨bb,off,rfl,hbw,hcell⟩:=HC.out (by omega)
   have hx:w.cell? ⟨bb,off+j,none⟩=some (U l[j]):=hcell j hjl
   clear hcell
   have hg:l[j]<256:=H2.out _ (List.getElem_mem hjl)
   obtain⟨g,hg'⟩:∃g,g=l[j]:=⟨_,rfl⟩
   rw[←hg'] at hx hg
   unfold U at hx
   have ST:=Hd hst;have HG:=Hd hg';have I2:=Hd i2;have I3:=Hd i3
   clear hst hg' i2 i3
   go_wp2_with fail
   go_loopg [3,4,5,7] 8 (fun k o v h i wr=>∃(m b' c':Nat) (ys:List Nat),w=wr∧m≤8∧k=8-m∧i=.int .i64 (7-(m:Int))∧v=.int .i64 (b':Int)∧h=.int .i64 (c':Int)∧o=.string (Xaq ys)∧Xcs (b,c,xs) g m=(b',c',ys))
   case atStart=>exact⟨0,b,c,xs,rfl,by omega,by omega,rfl,rfl,rfl,rfl,rfl⟩
   case round=>
    obtain⟨m,b',c',ys,rfl,hm,rfl,rfl,rfl,rfl,rfl,hbr⟩:=hrel
    have hbi:=Xvd (s:=(b,c,xs)) (g:=g) i1 I2.out m
    rw[hbr] at hbi
    simp only at hbi
    by_cases hm8:m<8
    ·obtain⟨k,hk⟩:∃k,k=7-m:=⟨_,rfl⟩
     obtain⟨q,hq⟩:∃q,q=g/2^k:=⟨_,rfl⟩
     obtain⟨t,htt⟩:∃t,t=q%2:=⟨_,rfl⟩
     have hq256:q<256:=by rw[hq];exact Nat.lt_of_le_of_lt (Nat.div_le_self _ _) hg
     have ek:(7:Int)-(m:Int)=(k:Int):=by omega
     have e1:(g:Int)/2^k=(q:Int):=by rw[hq];push_cast;rfl
     have e2:Go.bits .and .u8 (q:Int) 1=(t:Int):=by rw[htt];exact Xpf q hq256
     have ht2:t<2:=by omega
     have hbb:b'<64:=Nat.lt_of_lt_of_le hbi.2.1 (by have:2^c'≤2^6:=Nat.pow_le_pow_right (by omega) (by omega)
                                                    omega)
     have BR:=Hd hbr;have K:=Hd hk;have Q:=Hd hq;have T:=Hd htt;have BI:=Hd hbi
     have hc6:c'<6:=hbi.1
     clear hbr hk hq htt hbi
     by_cases h6:c'+1=6
     ·have h6':((c':Int)+1==6)=true:=Xa6 (by omega)
      have hv0:2*b'+t<64:=by
       have:=BI.out.2.1
       obtain rfl:c'=5:=by omega
       omega
      have hex:=Xpi (2*b'+t) hv0
      unfold alphS at hex
      have hsz:(Xaq ys).size≤2000000:=by rw[Xan];have:=BI.out.2.2;omega
      have hsz2:(Xaq [al (2*b'+t)]).size=1:=Xan _
      go_wp2_with fail
      go_roundg (8-(m+1))
      case measure=>omega
      case rel=>
       refine⟨m+1,0,0,ys++[al (2*b'+t)],rfl,by omega,rfl,by go_num,rfl,rfl,?_,?_⟩
       ·exact congrArg Value.string (Xgn _ _)
       ·rw[Xcs,BR.out,Xew,if_pos h6,←K.out,←Q.out,←T.out]
     ·have h6':((c':Int)+1==6)=false:=Xak (by omega)
      go_wp2_with fail
      go_roundg (8-(m+1))
      case measure=>omega
      case rel=>
       refine⟨m+1,2*b'+t,c'+1,ys,rfl,by omega,rfl,by go_num,by go_num,by go_num,rfl,?_⟩
       rw[Xcs,BR.out,Xew,if_neg h6,←K.out,←Q.out,←T.out]
    ·obtain rfl:m=8:=by omega
     have hbe:=Xve (s:=(b,c,xs)) (g:=g) i1 hev I2.out hg
     rw[hbr] at hbe
     have BE:=Hd hbe
     clear hbe hbr hbi
     go_wp2_with fail
     go_roundg (n-(j+1))
     case measure=>omega
     case rel=>
      refine⟨j+1,b',c',ys,rfl,by omega,rfl,by go_num,rfl,rfl,rfl,?_⟩
      rw[List.take_succ_eq_append_getElem hjl,Xlz,ST.out,←HG.out,BE.out]
  ·obtain rfl:j=n:=by omega
   rw[List.take_of_length_le (by rw[HN.out];exact Nat.le_refl _)] at hst
   have EF:=Hd (Xyn hst)
   have htl:=Xkj b c xs j (by rw[i3,HN.out,Nat.min_self])
   have I2:=Hd i2
   clear hst i3 HC H2 i2
   go_upto_if 40 with fail
   go_cut [3,40] (fun o _t wx=>o=.string (Xaq (Xbl (b,c,xs)))∧w=wx)
   case first=>
    by_cases hc0:0<c
    ·go_wp2_with fail
     go_loopg [4,5] (6-c) (fun k v h wr=>∃(q m:Nat),w=wr∧c≤m∧m≤6∧k=6-m∧q=b*2^(m-c)∧q<2^m∧v=.int .i64 (q:Int)∧h=.int .i64 (m:Int))
     case atStart=>exact⟨b,c,rfl,Nat.le_refl _,by omega,rfl,by simp,I2.out,rfl,rfl⟩
     case round=>
      obtain⟨q,m,rfl,hm1,hm2,rfl,hq,hqm,rfl,rfl⟩:=hrel
      have hq64:q<64:=Nat.lt_of_lt_of_le hqm (Nat.pow_le_pow_right (n:=2) (by omega) hm2)
      by_cases hm6:m<6
      ·have HQ:=Hd hq;have QM:=Hd hqm
       clear hq hqm
       go_wp2_with fail
       go_roundg (6-(m+1))
       case measure=>omega
       case rel=>
        refine⟨2*q,m+1,rfl,by omega,by omega,rfl,?_,?_,by go_num,by go_num⟩
        ·rw[HQ.out,show m+1-c=(m-c)+1 by omega,Nat.pow_succ,Nat.mul_comm 2,Nat.mul_assoc]
        ·have:=QM.out;rw[Nat.pow_succ];omega
      ·obtain rfl:m=6:=by omega
       have hex:=Xpi q hq64
       unfold alphS at hex
       have hsz:(Xaq xs).size≤2000000:=by rw[Xan];omega
       have hsz2:(Xaq [al q]).size=1:=Xan _
       have HQ:=Hd hq
       clear hq hqm
       go_wp2_with fail
       go_meet
       refine⟨?_,rfl⟩
       rw[Xbl,if_pos hc0]
       simp only
       rw[←HQ.out]
       exact congrArg Value.string (Xgn _ _)
    ·have hc0':decide (0<c)=false:=by simp;omega
     go_wp2_with fail
     go_meet
     refine⟨?_,rfl⟩
     rw[Xbl,if_neg hc0]
   case rest=>
    obtain⟨rfl,rfl⟩:=hcut
    obtain⟨ts,hts⟩:∃ts,ts=Xbl (b,c,xs):=⟨_,rfl⟩
    rw[←hts] at EF htl⊢
    clear hts I2
    go_wp2_with fail
    go_loopg [3] ((4-ts.length%4)%4) (fun k o wr=>∃ys,w=wr∧o=.string (Xaq ys)∧ys.length+k≤900000∧k=(4-ys.length%4)%4∧Xhn ys=Xe5 l)
    case atStart=>exact⟨ts,rfl,rfl,by omega,rfl,EF.out⟩
    case round=>
     obtain⟨ys,rfl,rfl,hyl,rfl,hpad⟩:=hrel
     have HP:=Hd hpad
     obtain⟨m,hm⟩:∃m,m=ys.length:=⟨_,rfl⟩
     have hsz:(Xaq ys).size=m:=by rw[Xan,hm]
     have HM:=Hd hm
     rw[←hm] at hyl
     clear hpad htl hm
     by_cases h4:m%4=0
     ·have h4':((m:Int)%4 !=0)=false:=Xat (by omega)
      go_wp2_with fail
      go_ret
      exact⟨by rw[←HP.out,Xof _ (by rw[←HM.out];exact h4)];rfl,rfl⟩
     ·have h4':((m:Int)%4 !=0)=true:=Xam (by omega)
      go_wp2_with fail
      go_roundg ((4-(m+1)%4)%4)
      case measure=>rw[←HM.out];omega
      case rel=>
       refine⟨ys++[61],rfl,?_,?_,?_,?_⟩
       ·exact congrArg Value.string (Xgn ys [61])
       ·simp;rw[←HM.out];omega
       ·simp;rw[←HM.out]
       ·rw[Xoe _ (by rw[←HM.out];exact h4)];exact HP.out
end Go.Proofs.YtohmdledkhgdaaaGreatDoor
/- bulletinref08.Bytes, bulletinref18.public. -/
namespace Go.Proofs.YtohmdledkhgdaaaGreatDoor
open Go.RowKit
set_option linter.unusedVariables false
set_option maxRecDepth 100000
set_option maxHeartbeats 1000000 in
theorem Xt4 (w:World) (h:Int) {r:List Nat} (hr:B16 r):
    Calls Tryz.prog 79 #[.int .i64 h,.agg (idA r)] w fun e w'=>∃a cap,e=.returned (.slice a 17 cap)∧Rd w' a ((h%256).toNat::r)∧Below w.heap.size w w':=by
 obtain⟨i0,hi0,hz0,hz1,hz2⟩:=info_parts Xio
 obtain⟨b,hb⟩:∃b,b=(h%256).toNat:=⟨_,rfl⟩
 have hb2:b<256:=by omega
 have eb:h%256=(b:Int):=by omega
 obtain⟨cs,hcs⟩:∃cs,cs=idA r:=⟨_,rfl⟩
 obtain⟨w0,hw0⟩:∃w0,w0=w.alloc (.cells cs 22):=⟨_,rfl⟩
 have B0:Hid (Below w.heap.size w w0):=Hd (by rw[hw0];exact(Below.refl _ _).alloc (Nat.le_refl _) _)
 have I0:Hid (IB w0 w.heap.size 22 r):=Hd (by unfold IB;rw[hw0,hcs];exact heap_alloc_last w _)
 obtain⟨w1,hw1⟩:∃w1,w1=w0.alloc (.cells #[.int .u8 (b:Int)] 5):=⟨_,rfl⟩
 have B1:Hid (Below w.heap.size w w1):=Hd (by rw[hw1];exact B0.out.alloc B0.out.size _)
 have OWN:Hid (w1.ownsRow w0.heap.size 5 1 (.slice (some ⟨w0.heap.size,0,none⟩) 1 1) 1 [.int .u8 (b:Int)]):=Hd (by
  rw[hw1]
  exact⟨rfl,.inr ⟨w0.heap.size,1,#[.int .u8 (b:Int)],rfl,Nat.le_refl _,heap_alloc_last w0 _,Nat.le_refl _,by decide,rfl,rfl⟩⟩)
 have SRC:Hid (∀j u,(r.map U)[j]?=some u→w1.cell? ((⟨w.heap.size,0,none⟩:Addr).add j)=some u):=Hd (fun j u hu=>by
  have i1:IB w1 w.heap.size 22 r:=by rw[hw1];exact I0.out.below ((Below.refl _ _).alloc (Nat.le_refl _) _)
  rw[Addr.add_mid,cell_of_row w1 _ (0+j) _ _ _ i1,Nat.zero_add]
  unfold idA
  rw[List.getElem?_toArray];exact hu)
 have S0:w0.heap.size=w.heap.size+1:=by rw[hw0];simp
 have RL:=Hd hr.len
 have FIN:Hid (∀v' w2,w2.ownsRow w0.heap.size 5 1 v' 17 ([.int .u8 (b:Int)]++r.map U)→w1.grownBy w2 (some w0.heap.size)→∃a cap,v'=.slice a 17 cap∧Rd w2 a (b::r)∧Below w.heap.size w w2):=Hd (fun v' w2 h1 h2=>by
  have o:OW w0.heap.size (b::r) v' w2:=by unfold OW;rw[List.length_cons,hr.len];exact h1
  obtain⟨g,c,rfl,_⟩:=o.slice (by simp)
  refine⟨some ⟨g,0,none⟩,c,by rw[List.length_cons,hr.len],Yg8 (n:=17) (cap:=c) (by have:=o;unfold OW at this;rw[List.length_cons,hr.len] at this;exact this) (fun x hx=>?_),Below.grown B1.out h2 B1.out.size (fun k hk=>by cases hk;omega)⟩
  rcases List.mem_cons.1 hx with rfl|hx
  ·exact hb2
  ·exact hr.lt x hx)
 have HW0:=Hd hw0;have HW1:Hid (w1=w0.alloc (.cells #[.int .u8 (h%256)] 5)):=Hd (by rw[eb];exact hw1)
 have EB:=Hd eb
 rw[S0] at OWN FIN
 have S1:Hid (w.heap.size+1≤w1.heap.size):=Hd (by rw[hw1];simp;omega)
 have SZ0:=Hd S0
 rw[←hcs]
 have HB:=Hd hb
 clear hb hcs hw0 hw1 hr S0 eb
 go_enter Tryz.func79,Tryz.ntmps79
 go_upto_region 1 with fail
 rw[←HW0.out]
 have CV:=SZ0.out
 go_wp2_with (at_builtin;first
  |(rw[←HW1.out];refine wpList_append_own _ rfl _ _ 62 rfl (w.heap.size+1) 5 i0 (.int .u8 0) 1 1 Tryz.underlying62 hi0 hz0 hz1 hz2 rfl (by decide) _ 1 [.int .u8 (b:Int)] rfl OWN.out ⟨w.heap.size,0,none⟩ 16 16 (r.map U) rfl (by rw[List.length_map,RL.out]) SRC.out (fun u hu=>by obtain⟨y,_,rfl⟩:=List.mem_map.1 hu;rfl) (by unfold maxLen;omega) (by omega) S1.out ?_;intro v' w3 hown' hgrow _))
 obtain⟨a,cap,rfl,f1,f2⟩:=FIN.out _ w3 hown' hgrow
 have F1:=Hd f1;have F2:=Hd f2
 clear hown' hgrow f1 f2 FIN
 go_wp2_with fail
 go_ret
 exact⟨a,cap,rfl,by rw[←HB.out];exact F1.out,F2.out⟩
theorem Xfx {n:Int} (h:0≤n):(Xd1 n).length≤21:=by rw[Xi3 h];exact Xm6 20 _
theorem Ydq {l:List Nat} (h:∀x∈l,x<256) (hl:l.length=17):(Xe5 l).length≤1000:=by
 rw[Xi1 l h,hl];decide
set_option maxHeartbeats 2000000 in
theorem Yak (w:World) (c:Cn) (ok:c.Ok) (hnum:0≤c.number) (gv rv:Value):
    Calls Tryz.prog 36 #[.agg (c.cells gv rv)] w fun e w'=>e=.returned (.string (Xaq (Xj4 c.p)))∧Below w.heap.size w w':=by
 obtain⟨w0,hw0⟩:∃w0,w0=w.alloc (.cells (c.cells gv rv) 28):=⟨_,rfl⟩
 have B0:Below w.heap.size w w0:=by rw[hw0];exact(Below.refl _ _).alloc (Nat.le_refl _) _
 have C0:CB w0 w.heap.size c gv rv 28:=by unfold CB;rw[hw0];exact heap_alloc_last w _
 have OK:=Hd ok
 obtain⟨ro,hro⟩:∃s,s=idA c.root:=⟨_,rfl⟩
 have LDR:Hid (∀wx,CB wx w.heap.size c gv rv 28→(loadVar 22 ⟨w.heap.size,57,none⟩).run Tryz.prog wx=.ok (.agg ro) wx):=Hd (fun wx h=>by rw[hro];exact CB.root16 h OK.out)
 obtain⟨pb,hpb⟩:∃l,l=(c.height%256).toNat::c.root:=⟨_,rfl⟩
 have PL:pb.length=17:=by rw[hpb,List.length_cons,ok.root.len]
 have PX:∀x∈pb,x<256:=by
  intro x hx
  rw[hpb] at hx
  rcases List.mem_cons.1 hx with rfl|hx
  ·omega
  ·exact ok.root.lt x hx
 obtain⟨d,hd⟩:∃t,t=Xaq (Xd1 c.number):=⟨_,rfl⟩
 obtain⟨t,ht⟩:∃t,t=Xaq (Xe5 pb):=⟨_,rfl⟩
 have C2:Hid (∀wx:World,Calls Tryz.prog 33 #[.int .i64 c.number] wx fun e w'=>e=.returned (.string d)∧Below wx.heap.size wx w'):=Hd (fun wx=>by rw[hd];exact Xgp c.number hnum (Xg7 ok.number).2 wx)
 have C8:Hid (∀wx:World,Calls Tryz.prog 79 #[.int .i64 c.height,.agg ro] wx fun e w'=>∃a cap,e=.returned (.slice a 17 cap)∧Rd w' a pb∧Below wx.heap.size wx w'):=Hd (fun wx=>by rw[hro,hpb];exact Xt4 wx c.height ok.root)
 have C9:Hid (∀(wx:World) a cap,Rd wx a pb→Calls Tryz.prog 78 #[.slice a 17 cap] wx fun e w'=>e=.returned (.string t)∧wx=w'):=Hd (fun wx a cap hrd=>by
  have:=Xp0 wx a cap pb (by omega) hrd
  rw[PL] at this
  rw[ht];exact this)
 have zd:d.size≤21:=by rw[hd,Xan];exact Xfx hnum
 have zt:t.size≤1000:=by rw[ht,Xan];exact Ydq PX PL
 have zd1:(d++(⟨#[32]⟩:ByteArray)).size≤22:=by rw[ByteArray.size_append];show d.size+1≤_;omega
 have y1:d.size≤9223372036854775806:=by omega
 have y2:(d++(⟨#[32]⟩:ByteArray)).size+t.size≤9223372036854775807:=by omega
 have y3:d.size+1+t.size≤9223372036854775807:=by omega
 have RES:Hid (d++(⟨#[32]⟩:ByteArray)++t=Xaq (Xj4 c.p)):=Hd (by
  rw[hd,ht,show(⟨#[32]⟩:ByteArray)=Xaq [32] from rfl,←Xcg,←Xcg,hpb]
  unfold Xj4 Xoa
  simp[Cn.p])
 obtain⟨cs,hcs⟩:∃cs,cs=c.cells gv rv:=⟨_,rfl⟩
 rw[←hcs] at hw0⊢
 have HW:=Hd hw0;have HC0:=Hd C0;have HB0:=Hd B0
 clear hw0 hcs hro hpb hd ht PL PX C0 B0 ok hnum
 go_enter Tryz.func36,Tryz.ntmps36
 go_upto_region 1 with fail
 rw[←HW.out]
 clear HW
 refine wp_region_held (S:=fun wx=>CB wx w.heap.size c gv rv 28) (by kernel_rfl) ?_
 change wpAnyH _ _ _ _ _ _ _ _ w0.drew
 obtain⟨wd,hwd⟩:∃wd,wd=w0.drew:=⟨_,rfl⟩
 rw[←hwd]
 have D0:Hid (Below w0.heap.size w0 wd):=Hd (by rw[hwd];exact(Below.refl _ _).drew)
 clear hwd
 have hB:(fun wx:World=>CB wx w.heap.size c gv rv 28) wd:=HC0.out.on D0.out
 refine Xad 0 (.pointer (some ⟨w.heap.size,55,none⟩)) rfl (fun _ _=>by go_simp) hB ?_
 refine Xad 1 (.int .i64 c.number) rfl (fun w' hw'=>by have cl:=hw'.at (Xdy OK.out gv rv);go_simp) hB ?_
 refine Xad 4 (.pointer (some ⟨w.heap.size,56,none⟩)) rfl (fun _ _=>by go_simp) hB ?_
 refine Xad 5 (.int .i64 c.height) rfl (fun w' hw'=>by have cl:=hw'.at (Xe3 OK.out gv rv);go_simp) hB ?_
 refine Xad 6 (.pointer (some ⟨w.heap.size,57,none⟩)) rfl (fun _ _=>by go_simp) hB ?_
 refine Xad 7 (.agg ro) rfl (fun w' hw'=>Xaw (ty:=22) (x:=.tmp 9) (ad:=⟨w.heap.size,57,none⟩) rfl (by kernel_rfl) (LDR.out w' hw')) hB ?_
 refine Xav (i:=2) (by kernel_rfl) ?_
 refine Xao (f:=33) (args:=#[.int .i64 c.number]) rfl rfl (by kernel_rfl) ?_
 refine(C2.out wd).mono ?_
 rintro e y1' ⟨rfl,hb⟩
 have D1:=Hd (D0.out.trans (hb.mono D0.out.size))
 clear hb
 replace hB:=HC0.out.on D1.out
 refine⟨_,rfl,hB,?_⟩
 refine Xad 3 (.string (d++(⟨#[32]⟩:ByteArray))) rfl (fun _ _=>by go_simp) hB ?_
 refine Xav (i:=8) (by kernel_rfl) ?_
 refine Xao (f:=79) (args:=#[.int .i64 c.height,.agg ro]) rfl rfl (by kernel_rfl) ?_
 refine(C8.out y1').mono ?_
 rintro e y2' ⟨a,cap,rfl,hrd,hb⟩
 have D2:=Hd (D1.out.trans (hb.mono D1.out.size))
 have RD:=Hd hrd
 clear hb hrd
 replace hB:=HC0.out.on D2.out
 refine⟨_,rfl,hB,?_⟩
 refine Xav (i:=9) (by kernel_rfl) ?_
 refine Xao (f:=78) (args:=#[.slice a 17 cap]) rfl rfl (by kernel_rfl) ?_
 refine(C9.out y2' a cap RD.out).mono ?_
 rintro e y3' ⟨rfl,rfl⟩
 refine⟨_,rfl,hB,?_⟩
 refine Xad 10 (.string (d++(⟨#[32]⟩:ByteArray)++t)) rfl (fun _ _=>by go_simp) hB ?_
 refine Xad 11 (.string (d++(⟨#[32]⟩:ByteArray)++t)) rfl (fun _ _=>by go_simp) hB ?_
 refine wpAnyH_done (by kernel_rfl) ?_ _
 go_simp
 refine‹∀(a:Act) (w_1:World),_→_› _ _ ?_
 go_wp2_with fail
 go_ret
 exact⟨by rw[←RES.out];rfl,HB0.out.trans (D2.out.mono HB0.out.size)⟩
theorem Yf3:∀l:List Value,l.length=32→Tryz.prog.builtSlice 120 1 [(0,.agg l.toArray)]=some l.toArray
 |[a0,a1,a2,a3,a4,a5,a6,a7,a8,a9,a10,a11,a12,a13,a14,a15,a16,a17,a18,a19,a20,a21,a22,a23,a24,a25,a26,a27,a28,a29,a30,a31],_=>by kernel_rfl
theorem Ydn:∀(l:List Value),l.length=32→Array.foldl (fun(cs:Array Value) (x:Value×Nat)=>cs.setIfInBounds x.snd x.fst) #[Value.int .u8 0,Value.int .u8 0,Value.int .u8 0,Value.int .u8 0,Value.int .u8 0,Value.int .u8 0,Value.int .u8 0,Value.int .u8 0,Value.int .u8 0,Value.int .u8 0,Value.int .u8 0,Value.int .u8 0,Value.int .u8 0,Value.int .u8 0,Value.int .u8 0,Value.int .u8 0,Value.int .u8 0,Value.int .u8 0,Value.int .u8 0,Value.int .u8 0,Value.int .u8 0,Value.int .u8 0,Value.int .u8 0,Value.int .u8 0,Value.int .u8 0,Value.int .u8 0,Value.int .u8 0,Value.int .u8 0,Value.int .u8 0,Value.int .u8 0,Value.int .u8 0,Value.int .u8 0] l.toArray.zipIdx 0 l.toArray.size=l.toArray
 |[a0,a1,a2,a3,a4,a5,a6,a7,a8,a9,a10,a11,a12,a13,a14,a15,a16,a17,a18,a19,a20,a21,a22,a23,a24,a25,a26,a27,a28,a29,a30,a31],_=>by kernel_rfl
theorem Yhv:(Tryz.prog.info? 120).map (fun i=>(i.zero,i.size,i.bytes))=some (some (.agg (idA zero32)),32,32):=by kernel_rfl
theorem Xmi:(Tryz.prog.info? 120).map (·.size)=some 32:=by kernel_rfl
theorem Xia (l:List (List Nat)) (x:List Nat):Xbv (l++[x])=Xbv l++x.map U:=by simp[Xbv]
theorem Ya4 {T:TypeId} {w:World} {base:Nat} {v:Value} {l:List (List Nat)} (ho:∀x∈l,IdOk x) (h:w.ownsRow base T 32 v l.length (Xbv l)):IRow w v l:=by
 rcases h.2 with⟨rfl,h0⟩|⟨g,cap,cur,rfl,hb,hg,hc,_,hs,ht⟩
 ·exact⟨none,0,by rw[h0],by rw[h0];exact Nat.le_refl _,fun hne=>absurd (List.length_eq_zero_iff.1 h0) hne⟩
 ·refine⟨some ⟨g,0,none⟩,cap,rfl,hc,fun _=>⟨g,0,rfl,lt_of_block hg,fun j hj k u hu=>?_⟩⟩
  have hk:k<32:=by
   have:=(Array.getElem?_eq_some_iff.1 hu).1
   rw[Xag,(ho _ (List.getElem_mem hj)).len] at this
   exact this
  rw[Nat.zero_add,cell_of_row w g _ _ _ _ hg]
  have e1:(cur.toList.take (l.length*32))[j*32+k]?=some u:=by
   rw[ht,Xfu l j k hj ho hk]
   unfold idA at hu
   rw[List.getElem?_toArray] at hu
   exact hu
  rw[List.getElem?_take,if_pos (by omega)] at e1
  simpa using e1
set_option maxHeartbeats 2000000 in
theorem Xn5 (w:World) (v:Value) (ids:List (List Nat)) (hr:IRow w v ids) (hn:ids.length≤1000000) (hok:∀x∈ids,IdOk x):
    Calls Tryz.prog 31 #[v] w fun e w'=>∃v',e=.returned v'∧IRow w' v' ids∧Below w.heap.size w w':=by
 obtain⟨i0,hi0,hz0,hz1,hz2⟩:=info_parts Yhv
 obtain⟨a,cap,rfl,hc,r⟩:=hr
 obtain⟨n,hnn⟩:∃n,n=ids.length:=⟨_,rfl⟩
 have HN:=Hd hnn;have R:=Hd r;have OK:=Hd hok
 rw[←hnn] at hn⊢
 clear hnn r hc hok
 go_enter Tryz.func31,Tryz.ntmps31
 go_wp2_with fail
 go_loopg [3,4] n (fun k s i wr=>∃j:Nat,j≤n∧k=n-j∧i=.int .i64 (j:Int)∧Hid (wr.ownsRow w.heap.size 120 32 s j (Xbv (ids.take j)))∧Hid (Below w.heap.size w wr))
 case atStart=>exact⟨0,by omega,rfl,rfl,Hd (World.ownsRow_nil _ _ _ _),Hd (Below.refl _ _)⟩
 case round=>
  obtain⟨j,hj,rfl,rfl,ho,hbw⟩:=hrel
  by_cases hlt:j<n
  ·have hl:j<ids.length:=by rw[←HN.out];exact hlt
   obtain⟨b,off,rfl,hb,hcell⟩:=R.out (fun e=>by rw[e] at hl;simp at hl)
   have ok:=OK.out _ (List.getElem_mem hl)
   have LD:Hid ((loadVar 26 ⟨b,off+j*32,none⟩).run Tryz.prog wr=.ok (.agg (idA ids[j])) wr):=Hd
    (Xai wr b (off+j*32) 26 _ _ Tryz.underlying26 rfl (by rw[Xag,ok.len];exact Xbf) (fun k u hu=>(hbw.out.cell (p:=⟨b,off+j*32+k,none⟩) hb).trans (hcell j hl k u hu)))
   have BS:Hid (Tryz.prog.builtSlice 120 1 [(0,.agg (idA ids[j]))]=some (idA ids[j])):=Hd (Yf3 (ids[j].map U) (by rw[List.length_map,ok.len]))
   have TS:Hid (Xbv (ids.take (j+1))=Xbv (ids.take j)++(idA ids[j]).toList):=Hd (by rw[List.take_succ_eq_append_getElem hl,Xia];rfl)
   have CSZ:Hid ((idA ids[j]).size=32):=Hd (by rw[Xag,ok.len])
   have ONE:Hid (∀u∈(idA ids[j]).toList,u.oneCell'=true):=Hd (fun u hu=>(Array.all_eq_true'.1 (Xdu ids[j])) u (by simpa using hu))
   obtain⟨cs,hcs⟩:∃cs,cs=idA ids[j]:=⟨_,rfl⟩
   rw[←hcs] at LD BS TS CSZ ONE
   have FO:Hid (Array.foldl (fun(cs:Array Value) (x:Value×Nat)=>cs.setIfInBounds x.snd x.fst) #[Value.int .u8 0,Value.int .u8 0,Value.int .u8 0,Value.int .u8 0,Value.int .u8 0,Value.int .u8 0,Value.int .u8 0,Value.int .u8 0,Value.int .u8 0,Value.int .u8 0,Value.int .u8 0,Value.int .u8 0,Value.int .u8 0,Value.int .u8 0,Value.int .u8 0,Value.int .u8 0,Value.int .u8 0,Value.int .u8 0,Value.int .u8 0,Value.int .u8 0,Value.int .u8 0,Value.int .u8 0,Value.int .u8 0,Value.int .u8 0,Value.int .u8 0,Value.int .u8 0,Value.int .u8 0,Value.int .u8 0,Value.int .u8 0,Value.int .u8 0,Value.int .u8 0,Value.int .u8 0] cs.zipIdx 0 cs.size=cs):=Hd (by rw[hcs];exact Ydn (ids[j].map U) (by rw[List.length_map,ok.len]))
   have FO2:Hid (Array.foldl (fun(cs:Array Value) (x:Value×Nat)=>cs.setIfInBounds x.snd x.fst) #[Value.int .u8 0,Value.int .u8 0,Value.int .u8 0,Value.int .u8 0,Value.int .u8 0,Value.int .u8 0,Value.int .u8 0,Value.int .u8 0,Value.int .u8 0,Value.int .u8 0,Value.int .u8 0,Value.int .u8 0,Value.int .u8 0,Value.int .u8 0,Value.int .u8 0,Value.int .u8 0,Value.int .u8 0,Value.int .u8 0,Value.int .u8 0,Value.int .u8 0,Value.int .u8 0,Value.int .u8 0,Value.int .u8 0,Value.int .u8 0,Value.int .u8 0,Value.int .u8 0,Value.int .u8 0,Value.int .u8 0,Value.int .u8 0,Value.int .u8 0,Value.int .u8 0,Value.int .u8 0] cs.zipIdx 0 32=cs):=Hd (by have:=FO.out;rw[CSZ.out] at this;exact this)
   have hsz:w.heap.size≤wr.heap.size:=hbw.out.size
   have GROW:Hid (∀(o:Obj) (w8:World),(wr.alloc o).grownBy w8 u3.ownBlock→Below w.heap.size w w8):=Hd (fun o w8 hg=>Below.grown (hbw.out.alloc hsz o) hg (by simp;omega) (fun k hk=>(ho.out.lt k hk).1))
   have hcz:cs.size=32:=CSZ.out
   clear hcs hcell ok hl hb
   go_wp2_with (first
    |((with_reducible refine Xac 26 rfl _ rfl ?_);refine⟨_,_,rfl,LD.out,?_⟩)
    |((with_reducible refine wpList_buildSliceTo rfl 67 120 1 _ rfl wr.heap.size rfl _ rfl Tryz.underlying67 cs BS.out ?_))
    |(at_builtin;refine wpList_append_own _ rfl _ _ 67 rfl w.heap.size 120 i0 (.agg (idA zero32)) 32 32 Tryz.underlying67 hi0 hz0 hz1 hz2 rfl (by decide) _ _ _ rfl (ho.out.alloc _) ⟨wr.heap.size,0,none⟩ 1 1 cs.toList rfl (by simpa using CSZ.out) (World.news_of_block (cs:=cs) (t:=120) (fr:=(0,0)) (by(first|rw[FO2.out]|rw[FO.out]);exact heap_alloc_new wr _)) ONE.out (by unfold maxLen;omega) (by omega) (by simp;omega) ?_;intro v' w8 hown' hgrow _))
   have O8:Hid (w8.ownsRow w.heap.size 120 32 v' (j+1) (Xbv (ids.take (j+1)))):=Hd (by rw[TS.out];exact hown')
   have F8:=Hd (GROW.out _ w8 hgrow)
   clear hown' hgrow
   go_wp2_with fail
   go_roundg (n-(j+1))
   case measure=>omega
   case rel=>exact⟨j+1,by omega,rfl,by go_num,O8,F8⟩
  ·obtain rfl:j=n:=by omega
   have IR:Hid (IRow wr u3 ids):=Hd (by
    have h:=ho.out
    rw[List.take_of_length_le (by rw[HN.out];exact Nat.le_refl _),HN.out] at h
    exact Ya4 OK.out h)
   clear ho
   go_wp2_with fail
   go_ret
   exact⟨_,rfl,IR.out,hbw.out⟩
set_option maxHeartbeats 2000000 in
theorem Yas (w:World) (v:Value) (ids:List (List Nat)) (x:List Nat) (hr:IRow w v ids) (hn:ids.length≤1000000) (hok:∀y∈ids,IdOk y) (hx:IdOk x):
    Calls Tryz.prog 88 #[v,.agg (idA x)] w fun e w'=>e=.returned (.bool (ids.contains x))∧Below w.heap.size w w':=by
 obtain⟨w0,hw0⟩:∃w0,w0=w.alloc (.cells (idA x) 120):=⟨_,rfl⟩
 have B0:Hid (Below w.heap.size w w0):=Hd (by rw[hw0];exact(Below.refl _ _).alloc (Nat.le_refl _) _)
 have I0:Hid (IB w0 w.heap.size 120 x):=Hd (by unfold IB;rw[hw0];exact heap_alloc_last w _)
 obtain⟨a,cap,rfl,hc,r⟩:=hr.below B0.out
 obtain⟨n,hnn⟩:∃n,n=ids.length:=⟨_,rfl⟩
 have HN:=Hd hnn;have R:=Hd r;have OK:=Hd hok;have HX:=Hd hx
 rw[←hnn] at hn⊢
 obtain⟨xs,hxs⟩:∃xs,xs=idA x:=⟨_,rfl⟩
 have LX:Hid (∀q p,(loadVar 120 ⟨w.heap.size,0,none⟩).run Tryz.prog ((w0.drewN p).drewN q)=.ok (.agg xs) ((w0.drewN p).drewN q)):=Hd (fun q p=>by
  rw[hxs]
  exact run_loadVar_row _ w.heap.size _ 120 _ _ _ (show((w0.drewN p).drewN q).heap[w.heap.size]?=_ from I0.out) Tryz.underlying120 rfl (by rw[Xag,hx.len];exact Xmi))
 rw[←hxs] at hw0⊢
 have HW:=Hd hw0
 have HXS:=Hd hxs
 clear hnn r hc hok hx hw0 hxs hr
 go_enter Tryz.func88,Tryz.ntmps88
 go_upto_region 1 with fail
 rw[←HW.out]
 clear HW
 go_wp2_with fail
 go_loopg [5] n (fun k i wr=>∃j:Nat,j≤n∧k=n-j∧i=.int .i64 (j:Int)∧Hid ((ids.take j).contains x=false)∧Hid (Dr w0 wr))
 case atStart=>exact⟨0,by omega,rfl,rfl,Hd rfl,Hd (Dr.refl _)⟩
 case round=>
  obtain⟨j,hj,rfl,rfl,hg,hdr⟩:=hrel
  by_cases hlt:j<n
  ·have hl:j<ids.length:=by rw[←HN.out];exact hlt
   obtain⟨b,off,rfl,hb,hcell⟩:=R.out (fun e=>by rw[e] at hl;simp at hl)
   have ok:=OK.out _ (List.getElem_mem hl)
   have LD:Hid (∀q,(loadVar 120 ⟨b,off+j*32,none⟩).run Tryz.prog (wr.drewN q)=.ok (.agg (idA ids[j])) (wr.drewN q)):=Hd (fun q=>by
    obtain⟨p,hp⟩:=hdr.out
    rw[hp]
    exact Xai _ b (off+j*32) 120 _ _ Tryz.underlying120 rfl (by rw[Xag,ok.len];exact Xmi) (fun k u hu=>hcell j hl k u hu))
   have LX2:Hid (∀q,(loadVar 120 ⟨w.heap.size,0,none⟩).run Tryz.prog (wr.drewN q)=.ok (.agg xs) (wr.drewN q)):=Hd (fun q=>by obtain⟨p,hp⟩:=hdr.out;rw[hp];exact LX.out q p)
   have EQ:Hid (∀w,(Op.equal 120 (.agg (idA ids[j])) (.agg xs)).run Tryz.prog w=.ok (decide (ids[j]=x)) w):=Hd (fun w=>by
    rw[HXS.out];exact Xoy Tryz.underlying120 (by kernel_rfl) (by kernel_rfl) w ok.len ok.lt HX.out.len HX.out.lt)
   have G:Hid (Tryz.prog.eqGuardType Tryz.prog.depth 120=false):=Hd (by kernel_rfl)
   have TS:=List.take_succ_eq_append_getElem hl
   obtain⟨y,hy⟩:∃y,y=idA ids[j]:=⟨_,rfl⟩
   obtain⟨r,hr⟩:∃r,r=decide (ids[j]=x):=⟨_,rfl⟩
   rw[←hy] at LD EQ
   rw[←hr] at EQ
   have HR:=Hd hr;have HTS:=Hd TS
   have HL:=Hd hl
   clear hy hr ok hcell TS hb
   go_upto_region 4 with fail
   refine wp_region_quiet_lit (by kernel_rfl) (by kernel_rfl) ?_
   quiet_step (fail)
   quiet_step (fail)
   quiet_step (fail)
   refine Xd5 120 rfl _ rfl ⟨_,.agg y,rfl,?_,?_⟩
   ·rintro w2 ⟨q,rfl⟩
    exact LD.out q
   refine Xd5 120 rfl _ rfl ⟨_,.agg xs,rfl,?_,?_⟩
   ·rintro w2 ⟨q,rfl⟩
    exact LX2.out q
   refine Xpm 120 rfl _ _ rfl G.out ⟨_,_,_,rfl,rfl,EQ.out,?_⟩
   refine wpQuiet_nil ?_
   rintro _ ⟨nq,rfl⟩
   clear LD LX2 EQ
   cases r
   ·have G2:Hid ((ids.take (j+1)).contains x=false):=Hd (by
       have hne:=of_decide_eq_false HR.out.symm
       rw[HTS.out,List.contains_eq_mem,decide_eq_false_iff_not,List.mem_append,List.mem_singleton]
       rintro(h|h)
       ·have:=hg.out;rw[List.contains_eq_mem,decide_eq_false_iff_not] at this;exact this h
       ·exact hne h.symm)
    clear HR hg
    go_wp2_with fail
    go_roundg (n-(j+1))
    case measure=>omega
    case rel=>exact⟨j+1,by omega,rfl,by go_num,G2,Hd (Xk9 hdr.out ⟨nq,rfl⟩)⟩
   ·have YES:Hid (ids.contains x=true):=Hd (by
       rw[List.contains_eq_mem,decide_eq_true_iff,←of_decide_eq_true HR.out.symm]
       exact List.getElem_mem HL.out)
    clear HR hg
    go_wp2_with fail
    go_ret
    exact⟨by rw[YES.out];rfl,B0.out.trans ((Dr.below (Xk9 hdr.out ⟨nq,rfl⟩)).mono B0.out.size)⟩
  ·obtain rfl:j=n:=by omega
   have NO:Hid (ids.contains x=false):=Hd (by have:=hg.out;rwa [List.take_of_length_le (by rw[HN.out];exact Nat.le_refl _)] at this)
   clear hg
   go_wp2_with fail
   go_ret
   exact⟨by rw[NO.out];rfl,B0.out.trans ((Dr.below hdr.out).mono B0.out.size)⟩
end Go.Proofs.YtohmdledkhgdaaaGreatDoor
