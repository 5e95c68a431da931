/- bulletinref12.Check, CheckList; bulletinref18.groups. -/
import Derived.Test.YtohmdledkhgdaaaGreatDoorPa32
namespace Go.Proofs.YtohmdledkhgdaaaGreatDoor
open Go.RowKit
set_option linter.unusedVariables false
set_option maxRecDepth 100000
theorem SRow.at {w:World} {v:Value} {gs:List ByteArray} (h:SRow w v gs) (j:Nat) (hj:j<gs.length):∃b off cap,v=.slice (some ⟨b,off,none⟩) gs.length cap∧gs.length≤cap∧b<w.heap.size∧w.cell? ⟨b,off+j,none⟩=some (.string gs[j]):=by
 obtain⟨a,cap,h1,h2,h3⟩:=h
 obtain⟨b,off,rfl,h5,h6⟩:=h3 (fun e=>by rw[e] at hj;simp at hj)
 exact⟨b,off,cap,h1,h2,h5,h6 j hj⟩
def ncB (p:List Nat):Bool:=!Xei p
theorem Ycs {p:List Nat→Bool} {l:List (List Nat)} {k:Nat} {c:List Nat} (hk:k<l.length) (hc:c=l[k]) (h:p c=true):l.any p=true:=by
 rw[List.any_eq_true];exact⟨l[k],List.getElem_mem hk,by rw[←hc];exact h⟩
theorem Xze {p:List Nat→Bool} {l:List (List Nat)} {k:Nat} {c:List Nat} (h0:(l.take k).any p=false) (hk:k<l.length) (hc:c=l[k]) (h:p c=false):(l.take (k+1)).any p=false:=by
 rw[List.take_succ_eq_append_getElem hk,List.any_append,h0,←hc];simp[h]
set_option maxHeartbeats 2000000 in
theorem Xjm (s:ByteArray) (w:World) (hs:s.size≤10000000):
    Calls Tryz.prog 129 #[.string s] w fun e w'=>e=.returned (.int .i64 (Xbg (bs s):Nat))∧Below w.heap.size w w':=by
 obtain⟨T,hT⟩:∃T,T=Xbg (bs s):=⟨_,rfl⟩
 rw[←hT]
 have TF:Hid (T=if 80<s.size then 5 else if(spl 46 (bs s)).any ncB=true then 12 else if 10<(spl 46 (bs s)).length then 9 else 0):=Hd (by rw[hT];unfold Xbg;rw[Xaa];rfl)
 clear hT
 by_cases hl:80<s.size
 ·have T5:Hid (T=5):=Hd (by rw[TF.out,if_pos hl])
  go_enter Tryz.func129,Tryz.ntmps129
  go_wp2_with fail
  go_ret
  exact⟨by rw[T5.out];rfl,Below.refl _ _⟩
 have TG:Hid (T=if(spl 46 (bs s)).any ncB=true then 12 else if 10<(spl 46 (bs s)).length then 9 else 0):=Hd (by rw[TF.out,if_neg hl])
 have P:=Hd (Xtw s 46 w hs (by omega))
 obtain⟨L,hL⟩:∃L,L=spl 46 (bs s):=⟨_,rfl⟩
 rw[←hL] at TG
 have HL:=Hd hL
 clear TF hL
 go_enter Tryz.func129,Tryz.ntmps129
 go_wp2_with fail
 refine P.out.mono ?_
 rintro e w1 ⟨v,gs,rfl,h1,h2,h3,h4,h5,hb⟩
 have hLg:L=gs.map bs:=by rw[HL.out,h1]
 have HLG:=Hd hLg
 have R1:=Hd h2;have B1:=Hd hb;have SZ:=Hd h3
 obtain⟨m,hm⟩:∃m,m=gs.length:=⟨_,rfl⟩
 have HM:=Hd hm
 have HML:Hid (L.length=m):=Hd (by rw[hLg,List.length_map,hm])
 have hms:m≤s.size+1:=by rw[hm];exact h4
 clear P h1 h2 h3 h4 h5 hb hLg
 obtain⟨ba,cap,rfl,hc,_⟩:=R1.out
 rw[←hm] at hc⊢
 clear hm
 go_wp2_with fail
 go_loopg [4] m (fun k i wr=>∃n:Nat,n≤m∧k=m-n∧i=.int .i64 (n:Int)∧Hid ((L.take n).any ncB=false)∧Hid (Below w1.heap.size w1 wr))
 case atStart=>exact⟨0,by omega,rfl,rfl,Hd rfl,Hd (Below.refl _ _)⟩
 case round=>
  obtain⟨n,hn,rfl,rfl,hg,hd⟩:=hrel
  by_cases b:n<m
  ·have hnl:n<gs.length:=by rw[←HM.out];exact b
   have hnL:n<L.length:=by rw[HML.out];exact b
   obtain⟨b0,off,cap',e0,_,hb0,hcell⟩:=R1.out.at n hnl
   cases e0
   obtain⟨g,hg2⟩:∃g,g=gs[n]:=⟨_,rfl⟩
   have hgs:g.size≤s.size:=by rw[hg2];exact SZ.out _ (List.getElem_mem hnl)
   have LG:bs g=L[n]:=by rw[hg2];simp[HLG.out]
   rw[←hg2] at hcell
   have hcc:wr.cell? ⟨b0,off+n,none⟩=some (.string g):=(hd.out.cell (p:=⟨b0,off+n,none⟩) hb0).trans hcell
   have C:=Hd (Xwu g wr (by unfold maxLen;omega))
   obtain⟨c,hcx⟩:∃c,c=Xei (bs g):=⟨_,rfl⟩
   rw[←hcx] at C
   have YES:Hid (c=true→(L.take (n+1)).any ncB=false):=Hd (fun h=>Xze hg.out hnL LG (by unfold ncB;rw[←hcx,h];rfl))
   have NO:Hid (c=false→L.any ncB=true):=Hd (fun h=>Ycs hnL LG (by unfold ncB;rw[←hcx,h];rfl))
   clear hcell hg2 LG hcx hg hnl hnL hb0 hgs
   cases c
   ·have T12:Hid (T=12):=Hd (by rw[TG.out,if_pos (NO.out rfl)])
    clear YES NO
    go_wp2_with fail
    refine C.out.mono ?_
    rintro e w2 ⟨rfl,hd2⟩
    have B2:=Hd (B1.out.trans ((hd.out.trans ((Dr.below hd2).mono hd.out.size)).mono B1.out.size))
    clear hd2 C
    go_wp2_with fail
    go_ret
    exact⟨by rw[T12.out];rfl,B2.out⟩
   ·have G:=Hd (YES.out rfl)
    clear YES NO
    go_wp2_with fail
    refine C.out.mono ?_
    rintro e w2 ⟨rfl,hd2⟩
    have B2:=Hd (hd.out.trans ((Dr.below hd2).mono hd.out.size))
    clear hd2 C
    go_wp2_with fail
    go_roundg (m-(n+1))
    case measure=>omega
    case rel=>exact⟨n+1,by omega,rfl,by go_num,G,B2⟩
  ·have AF:Hid (L.any ncB=false):=Hd (by have h:=hg.out;rwa [List.take_of_length_le (by rw[HML.out];omega)] at h)
   have BW:=Hd (B1.out.trans (hd.out.mono B1.out.size))
   clear hg
   by_cases h10:10<m
   ·have T9:Hid (T=9):=Hd (by rw[TG.out,AF.out,if_neg (by simp),if_pos (by rw[HML.out];exact h10)])
    go_wp2_with fail
    go_ret
    exact⟨by rw[T9.out];rfl,BW.out⟩
   ·have T0:Hid (T=0):=Hd (by rw[TG.out,AF.out,if_neg (by simp),if_neg (by rw[HML.out];exact h10)])
    go_wp2_with fail
    go_ret
    exact⟨by rw[T0.out];rfl,BW.out⟩
set_option maxHeartbeats 2000000 in
theorem Xty (w:World) (v:Value) (gs:List ByteArray) (hr:SRow w v gs) (hl:gs.length≤1000000) (hz:∀g∈gs,g.size≤1000000):
    Calls Tryz.prog 87 #[v] w fun e w'=>e=.returned (.int .i64 (Xcc Xbg (gs.map bs):Nat))∧Below w.heap.size w w':=by
 obtain⟨T,hT⟩:∃T,T=Xcc Xbg (gs.map bs):=⟨_,rfl⟩
 rw[←hT]
 obtain⟨m,hm⟩:∃m,m=gs.length:=⟨_,rfl⟩
 have HM:=Hd hm
 have R1:=Hd hr;have SZ:=Hd hz
 have TF:Hid (T=if 20<m then 9 else Xcz Xbg 7 ((gs.map bs).take 0) ((gs.map bs).drop 0)):=Hd (by rw[hT,hm];unfold Xcc;rw[List.length_map];rfl)
 obtain⟨ba,cap,rfl,hc,_⟩:=hr
 rw[←hm] at hc hl⊢
 clear hT hm hz
 by_cases h20:20<m
 ·have T9:Hid (T=9):=Hd (by rw[TF.out,if_pos h20])
  go_enter Tryz.func87,Tryz.ntmps87
  go_wp2_with fail
  go_ret
  exact⟨by rw[T9.out];rfl,Below.refl _ _⟩
 have TG:Hid (T=Xcz Xbg 7 ((gs.map bs).take 0) ((gs.map bs).drop 0)):=Hd (by rw[TF.out,if_neg h20])
 clear TF
 go_enter Tryz.func87,Tryz.ntmps87
 go_wp2_with fail
 go_loopg [3,4,5] m (fun k i _ _ wr=>∃n:Nat,n≤m∧k=m-n∧i=.int .i64 (n:Int)∧Hid (T=Xcz Xbg 7 ((gs.map bs).take n) ((gs.map bs).drop n))∧Hid (Below w.heap.size w wr))
 case atStart=>exact⟨0,by omega,rfl,rfl,TG,Hd (Below.refl _ _)⟩
 case round=>
  clear TG
  obtain⟨n,hn,rfl,rfl,hg,hd⟩:=hrel
  by_cases b:n<m
  ·have hnl:n<gs.length:=by rw[←HM.out];exact b
   have ST:=Xhs Xbg 7 (gs.map bs) n (by rw[List.length_map];exact hnl)
   obtain⟨b0,off,cap',e0,_,hb0,hcell⟩:=R1.out.at n hnl
   cases e0
   obtain⟨g,hg2⟩:∃g,g=gs[n]:=⟨_,rfl⟩
   have LG:(gs.map bs)[n]'(by rw[List.length_map];exact hnl)=bs g:=by rw[hg2];simp
   rw[←hg2] at hcell
   rw[LG,←hg.out] at ST
   have hcc:wr.cell? ⟨b0,off+n,none⟩=some (.string g):=(hd.out.cell (p:=⟨b0,off+n,none⟩) hb0).trans hcell
   have hgz:g.size≤1000000:=by rw[hg2];exact SZ.out _ (List.getElem_mem hnl)
   have C:=Hd (Xjm g wr (by omega))
   obtain⟨c,hcx⟩:∃c,c=Xbg (bs g):=⟨_,rfl⟩
   rw[←hcx] at C ST
   have STH:=Hd ST
   have CELL:=Hd hcell
   clear hcell hg2 LG hcx hg hnl hgz ST
   by_cases c0:c=0
   ·have q1:((c:Int) !=0)=false:=Xat (by omega)
    have ST2:Hid (T=if bs g∈(gs.map bs).take n then 7 else Xcz Xbg 7 ((gs.map bs).take (n+1)) ((gs.map bs).drop (n+1))):=Hd (by rw[STH.out,if_neg (fun h=>h c0)])
    clear STH c0
    go_wp2_with fail
    refine C.out.mono ?_
    rintro e w2 ⟨rfl,hb2⟩
    have B2:=Hd (hd.out.trans (hb2.mono hd.out.size))
    clear hb2 C hcc
    go_wp2_with fail
    go_loopg [5] n (fun k i wr=>∃q:Nat,q≤n∧k=n-q∧i=.int .i64 (q:Int)∧Hid (bs g∉(gs.map bs).take q)∧Hid (Dr w2 wr))
    case atStart=>exact⟨0,by omega,rfl,rfl,Hd (by simp),Hd (Dr.refl _)⟩
    case round=>
     obtain⟨q,hq,rfl,rfl,hno,hd3⟩:=hrel
     by_cases b2:q<n
     ·have hql:q<gs.length:=by rw[←HM.out];omega
      have hqm:q<m:=by omega
      obtain⟨b1,off1,cap1,e1,_,hb1,hcell1⟩:=R1.out.at q hql
      cases e1
      obtain⟨h,hh⟩:∃h,h=gs[q]:=⟨_,rfl⟩
      rw[←hh] at hcell1
      have BB:Below w.heap.size w wr:=B2.out.trans ((Dr.below hd3.out).mono B2.out.size)
      have k1:wr.cell? ⟨b0,off+q,none⟩=some (.string h):=(BB.cell (p:=⟨b0,off+q,none⟩) hb0).trans hcell1
      have k2:wr.cell? ⟨b0,off+n,none⟩=some (.string g):=(BB.cell (p:=⟨b0,off+n,none⟩) hb0).trans CELL.out
      have hTK:(gs.map bs).take (q+1)=(gs.map bs).take q++[bs h]:=by
       rw[List.take_succ_eq_append_getElem (by rw[List.length_map];exact hql),hh];simp
      have TK:=Hd hTK
      by_cases e:h=g
      ·have e1:=toList_eq e
       have T7:Hid (T=7):=Hd (by
        rw[ST2.out,if_pos]
        have:(gs.map bs).take (q+1)<+:(gs.map bs).take n:=List.take_prefix_take_left (by omega)
        exact this.subset (by rw[hTK,e];simp))
       have BF:=Hd BB
       have k1d:wr.drew.cell? ⟨b0,off+q,none⟩=some (.string h):=k1
       have k2d:wr.drew.cell? ⟨b0,off+n,none⟩=some (.string g):=k2
       clear e hTK hh BB hcell1
       go_upto_region 12 with fail
       refine wp_region_still_lit (by kernel_rfl) (by kernel_rfl) ?_
       repeat still_step
       refine wpStill_nil ?_
       go_wp2_with fail
       go_ret
       exact⟨by rw[T7.out];rfl,by(first|exact BF.out|exact BF.out.drew)⟩
      ·have e1:=Xdq e
       have k1d:wr.drew.cell? ⟨b0,off+q,none⟩=some (.string h):=k1
       have k2d:wr.drew.cell? ⟨b0,off+n,none⟩=some (.string g):=k2
       have N2:Hid (bs g∉(gs.map bs).take (q+1)):=Hd (by
        rw[hTK]
        intro hm
        rcases List.mem_append.1 hm with hm|hm
        ·exact hno.out hm
        ·simp at hm
         exact e (by rw[←Xds h,←Xds g,hm]))
       clear e hTK hh BB hcell1
       go_upto_region 12 with fail
       refine wp_region_still_lit (by kernel_rfl) (by kernel_rfl) ?_
       repeat still_step
       refine wpStill_nil ?_
       go_wp2_with fail
       go_roundg (n-(q+1))
       case measure=>omega
       case rel=>exact⟨q+1,by omega,rfl,by go_num,N2,by(first|exact hd3|exact Hd hd3.out.drew|exact Hd (hd3.out.drewN 1))⟩
     ·obtain rfl:q=n:=by omega
      have NX:Hid (T=Xcz Xbg 7 ((gs.map bs).take (q+1)) ((gs.map bs).drop (q+1))):=Hd (by rw[ST2.out,if_neg hno.out])
      have BF:Hid (Below w.heap.size w wr):=Hd (B2.out.trans ((Dr.below hd3.out).mono B2.out.size))
      go_wp2_with fail
      go_roundg (m-(q+1))
      case measure=>omega
      case rel=>exact⟨q+1,by omega,rfl,by go_num,NX,by(first|exact BF|exact Hd BF.out.drew)⟩
   ·have q1:((c:Int) !=0)=true:=Xam (by omega)
    have TC:Hid (T=c):=Hd (by rw[STH.out,if_pos c0])
    clear STH c0
    go_wp2_with fail
    refine C.out.mono ?_
    rintro e w2 ⟨rfl,hb2⟩
    have B2:=Hd (hd.out.trans (hb2.mono hd.out.size))
    clear hb2 C hcc
    go_wp2_with fail
    go_ret
    exact⟨by rw[TC.out];rfl,B2.out⟩
  ·have T0:Hid (T=0):=Hd (by rw[hg.out,List.drop_of_length_le (by rw[List.length_map,←HM.out];omega)];rfl)
   clear hg
   go_wp2_with fail
   go_ret
   exact⟨by rw[T0.out];rfl,hd.out⟩
theorem Xt0 (w:World) (c:Nat) (hc:c<256):Calls Tryz.prog 209 #[.int .u8 (c:Int)] w fun e w'=>e=.returned (.int .i64 (hvz c))∧w=w':=by
 obtain⟨r,hr⟩:∃r,r=hvz c:=⟨_,rfl⟩
 rw[←hr]
 rcases(by omega:c<48∨(48≤c∧c≤57)∨(57<c∧c<97)∨(97≤c∧c≤102)∨102<c) with h|⟨h,h2⟩|⟨h,h2⟩|⟨h,h2⟩|h
 ·have R:Hid (r=-1):=Hd (by rw[hr];unfold hvz hvl;rw[if_neg (by omega),if_neg (by omega)])
  clear hr
  go_enter Tryz.func209,Tryz.ntmps209
  go_wp2_with fail
  go_ret
  exact⟨by rw[R.out];rfl,rfl⟩
 ·have R:Hid (r=(c:Int)-48):=Hd (by rw[hr];unfold hvz hvl;rw[if_pos ⟨h,h2⟩];simp;omega)
  have cv:IntKind.u8.wrap ((c:Int)-48)=(c:Int)-48:=by rw[IntKind.wrap_u8];omega
  clear hr
  go_enter Tryz.func209,Tryz.ntmps209
  go_wp2_with fail
  go_ret
  exact⟨by rw[R.out];rfl,rfl⟩
 ·have R:Hid (r=-1):=Hd (by rw[hr];unfold hvz hvl;rw[if_neg (by omega),if_neg (by omega)])
  clear hr
  go_enter Tryz.func209,Tryz.ntmps209
  go_wp2_with fail
  go_ret
  exact⟨by rw[R.out];rfl,rfl⟩
 ·have R:Hid (r=(c:Int)-97+10):=Hd (by rw[hr];unfold hvz hvl;rw[if_neg (by omega),if_pos ⟨h,h2⟩];simp;omega)
  have cv:IntKind.u8.wrap ((c:Int)-97)=(c:Int)-97:=by rw[IntKind.wrap_u8];omega
  clear hr
  go_enter Tryz.func209,Tryz.ntmps209
  go_wp2_with fail
  go_ret
  exact⟨by rw[R.out];rfl,rfl⟩
 ·have R:Hid (r=-1):=Hd (by rw[hr];unfold hvz hvl;rw[if_neg (by omega),if_neg (by omega)])
  clear hr
  go_enter Tryz.func209,Tryz.ntmps209
  go_wp2_with fail
  go_ret
  exact⟨by rw[R.out];rfl,rfl⟩
theorem Xt1 (w:World) (c:Nat) (hc:c<256):Calls Tryz.prog 208 #[.int .u8 (c:Int)] w fun e w'=>e=.returned (.int .i64 (hvz c))∧w=w':=by
 obtain⟨r,hr⟩:∃r,r=hvz c:=⟨_,rfl⟩
 rw[←hr]
 rcases(by omega:c<48∨(48≤c∧c≤57)∨(57<c∧c<97)∨(97≤c∧c≤102)∨102<c) with h|⟨h,h2⟩|⟨h,h2⟩|⟨h,h2⟩|h
 ·have R:Hid (r=-1):=Hd (by rw[hr];unfold hvz hvl;rw[if_neg (by omega),if_neg (by omega)])
  clear hr
  go_enter Tryz.func208,Tryz.ntmps208
  go_wp2_with fail
  go_ret
  exact⟨by rw[R.out];rfl,rfl⟩
 ·have R:Hid (r=(c:Int)-48):=Hd (by rw[hr];unfold hvz hvl;rw[if_pos ⟨h,h2⟩];simp;omega)
  clear hr
  go_enter Tryz.func208,Tryz.ntmps208
  go_wp2_with fail
  go_ret
  exact⟨by rw[R.out];rfl,rfl⟩
 ·have R:Hid (r=-1):=Hd (by rw[hr];unfold hvz hvl;rw[if_neg (by omega),if_neg (by omega)])
  clear hr
  go_enter Tryz.func208,Tryz.ntmps208
  go_wp2_with fail
  go_ret
  exact⟨by rw[R.out];rfl,rfl⟩
 ·have R:Hid (r=(c:Int)-97+10):=Hd (by rw[hr];unfold hvz hvl;rw[if_neg (by omega),if_pos ⟨h,h2⟩];simp;omega)
  clear hr
  go_enter Tryz.func208,Tryz.ntmps208
  go_wp2_with fail
  go_ret
  exact⟨by rw[R.out];rfl,rfl⟩
 ·have R:Hid (r=-1):=Hd (by rw[hr];unfold hvz hvl;rw[if_neg (by omega),if_neg (by omega)])
  clear hr
  go_enter Tryz.func208,Tryz.ntmps208
  go_wp2_with fail
  go_ret
  exact⟨by rw[R.out];rfl,rfl⟩
theorem Xx2 {l:List Nat} (h:0<l.length):l.head?=some (l.getD 0 0):=by
 rw[List.head?_eq_getElem?,List.getElem?_eq_getElem h];simp[List.getD,h]
theorem Xxl {l:List Nat} (h:0<l.length):l.getLast?=some (l.getD (l.length-1) 0):=by
 have h1:l.length-1<l.length:=by omega
 rw[List.getLast?_eq_getElem?,List.getElem?_eq_getElem h1,List.getD_eq_getElem?_getD,List.getElem?_eq_getElem h1];rfl
set_option maxHeartbeats 1000000 in
theorem Xtt (s:ByteArray) (w:World) (hs:s.size≤maxLen):
    Calls Tryz.prog 134 #[.string s] w fun e w'=>e=.returned (.int .i64 (Xmd (bs s):Nat))∧Dr w w':=by
 unfold maxLen at hs
 obtain⟨T,hT⟩:∃T,T=Xmd (bs s):=⟨_,rfl⟩
 rw[←hT]
 have TF:Hid (T=if 200<s.size then 5 else if(bs s).all prC=false then 6 else if(bs s).head?=some 32∨(bs s).getLast?=some 32 then 3 else 0):=Hd (by rw[hT];unfold Xmd;rw[Xaa])
 clear hT
 by_cases hl:200<s.size
 ·have T5:Hid (T=5):=Hd (by rw[TF.out,if_pos hl])
  go_enter Tryz.func134,Tryz.ntmps134
  go_wp2_with fail
  go_ret
  exact⟨by rw[T5.out];rfl,Dr.refl _⟩
 have TG:Hid (T=if(bs s).all prC=false then 6 else if(bs s).head?=some 32∨(bs s).getLast?=some 32 then 3 else 0):=Hd (by rw[TF.out,if_neg hl])
 clear TF
 go_enter Tryz.func134,Tryz.ntmps134
 go_wp2_with fail
 go_loopg [3] s.size (fun k i wr=>∃n:Nat,n≤s.size∧k=s.size-n∧i=.int .i64 (n:Int)∧Hid (((bs s).take n).all prC=true)∧Hid (Dr w wr))
 case atStart=>exact⟨0,by omega,rfl,rfl,Hd rfl,Hd (Dr.refl _)⟩
 case round=>
  obtain⟨n,hn,rfl,rfl,hv,hd⟩:=hrel
  by_cases b:n<s.size
  ·obtain⟨x,hx⟩:∃x,x=(bs s).getD n 0:=⟨_,rfl⟩
   have hx2:x<256:=by rw[hx];exact Xa8 s n
   have y1:=fun w=>Xgs s w n n rfl b x hx
   have NX:Hid (prC x=true→((bs s).take (n+1)).all prC=true):=Hd (fun h=>Xb2 hv.out (by rw[Xaa];exact b) hx h)
   have NO:Hid (prC x=false→(bs s).all prC=false):=Hd (fun h=>Xde (by rw[Xaa];exact b) hx h)
   clear hx hv
   rcases(by omega:x<32∨(32≤x∧x≤126)∨126<x) with h|⟨h,h2⟩|h
   ·have T6:Hid (T=6):=Hd (by rw[TG.out,if_pos (NO.out (by unfold prC;rw[decide_eq_false (by omega)];rfl))])
    clear NX NO
    go_wp2_with fail
    go_ret
    exact⟨by rw[T6.out];rfl,by(first|exact hd.out|exact hd.out.drewN _)⟩
   ·have F:=Hd (NX.out (by unfold prC;rw[decide_eq_true h,decide_eq_true h2];rfl))
    clear NX NO
    go_wp2_with fail
    go_roundg (s.size-(n+1))
    case measure=>omega
    case rel=>exact⟨n+1,by omega,rfl,by go_num,F,by(first|exact hd|exact Hd (hd.out.drewN _))⟩
   ·have T6:Hid (T=6):=Hd (by rw[TG.out,if_pos (NO.out (by unfold prC;rw[decide_eq_false (show¬x≤126 by omega)];simp))])
    clear NX NO
    go_wp2_with fail
    go_ret
    exact⟨by rw[T6.out];rfl,by(first|exact hd.out|exact hd.out.drewN _)⟩
  ·have AL:(bs s).all prC=true:=by have h:=hv.out;rwa [List.take_of_length_le (by rw[Xaa];omega)] at h
   have TH:Hid (T=if(bs s).head?=some 32∨(bs s).getLast?=some 32 then 3 else 0):=Hd (by rw[TG.out,AL];rfl)
   clear AL hv TG
   by_cases h0:s.size=0
   ·have T0:Hid (T=0):=Hd (by rw[TH.out,Xs8 h0];rfl)
    obtain rfl:=Xea h0
    clear h0 TH
    go_wp2_with fail
    go_ret
    exact⟨by rw[T0.out];rfl,by(first|exact hd.out|exact hd.out.drewN _)⟩
   obtain⟨x,hx⟩:∃x,x=(bs s).getD 0 0:=⟨_,rfl⟩
   obtain⟨y,hy⟩:∃y,y=(bs s).getD (s.size-1) 0:=⟨_,rfl⟩
   have hx2:x<256:=by rw[hx];exact Xa8 s 0
   have hy2:y<256:=by rw[hy];exact Xa8 s _
   have x1:=fun w=>Xzu s x hx (by omega) w
   have y1:=fun w=>Xgs s w ((s.size:Int)-1) (s.size-1) (by omega) (by omega) y hy
   have sne:=Xdr h0
   have TI:Hid (T=if x=32∨y=32 then 3 else 0):=Hd (by
    rw[TH.out,Xx2 (by rw[Xaa];omega),Xxl (by rw[Xaa];omega),Xaa,←hx,←hy];simp)
   clear hx hy TH
   by_cases e1:x=32
   ·have q1:((x:Int)==32)=true:=Xa6 (by omega)
    have T3:Hid (T=3):=Hd (by rw[TI.out,if_pos (.inl e1)])
    clear e1
    go_wp2_with fail
    go_ret
    exact⟨by rw[T3.out];rfl,by(first|exact hd.out|exact hd.out.drewN _)⟩
   by_cases e2:y=32
   ·have q1:((x:Int)==32)=false:=Xak (by omega)
    have q2:((y:Int)==32)=true:=Xa6 (by omega)
    have T3:Hid (T=3):=Hd (by rw[TI.out,if_pos (.inr e2)])
    clear e1 e2
    go_wp2_with fail
    go_ret
    exact⟨by rw[T3.out];rfl,by(first|exact hd.out|exact hd.out.drewN _)⟩
   ·have q1:((x:Int)==32)=false:=Xak (by omega)
    have q2:((y:Int)==32)=false:=Xak (by omega)
    have T3:Hid (T=0):=Hd (by rw[TI.out,if_neg (fun h=>h.elim e1 e2)])
    clear e1 e2
    go_wp2_with fail
    go_ret
    exact⟨by rw[T3.out];rfl,by(first|exact hd.out|exact hd.out.drewN _)⟩
def nvl (l:List Nat):Nat:=l.foldl (fun n c=>10*n+(c-48)) 0
theorem Xsk (l:List Nat) (c:Nat):nvl (l++[c])=10*nvl l+(c-48):=by unfold nvl;rw[List.foldl_append];rfl
theorem Yhj:∀(k:Nat) (l:List Nat),l.length=k→l.all dig=true→nvl l<10^k:=by
 intro k
 induction k with
 |zero=>intro l h _;obtain rfl:=List.length_eq_zero_iff.1 h;decide
 |succ k ih=>
  intro l h hd
  have hne:l≠[]:=by intro e;rw[e] at h;simp at h
  have hc:=List.dropLast_concat_getLast hne
  rw[←hc] at hd⊢
  rw[List.all_append,Bool.and_eq_true] at hd
  have:=ih l.dropLast (by rw[List.length_dropLast,h];rfl) hd.1
  have h2:dig (l.getLast hne)=true:=by simpa using hd.2
  unfold dig at h2
  simp at h2
  rw[Xsk,Nat.pow_succ]
  omega
theorem Yhk {l:List Nat} (h:l.length≤7) (hd:l.all dig=true):nvl l<10000000:=
 Nat.lt_of_lt_of_le (Yhj _ l rfl hd) (Nat.pow_le_pow_right (by decide:0<10) h)
theorem Ya9 {l:List Nat} {k c:Nat} (hk:k<l.length) (hc:c=l.getD k 0):nvl (l.take (k+1))=10*nvl (l.take k)+(c-48):=by
 rw[List.take_succ_eq_append_getElem hk,Xsk]
 have:l[k]=c:=by rw[hc];simp[List.getD,hk]
 rw[this]
def Ydf (l:List Nat):Int:=match Xkx l with|none=>-1|some n=>(n:Int)
set_option maxHeartbeats 1000000 in
theorem Xlj (s:ByteArray) (w:World) (hs:s.size≤maxLen):
    Calls Tryz.prog 168 #[.string s] w fun e w'=>e=.returned (.int .i64 (Ydf (bs s)))∧Dr w w':=by
 unfold maxLen at hs
 obtain⟨T,hT⟩:∃T,T=Ydf (bs s):=⟨_,rfl⟩
 rw[←hT]
 have TN:Hid (bs s=[]∨7<s.size∨(1<s.size∧(bs s).getD 0 0=48)∨(bs s).all dig=false→T=-1):=Hd (fun h=>by rw[hT];unfold Ydf Xkx;rw[Xaa,if_pos h])
 have TS:Hid (¬(bs s=[]∨7<s.size∨(1<s.size∧(bs s).getD 0 0=48)∨(bs s).all dig=false)→T=(nvl (bs s):Int)):=Hd (fun h=>by rw[hT];unfold Ydf Xkx;rw[Xaa,if_neg h];rfl)
 clear hT
 by_cases h0:s.size=0
 ·have F:=Hd (TN.out (.inl (Xs8 h0)))
  obtain rfl:=Xea h0
  clear h0 TN TS
  go_enter Tryz.func168,Tryz.ntmps168
  go_wp2_with fail
  go_ret
  exact⟨by rw[F.out];rfl,Dr.refl _⟩
 have NE:Hid (bs s≠[]):=Hd (fun e=>h0 (by rw[←Xaa,e];rfl))
 have sne:=Xdr h0
 by_cases h7:7<s.size
 ·have F:=Hd (TN.out (.inr (.inl h7)))
  clear TN TS
  go_enter Tryz.func168,Tryz.ntmps168
  go_wp2_with fail
  go_ret
  exact⟨by rw[F.out];rfl,Dr.refl _⟩
 obtain⟨c,hc⟩:∃c,c=(bs s).getD 0 0:=⟨_,rfl⟩
 have hc2:c<256:=by rw[hc];exact Xa8 s 0
 have x0:=Xzu s c hc (by omega)
 have HC:=Hd hc
 clear hc
 by_cases hz:1<s.size∧c=48
 ·obtain⟨hz1,hz2⟩:=hz
  have F:=Hd (TN.out (.inr (.inr (.inl ⟨hz1,by rw[←HC.out];exact hz2⟩))))
  have q1:((c:Int)==48)=true:=Xa6 (by omega)
  clear TN TS hz2
  go_enter Tryz.func168,Tryz.ntmps168
  go_wp2_with fail
  go_ret
  exact⟨by rw[F.out];rfl,Dr.refl _⟩
 have TT:Hid ((bs s).all dig=true→T=(nvl (bs s):Int)):=Hd (fun h=>TS.out (by
  rintro(h|h|h|h)
  ·exact NE.out h
  ·exact h7 h
  ·exact hz ⟨h.1,by rw[HC.out];exact h.2⟩
  ·rename_i hh;rw[hh] at h;cases h))
 have TB:Hid ((bs s).all dig=false→T=-1):=Hd (fun h=>TN.out (.inr (.inr (.inr h))))
 have Z:Hid (c=48→¬1<s.size):=Hd (fun e h=>hz ⟨h,e⟩)
 clear TN TS NE HC hz
 have h1:c=48→s.size=1:=fun e=>by have:=Z.out e;omega
 have CASE:(((c:Int)==48)=true∧s.size=1)∨((c:Int)==48)=false:=by
  by_cases e48:c=48
  ·exact .inl ⟨Xa6 (by omega),h1 e48⟩
  ·exact .inr (Xak (by omega))
 clear Z h1
 rcases CASE with⟨q1,h1⟩|q1
 all_goals
  go_enter Tryz.func168,Tryz.ntmps168
  go_wp2_with fail
  clear q1 x0
  go_loopg [3,4] s.size (fun k u i wr=>∃(n:Nat) (v:Nat),n≤s.size∧k=s.size-n∧i=.int .i64 (n:Int)∧u=.int .i64 (v:Int)∧v<10000000∧Hid (nvl ((bs s).take n)=v)∧Hid (((bs s).take n).all dig=true)∧Hid (Dr w wr))
  case atStart=>exact⟨0,0,by omega,by omega,rfl,rfl,by omega,Hd rfl,Hd rfl,Hd (Dr.refl _)⟩
  case round=>
   obtain⟨n,v,hn,rfl,rfl,rfl,hv7,hv,ha,hd⟩:=hrel
   by_cases b:n<s.size
   ·obtain⟨x,hx⟩:∃x,x=(bs s).getD n 0:=⟨_,rfl⟩
    have hx2:x<256:=by rw[hx];exact Xa8 s n
    have y1:=fun w=>Xgs s w n n rfl b x hx
    have NX:Hid (dig x=true→((bs s).take (n+1)).all dig=true∧nvl ((bs s).take (n+1))=10*v+(x-48)∧10*v+(x-48)<10000000):=Hd (fun h=>by
     have a1:=Xb2 ha.out (by rw[Xaa];exact b) hx h
     have a2:=Ya9 (l:=bs s) (k:=n) (by rw[Xaa];exact b) hx
     rw[hv.out] at a2
     have a3:=Yhk (l:=(bs s).take (n+1)) (by rw[List.length_take,Xaa];omega) a1
     exact⟨a1,a2,by rw[←a2];exact a3⟩)
    have NO:Hid (dig x=false→(bs s).all dig=false):=Hd (fun h=>Xde (by rw[Xaa];exact b) hx h)
    clear hx hv ha
    rcases(by omega:x<48∨(48≤x∧x≤57)∨57<x) with h|⟨h,h2⟩|h
    ·have F:=Hd (TB.out (NO.out (by unfold dig;rw[decide_eq_false (by omega)];rfl)))
     clear NX NO TB TT
     go_wp2_with fail
     go_ret
     exact⟨by rw[F.out];rfl,by(first|exact hd.out|exact hd.out.drewN _)⟩
    ·obtain⟨a1,a2,a3⟩:=NX.out (by unfold dig;rw[decide_eq_true h,decide_eq_true h2];rfl)
     have A1:=Hd a1;have A2:=Hd a2
     have cv:IntKind.u8.wrap ((x:Int)-48)=(x:Int)-48:=by rw[IntKind.wrap_u8];omega
     clear NX NO a1 a2
     go_wp2_with fail
     go_roundg (s.size-(n+1))
     case measure=>omega
     case rel=>exact⟨n+1,10*v+(x-48),by omega,by omega,by go_num,by go_num,a3,A2,A1,by(first|exact hd|exact Hd (hd.out.drewN _))⟩
    ·have F:=Hd (TB.out (NO.out (by unfold dig;rw[decide_eq_false (show¬x≤57 by omega)];simp)))
     clear NX NO TB TT
     go_wp2_with fail
     go_ret
     exact⟨by rw[F.out];rfl,by(first|exact hd.out|exact hd.out.drewN _)⟩
   ·have AL:(bs s).all dig=true:=by have h:=ha.out;rwa [List.take_of_length_le (by rw[Xaa];omega)] at h
    have VL:nvl (bs s)=v:=by have h:=hv.out;rwa [List.take_of_length_le (by rw[Xaa];omega)] at h
    have F:Hid (T=(v:Int)):=Hd (by rw[TT.out AL,VL])
    clear AL VL hv ha TT TB
    go_wp2_with fail
    go_ret
    exact⟨by rw[F.out];rfl,by(first|exact hd.out|exact hd.out.drewN _)⟩
def pn (n:Nat) (l:List Nat) (j:Nat):List Nat:=(List.range n).map fun k=>if 2*k+1<j then 16*hv (l.getD (2*k) 0)+hv (l.getD (2*k+1) 0) else if 2*k<j then hv (l.getD (2*k) 0) else 0
theorem Xoc (n:Nat) (l:List Nat) (j:Nat):(pn n l j).length=n:=by simp[pn]
theorem Xod {n:Nat} {l:List Nat} {j k:Nat} (hk:k<n):(pn n l j)[k]?=some (if 2*k+1<j then 16*hv (l.getD (2*k) 0)+hv (l.getD (2*k+1) 0) else if 2*k<j then hv (l.getD (2*k) 0) else 0):=by
 simp[pn,hk]
theorem Xwy (n:Nat) (l:List Nat):pn n l 0=List.replicate n 0:=by
 apply List.ext_getElem?
 intro k
 by_cases hk:k<n
 ·rw[Xod hk,if_neg (by omega),if_neg (by omega),List.getElem?_replicate,if_pos hk]
 ·rw[List.getElem?_eq_none (by rw[Xoc];omega),List.getElem?_eq_none (by simp;omega)]
theorem Xwz {n:Nat} {l:List Nat} {j k v:Nat} (hk:k=j/2) (hj:j<2*n) (hv':(pn n l j)[k]?=some v):pn n l (j+1)=(pn n l j).set k (v*16+hv (l.getD j 0))∧v<16:=by
 rw[Xod (by omega)] at hv'
 have hv2:=Option.some.inj hv'
 rw[if_neg (by omega)] at hv2
 have h16:v<16:=by
  rw[←hv2];split
  ·exact Xx0 _
  ·decide
 refine⟨?_,h16⟩
 apply List.ext_getElem?
 intro m
 by_cases hn:m<n
 ·rw[List.getElem?_set]
  by_cases e:k=m
  ·subst e
   rw[if_pos rfl,if_pos (by rw[Xoc];exact hn),Xod hn]
   by_cases hp:j=2*k
   ·rw[if_neg (by omega),if_pos (by omega)]
    rw[if_neg (by omega)] at hv2
    rw[←hv2,←hp];simp
   ·have e2:j=2*k+1:=by omega
    rw[if_pos (by omega)]
    rw[if_pos (by omega)] at hv2
    rw[hv2,Nat.mul_comm,e2]
  ·rw[if_neg e,Xod hn,Xod hn]
   by_cases c1:2*m+1<j
   ·rw[if_pos (by omega),if_pos c1]
   ·rw[if_neg (by omega),if_neg c1]
    by_cases c2:2*m<j
    ·rw[if_pos (by omega),if_pos c2]
    ·rw[if_neg (by omega),if_neg c2]
 ·rw[List.getElem?_eq_none (by rw[Xoc];omega),List.getElem?_eq_none (by rw[List.length_set,Xoc];omega)]
theorem Yde {n:Nat} {l:List Nat} (h:l.length=2*n):pn n l (2*n)=uh l:=by
 apply List.ext_getElem?
 intro k
 by_cases hk:k<n
 ·rw[Xod hk,Yea n l k h hk,if_pos (by omega)]
 ·rw[List.getElem?_eq_none (by rw[Xoc];omega),List.getElem?_eq_none (by rw[Xjb n l h];omega)]
set_option maxHeartbeats 4000000 in
theorem Xwj (s:ByteArray) (w:World) (hs:s.size≤10000000):
    Calls Tryz.prog 169 #[.string s] w (Xl7 (bs s) w):=by
 obtain⟨zs,hzs⟩:∃zs,zs=idA Xdc:=⟨_,rfl⟩
 have LEN:=Hd (Xaa s)
 have HZS:=Hd hzs
 have ZCL:Hid (Cl 16 zs):=Hd (by rw[hzs];exact Xq7 Xe7)
 have BU:Hid (∀w,(Instr.build 22 #[]).run Tryz.prog w=.ok (.agg zs) w):=Hd (fun w=>by rw[hzs];kernel_rfl)
 have START:Hid ((w.alloc (.cells (Array.replicate 16 (.int .u8 0)) 22)).alloc (.cells (Array.replicate 16 (.int .u8 0)) 22)=(w.alloc (.cells zs 22)).alloc (.cells zs 22)):=Hd (by rw[hzs];rfl)
 have FIN:Hid (∀(w4:World) (cs:Array Value),Cl 16 cs→w4.heap[w.heap.size]?=some (.cells zs 22 (0,0))→Below w.heap.size w w4→
     (storeVar 22 ⟨w.heap.size,0,none⟩ (.agg cs)).run Tryz.prog w4=.ok () (w4.setRow w.heap.size cs)∧
     (∀tmps:Array Value,tmps.getD 2 undef=.pointer (some ⟨w.heap.size,0,none⟩)→(results Tryz.f169 tmps).run Tryz.prog (w4.setRow w.heap.size cs)=.ok (.tuple #[.agg cs,tmps.getD 3 undef,tmps.getD 4 undef]) (w4.setRow w.heap.size cs))∧
     Below w.heap.size w (w4.setRow w.heap.size cs)):=Hd (fun w4 cs hcl hg hb=>
  ⟨run_storeVar_row (P:=Tryz.prog) w4 w.heap.size _ 22 zs cs hg (by rw[hcl.1];exact Xcf) (by rw[hcl.1,ZCL.out.1]) hcl.2,
   fun tmps h2=>Xas Tryz.results169 tmps _ w.heap.size _ _ _ _ h2 (setRow_heap w4 w.heap.size zs cs _ _ hg) Tryz.underlying22 rfl (by rw[hcl.1];exact Xcf),
   below_setRow hb (Nat.le_refl _) cs⟩)
 have NO:Hid (Xeo (bs s)=none→∀a er:Int,er≠0→∀w',Below w.heap.size w w'→Xl7 (bs s) w (.returned (.tuple #[.agg zs,.int .i64 a,.int .i64 er])) w'):=Hd (fun h a er he w' hb=>⟨a,er,by rw[h,HZS.out];exact⟨rfl,he⟩,hb⟩)
 obtain⟨mn,hmn⟩:∃mn:Nat,mn=min s.size 32:=⟨_,rfl⟩
 have hm1:mn≤s.size:=by omega
 have hm2:mn≤32:=by omega
 have HMN:=Hd hmn
 have PZ:Hid (zs=idA (pn 16 (bs s) 0)):=Hd (by rw[hzs,Xwy];rfl)
 clear hzs hmn
 go_enter Tryz.func169,Tryz.ntmps169
 go_wp2_with fail
 go_loopg [6] mn (fun k i wr=>∃j:Nat,j≤mn∧k=mn-j∧i=.int .i64 (j:Int)∧Hid (∀q,q<j→hdB ((bs s).getD q 0)=true)∧Hid (wr.heap[w.heap.size]?=some (.cells zs 22 (0,0)))∧Hid (wr.heap[w.heap.size+1]?=some (.cells (idA (pn 16 (bs s) j)) 22 (0,0)))∧Hid (Below w.heap.size w wr))
 case atStart=>
  refine⟨0,by omega,rfl,rfl,Hd (fun q hq=>by omega),Hd ?_,Hd ?_,Hd (((Below.refl _ _).alloc (Nat.le_refl _) _).alloc (by simp) _)⟩
  ·have h:((w.alloc (.cells zs 22)).alloc (.cells zs 22)).heap[w.heap.size]?=some (.cells zs 22 (0,0)):=Xaf (heap_alloc_last w _)
   rw[←START.out] at h
   exact h
  ·have h:=heap_alloc_last (w.alloc (.cells zs 22)) (.cells zs 22)
   rw[World.size_alloc,←START.out] at h
   rw[←PZ.out]
   exact h
 case round=>
  obtain⟨j,hj,rfl,rfl,hg,hres,hcell,hbel⟩:=hrel
  by_cases hlt:j<mn
  ·obtain⟨c,hc⟩:∃c,c=(bs s).getD j 0:=⟨_,rfl⟩
   have hc2:c<256:=by rw[hc];exact Xa8 s j
   have y1:=fun w=>Xgs s w j j rfl (by omega) c hc
   have IX:=Hd (fun w=>Xt0 w c hc2)
   by_cases hd:hdB c=true
   ·rw[Xm0 hd] at IX
    obtain⟨y,hy⟩:∃y,y=hv c:=⟨_,rfl⟩
    have hy16:y<16:=by rw[hy];exact Xx0 c
    rw[←hy] at IX
    obtain⟨k,hk⟩:∃k,k=j/2:=⟨_,rfl⟩
    have hk16:k<16:=by omega
    obtain⟨v,hv'⟩:∃v,(pn 16 (bs s) j)[k]?=some v:=⟨_,Xod hk16⟩
    obtain⟨hst,hv16⟩:=Xwz hk (by omega) hv'
    rw[←hc,←hy] at hst
    have hck:∀w2:World,w2.heap[w.heap.size+1]?=wr.heap[w.heap.size+1]?→w2.cell? ⟨w.heap.size+1,k,none⟩=some (.int .u8 (v:Int)):=fun w2 h2=>by rw[cell_of_row w2 _ k _ _ _ (h2.trans hcell.out)];unfold idA;rw[List.getElem?_toArray,List.getElem?_map,hv'];rfl
    have hc1:=hck wr rfl
    have hc1d:=hck wr.drew rfl
    have hfk:wr.frozen? ⟨w.heap.size+1,k,none⟩=false:=by have:=hcell.out;simp[World.frozen?,this]
    have hfkd:wr.drew.frozen? ⟨w.heap.size+1,k,none⟩=false:=hfk
    obtain⟨z,hz⟩:∃z,z=v*16+y:=⟨_,rfl⟩
    rw[←hz] at hst
    have s1:IntKind.u8.wrap ((v:Int)*16)=(v:Int)*16:=by rw[IntKind.wrap_u8];omega
    have s3:IntKind.u8.wrap (y:Int)=(y:Int):=by rw[IntKind.wrap_u8];omega
    have s2:IntKind.u8.wrap ((v:Int)*16+(y:Int))=(z:Int):=by rw[IntKind.wrap_u8];omega
    have hdv:Int.tdiv (j:Int) 2=(k:Int):=by rw[Int.tdiv_eq_ediv_of_nonneg (by omega)];omega
    have wk:IntKind.i64.wrap (k:Int)=(k:Int):=IntWalk.i64_in _ (by omega)
    have HW:Hid (∀w2:World,w2.heap[w.heap.size+1]?=wr.heap[w.heap.size+1]?→(w2.setCell ⟨w.heap.size+1,k,none⟩ (.int .u8 (z:Int))).heap[w.heap.size+1]?=some (.cells (idA (pn 16 (bs s) (j+1))) 22 (0,0))):=Hd (fun w2 h2=>by rw[hst,←Xqk];exact Xd0 (h2.trans hcell.out) k _)
    have RW:Hid (∀w2:World,w2.heap[w.heap.size]?=wr.heap[w.heap.size]?→(w2.setCell ⟨w.heap.size+1,k,none⟩ (.int .u8 (z:Int))).heap[w.heap.size]?=some (.cells zs 22 (0,0))):=Hd (fun w2 h2=>by
     rw[Below.heap_setCell _ _ _ _ (show w.heap.size≠w.heap.size+1 by omega)];exact h2.trans hres.out)
    have BW:Hid (∀w2:World,Below w.heap.size w w2→Below w.heap.size w (w2.setCell ⟨w.heap.size+1,k,none⟩ (.int .u8 (z:Int)))):=Hd (fun w2 h2=>h2.setCell (p:=⟨w.heap.size+1,k,none⟩) (Nat.le_succ _) _)
    have BD:=Hd hbel.out.drew
    have G2:Hid (∀q,q<j+1→hdB ((bs s).getD q 0)=true):=Hd (fun q hq=>by
     by_cases e:q=j
     ·rw[e,←hc];exact hd
     ·exact hg.out q (by omega))
    have HK:=Hd hk
    clear hd hc hy hv' hst hz hg hcell hres FIN NO BU START HK hk PZ hck
    go_upto_region 7 with(go_at_call 209;refine(IX.out _).mono ?_;rintro e w' ⟨rfl,rfl⟩)
    refine wp_region_held (S:=fun _=>True) (by kernel_rfl) ?_
    change wpAnyH _ _ _ _ _ _ _ _ wr.drew
    have hB:(fun _:World=>True) wr.drew:=trivial
    refine Xad 0 (.int .i64 (j:Int)) rfl (fun _ _=>by go_simp) hB ?_
    refine Xad 1 (.int .i64 (k:Int)) rfl (fun _ _=>by go_simp) hB ?_
    refine Xad 2 (.int .i64 (j:Int)) rfl (fun _ _=>by go_simp) hB ?_
    refine Xad 3 (.int .i64 (k:Int)) rfl (fun _ _=>by go_simp) hB ?_
    refine Xad 4 (.pointer (some ⟨w.heap.size+1,k,none⟩)) rfl (fun _ _=>by go_simp;exact fun hh=>absurd hh (by omega)) hB ?_
    refine Xad 7 (.string s) rfl (fun _ _=>by go_simp) hB ?_
    refine Xad 8 (.int .i64 (j:Int)) rfl (fun _ _=>by go_simp) hB ?_
    refine Xad 9 (.int .u8 (c:Int)) rfl (fun _ _=>by go_simp) hB ?_
    refine Xf0 (i:=5) (k:=10) (by kernel_rfl) ?_ ?_
    ·skip
     refine Xbm (v:=.int .u8 (v:Int)) rfl rfl (by go_simp) ?_
     refine⟨trivial,?_⟩
     refine Xad 6 (.int .u8 ((v:Int)*16)) rfl (fun _ _=>by go_simp) hB ?_
     refine Xav (i:=10) (by kernel_rfl) ?_
     refine Xao (f:=209) (args:=#[.int .u8 (c:Int)]) rfl rfl (by go_simp) ?_
     refine(IX.out _).mono ?_
     rintro e w' ⟨rfl,rfl⟩
     refine⟨_,rfl,trivial,?_⟩
     refine Xad 11 (.int .u8 (y:Int)) rfl (fun _ _=>by go_simp) hB ?_
     refine Xad 12 (.int .u8 (z:Int)) rfl (fun _ _=>by go_simp) hB ?_
     refine Xad 13 (.pointer (some ⟨w.heap.size+1,k,none⟩)) rfl (fun _ _=>by go_simp;exact fun hh=>absurd hh (by omega)) hB ?_
     refine Xav (i:=14) (by kernel_rfl) ?_
     refine Xdb (w':=wr.drew.setCell ⟨w.heap.size+1,k,none⟩ (.int .u8 (z:Int))) rfl rfl (by go_simp) ?_
     refine⟨trivial,?_⟩
     refine wpAnyH_done (by kernel_rfl) ?_ _
     go_simp
     refine‹∀(a:Act) (w_1:World),_→_› _ _ ?_
     clear hB
     go_wp2_with fail
     go_roundg (mn-(j+1))
     case measure=>omega
     case rel=>exact⟨j+1,by omega,rfl,by go_num,G2,Hd (RW.out _ rfl),Hd (HW.out _ rfl),Hd (BW.out _ BD.out)⟩
    ·skip
     refine Xao (f:=209) (args:=#[.int .u8 (c:Int)]) rfl rfl (by go_simp) ?_
     refine(IX.out _).mono ?_
     rintro e w' ⟨rfl,rfl⟩
     refine⟨_,rfl,trivial,?_⟩
     refine Xad 11 (.int .u8 (y:Int)) rfl (fun _ _=>by go_simp) hB ?_
     refine Xav (i:=5) (by kernel_rfl) ?_
     refine Xbm (v:=.int .u8 (v:Int)) rfl rfl (by go_simp) ?_
     refine⟨trivial,?_⟩
     refine Xad 6 (.int .u8 ((v:Int)*16)) rfl (fun _ _=>by go_simp) hB ?_
     refine Xad 12 (.int .u8 (z:Int)) rfl (fun _ _=>by go_simp) hB ?_
     refine Xad 13 (.pointer (some ⟨w.heap.size+1,k,none⟩)) rfl (fun _ _=>by go_simp;exact fun hh=>absurd hh (by omega)) hB ?_
     refine Xav (i:=14) (by kernel_rfl) ?_
     refine Xdb (w':=wr.drew.setCell ⟨w.heap.size+1,k,none⟩ (.int .u8 (z:Int))) rfl rfl (by go_simp) ?_
     refine⟨trivial,?_⟩
     refine wpAnyH_done (by kernel_rfl) ?_ _
     go_simp
     refine‹∀(a:Act) (w_1:World),_→_› _ _ ?_
     clear hB
     go_wp2_with fail
     go_roundg (mn-(j+1))
     case measure=>omega
     case rel=>exact⟨j+1,by omega,rfl,by go_num,G2,Hd (RW.out _ rfl),Hd (HW.out _ rfl),Hd (BW.out _ BD.out)⟩
   ·have hd':hdB c=false:=by simpa using hd
    rw[Xql hd'] at IX
    have NN:=Hd (NO.out (Xza (j:=j) (by rw[LEN.out];omega) (by rw[←hc];exact hd')))
    obtain⟨ST,RES,BB⟩:=FIN.out wr zs ZCL.out hres.out hbel.out
    have ST:=Hd ST;have RES:=Hd RES;have BB:=Hd BB
    clear hd hd' hc FIN NO
    go_wp2_with (first
     |(go_at_call 209;refine(IX.out _).mono ?_;rintro e w' ⟨rfl,rfl⟩)
     |((with_reducible refine Xae 22 rfl rfl ?_);refine⟨_,BU.out _,?_⟩)
     |((with_reducible refine Xab 22 rfl _ _ rfl ?_);refine⟨_,_,_,rfl,rfl,ST.out,?_⟩))
    exact bodyPost_ret (RES.out _ rfl) rfl (NN.out _ 6 (by decide) _ BB.out)
  ·obtain rfl:j=mn:=by omega
   by_cases h1:s.size<32
   ·have e1:j=s.size:=by have:=HMN.out;omega
    have NN:=Hd (NO.out (Xne (by rw[LEN.out];omega)))
    obtain⟨ST,RES,BB⟩:=FIN.out wr zs ZCL.out hres.out hbel.out
    have ST:=Hd ST;have RES:=Hd RES;have BB:=Hd BB
    clear FIN NO
    go_wp2_with (first
     |((with_reducible refine Xae 22 rfl rfl ?_);refine⟨_,BU.out _,?_⟩)
     |((with_reducible refine Xab 22 rfl _ _ rfl ?_);refine⟨_,_,_,rfl,rfl,ST.out,?_⟩))
    exact bodyPost_ret (RES.out _ rfl) rfl (NN.out _ 4 (by decide) _ BB.out)
   ·have e32:j=32:=by have:=HMN.out;omega
    by_cases h2:32<s.size
    ·have NN:=Hd (NO.out (Xne (by rw[LEN.out];omega)))
     obtain⟨ST,RES,BB⟩:=FIN.out wr zs ZCL.out hres.out hbel.out
     have ST:=Hd ST;have RES:=Hd RES;have BB:=Hd BB
     clear FIN NO
     go_wp2_with (first
      |((with_reducible refine Xae 22 rfl rfl ?_);refine⟨_,BU.out _,?_⟩)
      |((with_reducible refine Xab 22 rfl _ _ rfl ?_);refine⟨_,_,_,rfl,rfl,ST.out,?_⟩))
     exact bodyPost_ret (RES.out _ rfl) rfl (NN.out _ 5 (by decide) _ BB.out)
    ·have h32:s.size=32:=by omega
     have GG:(bs s).all hdB=true:=Xgx (fun q hq=>hg.out q (by rw[LEN.out] at hq;omega))
     have YES:=Hd (Xtb (by rw[LEN.out];exact h32) GG)
     have OK:=Xta YES.out
     have hcell':=hcell.out
     rw[e32,show pn 16 (bs s) 32=uh (bs s) from Yde (n:=16) (by rw[LEN.out];exact h32)] at hcell'
     obtain⟨cs,hcs⟩:∃cs,cs=idA (uh (bs s)):=⟨_,rfl⟩
     have CL:Cl 16 cs:=by rw[hcs];exact Xq7 OK
     rw[←hcs] at hcell'
     obtain⟨ST,RES,BB⟩:=FIN.out wr cs CL hres.out hbel.out
     have ST:=Hd ST;have RES:=Hd RES;have BB:=Hd BB
     have LD:=Hd (Xal wr (w.heap.size+1) 16 _ _ cs _ _ hcell' rfl Tryz.underlying22 Xcf CL.1)
     have HCS:=Hd hcs
     clear FIN NO OK hcell' CL GG hcs hcell hres hbel hg BU START
     go_wp2_with (first
      |((with_reducible refine Xac 22 rfl _ rfl ?_);refine⟨_,_,rfl,LD.out,?_⟩)
      |((with_reducible refine Xab 22 rfl _ _ rfl ?_);refine⟨_,_,_,rfl,rfl,ST.out,?_⟩))
     exact bodyPost_ret (RES.out _ rfl) rfl (by unfold Xl7;rw[YES.out];simp only[];rw[←HCS.out];exact⟨_,0,rfl,BB.out⟩)
end Go.Proofs.YtohmdledkhgdaaaGreatDoor
