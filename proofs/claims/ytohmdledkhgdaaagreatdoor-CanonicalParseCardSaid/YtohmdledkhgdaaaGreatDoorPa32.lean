/- bulletinref15.bad, end, Body. -/
import Derived.Test.YtohmdledkhgdaaaGreatDoorPa31
namespace Go.Proofs.YtohmdledkhgdaaaGreatDoor
open Go.RowKit
set_option linter.unusedVariables false
set_option maxRecDepth 100000
theorem Yc6 (p:Nat→Bool):∀(m:List Nat) (k:Nat),k≤m.length→(∀j,j<k→p (m.getD j 0)=true)→(k=m.length∨p (m.getD k 0)=false)→(m.takeWhile p).length=k
 |[],k,hk,_,_=>by simp at hk;subst hk;rfl
 |x::m,0,hk,h1,h2=>by
  rcases h2 with h2|h2
  ·simp at h2
  ·have:p x=false:=h2
   simp[this]
 |x::m,k+1,hk,h1,h2=>by
  have h0:p x=true:=h1 0 (by omega)
  have:=Yc6 p m k (by simpa using hk) (fun j hj=>h1 (j+1) (by omega)) (by
   rcases h2 with h2|h2
   ·left;simpa using h2
   ·right;exact h2)
  simp[h0,this]
theorem Ye9 (l:List Nat) (a n:Nat) (h1:a≤n) (h2:n≤l.length) (h3:∀j,a≤j→j<n→l.getD j 0≠10) (h4:n=l.length∨l.getD n 0=10):a+(Xe2 (l.drop a)).length=n:=by
 have hg:∀j,(l.drop a).getD j 0=l.getD (a+j) 0:=fun j=>by simp[List.getD]
 have:=Yc6 (fun c=>!decide (c=10)) (l.drop a) (n-a) (by rw[List.length_drop];omega) (fun j hj=>by
  rw[hg]
  have:=h3 (a+j) (by omega) (by omega)
  simp only[Bool.not_eq_true',decide_eq_false_iff_not]
  exact this) (by
  rcases h4 with h4|h4
  ·left;rw[List.length_drop];omega
  ·right;rw[hg,show a+(n-a)=n by omega,h4];rfl)
 unfold Xe2
 omega
theorem Xxe (l:List Nat):Xe2 l=l.take (Xe2 l).length:=by
 have h:Xe2 l<+:l:=List.takeWhile_prefix _
 exact List.prefix_iff_eq_take.1 h
theorem Ycm:∀(n:Nat) (l:List Nat) (k:Nat),l.length≤n→l.length≤k→Xnc k l=Xnc l.length l:=by
 intro n
 induction n with
 |zero=>
  intro l k hl hk
  have:l=[]:=List.length_eq_zero_iff.1 (by omega)
  subst this
  cases k<;>rfl
 |succ n ih=>
  intro l k hl hk
  cases l with
  |nil=>cases k<;>rfl
  |cons a l=>
   cases k with
   |zero=>simp at hk
   |succ k=>
    rw[List.length_cons]
    simp only[Xnc]
    have hlen:((a::l).drop ((Xe2 (a::l)).length+1)).length≤l.length:=by simp
    have hl':l.length≤n:=by simpa using hl
    have hk':l.length≤k:=by simpa using hk
    rw[ih _ k (by omega) (by omega),ih _ l.length (by omega) (by omega)]
theorem Xvb {l:List Nat} (h:l≠[]):Xfk l=if(Xe2 l).length=l.length then 4 else if 998<(Xe2 l).length then 5 else if Xhg true (Xe2 l)=false then 6 else Xfk (l.drop ((Xe2 l).length+1)):=by
 cases l with
 |nil=>exact absurd rfl h
 |cons a l=>
  conv=>lhs;unfold Xfk
  rw[List.length_cons]
  simp only[Xnc]
  rw[if_neg (List.cons_ne_nil _ _),Ycm l.length _ l.length (by simp) (by simp)]
  rfl
def Xzq (l:List Nat) (w:World) (e:Ending) (w':World):Prop:=
 ∃r:Int,e=.returned (.int .i64 r)∧(Xhg true l=true→r<0)∧(Xhg true l=false→0≤r)∧-1≤r∧r≤20000000∧Below w.heap.size w w'
theorem Xlk:∀(k a:Nat) (l:List Nat),∀p∈rsN k a l,p.1≤a+l.length
 |0,_,_,p,h=>by simp[rsN] at h
 |k+1,a,l,p,h=>by
  simp only[rsN] at h
  split at h
  ·cases h
  ·have hl:=(Xpy l).1
   rcases List.mem_cons.1 h with rfl|h
   ·simp
   ·have:=Xlk k (a+rn l) (l.drop (rn l)) p h
    rw[List.length_drop] at this
    omega
set_option maxHeartbeats 1000000 in
theorem Yay (s:ByteArray) (w:World) (hs:s.size≤10000000):
    Calls Tryz.prog 93 #[.string s] w (Xzq (bs s) w):=by
 have A:=Hd (Xzh s w hs)
 have LN:(rns (bs s)).length≤s.size:=by rw[←Xaa];exact Xwl _
 have LN2:((rns (bs s)).map Prod.snd).length≤s.size:=by rw[List.length_map];exact LN
 obtain⟨g,hg⟩:∃g,g=Xhg true (bs s):=⟨_,rfl⟩
 have TG:Hid (g=(vld (bs s)&&((rns (bs s)).map Prod.snd).all (gd true))):=Hd (by rw[hg,Xsw])
 have EXT:Hid (∀(r:Int) w',(g=true→r<0)→(g=false→0≤r)→-1≤r→r≤20000000→Below w.heap.size w w'→Xzq (bs s) w (.returned (.int .i64 r)) w'):=Hd (fun r w' h1 h2 h3 h4 h5=>⟨r,rfl,by rw[←hg];exact h1,by rw[←hg];exact h2,h3,h4,h5⟩)
 obtain⟨V,hV⟩:∃V,V=vld (bs s):=⟨_,rfl⟩
 obtain⟨ns,hns⟩:∃ns,ns=(rns (bs s)).map Prod.snd:=⟨_,rfl⟩
 obtain⟨os,hos⟩:∃os,os=(rns (bs s)).map Prod.fst:=⟨_,rfl⟩
 have HV:=Hd hV
 rw[←hV,←hns] at TG
 obtain⟨m,hm2⟩:∃m,m=ns.length:=⟨_,rfl⟩
 rw[←hns,←hm2] at LN2
 have OL:Hid (os.length=m):=Hd (by rw[hos,hm2,hns,List.length_map,List.length_map])
 have OB:Hid (∀j,os.getD j 0≤s.size):=Hd (fun j=>by
  by_cases h:j<os.length
  ·have hm:=List.getElem_mem h
   rw[List.getD_eq_getElem?_getD,List.getElem?_eq_getElem h]
   have hm':os[j]∈(rns (bs s)).map Prod.fst:=by rw[←hos];exact hm
   obtain⟨p,hp,e⟩:=List.mem_map.1 hm'
   have:=Xlk _ _ _ p hp
   rw[Xaa] at this
   simp only[Option.getD_some]
   have e2:os[j]=p.1:=by rw[e]
   omega
  ·rw[List.getD_eq_getElem?_getD,List.getElem?_eq_none (by omega)];simp)
 have HNS:=Hd hns
 have HOS:=Hd hos
 have HM:=Hd hm2
 have SZ:=Hd hs
 clear LN hV hns hm2 hos hg
 go_enter Tryz.func93,Tryz.ntmps93
 go_wp2_with fail
 refine A.out.mono ?_
 rintro e w1 ⟨v1,v2,a,er,rfl,r1,r2,h1,h2,ha,hb⟩
 rw[Xaa] at ha
 rw[←HNS.out] at r1
 rw[←HOS.out] at r2
 have R1:=Hd r1;have R2:=Hd r2
 have B1:=Hd hb
 have ER:Hid ((V=true→er=0)∧(V=false→er≠0)):=Hd ⟨fun h=>h1 (HV.out.symm.trans h),fun h=>h2 (HV.out.symm.trans h)⟩
 clear A r1 r2 h1 h2 hb
 obtain⟨ba,cap,rfl,hc,_⟩:=R1.out
 rw[←HM.out] at hc⊢
 go_wp2_with fail
 go_loopg [7] m (fun k i wr=>∃n:Nat,n≤m∧k=m-n∧i=.int .i64 (n:Int)∧Hid ((ns.take n).all (gd true)=true)∧Hid (Dr w1 wr))
 case atStart=>exact⟨0,by omega,rfl,rfl,Hd rfl,Hd (Dr.refl _)⟩
 case round=>
  obtain⟨n,hn,rfl,rfl,hg,hd⟩:=hrel
  have BD:Hid (Below w.heap.size w wr):=Hd (B1.out.trans ((Dr.below hd.out).mono B1.out.size))
  by_cases b:n<m
  ·have hnl:n<ns.length:=by rw[←HM.out];exact b
   obtain⟨b0,off,cap',e0,_,hb0,hcell⟩:=R1.out.at n hnl
   obtain⟨x,hx⟩:∃x,x=ns.getD n 0:=⟨_,rfl⟩
   rw[←hx] at hcell
   cases e0
   have hcc:wr.cell? ⟨b0,off+n,none⟩=some (.int .i64 (x:Int)):=((Dr.below hd.out).cell (p:=⟨b0,off+n,none⟩) hb0).trans hcell
   obtain⟨c,hcx⟩:∃c,c=Xs6 x:=⟨_,rfl⟩
   have C:=Hd (fun w=>Xsa w x)
   rw[←hcx] at C
   have HC:=Hd hcx
   have HX:=Hd hx
   have HL:=Hd hnl
   clear hcell hx hcx hnl hb0
   cases c
   ·have G:Hid ((ns.take (n+1)).all (gd true)=true):=Hd (Xb2 hg.out HL.out HX.out (by unfold gd;rw[←HC.out];rfl))
    clear hg
    go_wp2_with (go_at_call 85;refine(C.out _).mono ?_;rintro e w' ⟨rfl,rfl⟩)
    go_roundg (m-(n+1))
    case measure=>omega
    case rel=>exact⟨n+1,by omega,rfl,by go_num,G,by(first|exact hd|exact Hd (hd.out.drewN _))⟩
   ·by_cases x9:x=9
    ·have q1:((x:Int) !=9)=false:=Xat (by omega)
     have G:Hid ((ns.take (n+1)).all (gd true)=true):=Hd (Xb2 hg.out HL.out HX.out (by unfold gd;rw[decide_eq_true x9,Bool.and_self,Bool.or_true]))
     clear hg x9
     go_wp2_with (go_at_call 85;refine(C.out _).mono ?_;rintro e w' ⟨rfl,rfl⟩)
     go_roundg (m-(n+1))
     case measure=>omega
     case rel=>exact⟨n+1,by omega,rfl,by go_num,G,by(first|exact hd|exact Hd (hd.out.drewN _))⟩
    ·have q1:((x:Int) !=9)=true:=Xam (by omega)
     have G:Hid (g=false):=Hd (by rw[TG.out,Xde HL.out HX.out (by unfold gd;rw[←HC.out,decide_eq_false x9];rfl),Bool.and_false])
     obtain⟨b2,off2,cap2,e2,hc2,hb2,hcell2⟩:=R2.out.at n (by rw[OL.out];exact b)
     obtain⟨y,hy⟩:∃y,y=os.getD n 0:=⟨_,rfl⟩
     have hys:y≤s.size:=by rw[hy];exact OB.out n
     rw[←hy] at hcell2
     subst e2
     rw[OL.out] at hc2⊢
     have hcc2:wr.cell? ⟨b2,off2+n,none⟩=some (.int .i64 (y:Int)):=((Dr.below hd.out).cell (p:=⟨b2,off2+n,none⟩) hb2).trans hcell2
     clear hg x9 hcell2 hy hb2
     go_wp2_with (go_at_call 85;refine(C.out _).mono ?_;rintro e w' ⟨rfl,rfl⟩)
     go_ret
     exact EXT.out _ _ (fun h=>by rw[G.out] at h;cases h) (fun _=>by omega) (by omega) (by have:=SZ.out;omega) (by(first|exact BD.out|exact BD.out.drew|exact BD.out.trans ((Dr.below ((Dr.refl _).drewN _)).mono BD.out.size)))
  ·obtain rfl:n=m:=by omega
   have GV:Hid (g=V):=Hd (by
    have h:=hg.out
    rw[List.take_of_length_le (by rw[HM.out];exact Nat.le_refl _)] at h
    rw[TG.out,h,Bool.and_true])
   clear hg
   cases V with
   |true=>
    obtain rfl:=ER.out.1 rfl
    go_wp2_with fail
    go_ret
    exact EXT.out _ _ (fun _=>by decide) (fun h=>by rw[GV.out] at h;cases h) (by decide) (by decide) BD.out
   |false=>
    have q1:((er:Int) !=0)=true:=Xam (by have:=ER.out.2 rfl;omega)
    go_wp2_with fail
    go_ret
    exact EXT.out _ _ (fun h=>by rw[GV.out] at h;cases h) (fun _=>by omega) (by omega) (by have:=SZ.out;omega) BD.out
set_option maxHeartbeats 1000000 in
theorem Yav (s:ByteArray) (a:Nat) (w:World) (hs:s.size≤10000000) (ha:a≤s.size):
    Calls Tryz.prog 92 #[.string s,.int .i64 (a:Int)] w fun e w'=>e=.returned (.int .i64 ((a+(Xe2 ((bs s).drop a)).length:Nat):Int))∧Dr w w':=by
 go_enter Tryz.func92,Tryz.ntmps92
 go_wp2_with fail
 go_loopg [1] (s.size-a) (fun k i wr=>∃n:Nat,a≤n∧n≤s.size∧k=s.size-n∧i=.int .i64 (n:Int)∧Hid (∀j,a≤j→j<n→(bs s).getD j 0≠10)∧Hid (Dr w wr))
 case atStart=>exact⟨a,by omega,by omega,rfl,rfl,Hd (fun j h1 h2=>by omega),Hd (Dr.refl _)⟩
 case round=>
  obtain⟨n,h1,h2,rfl,rfl,hv,hd⟩:=hrel
  have E:Hid (n=s.size∨(bs s).getD n 0=10→n=a+(Xe2 ((bs s).drop a)).length):=Hd (fun h=>(Ye9 (bs s) a n h1 (by rw[Xaa];exact h2) hv.out (by rw[Xaa];exact h)).symm)
  by_cases b:n<s.size
  ·obtain⟨x,hx⟩:∃x,x=(bs s).getD n 0:=⟨_,rfl⟩
   have hx2:x<256:=by rw[hx];exact Xa8 s n
   have y1:=fun w=>Xgs s w n n rfl b x hx
   have HX:=Hd hx
   clear hx
   by_cases e10:x=10
   ·have q1:((x:Int) !=10)=false:=Xat (by omega)
    have F:=Hd (E.out (.inr (by rw[←HX.out];exact e10)))
    clear hv E e10
    go_wp2_with fail
    go_ret
    exact⟨by rw[←F.out];rfl,by(first|exact hd.out|exact hd.out.drewN _)⟩
   ·have q1:((x:Int) !=10)=true:=Xam (by omega)
    have F:Hid (∀j,a≤j→j<n+1→(bs s).getD j 0≠10):=Hd (fun j g1 g2=>by
     rcases Nat.lt_succ_iff_lt_or_eq.1 g2 with g|rfl
     ·exact hv.out j g1 g
     ·rw[←HX.out];exact e10)
    clear hv E e10
    go_wp2_with fail
    go_roundg (s.size-(n+1))
    case measure=>omega
    case rel=>exact⟨n+1,by omega,by omega,rfl,by go_num,F,by(first|exact hd|exact Hd (hd.out.drewN _))⟩
  ·have F:=Hd (E.out (.inl (by omega)))
   clear hv E
   go_wp2_with fail
   go_ret
   exact⟨by rw[←F.out];rfl,by(first|exact hd.out|exact hd.out.drewN _)⟩
def Xzl (l:List Nat) (w:World) (e:Ending) (w':World):Prop:=∃n:Int,e=.returned (.tuple #[.int .i64 n,.int .i64 (Xfk l:Nat)])∧Below w.heap.size w w'
set_option maxHeartbeats 1000000 in
theorem Xwv (s:ByteArray) (w:World) (hs:s.size≤10000000):
    Calls Tryz.prog 50 #[.string s] w (Xzl (bs s) w):=by
 obtain⟨T,hT⟩:∃T,T=Xfk (bs s):=⟨_,rfl⟩
 have FIN:Hid (∀(n:Int) (t:Nat) w',t=T→Below w.heap.size w w'→Xzl (bs s) w (.returned (.tuple #[.int .i64 n,.int .i64 (t:Int)])) w'):=Hd (by
  rintro n t w' rfl h
  exact⟨n,by rw[hT],h⟩)
 have HT:=Hd hT
 clear hT
 go_enter Tryz.func50,Tryz.ntmps50
 go_wp2_with fail
 go_loopg [4] s.size (fun k i wr=>∃n:Nat,n≤s.size∧k=s.size-n∧i=.int .i64 (n:Int)∧Hid (T=Xfk ((bs s).drop n))∧Hid (Below w.heap.size w wr))
 case atStart=>exact⟨0,by omega,rfl,rfl,HT,Hd (Below.refl _ _)⟩
 case round=>
  obtain⟨n,h2,rfl,rfl,hv,hb⟩:=hrel
  by_cases b:n<s.size
  ·have hlt:((bs s).drop n).length=s.size-n:=by rw[List.length_drop,Xaa]
   have hne:(bs s).drop n≠[]:=by intro e;rw[e] at hlt;simp at hlt;omega
   have ST:=Xvb hne
   have HE:=Hd (Yav s n wr hs h2)
   have hll:=Xqf ((bs s).drop n)
   rw[hlt] at hll ST
   obtain⟨m,hm⟩:∃m,m=(Xe2 ((bs s).drop n)).length:=⟨_,rfl⟩
   have LT:Hid (Xe2 ((bs s).drop n)=bs (s.extract n (n+m))):=Hd (by rw[Xxe,←hm,Xby,List.drop_take];congr 1;omega)
   rw[←hm] at hll ST HE
   rw[List.drop_drop] at ST
   have STH:Hid (T=if m=s.size-n then 4 else if 998<m then 5 else if Xhg true (bs (s.extract n (n+m)))=false then 6 else Xfk ((bs s).drop (n+(m+1)))):=Hd (by rw[hv.out,ST,LT.out])
   clear hlt hne ST hm hv LT
   go_wp2_with fail
   refine HE.out.mono ?_
   rintro e w1 ⟨rfl,hd1⟩
   have B1:=Hd (hb.out.trans ((Dr.below hd1).mono hb.out.size))
   clear hd1 HE
   by_cases c1:m=s.size-n
   ·have q1:(((n+m:Nat):Int)==(s.size:Int))=true:=Xa6 (by omega)
    have F:Hid (4=T):=Hd (by rw[STH.out,if_pos c1])
    clear STH c1
    go_wp2_with fail
    go_ret2
    exact FIN.out _ 4 _ F.out B1.out
   have q1:(((n+m:Nat):Int)==(s.size:Int))=false:=Xak (by omega)
   by_cases c2:998<m
   ·have F:Hid (5=T):=Hd (by rw[STH.out,if_neg c1,if_pos c2])
    clear STH c1
    go_wp2_with fail
    go_ret2
    exact FIN.out _ 5 _ F.out B1.out
   have BA:=Hd (fun w=>Yay (s.extract n (n+m)) w (by rw[ByteArray.size_extract];omega))
   obtain⟨g,hg⟩:∃g,g=Xhg true (bs (s.extract n (n+m))):=⟨_,rfl⟩
   have HG:=Hd hg
   have ST2:Hid (T=if g=false then 6 else Xfk ((bs s).drop (n+(m+1)))):=Hd (by rw[STH.out,if_neg c1,if_neg c2,←hg])
   have c3:n+m<s.size:=by omega
   clear STH c1 hg
   go_wp2_with fail
   refine(BA.out _).mono ?_
   rintro e w2 ⟨r,rfl,g1,g2,r1,r2,hb2⟩
   have B2:=Hd (B1.out.trans (hb2.mono B1.out.size))
   have G1:=Hd (fun h=>g1 (HG.out.symm.trans h));have G2:=Hd (fun h=>g2 (HG.out.symm.trans h))
   clear g1 g2 hb2 BA HG
   cases g with
   |false=>
    have:=G2.out rfl
    have F:Hid (6=T):=Hd (by rw[ST2.out];rfl)
    clear ST2
    go_wp2_with fail
    go_ret2
    exact FIN.out _ 6 _ F.out B2.out
   |true=>
    have:=G1.out rfl
    have F:Hid (T=Xfk ((bs s).drop (n+(m+1)))):=Hd (by rw[ST2.out];rfl)
    clear ST2
    go_wp2_with fail
    go_roundg (s.size-(n+(m+1)))
    case measure=>omega
    case rel=>exact⟨n+(m+1),by omega,rfl,by go_num,F,B2⟩
  ·have F:Hid (0=T):=Hd (by rw[hv.out,List.drop_of_length_le (by rw[Xaa];omega)];rfl)
   clear hv
   go_wp2_with fail
   go_ret2
   exact FIN.out _ 0 _ F.out hb.out
theorem Yar (w:World) (c:Nat) (hc:c<256):Calls Tryz.prog 90 #[.int .u8 (c:Int)] w fun e w'=>e=.returned (.bool (low c))∧w=w':=by
 rcases(by omega:c<97∨(97≤c∧c≤122)∨122<c) with h|⟨h,h2⟩|h
 all_goals
  go_enter Tryz.func90,Tryz.ntmps90
  go_wp2_with fail
  go_ret
  exact⟨Xa3 (by rw[Bool.eq_iff_iff];simp[low];try omega),rfl⟩
theorem Xt2 (w:World) (c:Nat) (hc:c<256):Calls Tryz.prog 91 #[.int .u8 (c:Int)] w fun e w'=>e=.returned (.bool (dig c))∧w=w':=by
 rcases(by omega:c<48∨(48≤c∧c≤57)∨57<c) with h|⟨h,h2⟩|h
 all_goals
  go_enter Tryz.func91,Tryz.ntmps91
  go_wp2_with fail
  go_ret
  exact⟨Xa3 (by rw[Bool.eq_iff_iff];simp[dig];try omega),rfl⟩
theorem Xts (w:World) (n:Int):Calls Tryz.prog 45 #[.int .i64 n] w fun e w'=>e=.returned (.bool (!(decide (n<0)||decide (105190559<n))))∧w=w':=by
 rcases(by omega:n<0∨(0≤n∧n≤105190559)∨105190559<n) with h|⟨h,h2⟩|h
 all_goals
  go_enter Tryz.func45,Tryz.ntmps45
  go_wp2_with fail
  go_ret
  exact⟨Xa3 (by(first|(rw[Bool.eq_iff_iff];done)|(rw[Bool.eq_iff_iff];simp;done)|(rw[Bool.eq_iff_iff];simp;omega))),rfl⟩
set_option maxHeartbeats 1000000 in
theorem Xwt (s:ByteArray) (w:World) (hs:s.size≤maxLen):
    Calls Tryz.prog 49 #[.string s] w fun e w'=>e=.returned (.int .i64 (Xkk (bs s):Nat))∧Dr w w':=by
 unfold maxLen at hs
 obtain⟨T,hT⟩:∃T,T=Xkk (bs s):=⟨_,rfl⟩
 rw[←hT]
 have TF:Hid (T=fe (eIf (decide (20<s.size)) 5) (eIf ((bs s).any dsB) 6)):=Hd (by rw[hT];unfold Xkk;rw[Xaa];rfl)
 clear hT
 by_cases hl:20<s.size
 ·have T5:Hid (T=5):=Hd (by rw[TF.out,decide_eq_true hl];rfl)
  go_enter Tryz.func49,Tryz.ntmps49
  go_wp2_with fail
  go_ret
  exact⟨by rw[T5.out];rfl,Dr.refl _⟩
 have TG:Hid (T=eIf ((bs s).any dsB) 6):=Hd (by rw[TF.out,decide_eq_false hl];rfl)
 clear TF
 go_enter Tryz.func49,Tryz.ntmps49
 go_wp2_with fail
 go_loopg [3] s.size (fun k i wr=>∃n:Nat,n≤s.size∧k=s.size-n∧i=.int .i64 (n:Int)∧Hid (((bs s).take n).any dsB=false)∧Hid (Dr w wr))
 case atStart=>exact⟨0,by omega,rfl,rfl,Hd rfl,Hd (Dr.refl _)⟩
 case round=>
  obtain⟨n,hn,rfl,rfl,hv,hd⟩:=hrel
  by_cases b:n<s.size
  ·obtain⟨x,hx⟩:∃x,x=(bs s).getD n 0:=⟨_,rfl⟩
   have hx2:x<256:=by rw[hx];exact Xa8 s n
   have y1:=fun w=>Xgs s w n n rfl b x hx
   have LO:=Hd (fun w=>Yar w x hx2)
   have DI:=Hd (fun w=>Xt2 w x hx2)
   obtain⟨l,hlw⟩:∃l,l=low x:=⟨_,rfl⟩
   obtain⟨d,hdg⟩:∃d,d=dig x:=⟨_,rfl⟩
   rw[←hlw] at LO
   rw[←hdg] at DI
   obtain⟨q,hq⟩:∃q,q=dsB x:=⟨_,rfl⟩
   have HQ:Hid (q=(!l&&!d&&!decide (x=45))):=Hd (by rw[hq,hlw,hdg];rfl)
   have NX:Hid (q=false→((bs s).take (n+1)).any dsB=false):=Hd (fun h=>Xhc hv.out (by rw[Xaa];exact b) hx (hq.symm.trans h))
   have NO:Hid (q=true→(bs s).any dsB=true):=Hd (fun h=>Xif (by rw[Xaa];exact b) hx (hq.symm.trans h))
   clear hx hlw hdg hq hv
   cases l with
   |true=>
    have F:=Hd (NX.out (by rw[HQ.out];rfl))
    clear NX NO
    go_wp2_with (first|(go_at_call 90;refine(LO.out _).mono ?_;rintro e w' ⟨rfl,rfl⟩)|(go_at_call 91;refine(DI.out _).mono ?_;rintro e w' ⟨rfl,rfl⟩))
    go_roundg (s.size-(n+1))
    case measure=>omega
    case rel=>exact⟨n+1,by omega,rfl,by go_num,F,by(first|exact hd|exact Hd (hd.out.drewN _))⟩
   |false=>
    cases d with
    |true=>
     have F:=Hd (NX.out (by rw[HQ.out];rfl))
     clear NX NO
     go_wp2_with (first|(go_at_call 90;refine(LO.out _).mono ?_;rintro e w' ⟨rfl,rfl⟩)|(go_at_call 91;refine(DI.out _).mono ?_;rintro e w' ⟨rfl,rfl⟩))
     go_roundg (s.size-(n+1))
     case measure=>omega
     case rel=>exact⟨n+1,by omega,rfl,by go_num,F,by(first|exact hd|exact Hd (hd.out.drewN _))⟩
    |false=>
     by_cases e45:x=45
     ·have q1:((x:Int) !=45)=false:=Xat (by omega)
      have F:=Hd (NX.out (by rw[HQ.out,decide_eq_true e45];rfl))
      clear NX NO e45
      go_wp2_with (first|(go_at_call 90;refine(LO.out _).mono ?_;rintro e w' ⟨rfl,rfl⟩)|(go_at_call 91;refine(DI.out _).mono ?_;rintro e w' ⟨rfl,rfl⟩))
      go_roundg (s.size-(n+1))
      case measure=>omega
      case rel=>exact⟨n+1,by omega,rfl,by go_num,F,by(first|exact hd|exact Hd (hd.out.drewN _))⟩
     ·have q1:((x:Int) !=45)=true:=Xam (by omega)
      have F:=Hd (NO.out (by rw[HQ.out,decide_eq_false e45];rfl))
      have T6:Hid (T=6):=Hd (by rw[TG.out,F.out];rfl)
      clear NX NO e45
      go_wp2_with (first|(go_at_call 90;refine(LO.out _).mono ?_;rintro e w' ⟨rfl,rfl⟩)|(go_at_call 91;refine(DI.out _).mono ?_;rintro e w' ⟨rfl,rfl⟩))
      go_ret
      exact⟨by rw[T6.out];rfl,by(first|exact hd.out|exact hd.out.drewN _)⟩
  ·have T0:Hid (T=0):=Hd (by rw[TG.out,Xig hv.out (by rw[Xaa];omega)];rfl)
   clear hv
   go_wp2_with fail
   go_ret
   exact⟨by rw[T0.out];rfl,by(first|exact hd.out|exact hd.out.drewN _)⟩
set_option maxHeartbeats 1000000 in
theorem Xwu (s:ByteArray) (w:World) (hs:s.size≤maxLen):
    Calls Tryz.prog 166 #[.string s] w fun e w'=>e=.returned (.bool (Xei (bs s)))∧Dr w w':=by
 unfold maxLen at hs
 obtain⟨T,hT⟩:∃T,T=Xei (bs s):=⟨_,rfl⟩
 rw[←hT]
 have TF:Hid (T=(!(bs s).isEmpty&&decide (s.size≤20)&&low ((bs s).getD 0 0)&&(bs s).all nmC)):=Hd (by rw[hT];unfold Xei;rw[Xaa])
 clear hT
 by_cases h0:s.size=0
 ·have F:Hid (T=false):=Hd (by rw[TF.out,Xs8 h0];rfl)
  obtain rfl:=Xea h0
  clear TF h0 hs
  go_enter Tryz.func166,Tryz.ntmps166
  go_wp2_with fail
  go_ret
  exact⟨by rw[F.out];rfl,Dr.refl _⟩
 have NE:Hid ((bs s).isEmpty=false):=Hd (by rw[List.isEmpty_eq_false_iff];intro e;have:=congrArg List.length e;rw[Xaa] at this;exact h0 this)
 by_cases h20:20<s.size
 ·have F:Hid (T=false):=Hd (by rw[TF.out,decide_eq_false (by omega)];simp)
  clear TF
  go_enter Tryz.func166,Tryz.ntmps166
  go_wp2_with fail
  go_ret
  exact⟨by rw[F.out];rfl,Dr.refl _⟩
 obtain⟨c,hc⟩:∃c,c=(bs s).getD 0 0:=⟨_,rfl⟩
 have hc2:c<256:=by rw[hc];exact Xa8 s 0
 have x0:=Xzu s c hc (by omega)
 have TG:Hid (T=(low c&&(bs s).all nmC)):=Hd (by rw[TF.out,NE.out,decide_eq_true (show s.size≤20 by omega),hc];simp)
 have HC:=Hd hc
 clear TF NE hc
 by_cases hlo:c<97
 ·have F:Hid (T=false):=Hd (by rw[TG.out];unfold low;rw[decide_eq_false (by omega)];rfl)
  go_enter Tryz.func166,Tryz.ntmps166
  go_wp2_with fail
  go_ret
  exact⟨by rw[F.out];rfl,Dr.refl _⟩
 by_cases hhi:122<c
 ·have F:Hid (T=false):=Hd (by rw[TG.out];unfold low;rw[decide_eq_false (show¬c≤122 by omega)];simp)
  go_enter Tryz.func166,Tryz.ntmps166
  go_wp2_with fail
  go_ret
  exact⟨by rw[F.out];rfl,Dr.refl _⟩
 have LC:low c=true:=by unfold low;rw[decide_eq_true (show 97≤c by omega),decide_eq_true (show c≤122 by omega)];rfl
 have TA:Hid (T=(bs s).all nmC):=Hd (by rw[TG.out,LC];rfl)
 have S1:Hid (((bs s).take 1).all nmC=true):=Hd (Xb2 (k:=0) rfl (by rw[Xaa];omega) HC.out (by unfold nmC;rw[LC];rfl))
 clear TG LC
 go_enter Tryz.func166,Tryz.ntmps166
 go_wp2_with fail
 go_loopg [3,4] s.size (fun k i c wr=>∃n:Nat,1≤n∧n≤s.size∧k=s.size+1-n∧i=.int .i64 (n:Int)∧Hid (((bs s).take n).all nmC=true)∧Hid (Dr w wr))
 case atStart=>exact⟨1,by omega,by omega,by omega,rfl,S1,Hd (Dr.refl _)⟩
 case round=>
  obtain⟨n,h1,hn,rfl,rfl,hv,hd⟩:=hrel
  by_cases b:n<s.size
  ·obtain⟨x,hx⟩:∃x,x=(bs s).getD n 0:=⟨_,rfl⟩
   have hx2:x<256:=by rw[hx];exact Xa8 s n
   have y1:=fun w=>Xgs s w n n rfl b x hx
   have NX:Hid (nmC x=true→((bs s).take (n+1)).all nmC=true):=Hd (fun h=>Xb2 hv.out (by rw[Xaa];exact b) hx h)
   have NO:Hid (nmC x=false→(bs s).all nmC=false):=Hd (fun h=>Xde (by rw[Xaa];exact b) hx h)
   clear hx hv
   rcases(by omega:(97≤x∧x≤122)∨(48≤x∧x≤57)∨x=45∨x=43∨x=95∨(x<43)∨(x=44)∨(45<x∧x<48)∨(57<x∧x<95)∨x=96∨122<x) with⟨h,h2⟩|⟨h,h2⟩|h|h|h|h|h|⟨h,h2⟩|⟨h,h2⟩|h|h
   all_goals
    first
     |have F:=Hd (NX.out (by simp[nmC,low,dig];omega))
      clear NX NO
      try have q1:((x:Int)==45)=true:=Xa6 (by omega)
      try have q2:((x:Int)==43)=true:=Xa6 (by omega)
      try have q3:((x:Int)==95)=true:=Xa6 (by omega)
      try have q1:((x:Int)==45)=false:=Xak (by omega)
      try have q2:((x:Int)==43)=false:=Xak (by omega)
      try have q3:((x:Int)==95)=false:=Xak (by omega)
      go_wp2_with fail
      go_roundg (s.size+1-(n+1))
      case measure=>omega
      case rel=>exact⟨n+1,by omega,by omega,rfl,by go_num,F,by(first|exact hd|exact Hd (hd.out.drewN _))⟩
     |have F:Hid (T=false):=Hd (by rw[TA.out,NO.out (by simp[nmC,low,dig];omega)])
      clear NX NO
      try have q1:((x:Int)==45)=false:=Xak (by omega)
      try have q2:((x:Int)==43)=false:=Xak (by omega)
      try have q3:((x:Int)==95)=false:=Xak (by omega)
      go_wp2_with fail
      all_goals
       first
        |(go_ret;exact⟨by rw[F.out];rfl,by(first|exact hd.out|exact hd.out.drewN _)⟩)
        |(exfalso;simp only[Bool.not_eq_false',decide_eq_true_eq] at*;omega)
  ·have F:Hid (T=true):=Hd (by have h:=hv.out;rw[List.take_of_length_le (by rw[Xaa];omega)] at h;rw[TA.out,h])
   clear hv
   go_wp2_with fail
   go_ret
   exact⟨by rw[F.out];rfl,by(first|exact hd.out|exact hd.out.drewN _)⟩
def ahd (p:List Nat):List (List Nat)→List (List Nat)
 |[]=>[p]
 |h::r=>(p++h)::r
theorem Xzi (c:Nat) (p t:List Nat):ahd p (spl c (c::t))=p::ahd [] (spl c t):=by
 simp only[spl,if_true,ahd,List.append_nil]
 cases h:spl c t with
 |nil=>exact absurd h (Xje c t)
 |cons a r=>rfl
theorem Xtc (c x:Nat) (hx:x≠c) (p t:List Nat):ahd p (spl c (x::t))=ahd (p++[x]) (spl c t):=by
 simp only[spl,if_neg hx]
 cases h:spl c t with
 |nil=>exact absurd h (Xje c t)
 |cons a r=>simp[ahd]
theorem Xzj (c:Nat) (p:List Nat):ahd p (spl c [])=[p]:=by simp[spl,ahd]
theorem Xpj (c:Nat) (l:List Nat):ahd [] (spl c l)=spl c l:=by
 cases h:spl c l with
 |nil=>exact absurd h (Xje c l)
 |cons a r=>rfl
theorem Xo0 {l:List Nat} {n:Nat} (h:n<l.length):l.drop n=l.getD n 0::l.drop (n+1):=by
 rw[List.drop_eq_getElem_cons h];simp[List.getD,h]
structure PaI (s:ByteArray) (c:Nat) (w:World) (n:Nat) (v:Value) (gs:List ByteArray) (cur:ByteArray) (wr:World):Prop where
 eq:spl c (bs s)=gs.map bs++ahd (bs cur) (spl c ((bs s).drop n))
 row:wr.ownsRow w.heap.size 9 1 v gs.length (gs.map Value.string)
 siz:∀g∈gs,g.size≤s.size
 cur:cur.size≤n
 num:gs.length≤n
 bel:Below w.heap.size w wr
theorem PaI.post {s:ByteArray} {c:Nat} {w:World} {v:Value} {gs:List ByteArray} {wr:World} (h:gs.map bs=spl c (bs s)) (hr:wr.ownsRow w.heap.size 9 1 v gs.length (gs.map Value.string)) (hs:∀g∈gs,g.size≤s.size) (hn:gs.length≤s.size+1) (hb:Below w.heap.size w wr):Xh2 c s w (.returned v) wr:=
 ⟨v,gs,rfl,h,Xse hr,hs,hn,hr,hb⟩
set_option maxHeartbeats 2000000 in
theorem Xtw (s:ByteArray) (c:Nat) (w:World) (hs:s.size≤10000000) (hc:c<256):
    Calls Tryz.prog 165 #[.string s,.int .u8 (c:Int)] w (Xh2 c s w):=by
 obtain⟨i0,hi0,hz0,hz1,hz2⟩:=info_parts Yfe
 go_enter Tryz.func165,Tryz.ntmps165
 go_wp2_with fail
 go_loopg [5,6,7] s.size (fun k v p i wr=>∃(n:Nat) (gs:List ByteArray) (cur:ByteArray),n≤s.size∧k=s.size-n∧i=.int .i64 (n:Int)∧p=.string cur∧Hid (PaI s c w n v gs cur wr))
 case atStart=>exact⟨0,[],⟨#[]⟩,by omega,rfl,rfl,rfl,Hd ⟨by rw[List.drop_zero];exact(Xpj c (bs s)).symm,World.ownsRow_nil _ _ _ _,(fun g h=>by cases h),Nat.le_refl _,Nat.le_refl _,Below.refl _ _⟩⟩
 case round=>
  obtain⟨n,gs,cur,hn,rfl,rfl,rfl,J⟩:=hrel
  by_cases b:n<s.size
  ·obtain⟨x,hx⟩:∃x,x=(bs s).getD n 0:=⟨_,rfl⟩
   have hx2:x<256:=by rw[hx];exact Xa8 s n
   have y1:=fun w=>Xgs s w n n rfl b x hx
   have DG:Hid ((bs s).drop n=x::(bs s).drop (n+1)):=Hd (by rw[hx];exact Xo0 (by rw[Xaa];exact b))
   have HX:=Hd hx
   clear hx
   obtain⟨m,hm⟩:∃m,m=gs.length:=⟨_,rfl⟩
   have HM:=Hd hm
   have hmn:m≤n:=by rw[hm];exact J.out.num
   have hcn:cur.size≤n:=J.out.cur
   have hwz:=J.out.bel.size
   by_cases e:x=c
   ·subst e
    have q1:((x:Int)==(x:Int))=true:=Xa6 rfl
    have EQ2:Hid (spl x (bs s)=(gs++[cur]).map bs++ahd (bs ⟨#[]⟩) (spl x ((bs s).drop (n+1)))):=Hd (by
     rw[J.out.eq,DG.out,Xzi,List.map_append,List.append_assoc];rfl)
    have RW:Hid (wr.ownsRow w.heap.size 9 1 u5 m (gs.map Value.string)):=Hd (by rw[HM.out];exact J.out.row)
    have SZ:Hid (∀g∈gs++[cur],g.size≤s.size):=Hd (fun g hg=>by
     rcases List.mem_append.1 hg with h|h
     ·exact J.out.siz g h
     ·simp at h;subst h;omega)
    have BE:=Hd J.out.bel
    clear J hm DG
    go_wp2_with (at_builtin;refine wpList_append_own _ rfl _ _ 23 rfl w.heap.size 9 i0 (.string ⟨#[]⟩) 1 16 Tryz.underlying23 hi0 hz0 hz1 hz2 rfl (by decide) _ _ _ rfl (RW.out.alloc _) ⟨wr.heap.size,0,none⟩ 1 1 [.string cur] rfl rfl (World.news_of_block (cs:=#[.string cur]) (t:=9) (fr:=(0,0)) (heap_alloc_new wr _)) (by simp[Value.oneCell']) (by unfold maxLen;omega) (by omega) (by simp;omega) ?_;intro v' w3 hown' hgrow _)
    have O3:Hid (w3.ownsRow w.heap.size 9 1 v' (gs++[cur]).length ((gs++[cur]).map Value.string)):=Hd (by rw[List.length_append,←HM.out,List.map_append];exact hown')
    have B3:Hid (Below w.heap.size w w3):=Hd (Below.grown (BE.out.alloc BE.out.size _) hgrow (by simp;omega) (fun k hk=>(RW.out.lt k hk).1))
    have NL:Hid ((gs++[cur]).length≤n+1):=Hd (by rw[List.length_append,←HM.out];simp;omega)
    clear hown' hgrow
    go_wp2_with fail
    go_roundg (s.size-(n+1))
    case measure=>omega
    case rel=>exact⟨n+1,gs++[cur],⟨#[]⟩,by omega,rfl,by go_num,rfl,Hd ⟨EQ2.out,O3.out,SZ.out,Nat.zero_le _,NL.out,B3.out⟩⟩
   ·have q1:((x:Int)==(c:Int))=false:=Xak (by omega)
    have esz:(s.extract n (n+1)).size=1:=by rw[ByteArray.size_extract];omega
    have ebs:bs (s.extract n (n+1))=[x]:=by
     rw[Xby,List.drop_take,DG.out];simp
    have JN:Hid (PaI s c w (n+1) u5 gs (cur++s.extract n (n+1)) wr):=Hd ⟨by
     rw[J.out.eq,DG.out,Xtc c x e]
     have:bs (cur++s.extract n (n+1))=bs cur++[x]:=by rw[←ebs];unfold bs;rw[ByteArray.data_append,Array.toList_append,List.map_append]
     rw[this],J.out.row,J.out.siz,by rw[ByteArray.size_append,esz];omega,by omega,J.out.bel⟩
    clear J e DG ebs hm
    go_wp2_with fail
    go_roundg (s.size-(n+1))
    case measure=>omega
    case rel=>exact⟨n+1,gs,_,by omega,rfl,by go_num,rfl,JN⟩
  ·obtain rfl:n=s.size:=by omega
   obtain⟨m,hm⟩:∃m,m=gs.length:=⟨_,rfl⟩
   have HM:=Hd hm
   have hmn:m≤s.size:=by rw[hm];exact J.out.num
   have hcn:cur.size≤s.size:=J.out.cur
   have hwz:=J.out.bel.size
   have EQ2:Hid ((gs++[cur]).map bs=spl c (bs s)):=Hd (by
    rw[J.out.eq,List.drop_of_length_le (by rw[Xaa];exact Nat.le_refl _),Xzj,List.map_append];rfl)
   have RW:Hid (wr.ownsRow w.heap.size 9 1 u5 m (gs.map Value.string)):=Hd (by rw[HM.out];exact J.out.row)
   have SZ:Hid (∀g∈gs++[cur],g.size≤s.size):=Hd (fun g hg=>by
    rcases List.mem_append.1 hg with h|h
    ·exact J.out.siz g h
    ·simp at h;subst h;omega)
   have BE:=Hd J.out.bel
   clear J hm
   go_wp2_with (at_builtin;refine wpList_append_own _ rfl _ _ 23 rfl w.heap.size 9 i0 (.string ⟨#[]⟩) 1 16 Tryz.underlying23 hi0 hz0 hz1 hz2 rfl (by decide) _ _ _ rfl (RW.out.alloc _) ⟨wr.heap.size,0,none⟩ 1 1 [.string cur] rfl rfl (World.news_of_block (cs:=#[.string cur]) (t:=9) (fr:=(0,0)) (heap_alloc_new wr _)) (by simp[Value.oneCell']) (by unfold maxLen;omega) (by omega) (by simp;omega) ?_;intro v' w3 hown' hgrow _)
   have O3:Hid (w3.ownsRow w.heap.size 9 1 v' (gs++[cur]).length ((gs++[cur]).map Value.string)):=Hd (by rw[List.length_append,←HM.out,List.map_append];exact hown')
   have B3:Hid (Below w.heap.size w w3):=Hd (Below.grown (BE.out.alloc BE.out.size _) hgrow (by simp;omega) (fun k hk=>(RW.out.lt k hk).1))
   have NL:Hid ((gs++[cur]).length≤s.size+1):=Hd (by rw[List.length_append,←HM.out];simp;omega)
   clear hown' hgrow
   go_wp2_with fail
   go_ret
   exact PaI.post EQ2.out O3.out SZ.out NL.out B3.out
def WdI (s:ByteArray) (c:Nat) (w:World) (n f:Nat) (v:Value) (gs:List ByteArray) (wr:World):Prop:=
 (n≤s.size∧f≤n∧PaI s c w n v gs (s.extract f n) wr)∨(n=s.size+1∧Xh2 c s w (.returned v) wr)
theorem Xrc (s:ByteArray) (f n x:Nat) (h1:f≤n) (h2:n<s.size) (hx:x=(bs s).getD n 0):bs (s.extract f (n+1))=bs (s.extract f n)++[x]:=by
 have hl:n<(bs s).length:=by rw[Xaa];exact h2
 rw[Xby,Xby,List.take_succ_eq_append_getElem hl,List.drop_append_of_le_length (by rw[List.length_take];omega)]
 congr 1
 rw[hx];simp[List.getD,hl]
theorem Xl3 (s:ByteArray) (n:Nat):bs (s.extract n n)=[]:=by
 rw[Xby];apply List.drop_eq_nil_of_le;rw[List.length_take];omega
set_option maxHeartbeats 2000000 in
theorem Xli (s:ByteArray) (c:Nat) (w:World) (hs:s.size≤10000000) (hc:c<256):
    Calls Tryz.prog 130 #[.string s,.int .u8 (c:Int)] w (Xh2 c s w):=by
 obtain⟨i0,hi0,hz0,hz1,hz2⟩:=info_parts Yfe
 go_enter Tryz.func130,Tryz.ntmps130
 go_wp2_with fail
 go_loopg [5,6,7] (s.size+1) (fun k v p i wr=>∃(n f:Nat) (gs:List ByteArray),n≤s.size+1∧f≤s.size+1∧k=s.size+1-n∧i=.int .i64 (n:Int)∧p=.int .i64 (f:Int)∧Hid (WdI s c w n f v gs wr))
 case atStart=>exact⟨0,0,[],by omega,by omega,rfl,rfl,rfl,Hd (.inl ⟨Nat.zero_le _,Nat.le_refl _,by rw[List.drop_zero,Xl3];exact(Xpj c (bs s)).symm,World.ownsRow_nil _ _ _ _,(fun g h=>by cases h),by rw[ByteArray.size_extract];omega,Nat.le_refl _,Below.refl _ _⟩)⟩
 case round=>
  obtain⟨n,f,gs,hn,hf,rfl,rfl,rfl,J0⟩:=hrel
  rcases J0.out with⟨hn1,hfn,J1⟩|⟨rfl,J1⟩
  ·have J:=Hd J1
   obtain⟨m,hm⟩:∃m,m=gs.length:=⟨_,rfl⟩
   have HM:=Hd hm
   have hmn:m≤n:=by rw[hm];exact J.out.num
   have hwz:=J.out.bel.size
   have esz:(s.extract f n).size≤s.size:=by rw[ByteArray.size_extract];omega
   have SZ:Hid (∀g∈gs++[s.extract f n],g.size≤s.size):=Hd (fun g hg=>by
    rcases List.mem_append.1 hg with h|h
    ·exact J.out.siz g h
    ·simp at h;subst h;exact esz)
   have RW:Hid (wr.ownsRow w.heap.size 9 1 u5 m (gs.map Value.string)):=Hd (by rw[HM.out];exact J.out.row)
   have BE:=Hd J.out.bel
   clear J0 J1 esz
   by_cases b:n<s.size
   ·obtain⟨x,hx⟩:∃x,x=(bs s).getD n 0:=⟨_,rfl⟩
    have hx2:x<256:=by rw[hx];exact Xa8 s n
    have y1:=fun w=>Xgs s w n n rfl b x hx
    have q0:((n:Int)==(s.size:Int))=false:=Xak (by omega)
    have DG:Hid ((bs s).drop n=x::(bs s).drop (n+1)):=Hd (by rw[hx];exact Xo0 (by rw[Xaa];exact b))
    have SN:=Hd (Xrc s f n x hfn b hx)
    clear hx
    by_cases e:x=c
    ·subst e
     have q1:((x:Int)==(x:Int))=true:=Xa6 rfl
     have EQ2:Hid (spl x (bs s)=(gs++[s.extract f n]).map bs++ahd (bs (s.extract (n+1) (n+1))) (spl x ((bs s).drop (n+1)))):=Hd (by
      rw[J.out.eq,DG.out,Xzi,List.map_append,List.append_assoc,Xl3];rfl)
     clear J hm DG SN
     go_wp2_with (at_builtin;refine wpList_append_own _ rfl _ _ 23 rfl w.heap.size 9 i0 (.string ⟨#[]⟩) 1 16 Tryz.underlying23 hi0 hz0 hz1 hz2 rfl (by decide) _ _ _ rfl (RW.out.alloc _) ⟨wr.heap.size,0,none⟩ 1 1 [.string (s.extract f n)] rfl rfl (World.news_of_block (cs:=#[.string (s.extract f n)]) (t:=9) (fr:=(0,0)) (heap_alloc_new wr _)) (by simp[Value.oneCell']) (by unfold maxLen;omega) (by omega) (by simp;omega) ?_;intro v' w3 hown' hgrow _)
     have O3:Hid (w3.ownsRow w.heap.size 9 1 v' (gs++[s.extract f n]).length ((gs++[s.extract f n]).map Value.string)):=Hd (by rw[List.length_append,←HM.out,List.map_append];exact hown')
     have B3:Hid (Below w.heap.size w w3):=Hd (Below.grown (BE.out.alloc BE.out.size _) hgrow (by simp;omega) (fun k hk=>(RW.out.lt k hk).1))
     have NL:Hid ((gs++[s.extract f n]).length≤n+1):=Hd (by rw[List.length_append,←HM.out];simp;omega)
     clear hown' hgrow
     go_wp2_with fail
     go_roundg (s.size+1-(n+1))
     case measure=>omega
     case rel=>exact⟨n+1,n+1,gs++[s.extract f n],by omega,by omega,rfl,by go_num,by go_num,Hd (.inl ⟨by omega,Nat.le_refl _,EQ2.out,O3.out,SZ.out,by rw[ByteArray.size_extract];omega,NL.out,B3.out⟩)⟩
    ·have q1:((x:Int)==(c:Int))=false:=Xak (by omega)
     have JN:Hid (PaI s c w (n+1) u5 gs (s.extract f (n+1)) wr):=Hd ⟨by
      rw[J.out.eq,DG.out,Xtc c x e,SN.out],J.out.row,J.out.siz,by rw[ByteArray.size_extract];omega,by have:=J.out.num;omega,J.out.bel⟩
     clear J e DG hm SN
     go_wp2_with fail
     go_roundg (s.size+1-(n+1))
     case measure=>omega
     case rel=>exact⟨n+1,f,gs,by omega,by omega,rfl,by go_num,rfl,Hd (.inl ⟨by omega,by omega,JN.out⟩)⟩
   ·obtain rfl:n=s.size:=by omega
    have q0:((s.size:Int)==(s.size:Int))=true:=Xa6 rfl
    have EQ2:Hid ((gs++[s.extract f s.size]).map bs=spl c (bs s)):=Hd (by
     rw[J.out.eq,List.drop_of_length_le (by rw[Xaa];exact Nat.le_refl _),Xzj,List.map_append];rfl)
    clear J hm
    go_wp2_with (at_builtin;refine wpList_append_own _ rfl _ _ 23 rfl w.heap.size 9 i0 (.string ⟨#[]⟩) 1 16 Tryz.underlying23 hi0 hz0 hz1 hz2 rfl (by decide) _ _ _ rfl (RW.out.alloc _) ⟨wr.heap.size,0,none⟩ 1 1 [.string (s.extract f s.size)] rfl rfl (World.news_of_block (cs:=#[.string (s.extract f s.size)]) (t:=9) (fr:=(0,0)) (heap_alloc_new wr _)) (by simp[Value.oneCell']) (by unfold maxLen;omega) (by omega) (by simp;omega) ?_;intro v' w3 hown' hgrow _)
    have O3:Hid (w3.ownsRow w.heap.size 9 1 v' (gs++[s.extract f s.size]).length ((gs++[s.extract f s.size]).map Value.string)):=Hd (by rw[List.length_append,←HM.out,List.map_append];exact hown')
    have B3:Hid (Below w.heap.size w w3):=Hd (Below.grown (BE.out.alloc BE.out.size _) hgrow (by simp;omega) (fun k hk=>(RW.out.lt k hk).1))
    have NL:Hid ((gs++[s.extract f s.size]).length≤s.size+1):=Hd (by rw[List.length_append,←HM.out];simp;omega)
    clear hown' hgrow
    go_wp2_with fail
    go_roundg (s.size+1-(s.size+1))
    case measure=>omega
    case rel=>exact⟨s.size+1,s.size+1,[],by omega,by omega,rfl,by go_num,by go_num,Hd (.inr ⟨rfl,PaI.post EQ2.out O3.out SZ.out NL.out B3.out⟩)⟩
  ·have J:=Hd J1
   clear J0 J1
   go_wp2_with fail
   go_ret
   exact J.out
end Go.Proofs.YtohmdledkhgdaaaGreatDoor
