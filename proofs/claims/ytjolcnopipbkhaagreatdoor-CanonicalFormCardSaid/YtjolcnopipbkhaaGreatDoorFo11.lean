/- ascii.Number. -/
import Derived.Test.YtjolcnopipbkhaaGreatDoorFo10
namespace Go.Proofs.YtjolcnopipbkhaaGreatDoor
open Go.Proofs.Tryz
open Go.RowKit Go.Maps
set_option linter.unusedVariables false
set_option maxHeartbeats 100000000
set_option maxRecDepth 100000
theorem Xx9 (s:ByteArray)(w:World)(hs:s.size≤1000000):
    Calls prog 148 #[.string s,.int .i64 0,.func (.func 92) #[] #[]] w fun e w'=>∃k:Nat,e=.returned (.int .i64 (k:Int))∧k≤s.size∧(k<s.size↔(bs s).all dig=false)∧w=w':=by
 have LEN:=Hd (Xaa s)
 go_enter func148,ntmps148
 go_wp2_with fail
 go_loopg [1] s.size (fun k i wr=>∃j:Nat,j≤s.size∧k=s.size-j∧i=.int .i64 (j:Int)∧Hid (∀q,q<j→dig ((bs s).getD q 0)=true)∧w=wr)
 case atStart=>exact⟨0,by omega,rfl,rfl,Hd (fun q hq=>by omega),rfl⟩
 case round=>
  obtain⟨j,hj,rfl,rfl,hg,rfl⟩:=hrel
  by_cases hlt:j<s.size
  ·obtain⟨c,hc⟩:=xq ((bs s).getD j 0)
   have hc2:c<256:=by rw[hc];exact Xba s j
   have xn:∀w,(Instr.index 9 (.string s) (.int .i64 (j:Int))).run prog w=.ok (.int .u8 (c:Int)) w:=fun w=>by rw[Xa5 9 underlying9 s .i64 j j rfl hlt,hc]
   have U:=Hd (fun w=>Xk6 w c hc2)
   have d1:decide ((j:Int)<(s.size:Int))=true:=by simpa using hlt
   have G2:Hid (dig c=true→∀q,q<j+1→dig ((bs s).getD q 0)=true):=Hd (fun h q hq=>by
    by_cases e:q=j
    ·rw[e,←hc];exact h
    ·exact hg.o q (by omega))
   have BAD:Hid (dig c=false→(bs s).all dig=false):=Hd (fun h=>by
    rw[List.all_eq_false]
    have hjl:j<(bs s).length:=by rw[LEN.o];exact hlt
    refine⟨(bs s)[j],zG hjl,?_⟩
    have e:c=(bs s)[j]:=by rw[hc];simp[List.getD,hjl]
    rw[←e,h];simp)
   obtain⟨b,hb⟩:=xq (dig c)
   rw[←hb] at U G2 BAD
   clear hc hb hg
   cases b
   ·have B:=BAD.o rfl
    have HB:=Hd B
    clear B G2 BAD
    go_wp2_with (go_at_call 92;refine(U.o _).mono ?_;rintro e w' ⟨rfl,rfl⟩)
    go_ret
    exact⟨j,rfl,hj,⟨fun _=>HB.o,fun _=>hlt⟩,rfl⟩
   ·have G3:=Hd (G2.o rfl)
    clear G2 BAD
    go_wp2_with (go_at_call 92;refine(U.o _).mono ?_;rintro e w' ⟨rfl,rfl⟩)
    go_roundg (s.size-(j+1))
    case measure=>omega
    case rel=>exact⟨j+1,by omega,rfl,by go_num,G3,rfl⟩
  ·obtain rfl:j=s.size:=by omega
   have ALL:Hid ((bs s).all dig=true):=Hd (by
    rw[List.all_eq_true]
    intro x hx
    obtain⟨q,hq,rfl⟩:=List.mem_iff_getElem.1 hx
    have:=hg.o q (by rw[←LEN.o];exact hq)
    simpa [List.getD,hq] using this)
   have d1:decide ((s.size:Int)<(s.size:Int))=false:=by simp
   clear hg
   go_wp2_with fail
   go_ret
   exact⟨s.size,rfl,zL _,⟨fun h=>absurd h (by omega),fun h=>by rw[ALL.o] at h;cases h⟩,rfl⟩
theorem Yjs (b:List Nat):∀(n:Nat),n≤b.foldl (fun n c=>10*n+(c-48)) n:=by
 induction b with
 |nil=>intro n;exact zL _
 |cons x b ih=>intro n;rw[List.foldl_cons];exact Nat.le_trans (by omega) (ih _)
theorem Xtb (l:List Nat)(k:Nat):Xjg (l.take k)≤Xjg l:=by
 conv=>rhs;rw[←List.take_append_drop k l]
 unfold Xjg
 rw[List.foldl_append]
 exact Yjs _ _
theorem Xtc {l:List Nat}{k c:Nat}(hk:k<l.length)(hc:c=l.getD k 0):Xjg (l.take (k+1))=10*Xjg (l.take k)+(c-48):=by
 rw[List.take_succ_eq_append_getElem hk]
 unfold Xjg
 rw[List.foldl_append]
 simp[hc,List.getD,hk]
def Xow (most:Nat)(l:List Nat):Nat×Nat:=
 if l=[]∨l.all dig=false∨(1<l.length∧l.getD 0 0=48) then(0,3) else if Xjg l≤most then(Xjg l,0) else(0,2)
theorem Xj2 (s:ByteArray)(most:Nat)(w:World)(hs:s.size≤1000000)(hm:most≤1000000000):
    Rx 99 #[.string s,.int .i64 (most:Int)] w (.tuple #[.int .i64 ((Xow most (bs s)).1:Int),.int .i64 ((Xow most (bs s)).2:Int)]):=by
 have LEN:=Hd (Xaa s)
 have SK:=Hd (fun w=>Xx9 s w hs)
 obtain⟨R,hR⟩:=xq (Xow most (bs s))
 rw[←hR]
 have RD:Hid (R=if s.size=0∨(bs s).all dig=false∨(1<s.size∧(bs s).getD 0 0=48) then(0,3) else if Xjg (bs s)≤most then(Xjg (bs s),0) else(0,2)):=Hd (by
  rw[hR];unfold Xow
  rw[LEN.o]
  by_cases h:s.size=0
  ·rw[qP (.inl (by rw[←List.length_eq_zero_iff,LEN.o];exact h)),qP (.inl h)]
  ·have h':bs s≠[]:=fun e=>h (by rw[←LEN.o,e];rfl)
   simp only[h,h',false_or])
 clear hR
 by_cases h0:s.size=0
 ·have F:Hid (R=(0,3)):=Hd (by rw[RD.o,qP (.inl h0)])
  have qe:s.toList.isEmpty=true:=by
   rw[show s=⟨#[]⟩ from ByteArray.ext (Array.eq_empty_of_size_eq_zero h0),ByteArray.toList_eq];rfl
  clear h0 RD
  go_enter func99,ntmps99
  go_wp2_with fail
  go_ret2
  exact⟨by rw[F.o];rfl,rfl⟩
 have qe:s.toList.isEmpty=false:=Xd2 h0
 obtain⟨c0,hc0⟩:=xq ((bs s).getD 0 0)
 have x0:∀w,(Instr.index 9 (.string s) (.int .i64 0)).run prog w=.ok (.int .u8 (c0:Int)) w:=fun w=>by
  have:=Xa5 9 underlying9 s .i64 0 0 rfl (by omega) (P:=prog) (w:=w)
  rw[hc0];exact this
 by_cases hbad:(bs s).all dig=false
 ·have F:Hid (R=(0,3)):=Hd (by rw[RD.o,qP (.inr (.inl hbad))])
  have HBAD:=Hd hbad
  clear hbad RD hc0
  go_enter func99,ntmps99
  go_wp2_with fail
  refine(SK.o w).mono ?_
  rintro e w1 ⟨k,rfl,hk,hiff,rfl⟩
  have hlt:=hiff.2 HBAD.o
  have d1:decide ((k:Int)<(s.size:Int))=true:=by simpa using hlt
  clear hiff
  go_wp2_with fail
  go_ret2
  exact⟨by rw[F.o];rfl,rfl⟩
 have hall:(bs s).all dig=true:=by simpa using hbad
 have HALL:=Hd hall
 by_cases hz:1<s.size∧c0=48
 ·have F:Hid (R=(0,3)):=Hd (by rw[RD.o,qP (.inr (.inr ⟨hz.1,by rw[←hc0];exact hz.2⟩))])
  obtain⟨z1,rfl⟩:=hz
  clear RD hbad hall hc0
  go_enter func99,ntmps99
  go_wp2_with fail
  refine(SK.o w).mono ?_
  rintro e w1 ⟨k,rfl,hk,hiff,rfl⟩
  have hge:¬k<s.size:=fun h=>by have:=hiff.1 h;rw[HALL.o] at this;cases this
  have d1:decide ((k:Int)<(s.size:Int))=false:=by simpa using hge
  clear hiff
  go_wp2_with fail
  go_ret2
  exact⟨by rw[F.o];rfl,rfl⟩
 have RD2:Hid (R=if Xjg (bs s)≤most then(Xjg (bs s),0) else(0,2)):=Hd (by
  rw[RD.o,qN]
  rintro(h|h|h)
  ·exact h0 h
  ·exact hbad h
  ·exact hz ⟨h.1,by rw[hc0];exact h.2⟩)
 obtain⟨mq,hmq⟩:=xq (most/10)
 obtain⟨mr,hmr⟩:=xq (most%10)
 have t1:(most:Int)/10=(mq:Int):=by rw[hmq];rfl
 have t2:(most:Int)%10=(mr:Int):=by rw[hmr];rfl
 have t3:Int.tdiv (most:Int) 10=(mq:Int):=by rw[hmq];rfl
 have t4:Int.tmod (most:Int) 10=(mr:Int):=by rw[hmr];rfl
 have v6:IntKind.i64.wrap (mq:Int)=(mq:Int):=IntWalk.i64_in _ (by omega)
 have v7:IntKind.i64.wrap (mr:Int)=(mr:Int):=IntWalk.i64_in _ (by omega)
 have MQ:Hid (most=10*mq+mr∧mr<10):=Hd (by omega)
 have HC0:=Hd hc0
 clear RD hbad hall hc0 hmq hmr
 go_enter func99,ntmps99
 go_wp2_with fail
 refine(SK.o w).mono ?_
 rintro e w1 ⟨k,rfl,hk,hiff,rfl⟩
 have hge:¬k<s.size:=fun h=>by have:=hiff.1 h;rw[HALL.o] at this;cases this
 have d1:decide ((k:Int)<(s.size:Int))=false:=by simpa using hge
 clear hiff SK
 have ALLD:Hid (∀j,j<s.size→dig ((bs s).getD j 0)=true):=Hd (fun j hj=>by
  have hjl:j<(bs s).length:=by rw[LEN.o];exact hj
  have:=List.all_eq_true.1 HALL.o _ (zG hjl)
  simpa [List.getD,hjl] using this)
 clear HALL
 rcases(by omega:(1<s.size∧c0≠48)∨¬1<s.size) with⟨h1,hc48⟩|h1
 ·have q48:((c0:Int)==48)=false:=Xaj (by omega)
  clear hz hc48
  go_upto_region 6 with fail
  go_wp2_with fail
  go_loopg [6,7,8,32] s.size (fun k vn v7 v8 vi wr=>∃j n:Nat,j≤s.size∧k=s.size-j∧vn=.int .i64 (n:Int)∧vi=.int .i64 (j:Int)∧Hid (n=Xjg ((bs s).take j))∧n≤most∧w=wr)
  case atStart=>exact⟨0,0,by omega,rfl,rfl,rfl,Hd rfl,by omega,rfl⟩
  case round=>
   obtain⟨j,n,hj,rfl,rfl,rfl,hn,hnm,rfl⟩:=hrel
   by_cases hlt:j<s.size
   ·obtain⟨c,hc⟩:=xq ((bs s).getD j 0)
    have hd:=ALLD.o j hlt
    rw[←hc] at hd
    have hd1:48≤c∧c≤57:=by unfold dig at hd;simpa using hd
    obtain⟨d,hdd⟩:=xq (c-48)
    have ST:Hid (Xjg ((bs s).take (j+1))=10*n+d):=Hd (by rw[Xtc (by rw[LEN.o];exact hlt) hc,←hn.o,hdd])
    have GE:Hid (most<10*n+d→R=(0,2)):=Hd (fun h=>by
     have:=Xtb (bs s) (j+1)
     rw[ST.o] at this
     rw[RD2.o,qN (by omega)])
    have xj:∀w,(Instr.index 9 (.string s) (.int .i64 (j:Int))).run prog w=.ok (.int .u8 (c:Int)) w:=fun w=>by rw[Xa5 9 underlying9 s .i64 j j rfl hlt,hc]
    have s1:IntKind.u8.wrap ((c:Int)-48)=(d:Int):=by rw[IntKind.wrap_u8];omega
    have s2:IntKind.i64.wrap (d:Int)=(d:Int):=IntWalk.i64_in _ (by omega)
    have s3:IntKind.i64.wrap (10*(n:Int))=10*(n:Int):=IntWalk.i64_in _ (by omega)
    have s4:IntKind.i64.wrap (10*(n:Int)+(d:Int))=10*(n:Int)+(d:Int):=IntWalk.i64_in _ (by omega)
    have hd9:d≤9:=by omega
    have d2:decide ((j:Int)<(s.size:Int))=true:=by simpa using hlt
    clear hd hd1 hc hdd
    rcases(by omega:mq<n∨(n=mq∧mr<d)∨(n=mq∧¬mr<d)∨n<mq) with h|⟨h,h2⟩|⟨h,h2⟩|h
    ·have F:=Hd (GE.o (by have:=MQ.o;omega))
     have p1:decide ((mq:Int)<(n:Int))=true:=by simpa using h
     clear GE ST hn
     go_wp2_with fail
     go_ret2
     exact⟨by rw[F.o];rfl,rfl⟩
    ·have F:=Hd (GE.o (by have:=MQ.o;omega))
     subst h
     have p1:decide ((n:Int)<(n:Int))=false:=by simp
     have p3:decide ((mr:Int)<(d:Int))=true:=by simpa using h2
     clear GE ST hn
     go_wp2_with fail
     go_ret2
     exact⟨by rw[F.o];rfl,rfl⟩
    ·subst h
     have p1:decide ((n:Int)<(n:Int))=false:=by simp
     have p3:decide ((mr:Int)<(d:Int))=false:=by simpa using h2
     have NX:Hid (10*n+d=Xjg ((bs s).take (j+1))):=Hd ST.o.symm
     have le2:10*n+d≤most:=by have:=MQ.o;omega
     clear GE ST hn
     go_wp2_with fail
     go_roundg (s.size-(j+1))
     case measure=>omega
     case rel=>exact⟨j+1,10*n+d,by omega,rfl,by go_num,by go_num,NX,le2,rfl⟩
    ·have p1:decide ((mq:Int)<(n:Int))=false:=by simp;omega
     have p2:((n:Int)==(mq:Int))=false:=Xaj (by omega)
     have NX:Hid (10*n+d=Xjg ((bs s).take (j+1))):=Hd ST.o.symm
     have le2:10*n+d≤most:=by have:=MQ.o;omega
     clear GE ST hn
     go_wp2_with fail
     go_roundg (s.size-(j+1))
     case measure=>omega
     case rel=>exact⟨j+1,10*n+d,by omega,rfl,by go_num,by go_num,NX,le2,rfl⟩
   ·obtain rfl:j=s.size:=by omega
    have F:Hid (R=(n,0)):=Hd (by
     have e:(bs s).take s.size=bs s:=List.take_of_length_le (by rw[LEN.o];exact zL _)
     rw[RD2.o,←e,←hn.o,qP hnm])
    have d2:decide ((s.size:Int)<(s.size:Int))=false:=by simp
    clear hn
    go_wp2_with fail
    go_ret2
    exact⟨by rw[F.o];rfl,rfl⟩
 ·clear hz
  go_upto_region 6 with fail
  go_wp2_with fail
  go_loopg [6,7,8,32] s.size (fun k vn v7 v8 vi wr=>∃j n:Nat,j≤s.size∧k=s.size-j∧vn=.int .i64 (n:Int)∧vi=.int .i64 (j:Int)∧Hid (n=Xjg ((bs s).take j))∧n≤most∧w=wr)
  case atStart=>exact⟨0,0,by omega,rfl,rfl,rfl,Hd rfl,by omega,rfl⟩
  case round=>
   obtain⟨j,n,hj,rfl,rfl,rfl,hn,hnm,rfl⟩:=hrel
   by_cases hlt:j<s.size
   ·obtain⟨c,hc⟩:=xq ((bs s).getD j 0)
    have hd:=ALLD.o j hlt
    rw[←hc] at hd
    have hd1:48≤c∧c≤57:=by unfold dig at hd;simpa using hd
    obtain⟨d,hdd⟩:=xq (c-48)
    have ST:Hid (Xjg ((bs s).take (j+1))=10*n+d):=Hd (by rw[Xtc (by rw[LEN.o];exact hlt) hc,←hn.o,hdd])
    have GE:Hid (most<10*n+d→R=(0,2)):=Hd (fun h=>by
     have:=Xtb (bs s) (j+1)
     rw[ST.o] at this
     rw[RD2.o,qN (by omega)])
    have xj:∀w,(Instr.index 9 (.string s) (.int .i64 (j:Int))).run prog w=.ok (.int .u8 (c:Int)) w:=fun w=>by rw[Xa5 9 underlying9 s .i64 j j rfl hlt,hc]
    have s1:IntKind.u8.wrap ((c:Int)-48)=(d:Int):=by rw[IntKind.wrap_u8];omega
    have s2:IntKind.i64.wrap (d:Int)=(d:Int):=IntWalk.i64_in _ (by omega)
    have s3:IntKind.i64.wrap (10*(n:Int))=10*(n:Int):=IntWalk.i64_in _ (by omega)
    have s4:IntKind.i64.wrap (10*(n:Int)+(d:Int))=10*(n:Int)+(d:Int):=IntWalk.i64_in _ (by omega)
    have hd9:d≤9:=by omega
    have d2:decide ((j:Int)<(s.size:Int))=true:=by simpa using hlt
    clear hd hd1 hc hdd
    rcases(by omega:mq<n∨(n=mq∧mr<d)∨(n=mq∧¬mr<d)∨n<mq) with h|⟨h,h2⟩|⟨h,h2⟩|h
    ·have F:=Hd (GE.o (by have:=MQ.o;omega))
     have p1:decide ((mq:Int)<(n:Int))=true:=by simpa using h
     clear GE ST hn
     go_wp2_with fail
     go_ret2
     exact⟨by rw[F.o];rfl,rfl⟩
    ·have F:=Hd (GE.o (by have:=MQ.o;omega))
     subst h
     have p1:decide ((n:Int)<(n:Int))=false:=by simp
     have p3:decide ((mr:Int)<(d:Int))=true:=by simpa using h2
     clear GE ST hn
     go_wp2_with fail
     go_ret2
     exact⟨by rw[F.o];rfl,rfl⟩
    ·subst h
     have p1:decide ((n:Int)<(n:Int))=false:=by simp
     have p3:decide ((mr:Int)<(d:Int))=false:=by simpa using h2
     have NX:Hid (10*n+d=Xjg ((bs s).take (j+1))):=Hd ST.o.symm
     have le2:10*n+d≤most:=by have:=MQ.o;omega
     clear GE ST hn
     go_wp2_with fail
     go_roundg (s.size-(j+1))
     case measure=>omega
     case rel=>exact⟨j+1,10*n+d,by omega,rfl,by go_num,by go_num,NX,le2,rfl⟩
    ·have p1:decide ((mq:Int)<(n:Int))=false:=by simp;omega
     have p2:((n:Int)==(mq:Int))=false:=Xaj (by omega)
     have NX:Hid (10*n+d=Xjg ((bs s).take (j+1))):=Hd ST.o.symm
     have le2:10*n+d≤most:=by have:=MQ.o;omega
     clear GE ST hn
     go_wp2_with fail
     go_roundg (s.size-(j+1))
     case measure=>omega
     case rel=>exact⟨j+1,10*n+d,by omega,rfl,by go_num,by go_num,NX,le2,rfl⟩
   ·obtain rfl:j=s.size:=by omega
    have F:Hid (R=(n,0)):=Hd (by
     have e:(bs s).take s.size=bs s:=List.take_of_length_le (by rw[LEN.o];exact zL _)
     rw[RD2.o,←e,←hn.o,qP hnm])
    have d2:decide ((s.size:Int)<(s.size:Int))=false:=by simp
    clear hn
    go_wp2_with fail
    go_ret2
    exact⟨by rw[F.o];rfl,rfl⟩
def Ygc (l:List Nat):Nat:=if l=[] then 4 else Xcd Xbf (spl 44 l)
def Yb3 (s:ByteArray)(w:World)(e:Ending)(w':World):Prop:=
 ∃(v:Value) (gs:List ByteArray),e=.returned (.tuple #[v,.int .i64 ((Ygc (bs s):Nat):Int)])∧SRow w' v gs∧(∀g∈gs,g.size≤s.size)∧gs.length≤s.size+1∧(Ygc (bs s)=0→gs.map bs=spl 44 (bs s))∧(∀k,v.ownBlock=some k→w.heap.size≤k)∧Bw w w'
theorem Xtk (w:World):SRow w (.slice none 0 0) []:=⟨none,0,rfl,zL _,fun h=>absurd rfl h⟩
theorem Xwn (s:ByteArray)(w:World)(hs:s.size≤100000)(hE:Env w):
    Calls prog 100 #[.string s] w (Yb3 s w):=by
 obtain⟨R,hR⟩:=xq (Ygc (bs s))
 have FX:Hid (∀e w',(∃(v:Value) (gs:List ByteArray),e=.returned (.tuple #[v,.int .i64 (R:Int)])∧SRow w' v gs∧(∀g∈gs,g.size≤s.size)∧gs.length≤s.size+1∧(R=0→gs.map bs=spl 44 (bs s))∧(∀k,v.ownBlock=some k→w.heap.size≤k)∧Bw w w')→Yb3 s w e w'):=Hd (fun e w' h=>by rw[hR] at h;exact h)
 have SP:=Hd (Xkb s 44 w (by omega) hE)
 have HE:=Hd hE
 by_cases h0:s.size=0
 ·have F:Hid (R=4):=Hd (by rw[hR];unfold Ygc;rw[qP (by rw[←List.length_eq_zero_iff,Xaa];exact h0)])
  have qe:s.toList.isEmpty=true:=by
   rw[show s=⟨#[]⟩ from ByteArray.ext (Array.eq_empty_of_size_eq_zero h0),ByteArray.toList_eq];rfl
  clear h0 hR hE
  go_enter func100,ntmps100
  go_wp2_with fail
  go_ret2
  exact FX.o _ _ ⟨_,[],by rw[F.o];rfl,Xtk _,by simp,by simp,fun h=>absurd (F.o.symm.trans h) (by decide),(fun k hk=>by cases hk),zR _ _⟩
 have RD:Hid (R=Xcd Xbf (spl 44 (bs s))):=Hd (by rw[hR];unfold Ygc;rw[qN (by rw[←List.length_eq_zero_iff,Xaa];exact h0)])
 have qe:s.toList.isEmpty=false:=Xd2 h0
 clear h0 hR hE
 go_enter func100,ntmps100
 go_wp2_with fail
 refine SP.o.mono ?_
 rintro e w1 ⟨v,gs,rfl,hgs,hrow,hgz,hgn,hown,hb⟩
 have CL:=Hd (Xqo w1 v gs hrow (by omega) (fun g hg=>by have:=hgz g hg;omega) (HE.o.on hb))
 rw[hgs,show((44:UInt8).toNat)=44 from rfl,←RD.o] at CL
 have GS:=Hd hgs
 have OWN:Hid (∀k,v.ownBlock=some k→w.heap.size≤k):=Hd (fun k hk=>(hown.lt k hk).1)
 have ROW:=Hd hrow;have GZ:=Hd hgz;have GN:=Hd hgn;have B1:=Hd hb
 clear SP hgs hrow hgz hgn hown hb RD
 go_wp2_with fail
 refine CL.o.mono ?_
 rintro e w2 ⟨rfl,hb2⟩
 have B2:=bh B1 hb2
 have ROW2:=Hd (ROW.o.below hb2)
 clear hb2 CL ROW B1
 by_cases h:R=0
 ·have q:((R:Int) !=0)=false:=Xau (by omega)
  have HR:=Hd h
  clear h
  go_wp2_with fail
  go_ret2
  exact FX.o _ _ ⟨_,gs,by rw[HR.o];rfl,ROW2.o,GZ.o,GN.o,fun _=>GS.o,OWN.o,B2.o⟩
 ·have q:((R:Int) !=0)=true:=Xam (by omega)
  have HR:=Hd h
  clear h
  go_wp2_with fail
  go_ret2
  exact FX.o _ _ ⟨_,[],rfl,Xtk _,by simp,by simp,fun h=>absurd h HR.o,(fun k hk=>by cases hk),B2.o⟩
theorem Xz5 {k:Nat}(h:k<16):hvl (hxl k)=some k:=by
 rcases(by omega:k=0∨k=1∨k=2∨k=3∨k=4∨k=5∨k=6∨k=7∨k=8∨k=9∨k=10∨k=11∨k=12∨k=13∨k=14∨k=15) with rfl|rfl|rfl|rfl|rfl|rfl|rfl|rfl|rfl|rfl|rfl|rfl|rfl|rfl|rfl|rfl<;>rfl
theorem Xih:∀{l:List Nat},(∀x∈l,x<256)→Xjh (Xbv l)=some l
 |[],_=>rfl
 |a::l,h=>by
  have ha:=h a (List.mem_cons_self ..)
  rw[Xey]
  simp only[Xjh]
  rw[Xz5 (by omega),Xz5 (by omega),Xih (fun x hx=>h x (List.mem_cons_of_mem _ hx))]
  simp only[]
  congr 2
  omega
theorem Ybq {l:List Nat}(h:∀x∈l,x<256)(h16:l.length=16):Xe2 (Xbv l)=some l:=by
 unfold Xe2;rw[Xbs,h16,qP rfl];exact Xih h
theorem Xpx {l:List Nat}(h:IdOk l):Xfl (Xcr l)=some l:=by
 have hl:(Xbv l).length=64:=by rw[Xbs,h.len]
 have e1:((Xcr l).drop 1).take 64=Xbv l:=by
  unfold Xcr
  show List.take 64 (Xbv l++sHash)=_
  rw[←hl,List.take_left]
 have e2:(Xcr l).drop 65=sHash:=by
  unfold Xcr
  show List.drop 64 (Xbv l++sHash)=_
  rw[←hl,List.drop_left]
 unfold Xfl
 rw[qP ⟨Xdy h,rfl,e2⟩,e1]
 exact Xih h.lt
def blk (c:Nat):Bool:=decide (c=32)||decide (c=9)
def rpF:Nat→List (List Nat)→List Nat→Option (List (List Nat))
 |0,acc,_=>some acc
 |_+1,acc,[]=>some acc
 |k+1,acc,c::t=>if blk c=true then rpF k acc t else if acc.length=20 then none else
   match Xfl ((c::t).takeWhile fun x=>!blk x) with
   |none=>none
   |some id=>if cnF acc id≠0 then none else rpF k (acc++[id]) ((c::t).dropWhile fun x=>!blk x)
theorem Ygg (p:Nat→Bool)(l:List Nat):(l.dropWhile p).length≤l.length:=by
 have:=congrArg List.length (List.takeWhile_append_dropWhile (p:=p) (l:=l))
 rw[List.length_append] at this;omega
theorem Xjq:∀(n k:Nat) (acc:List (List Nat)) (l:List Nat),l.length≤n→l.length≤k→rpF k acc l=rpF l.length acc l
 |n,0,acc,[],_,_=>rfl
 |n,k+1,acc,[],_,_=>rfl
 |n,0,acc,_::_,_,hk=>by simp at hk
 |0,k+1,acc,_::_,hn,_=>by simp at hn
 |n+1,k+1,acc,c::t,hn,hk=>by
  have ht:t.length≤n:=by simpa using hn
  have htk:t.length≤k:=by simpa using hk
  rw[List.length_cons]
  simp only[rpF]
  by_cases hb:blk c=true
  ·rw[qP hb,qP hb];exact Xjq n k acc t ht htk
  ·rw[qN hb,qN hb]
   by_cases h20:acc.length=20
   ·rw[qP h20,qP h20]
   ·rw[qN h20,qN h20]
    cases Xfl ((c::t).takeWhile fun x=>!blk x) with
    |none=>rfl
    |some id=>
     simp only[]
     by_cases h0:cnF acc id≠0
     ·rw[qP h0,qP h0]
     ·rw[qN h0,qN h0]
      have hd:((c::t).dropWhile fun x=>!blk x).length≤t.length:=by
       rw[List.dropWhile_cons];simp only[hb,Bool.not_false];exact Ygg _ _
      rw[Xjq n k _ _ (by omega) (by omega),Xjq n t.length _ _ (by omega) hd]
def rpL (acc:List (List Nat))(l:List Nat):Option (List (List Nat)):=rpF l.length acc l
theorem Xrd (acc:List (List Nat)):rpL acc []=some acc:=rfl
theorem Xpe {acc:List (List Nat)}{c:Nat}{t:List Nat}(h:blk c=true):rpL acc (c::t)=rpL acc t:=by
 unfold rpL;rw[List.length_cons];simp only[rpF];rw[qP h]
theorem Xtz {acc:List (List Nat)}{c:Nat}{t w r:List Nat}(h:blk c=false)(hw:w=(c::t).takeWhile fun x=>!blk x)(hr:r=(c::t).dropWhile fun x=>!blk x):
    rpL acc (c::t)=if acc.length=20 then none else match Xfl w with|none=>none|some id=>if cnF acc id≠0 then none else rpL (acc++[id]) r:=by
 subst hw hr
 have hd:((c::t).dropWhile fun x=>!blk x).length≤t.length:=by
  rw[List.dropWhile_cons];simp only[h,Bool.not_false];exact Ygg _ _
 unfold rpL
 rw[List.length_cons]
 simp only[rpF]
 rw[qN (by rw[h];decide)]
 by_cases h20:acc.length=20
 ·rw[qP h20,qP h20]
 ·rw[qN h20,qN h20]
  cases Xfl ((c::t).takeWhile fun x=>!blk x) with
  |none=>rfl
  |some id=>
   simp only[]
   by_cases h0:cnF acc id≠0
   ·rw[qP h0,qP h0]
   ·rw[qN h0,qN h0];exact Xjq _ _ _ _ (zL _) hd
theorem Xpw {l:List Nat}(h:∀x∈l,x<256):∀c∈Xcr l,(!blk c)=true:=fun c hc=>by
 have:=Xfd h c hc
 unfold blk
 rw[zW (by omega),zW (by omega)];rfl
theorem Xte (p:Nat→Bool)(a b:List Nat)(h:∀c∈a,p c=true)(hb:b=[]∨∃c t,b=c::t∧p c=false):(a++b).takeWhile p=a∧(a++b).dropWhile p=b:=by
 induction a with
 |nil=>
  rcases hb with rfl|⟨c,t,rfl,hc⟩
  ·exact⟨rfl,rfl⟩
  ·simp[hc]
 |cons x a ih=>
  have hx:=h x (List.mem_cons_self ..)
  obtain⟨h1,h2⟩:=ih (fun c hc=>h c (List.mem_cons_of_mem _ hc))
  rw[List.cons_append,List.takeWhile_cons,List.dropWhile_cons,hx]
  simp only[if_true]
  exact⟨by rw[h1],h2⟩
theorem Xyi {acc:List (List Nat)}{x:List Nat}(hx:IdOk x)(b:List Nat)(hb:b=[]∨∃t,b=32::t)(h20:acc.length<20)(h0:cnF acc x=0):rpL acc (Xcr x++b)=rpL (acc++[x]) b:=by
 have hb':b=[]∨∃c t,b=c::t∧(!blk c)=false:=hb.imp id (fun⟨t,e⟩=>⟨32,t,e,by decide⟩)
 obtain⟨h1,h2⟩:=Xte (fun x=>!blk x) (Xcr x) b (Xpw hx.lt) hb'
 match hm:Xcr x,Xn3 x with
 |c::t,_=>
  have hc:=Xpw hx.lt c (by rw[hm];exact List.mem_cons_self ..)
  rw[hm] at h1 h2
  have hcb:blk c=false:=by simpa using hc
  rw[List.cons_append] at h1 h2⊢
  rw[Xtz hcb h1.symm h2.symm,qN (by omega),←hm,Xpx hx]
  simp only[]
  rw[qN (by simpa using h0)]
theorem Xt0:∀(refs:List (List Nat)) (acc:List (List Nat)),(∀x∈refs,IdOk x)→acc.length+refs.length≤20→(∀j (h:j<refs.length),cnF (acc++refs.take j) refs[j]=0)→rpL acc (Xaw [32] (refs.map Xcr))=some (acc++refs)
 |[],acc,_,_,_=>by simp[Xaw,Xrd]
 |[x],acc,hok,hl,hc=>by
  have h0:cnF acc x=0:=by have:=hc 0 (by simp);simpa using this
  have hl':acc.length<20:=by simp at hl;omega
  show rpL acc (Xcr x)=_
  rw[←List.append_nil (Xcr x),Xyi (hok x (List.mem_cons_self ..)) [] (.inl rfl) hl' h0,Xrd]
 |x::y::r,acc,hok,hl,hc=>by
  have h0:cnF acc x=0:=by have:=hc 0 (by simp);simpa using this
  have hl':acc.length<20:=by simp at hl;omega
  show rpL acc (Xcr x++[32]++Xaw [32] ((y::r).map Xcr))=_
  rw[List.append_assoc]
  show rpL acc (Xcr x++(32::Xaw [32] ((y::r).map Xcr)))=_
  rw[Xyi (hok x (List.mem_cons_self ..)) _ (.inr ⟨_,rfl⟩) hl' h0]
  show rpL (acc++[x]) (32::Xaw [32] ((y::r).map Xcr))=_
  rw[Xpe (by decide),Xt0 (y::r) (acc++[x]) (fun z hz=>hok z (List.mem_cons_of_mem _ hz)) (by simp at hl⊢;omega) (fun j h=>by
   have:=hc (j+1) (by simpa using h)
   simpa [List.append_assoc] using this)]
  simp
theorem Xyr {L:List (List Nat)}(h:Xe9 L=0):L.length≤20∧∀j (hj:j<L.length),cnF (L.take j) L[j]=0:=by
 rw[Xnu] at h
 unfold Xcd at h
 by_cases h20:20<L.length
 ·rw[qP h20] at h;cases h
 rw[qN h20] at h
 have key:∀j,j≤L.length→Xc9 zF 7 (L.take j) (L.drop j)=0:=by
  intro j
  induction j with
  |zero=>intro _;exact h
  |succ j ih=>
   intro hj
   have:=ih (by omega)
   rw[Xoj (by omega)] at this
   split at this
   ·rename_i hne;exact absurd this hne
   ·exact this
 refine⟨by omega,fun j hj=>?_⟩
 have:=key j (by omega)
 rw[Xoj hj] at this
 by_cases hne:cnF (L.take j) L[j]≠0
 ·rw[qP hne] at this;exact absurd this hne
 ·simpa using hne
theorem Yc3 {refs:List (List Nat)}(hok:∀x∈refs,IdOk x)(h:Xe9 refs=0):rpL [] (Xaw [32] (refs.map Xcr))=some refs:=by
 obtain⟨h1,h2⟩:=Xyr h
 have:=Xt0 refs [] hok (by simpa using h1) (fun j hj=>by simpa using h2 j hj)
 simpa using this
theorem Xge (x:Nat)(h:x<16):(⟨#[48,49,50,51,52,53,54,55,56,57,97,98,99,100,101,102]⟩:ByteArray).extract x (x+1)=Xaq [hxl x]:=by
 have:∀x:Fin 16,(⟨#[48,49,50,51,52,53,54,55,56,57,97,98,99,100,101,102]⟩:ByteArray).extract x.val (x.val+1)=Xaq [hxl x.val]:=by decide+kernel
 exact this ⟨x,h⟩
theorem Xcq (l m:List Nat):Xaq (l++m)=Xaq l++Xaq m:=by
 unfold Xaq
 apply ByteArray.ext
 simp[ByteArray.data_append]
theorem Xri (w:World){l:List Nat}(hl:B16 l):
    zJ 55 #[.agg (idA l)] w (.string (Xaq (Xbv l))):=by
 obtain⟨w0,hw0⟩:=xq (w.alloc (.cells (idA l) 22))
 have B0:Hid (Bw w w0):=Hd (by rw[hw0];exact(zR _ _).alloc (zL _) _)
 have I0:Hid (IB w0 w.heap.size 22 l):=Hd (by unfold IB;rw[hw0];exact heap_alloc_last w _)
 have HL:=Hd hl
 obtain⟨cs,hcs⟩:=xq (idA l)
 rw[←hcs] at hw0⊢
 have HW:=Hd hw0
 have HP:Hid (Xbv (l.take 0)=[]):=Hd rfl
 clear hw0 hcs hl
 go_enter func55,ntmps55
 go_upto_region 1 with fail
 rw[←HW.o]
 clear HW
 go_wp2_with fail
 go_loopg [4,5] 16 (fun k s i wr=>∃j:Nat,j≤16∧k=16-j∧i=.int .i64 (j:Int)∧s=.string (Xaq (Xbv (l.take j)))∧Hid (Dr w0 wr))
 case atStart=>exact⟨0,by omega,rfl,rfl,rfl,Hd (Dr.refl _)⟩
 case round=>
  obtain⟨j,hj,rfl,rfl,rfl,hdr⟩:=hrel
  by_cases hlt:j<16
  ·have hjl:j<l.length:=by rw[HL.o.len];exact hlt
   obtain⟨c,hc⟩:=xq (l.getD j 0)
   have hc2:c<256:=by rw[hc,List.getD_eq_getElem?_getD,List.getElem?_eq_getElem hjl,Option.getD_some];exact HL.o.lt _ (zG hjl)
   have hst:=Xcx hjl hc
   have cc:wr.cell? ⟨w.heap.size,j,none⟩=some (.int .u8 (c:Int)):=by rw[hc];exact(I0.o.below (Dr.below hdr.o)).cell hjl
   obtain⟨x,hx⟩:=xq (c/16)
   obtain⟨y,hy⟩:=xq (c%16)
   rw[←hx,←hy] at hst
   have hx2:x<16:=by omega
   have hy2:y<16:=by omega
   obtain⟨s,hs⟩:=xq (Xaq (Xbv (l.take j)))
   have ST:Hid (s++Xaq [hxl x]++Xaq [hxl y]=Xaq (Xbv (l.take (j+1)))):=Hd (by
    rw[hs,hst,←Xcq,←Xcq];simp)
   have ST2:Hid (s++(Xaq [hxl x]++Xaq [hxl y])=Xaq (Xbv (l.take (j+1)))):=Hd (by
    rw[hs,hst,←Xcq,←Xcq];simp)
   have zs:s.size≤65:=by rw[hs,Xan];simp[Xbs];omega
   have e1:(c:Int)/16=(x:Int):=by omega
   have e2:(c:Int)%16=(y:Int):=by omega
   have e2t:(c:Int).tmod 16=(y:Int):=by rw[Int.tmod_eq_emod_of_nonneg (by omega)];omega
   have e1t:(c:Int).tdiv 16=(x:Int):=by rw[Int.tdiv_eq_ediv_of_nonneg (by omega)];omega
   have x1:=Xge x hx2
   have y1:=Xge y hy2
   have hx3:(x:Int)<16:=by omega
   have hy3:(y:Int)<16:=by omega
   have zx:(Xaq [hxl x]).size=1:=rfl
   have zy:(Xaq [hxl y]).size=1:=rfl
   have zsx:(s++Xaq [hxl x]).size≤66:=by rw[ByteArray.size_append];omega
   have zxy:(Xaq [hxl x]++Xaq [hxl y]).size≤2:=by rw[ByteArray.size_append];omega
   rw[←hs]
   clear hs hst hx hy hc hjl
   go_upto_region 6 with fail
   go_quiet (fail)
   first|rw[ST.o]|rw[ST2.o]
   go_wp2_with fail
   go_roundg (16-(j+1))
   case measure=>omega
   case rel=>exact⟨j+1,by omega,rfl,by go_num,rfl,Hd (Xmb hdr.o ⟨nq,rfl⟩)⟩
  ·have hall:l.take j=l:=List.take_of_length_le (by rw[HL.o.len];omega)
   rw[hall]
   obtain⟨s,hs⟩:=xq (Xaq (Xbv l))
   have HS:=Hd hs
   have zs:s.size≤65:=by rw[hs,Xan];simp[Xbs,HL.o.len]
   rw[←hs]
   clear hs hall
   go_wp2_with fail
   go_ret
   exact⟨by rw[HS.o];rfl,B0.o.trans ((Dr.below hdr.o).mono B0.o.size)⟩
theorem Xyc (w:World){l:List Nat}(hl:IdOk l):
    zJ 104 #[.agg (idA l)] w (.string (Xaq (Xcr l))):=by
 obtain⟨w0,hw0⟩:=xq (w.alloc (.cells (idA l) 118))
 have B0:Hid (Bw w w0):=Hd (by rw[hw0];exact(zR _ _).alloc (zL _) _)
 have I0:Hid (IB w0 w.heap.size 118 l):=Hd (by unfold IB;rw[hw0];exact heap_alloc_last w _)
 have HL:=Hd hl
 obtain⟨cs,hcs⟩:=xq (idA l)
 rw[←hcs] at hw0⊢
 have HW:=Hd hw0
 have HP:Hid (Xbv (l.take 0)=[]):=Hd rfl
 clear hw0 hcs hl
 go_enter func104,ntmps104
 go_upto_region 1 with fail
 rw[←HW.o]
 clear HW
 go_wp2_with fail
 go_loopg [4,5] 32 (fun k s i wr=>∃j:Nat,j≤32∧k=32-j∧i=.int .i64 (j:Int)∧s=.string (Xaq (60::Xbv (l.take j)))∧Hid (Dr w0 wr))
 case atStart=>exact⟨0,by omega,rfl,rfl,rfl,Hd (Dr.refl _)⟩
 case round=>
  obtain⟨j,hj,rfl,rfl,rfl,hdr⟩:=hrel
  by_cases hlt:j<32
  ·have hjl:j<l.length:=by rw[HL.o.len];exact hlt
   obtain⟨c,hc⟩:=xq (l.getD j 0)
   have hc2:c<256:=by rw[hc,List.getD_eq_getElem?_getD,List.getElem?_eq_getElem hjl,Option.getD_some];exact HL.o.lt _ (zG hjl)
   have hst:=Xcx hjl hc
   have cc:wr.cell? ⟨w.heap.size,j,none⟩=some (.int .u8 (c:Int)):=by rw[hc];exact(I0.o.below (Dr.below hdr.o)).cell hjl
   obtain⟨x,hx⟩:=xq (c/16)
   obtain⟨y,hy⟩:=xq (c%16)
   rw[←hx,←hy] at hst
   have hx2:x<16:=by omega
   have hy2:y<16:=by omega
   obtain⟨s,hs⟩:=xq (Xaq (60::Xbv (l.take j)))
   have ST:Hid (s++Xaq [hxl x]++Xaq [hxl y]=Xaq (60::Xbv (l.take (j+1)))):=Hd (by
    rw[hs,hst,←Xcq,←Xcq];simp)
   have ST2:Hid (s++(Xaq [hxl x]++Xaq [hxl y])=Xaq (60::Xbv (l.take (j+1)))):=Hd (by
    rw[hs,hst,←Xcq,←Xcq];simp)
   have zs:s.size≤65:=by rw[hs,Xan];simp[Xbs];omega
   have e1:(c:Int)/16=(x:Int):=by omega
   have e2:(c:Int)%16=(y:Int):=by omega
   have e2t:(c:Int).tmod 16=(y:Int):=by rw[Int.tmod_eq_emod_of_nonneg (by omega)];omega
   have e1t:(c:Int).tdiv 16=(x:Int):=by rw[Int.tdiv_eq_ediv_of_nonneg (by omega)];omega
   have x1:=Xge x hx2
   have y1:=Xge y hy2
   have hx3:(x:Int)<16:=by omega
   have hy3:(y:Int)<16:=by omega
   have zx:(Xaq [hxl x]).size=1:=rfl
   have zy:(Xaq [hxl y]).size=1:=rfl
   have zsx:(s++Xaq [hxl x]).size≤66:=by rw[ByteArray.size_append];omega
   have zxy:(Xaq [hxl x]++Xaq [hxl y]).size≤2:=by rw[ByteArray.size_append];omega
   rw[←hs]
   clear hs hst hx hy hc hjl
   go_upto_region 6 with fail
   go_quiet (fail)
   first|rw[ST.o]|rw[ST2.o]
   go_wp2_with fail
   go_roundg (32-(j+1))
   case measure=>omega
   case rel=>exact⟨j+1,by omega,rfl,by go_num,rfl,Hd (Xmb hdr.o ⟨nq,rfl⟩)⟩
  ·have hall:l.take j=l:=List.take_of_length_le (by rw[HL.o.len];omega)
   rw[hall]
   obtain⟨s,hs⟩:=xq (Xaq (60::Xbv l))
   have HS:=Hd hs
   have zs:s.size≤65:=by rw[hs,Xan];simp[Xbs,HL.o.len]
   rw[←hs]
   clear hs hall
   go_wp2_with fail
   go_ret
   exact⟨by show _=Ending.returned (Value.string (Xaq (60::Xbv l++sHash)));rw[HS.o,Xcq];rfl,B0.o.trans ((Dr.below hdr.o).mono B0.o.size)⟩
theorem Ydg (w:World){l:List Nat}(hl:IdOk l):
    zJ 157 #[.agg (idA l)] w (.string (Xaq (Xbv l))):=by
 obtain⟨w0,hw0⟩:=xq (w.alloc (.cells (idA l) 160))
 have B0:Hid (Bw w w0):=Hd (by rw[hw0];exact(zR _ _).alloc (zL _) _)
 have I0:Hid (IB w0 w.heap.size 160 l):=Hd (by unfold IB;rw[hw0];exact heap_alloc_last w _)
 have HL:=Hd hl
 obtain⟨cs,hcs⟩:=xq (idA l)
 rw[←hcs] at hw0⊢
 have HW:=Hd hw0
 have HP:Hid (Xbv (l.take 0)=[]):=Hd rfl
 clear hw0 hcs hl
 go_enter func157,ntmps157
 go_upto_region 1 with fail
 rw[←HW.o]
 clear HW
 go_wp2_with fail
 go_loopg [3,4,5,6] 32 (fun k s i v5 v6 wr=>∃j:Nat,j≤32∧k=32-j∧i=.int .i64 (j:Int)∧s=.string (Xaq (Xbv (l.take j)))∧Hid (Dr w0 wr))
 case atStart=>exact⟨0,by omega,rfl,rfl,rfl,Hd (Dr.refl _)⟩
 case round=>
  obtain⟨j,hj,rfl,rfl,rfl,hdr⟩:=hrel
  by_cases hlt:j<32
  ·have hjl:j<l.length:=by rw[HL.o.len];exact hlt
   obtain⟨c,hc⟩:=xq (l.getD j 0)
   have hc2:c<256:=by rw[hc,List.getD_eq_getElem?_getD,List.getElem?_eq_getElem hjl,Option.getD_some];exact HL.o.lt _ (zG hjl)
   have hst:=Xcx hjl hc
   have cc:wr.cell? ⟨w.heap.size,j,none⟩=some (.int .u8 (c:Int)):=by rw[hc];exact(I0.o.below (Dr.below hdr.o)).cell hjl
   obtain⟨x,hx⟩:=xq (c/16)
   obtain⟨y,hy⟩:=xq (c%16)
   rw[←hx,←hy] at hst
   have hx2:x<16:=by omega
   have hy2:y<16:=by omega
   obtain⟨s,hs⟩:=xq (Xaq (Xbv (l.take j)))
   have ST:Hid (s++Xaq [hxl x]++Xaq [hxl y]=Xaq (Xbv (l.take (j+1)))):=Hd (by
    rw[hs,hst,←Xcq,←Xcq];simp)
   have ST2:Hid (s++(Xaq [hxl x]++Xaq [hxl y])=Xaq (Xbv (l.take (j+1)))):=Hd (by
    rw[hs,hst,←Xcq,←Xcq];simp)
   have zs:s.size≤65:=by rw[hs,Xan];simp[Xbs];omega
   have e1:(c:Int)/16=(x:Int):=by omega
   have e2:(c:Int)%16=(y:Int):=by omega
   have e2t:(c:Int).tmod 16=(y:Int):=by rw[Int.tmod_eq_emod_of_nonneg (by omega)];omega
   have e1t:(c:Int).tdiv 16=(x:Int):=by rw[Int.tdiv_eq_ediv_of_nonneg (by omega)];omega
   have x1:=Xge x hx2
   have y1:=Xge y hy2
   have hx3:(x:Int)<16:=by omega
   have hy3:(y:Int)<16:=by omega
   have zx:(Xaq [hxl x]).size=1:=rfl
   have zy:(Xaq [hxl y]).size=1:=rfl
   have zsx:(s++Xaq [hxl x]).size≤66:=by rw[ByteArray.size_append];omega
   have zxy:(Xaq [hxl x]++Xaq [hxl y]).size≤2:=by rw[ByteArray.size_append];omega
   rw[←hs]
   clear hs hst hx hy hc hjl
   go_upto_region 5 with fail
   go_quiet (fail)
   obtain⟨wk,hwk⟩:=xq (wr.drewN nq)
   have DK:Hid (Dr w0 wk):=Hd (Xmb hdr.o ⟨nq,hwk⟩)
   rw[←hwk]
   clear hwk hdr cc
   have hdr:=DK
   go_upto_region 6 with fail
   go_quiet (fail)
   first|rw[ST.o]|rw[ST2.o]
   go_wp2_with fail
   go_roundg (32-(j+1))
   case measure=>omega
   case rel=>exact⟨j+1,by omega,rfl,by go_num,rfl,Hd (Xmb hdr.o ⟨nq,rfl⟩)⟩
  ·have hall:l.take j=l:=List.take_of_length_le (by rw[HL.o.len];omega)
   rw[hall]
   obtain⟨s,hs⟩:=xq (Xaq (Xbv l))
   have HS:=Hd hs
   have zs:s.size≤65:=by rw[hs,Xan];simp[Xbs,HL.o.len]
   rw[←hs]
   clear hs hall
   go_wp2_with fail
   go_ret
   exact⟨by rw[HS.o];rfl,B0.o.trans ((Dr.below hdr.o).mono B0.o.size)⟩
theorem Yc9 (w:World){l:List Nat}(hl:IdOk l):
    zJ 106 #[.agg (idA l)] w (.string (Xaq (Xcr l))):=by
 obtain⟨cs,hcs⟩:=xq (idA l)
 have D:=Hd (Ydg (w.alloc (.cells cs 160)) hl)
 have B0:Hid (Bw w (w.alloc (.cells cs 160))):=Hd ((zR _ _).alloc (zL _) _)
 have LD:=Hd (run_loadVar_row (P:=prog) (w.alloc (.cells cs 160)) w.heap.size _ 160 cs _ _ (heap_alloc_last w _) underlying160 rfl (by rw[hcs,Xag,hl.len];kernel_rfl))
 rw[←hcs] at D⊢
 obtain⟨t,ht⟩:=xq (Xaq (Xbv l))
 rw[←ht] at D
 have HT:=Hd ht
 have z1:t.size≤64:=by rw[ht,Xan,Xbs,hl.len];exact zL _
 have z2:((⟨#[60]⟩:ByteArray)++t).size≤65:=by rw[ByteArray.size_append];show 1+t.size≤_;omega
 clear ht hcs hl
 go_enter func106,ntmps106
 go_wp2_with ((with_reducible refine Xac 160 rfl _ rfl ?_);refine⟨_,_,rfl,LD.o,?_⟩)
 refine D.o.mono ?_
 rintro e w1 ⟨rfl,hb⟩
 have B1:=bh B0 hb
 clear hb D LD
 go_wp2_with fail
 go_ret
 exact⟨by show _=Ending.returned (Value.string (Xaq (60::Xbv l++sHash)));rw[Xcq,show(60::Xbv l)=[60]++Xbv l from rfl,Xcq,←HT.o];rfl,B1.o⟩
theorem Yc8 (w:World){l:List Nat}(hl:IdOk l):
    zJ 58 #[.agg (idA l)] w (.string (Xaq (Xg8 l))):=by
 obtain⟨cs,hcs⟩:=xq (idA l)
 obtain⟨zs,hzs⟩:=xq (idA zero32)
 have zok:IdOk zero32:=⟨by simp[zero32],fun x hx=>by simp[zero32] at hx;omega⟩
 have BZ:Hid (∀w,(Instr.build 26 #[]).run prog w=.ok (.agg zs) w):=Hd (fun w=>by rw[hzs];kernel_rfl)
 have EQ:Hid (∀w,(Op.equal 26 (.agg cs) (.agg zs)).run prog w=.ok (decide (l=zero32)) w):=Hd (fun w=>by rw[hcs,hzs];exact Xqd w hl zok)
 have P:=Hd (Yc9 (w.alloc (.cells cs 26)) hl)
 have B0:Hid (Bw w (w.alloc (.cells cs 26))):=Hd ((zR _ _).alloc (zL _) _)
 have LD:=Hd (run_loadVar_row (P:=prog) (w.alloc (.cells cs 26)) w.heap.size _ 26 cs _ _ (heap_alloc_last w _) underlying26 rfl (by rw[hcs,Xag,hl.len];exact Xa3))
 rw[←hcs] at P⊢
 obtain⟨q,hq⟩:=xq (decide (l=zero32))
 rw[←hq] at EQ
 have HQ:=Hd hq
 have OPT:Hid (Xg8 l=if l=zero32 then[] else Xcr l):=Hd rfl
 clear hcs hzs hl hq
 cases q
 ·have O2:Hid (Xg8 l=Xcr l):=Hd (by rw[OPT.o,qN (of_decide_eq_false HQ.o.symm)])
  go_enter func58,ntmps58
  go_wp2_with (first
   |((with_reducible refine Xac 26 rfl _ rfl ?_);refine⟨_,_,rfl,LD.o,?_⟩)
   |((with_reducible refine Xaf 26 rfl rfl ?_);refine⟨_,BZ.o _,?_⟩)
   |((with_reducible refine Xdb 26 rfl _ _ rfl Xeo ?_);refine⟨_,_,_,rfl,rfl,EQ.o _,?_⟩))
  refine P.o.mono ?_
  rintro e w1 ⟨rfl,hb⟩
  have B1:=bh B0 hb
  clear hb P LD
  go_wp2_with fail
  go_ret
  exact⟨by rw[O2.o];rfl,B1.o⟩
 ·have O2:Hid (Xg8 l=[]):=Hd (by rw[OPT.o,qP (of_decide_eq_true HQ.o.symm)])
  go_enter func58,ntmps58
  go_wp2_with (first
   |((with_reducible refine Xac 26 rfl _ rfl ?_);refine⟨_,_,rfl,LD.o,?_⟩)
   |((with_reducible refine Xaf 26 rfl rfl ?_);refine⟨_,BZ.o _,?_⟩)
   |((with_reducible refine Xdb 26 rfl _ _ rfl Xeo ?_);refine⟨_,_,_,rfl,rfl,EQ.o _,?_⟩))
  go_ret
  exact⟨by rw[O2.o];rfl,B0.o⟩
theorem Xp2 (c:List Nat)(x:List Nat):∀l:List (List Nat),Xaw c (l++[x])=if l=[] then x else Xaw c l++c++x
 |[]=>rfl
 |[y]=>by simp[Xaw]
 |y::z::r=>by
  have ih:=Xp2 c x (z::r)
  rw[qN (by simp)] at ih
  rw[qN (by simp)]
  show y++c++Xaw c ((z::r)++[x])=_
  rw[ih]
  simp[Xaw]
theorem Xui (c:Nat):∀(l:List (List Nat)) (j:Nat),(Xaw [c] (l.take j)).length≤(Xaw [c] l).length
 |[],_=>by simp
 |[y],j=>by cases j<;>simp[Xaw]
 |y::z::r,0=>by simp[Xaw]
 |y::z::r,1=>by simp[Xaw]
 |y::z::r,j+2=>by
  have ih:=Xui c (z::r) (j+1)
  show(y++[c]++Xaw [c] ((z::r).take (j+1))).length≤(y++[c]++Xaw [c] (z::r)).length
  simp only[List.length_append] at ih⊢
  omega
def Xcw (c:Nat)(gs:List ByteArray):ByteArray:=Xaq (Xaw [c] (gs.map bs))
theorem Xmw (c:Nat)(gs:List ByteArray)(g:ByteArray):Xcw c (gs++[g])=if gs=[] then g else Xcw c gs++Xaq [c]++g:=by
 unfold Xcw
 rw[List.map_append,List.map_cons,List.map_nil,Xp2]
 by_cases h:gs=[]
 ·rw[qP h,qP (by rw[h];rfl),Xd3]
 ·rw[qN h,qN (by simpa using h),Xcq,Xcq,Xd3]
theorem Xp3 (c:Nat)(gs:List ByteArray)(j:Nat):(Xcw c (gs.take j)).size≤(Xcw c gs).size:=by
 unfold Xcw
 rw[Xan,Xan,List.map_take]
 exact Xui c _ j
theorem Xpi (w:World)(v:Value)(gs:List ByteArray)(c:Nat)(hr:SRow w v gs)(hn:gs.length≤1000000)(hl:(Xcw c gs).size≤100000000):
    Rx 57 #[v,.string (Xaq [c])] w (.string (Xcw c gs)):=by
 obtain⟨a,cap,rfl,hc,r⟩:=hr
 obtain⟨n,hnn⟩:=xq gs.length
 have HN:=Hd hnn;have R:=Hd r;have HL:=Hd hl
 rw[←hnn] at hn⊢
 obtain⟨sp,hsp⟩:=xq (Xaq [c])
 have zsp:sp.size=1:=by rw[hsp];rfl
 have HSP:=Hd hsp
 rw[←hsp]
 clear hnn r hc hsp hl
 go_enter func57,ntmps57
 go_wp2_with fail
 go_loopg [5,6] n (fun k s i wr=>∃(j:Nat) (t:ByteArray),j≤n∧k=n-j∧i=.int .i64 (j:Int)∧s=.string t∧Hid (t=Xcw c (gs.take j))∧w=wr)
 case atStart=>exact⟨0,⟨#[]⟩,by omega,rfl,rfl,rfl,Hd rfl,rfl⟩
 case round=>
  obtain⟨j,t,hj,rfl,rfl,rfl,ht,rfl⟩:=hrel
  by_cases hlt:j<n
  ·have hl:j<gs.length:=by rw[←HN.o];exact hlt
   obtain⟨b,off,rfl,_,hcell⟩:=R.o (fun e=>by rw[e] at hl;simp at hl)
   obtain⟨g,hg⟩:=xq (gs[j])
   have k1:w.cell? ⟨b,off+j,none⟩=some (.string g):=by rw[hg];exact hcell j hl
   have p1:=Xp3 c gs (j+1)
   have sn:=Xmw c (gs.take j) gs[j]
   rw[←List.take_succ_eq_append_getElem hl,←hg,←ht.o,←HSP.o] at sn
   have zt:t.size≤100000000:=by rw[ht.o];exact Nat.le_trans (Xp3 c gs j) HL.o
   have z0:(Xcw c (gs.take (j+1))).size≤100000000:=Nat.le_trans p1 HL.o
   by_cases h0:j=0
   ·subst h0
    have k0:w.cell? ⟨b,off,none⟩=some (.string g):=k1
    have N:Hid (t++g=Xcw c (gs.take (0+1))):=Hd (by
     rw[sn,qP (by simp),ht.o]
     apply ByteArray.ext
     simp[Xcw,Xaw,Xaq])
    have zg:g.size≤100000000:=by rw[sn,qP (by simp)] at z0;exact z0
    have zz:(t++g).size≤100000000:=by rw[N.o];exact Nat.le_trans p1 HL.o
    clear sn p1 hg hcell hl z0 ht
    go_wp2_with fail
    go_roundg (n-(0+1))
    case measure=>omega
    case rel=>exact⟨1,t++g,by omega,rfl,by go_num,rfl,N,rfl⟩
   ·have hne:gs.take j≠[]:=fun e=>by
       have h2:(gs.take j).length=0:=by rw[e];rfl
       rw[List.length_take] at h2
       omega
    rw[qN hne] at sn
    have N:Hid (t++sp++g=Xcw c (gs.take (j+1))):=Hd sn.symm
    have z1:(t++sp).size≤100000001:=by rw[ByteArray.size_append];omega
    have z2:(t++sp++g).size≤100000000:=by rw[N.o];exact z0
    have zg:g.size≤100000000:=by rw[ByteArray.size_append] at z2;omega
    have hp:(0:Int)<(j:Int):=by omega
    clear sn p1 hg hcell hl z0 ht hne
    go_wp2_with fail
    go_roundg (n-(j+1))
    case measure=>omega
    case rel=>exact⟨j+1,t++sp++g,by omega,rfl,by go_num,rfl,N,rfl⟩
  ·obtain rfl:j=n:=by omega
   have N:Hid (t=Xcw c gs):=Hd (by rw[ht.o,List.take_of_length_le (by rw[HN.o];exact zL _)])
   clear ht
   go_wp2_with fail
   go_ret
   exact⟨by rw[←N.o];rfl,rfl⟩
theorem Xod {P:Program}{o:Oper}{a:Act}(w:World){t e:TypeId}{x:Operand}{v:Value}(ho:o.op=.buildSlice t 1 #[(0,x)])(hx:a.eval x=v)(h:(Instr.buildSlice t 1 #[(0,v)]).run P w=.ok (.slice (some ⟨w.heap.size,0,none⟩) 1 1) (w.alloc (.cells #[v] e))):(execOp a.eval o).run P w=.ok (.value (.slice (some ⟨w.heap.size,0,none⟩) 1 1)) (w.alloc (.cells #[v] e)):=by
 unfold execOp
 rw[ho]
 simp only[List.map_toArray,List.map_cons,List.map_nil,hx]
 rw[Sem.run_bind,h]
 rfl
theorem Yll (w:World)(n:Int):(Instr.buildSlice 82 1 #[(0,.int .u8 n)]).run prog w=.ok (.slice (some ⟨w.heap.size,0,none⟩) 1 1) (w.alloc (.cells #[.int .u8 n] 5)):=by kernel_rfl
theorem Ya5 (w:World)(g d:Nat)(hd:d<256)(h:w.heap[g]?=some (.cells #[.int .u8 (d:Int)] 5 (0,0))):(convert 82 9 (.slice (some ⟨g,0,none⟩) 1 1)).run prog w=.ok (.string (Xaq [d])) w:=by
 have:=run_convert_bytes_back (P:=prog) w 82 9 5 ⟨g,0,none⟩ 1 [UInt8.ofNat d] underlying82 underlying5 underlying9 (fun j hj=>by
  obtain rfl:j=0:=by simpa using hj
  show w.cell? ((⟨g,0,none⟩:Addr).add 0)=_
  rw[Addr.add_mid,cell_of_row w g (0+0) _ _ _ h]
  simp[Nat.mod_eq_of_lt hd])
 exact this
theorem Xy3:∀(k u:Nat) (hu:u<10^(k+1)) (h64:u<18446744073709551616) (hk:k≤30) (w:World),
    zJ 105 #[.int .u64 (u:Int)] w (.string (Xaq (Xes k u))):=by
 intro k
 induction k with
 |zero=>
  intro u hu h64 hk w
  have h10:(u:Int)<10:=by omega
  obtain⟨d,hd⟩:=xq (48+u)
  have hd2:d<256:=by omega
  have e1:(48:Int)+(u:Int)=(d:Int):=by omega
  have RES:Hid (Xaq (Xes 0 u)=Xaq [d]):=Hd (by show Xaq [48+u%10]=_;rw[hd,Nat.mod_eq_of_lt (by omega)])
  have HD2:=Hd hd2
  clear hd hu
  go_enter func105,ntmps105
  go_wp2_with (first
   |((with_reducible refine Xe5 82 9 rfl _ rfl ?_);refine⟨_,_,_,rfl,Ya5 (w.alloc (.cells #[.int .u8 (d:Int)] 5)) w.heap.size d HD2.o (heap_alloc_last w _),?_⟩))
  go_ret
  exact⟨by rw[RES.o];rfl,(zR _ _).alloc (zL _) _⟩
 |succ k ih=>
  intro u hu h64 hk w
  by_cases h10':u<10
  ·have h10:(u:Int)<10:=by omega
   obtain⟨d,hd⟩:=xq (48+u)
   have hd2:d<256:=by omega
   have e1:(48:Int)+(u:Int)=(d:Int):=by omega
   have RES:Hid (Xaq (Xes (k+1) u)=Xaq [d]):=Hd (by unfold Xes;rw[qP h10',hd])
   have HD2:=Hd hd2
   clear hd hu ih
   go_enter func105,ntmps105
   go_wp2_with (first
    |((with_reducible refine Xe5 82 9 rfl _ rfl ?_);refine⟨_,_,_,rfl,Ya5 (w.alloc (.cells #[.int .u8 (d:Int)] 5)) w.heap.size d HD2.o (heap_alloc_last w _),?_⟩))
   go_ret
   exact⟨by rw[RES.o];rfl,(zR _ _).alloc (zL _) _⟩
  ·have h10:¬((u:Int)<10):=by omega
   obtain⟨q,hq⟩:=xq (u/10)
   obtain⟨r,hr⟩:=xq (u%10)
   obtain⟨d,hd⟩:=xq (48+r)
   have hd2:d<256:=by omega
   have C:Hid (∀wx:World,zJ 105 #[.int .u64 (q:Int)] wx (.string (Xaq (Xes k q)))):=Hd (fun wx=>ih q (by rw[hq];rw[Nat.pow_succ] at hu;omega) (by omega) (by omega) wx)
   have RES:Hid (Xaq (Xes k q)++Xaq [d]=Xaq (Xes (k+1) u)):=Hd (by
    rw[←Xcq]
    conv=>rhs;unfold Xes
    rw[qN h10',hq,hd,hr])
   have zt:(Xaq (Xes k q)).size≤31:=by rw[Xan];have:=Xog k q;omega
   obtain⟨t,ht⟩:=xq (Xaq (Xes k q))
   rw[←ht] at C RES zt
   have e1:(u:Int)/10=(q:Int):=by omega
   have e1t:(u:Int).tdiv 10=(q:Int):=by rw[Int.tdiv_eq_ediv_of_nonneg (by omega)];omega
   have e2:(u:Int)%10=(r:Int):=by omega
   have e2t:(u:Int).tmod 10=(r:Int):=by rw[Int.tmod_eq_emod_of_nonneg (by omega)];omega
   have e3:(48:Int)+(r:Int)=(d:Int):=by omega
   have e4:((48:Int)+(r:Int))%18446744073709551616=(d:Int):=by omega
   have e5:(d:Int)%256=(d:Int):=by omega
   have e6:(d:Int)%18446744073709551616=(d:Int):=by omega
   have zd:(Xaq [d]).size=1:=rfl
   have zt2:t.size≤9223372036854775806:=by omega
   have w1:IntKind.u64.wrap (q:Int)=(q:Int):=IntWalk.u64_in _ (by omega)
   have w2:IntKind.u64.wrap (d:Int)=(d:Int):=IntWalk.u64_in _ (by omega)
   have w3:IntKind.u8.wrap (d:Int)=(d:Int):=IntWalk.u8_in _ (by omega)
   have w4:IntKind.u64.wrap (r:Int)=(r:Int):=IntWalk.u64_in _ (by omega)
   have za:(t++Xaq [d]).size≤32:=by rw[ByteArray.size_append];omega
   have HD2:=Hd hd2
   obtain⟨sd,hsd⟩:=xq (Xaq [d])
   rw[←hsd] at RES zd za
   have HSD:=Hd hsd
   clear hq hr hd hu ih ht hsd
   go_enter func105,ntmps105
   go_upto_region 3 with fail
   refine wp_region_any (by kernel_rfl) ?_
   change wpAny _ _ _ _ _ _ _ w.drew
   obtain⟨wd,hwd⟩:=xq w.drew
   rw[←hwd]
   have BD0:Hid (Bw w wd):=Hd (by rw[hwd];exact(zR _ _).drew)
   clear hwd
   refine wpAny_take (i:=0) (v:=.int .u64 (u:Int)) rfl (by kernel_rfl) (by kernel_rfl) (by kernel_rfl) (fun _ _ _ h=>h) (Or.inl ⟨by kernel_rfl,fun w'=>by go_simp⟩) ?_
   refine wpAny_take (i:=1) (v:=.int .u64 (q:Int)) rfl (by kernel_rfl) (by kernel_rfl) (by kernel_rfl) (fun _ _ _ h=>h) (Or.inl ⟨by kernel_rfl,fun w'=>by go_simp⟩) ?_
   refine wpAny_take (i:=3) (v:=.int .u64 (u:Int)) rfl (by kernel_rfl) (by kernel_rfl) (by kernel_rfl) (fun _ _ _ h=>h) (Or.inl ⟨by kernel_rfl,fun w'=>by go_simp⟩) ?_
   refine wpAny_take (i:=4) (v:=.int .u64 (r:Int)) rfl (by kernel_rfl) (by kernel_rfl) (by kernel_rfl) (fun _ _ _ h=>h) (Or.inl ⟨by kernel_rfl,fun w'=>by go_simp⟩) ?_
   refine wpAny_take (i:=5) (v:=.int .u64 (d:Int)) rfl (by kernel_rfl) (by kernel_rfl) (by kernel_rfl) (fun _ _ _ h=>h) (Or.inl ⟨by kernel_rfl,fun w'=>by go_simp⟩) ?_
   refine wpAny_take (i:=6) (v:=.int .u8 (d:Int)) rfl (by kernel_rfl) (by kernel_rfl) (by kernel_rfl) (fun _ _ _ h=>h) (Or.inl ⟨by kernel_rfl,fun w'=>by go_simp⟩) ?_
   refine Xos (i:=2) (k:=7) (by kernel_rfl) ?_ ?_
   ·skip
    refine Xao (f:=105) (args:=#[.int .u64 (q:Int)]) rfl rfl (by kernel_rfl) ?_
    refine(C.o wd).mono ?_
    rintro e y1 ⟨rfl,hb⟩
    have By1:=bh BD0 hb
    clear hb
    refine⟨_,rfl,?_⟩
    refine Xbd (i:=7) (by kernel_rfl) ?_
    refine Xbl rfl rfl (Xod y1 rfl (by kernel_rfl) (Yll y1 (d:Int))) ?_
    obtain⟨y2,hy2⟩:=xq (y1.alloc (.cells #[.int .u8 (d:Int)] 5))
    rw[←hy2]
    have By2:Hid (Bw w y2):=Hd (by rw[hy2];exact By1.o.alloc By1.o.size _)
    have AB:Hid (y2.heap[y1.heap.size]?=some (.cells #[.int .u8 (d:Int)] 5 (0,0))):=Hd (by rw[hy2];exact heap_alloc_last y1 _)
    obtain⟨g,hg⟩:=xq y1.heap.size
    rw[←hg] at AB⊢
    clear hy2 hg
    refine Xbd (i:=8) (by kernel_rfl) ?_
    have CV:=Ya5 y2 g d HD2.o AB.o
    rw[←HSD.o] at CV
    refine Xbp rfl rfl (Xed (s:=82) (d:=9) (x:=.tmp 17) (u:=.slice (some ⟨g,0,none⟩) 1 1) rfl (by kernel_rfl) CV) ?_
    clear CV
    refine Xbd (i:=9) (by kernel_rfl) ?_
    refine Xbp (v:=.string (t++sd)) rfl rfl (by go_simp) ?_
    refine Xbd (i:=10) (by kernel_rfl) ?_
    refine Xbp (v:=.string (t++sd)) rfl rfl (by go_simp) ?_
    refine wpAny_done (by kernel_rfl) ?_ _
    go_simp
    refine‹∀(a:Act) (w_1:World),_→_› _ _ ?_
    go_wp2_with fail
    go_ret
    exact⟨by rw[←RES.o];rfl,By2.o⟩
   ·skip
    refine Xbl rfl rfl (Xod wd rfl (by kernel_rfl) (Yll wd (d:Int))) ?_
    obtain⟨y3,hy3⟩:=xq (wd.alloc (.cells #[.int .u8 (d:Int)] 5))
    rw[←hy3]
    have By3:Hid (Bw w y3):=Hd (by rw[hy3];exact BD0.o.alloc BD0.o.size _)
    have AB:Hid (y3.heap[wd.heap.size]?=some (.cells #[.int .u8 (d:Int)] 5 (0,0))):=Hd (by rw[hy3];exact heap_alloc_last wd _)
    obtain⟨g,hg⟩:=xq wd.heap.size
    rw[←hg] at AB⊢
    clear hy3 hg
    refine Xos (i:=2) (k:=8) (by kernel_rfl) ?_ ?_
    ·skip
     refine Xao (f:=105) (args:=#[.int .u64 (q:Int)]) rfl rfl (by kernel_rfl) ?_
     refine(C.o y3).mono ?_
     rintro e y4 ⟨rfl,hb⟩
     have By4:=bh By3 hb
     replace AB:=Hd ((hb.block _ (zY AB.o)).trans AB.o)
     clear hb
     refine⟨_,rfl,?_⟩
     refine Xbd (i:=8) (by kernel_rfl) ?_
     have CV:=Ya5 y4 g d HD2.o AB.o
     rw[←HSD.o] at CV
     refine Xbp rfl rfl (Xed (s:=82) (d:=9) (x:=.tmp 17) (u:=.slice (some ⟨g,0,none⟩) 1 1) rfl (by kernel_rfl) CV) ?_
     clear CV
     refine Xbd (i:=9) (by kernel_rfl) ?_
     refine Xbp (v:=.string (t++sd)) rfl rfl (by go_simp) ?_
     refine Xbd (i:=10) (by kernel_rfl) ?_
     refine Xbp (v:=.string (t++sd)) rfl rfl (by go_simp) ?_
     refine wpAny_done (by kernel_rfl) ?_ _
     go_simp
     refine‹∀(a:Act) (w_1:World),_→_› _ _ ?_
     go_wp2_with fail
     go_ret
     exact⟨by rw[←RES.o];rfl,By4.o⟩
    ·skip
     have CV:=Ya5 y3 g d HD2.o AB.o
     rw[←HSD.o] at CV
     refine Xbp rfl rfl (Xed (s:=82) (d:=9) (x:=.tmp 17) (u:=.slice (some ⟨g,0,none⟩) 1 1) rfl (by kernel_rfl) CV) ?_
     clear CV
     refine Xbd (i:=2) (by kernel_rfl) ?_
     refine Xao (f:=105) (args:=#[.int .u64 (q:Int)]) rfl rfl (by kernel_rfl) ?_
     refine(C.o y3).mono ?_
     rintro e y5 ⟨rfl,hb⟩
     have By5:=bh By3 hb
     replace AB:=Hd ((hb.block _ (zY AB.o)).trans AB.o)
     clear hb
     refine⟨_,rfl,?_⟩
     refine Xbd (i:=9) (by kernel_rfl) ?_
     refine Xbp (v:=.string (t++sd)) rfl rfl (by go_simp) ?_
     refine Xbd (i:=10) (by kernel_rfl) ?_
     refine Xbp (v:=.string (t++sd)) rfl rfl (by go_simp) ?_
     refine wpAny_done (by kernel_rfl) ?_ _
     go_simp
     refine‹∀(a:Act) (w_1:World),_→_› _ _ ?_
     go_wp2_with fail
     go_ret
     exact⟨by rw[←RES.o];rfl,By5.o⟩
theorem Xg5 (n:Int)(h0:0≤n)(h1:n≤9223372036854775807)(w:World):
    zJ 56 #[.int .i64 n] w (.string (Xaq (Xdq n))):=by
 obtain⟨u,rfl⟩:∃u:Nat,n=u:=⟨n.toNat,by omega⟩
 have P:=Hd (Xy3 20 u (by omega) (by omega) (by omega) w)
 have R:Hid (Xdq (u:Int)=Xes 20 u):=Hd (by rw[Xgf (by omega)];rfl)
 have hn:¬((u:Int)<0):=by omega
 have e1:(u:Int)%18446744073709551616=(u:Int):=by omega
 obtain⟨t,ht⟩:=xq (Xaq (Xes 20 u))
 rw[←ht] at P
 have HT:=Hd ht
 clear ht
 go_enter func56,ntmps56
 go_wp2_with fail
 refine P.o.mono ?_
 rintro e w1 ⟨rfl,hb⟩
 have B:=Hd hb
 clear hb P
 go_wp2_with fail
 go_ret
 exact⟨by rw[R.o,←HT.o];rfl,B.o⟩
def alphS:ByteArray:=⟨#[65,66,67,68,69,70,71,72,73,74,75,76,77,78,79,80,81,82,83,84,85,86,87,88,89,90,97,98,99,100,101,102,103,104,105,106,107,108,109,110,111,112,113,114,115,116,117,118,119,120,121,122,48,49,50,51,52,53,54,55,56,57,43,47]⟩
theorem Xqv (q:Nat)(h:q<256):bits .and .u8 (q:Int) 1=((q%2:Nat):Int):=by
 have:∀q:Fin 256,bits .and .u8 ((q.val:Nat):Int) 1=((q.val%2:Nat):Int):=by decide+kernel
 exact this ⟨q,h⟩
theorem Xg3 (a b:List Nat):Xaq a++Xaq b=Xaq (a++b):=by
 apply ByteArray.ext
 simp[Xaq]
theorem Xqy (v:Nat)(h:v<64):alphS.extract v (v+1)=Xaq [al v]:=by
 have:∀v:Fin 64,alphS.extract v.val (v.val+1)=Xaq [al v.val]:=by decide+kernel
 exact this ⟨v,h⟩
theorem Xrh (w:World)(a:Option Addr)(cap:Nat)(l:List Nat)(hl:l.length≤400000)(hrd:Rd w a l):
    Rx 107 #[.slice a l.length cap] w (.string (Xaq (Xfk l))):=by
 obtain⟨n,hn⟩:=xq l.length
 have HC:=Hd hrd.at_;have H2:=Hd hrd.lt;have HN:=Hd hn
 rw[←hn]
 have hn4:n≤400000:=by omega
 clear hrd hl hn
 go_enter func107,ntmps107
 go_wp2_with fail
 go_loopg [3,4,5,6] n (fun k o v h i wr=>∃(j b c:Nat) (xs:List Nat),w=wr∧j≤n∧k=n-j∧i=.int .i64 (j:Int)∧v=.int .i64 (b:Int)∧h=.int .i64 (c:Int)∧o=.string (Xaq xs)∧Xgp (l.take j)=(b,c,xs))
 case atStart=>exact⟨0,0,0,[],rfl,by omega,by omega,rfl,rfl,rfl,rfl,rfl⟩
 case round=>
  obtain⟨j,b,c,xs,rfl,hj,rfl,rfl,rfl,rfl,rfl,hst⟩:=hrel
  have h25:∀x∈l.take j,x<256:=fun x hx=>H2.o x (List.mem_of_mem_take hx)
  have hinv:=Xh4 (l.take j) h25
  have hev:=Yet (l.take j) h25
  rw[hst] at hinv hev
  obtain⟨i1,i2,i3⟩:=hinv
  simp only[List.length_take] at i1 i2 i3 hev
  have hxl:xs.length≤900000:=by omega
  clear h25
  by_cases hlt:j<n
  ·have hjl:j<l.length:=by rw[←HN.o];exact hlt
   obtain⟨bb,off,rfl,hbw,hcell⟩:=HC.o (by omega)
   have hx:w.cell? ⟨bb,off+j,none⟩=some (U l[j]):=hcell j hjl
   clear hcell
   have hg:l[j]<256:=H2.o _ (zG hjl)
   obtain⟨g,hg'⟩:=xq (l[j])
   rw[←hg'] at hx hg
   unfold U at hx
   have ST:=Hd hst;have HG:=Hd hg';have I2:=Hd i2;have I3:=Hd i3
   clear hst hg' i2 i3
   go_wp2_with fail
   go_loopg [3,4,5,7] 8 (fun k o v h i wr=>∃(m b' c':Nat) (ys:List Nat),w=wr∧m≤8∧k=8-m∧i=.int .i64 (7-(m:Int))∧v=.int .i64 (b':Int)∧h=.int .i64 (c':Int)∧o=.string (Xaq ys)∧Xc2 (b,c,xs) g m=(b',c',ys))
   case atStart=>exact⟨0,b,c,xs,rfl,by omega,by omega,rfl,rfl,rfl,rfl,rfl⟩
   case round=>
    obtain⟨m,b',c',ys,rfl,hm,rfl,rfl,rfl,rfl,rfl,hbr⟩:=hrel
    have hbi:=Xw8 (s:=(b,c,xs)) (g:=g) i1 I2.o m
    rw[hbr] at hbi
    simp only at hbi
    by_cases hm8:m<8
    ·obtain⟨k,hk⟩:=xq (7-m)
     obtain⟨q,hq⟩:=xq (g/2^k)
     obtain⟨t,htt⟩:=xq (q%2)
     have hq256:q<256:=by rw[hq];exact Nat.lt_of_le_of_lt (Nat.div_le_self _ _) hg
     have ek:(7:Int)-(m:Int)=(k:Int):=by omega
     have e1:(g:Int)/2^k=(q:Int):=by rw[hq];push_cast;rfl
     have e2:Go.bits .and .u8 (q:Int) 1=(t:Int):=by rw[htt];exact Xqv q hq256
     have ht2:t<2:=by omega
     have hbb:b'<64:=Nat.lt_of_lt_of_le hbi.2.1 (by have:2^c'≤2^6:=Nat.pow_le_pow_right (by omega) (by omega)
                                                    omega)
     have BR:=Hd hbr;have K:=Hd hk;have Q:=Hd hq;have T:=Hd htt;have BI:=Hd hbi
     have hc6:c'<6:=hbi.1
     clear hbr hk hq htt hbi
     by_cases h6:c'+1=6
     ·have h6':((c':Int)+1==6)=true:=Xa4 (by omega)
      have hv0:2*b'+t<64:=by
       have:=BI.o.2.1
       obtain rfl:c'=5:=by omega
       omega
      have hex:=Xqy (2*b'+t) hv0
      unfold alphS at hex
      have hsz:(Xaq ys).size≤2000000:=by rw[Xan];have:=BI.o.2.2;omega
      have hsz2:(Xaq [al (2*b'+t)]).size=1:=Xan _
      go_wp2_with fail
      go_roundg (8-(m+1))
      case measure=>omega
      case rel=>
       refine⟨m+1,0,0,ys++[al (2*b'+t)],rfl,by omega,rfl,by go_num,rfl,rfl,?_,?_⟩
       ·exact congrArg Value.string (Xg3 _ _)
       ·rw[Xc2,BR.o,Xfe,qP h6,←K.o,←Q.o,←T.o]
     ·have h6':((c':Int)+1==6)=false:=Xaj (by omega)
      go_wp2_with fail
      go_roundg (8-(m+1))
      case measure=>omega
      case rel=>
       refine⟨m+1,2*b'+t,c'+1,ys,rfl,by omega,rfl,by go_num,by go_num,by go_num,rfl,?_⟩
       rw[Xc2,BR.o,Xfe,qN h6,←K.o,←Q.o,←T.o]
    ·obtain rfl:m=8:=by omega
     have hbe:=Xw9 (s:=(b,c,xs)) (g:=g) i1 hev I2.o hg
     rw[hbr] at hbe
     have BE:=Hd hbe
     clear hbe hbr hbi
     go_wp2_with fail
     go_roundg (n-(j+1))
     case measure=>omega
     case rel=>
      refine⟨j+1,b',c',ys,rfl,by omega,rfl,by go_num,rfl,rfl,rfl,?_⟩
      rw[List.take_succ_eq_append_getElem hjl,Xm1,ST.o,←HG.o,BE.o]
  ·obtain rfl:j=n:=by omega
   rw[List.take_of_length_le (by rw[HN.o];exact zL _)] at hst
   have EF:=Hd (Yau hst)
   have htl:=Xlh b c xs j (by rw[i3,HN.o,Nat.min_self])
   have I2:=Hd i2
   clear hst i3 HC H2 i2
   go_upto_if 40 with fail
   go_cut [3,40] (fun o _t wx=>o=.string (Xaq (Xbo (b,c,xs)))∧w=wx)
   case first=>
    by_cases hc0:0<c
    ·go_wp2_with fail
     go_loopg [4,5] (6-c) (fun k v h wr=>∃(q m:Nat),w=wr∧c≤m∧m≤6∧k=6-m∧q=b*2^(m-c)∧q<2^m∧v=.int .i64 (q:Int)∧h=.int .i64 (m:Int))
     case atStart=>exact⟨b,c,rfl,zL _,by omega,rfl,by simp,I2.o,rfl,rfl⟩
     case round=>
      obtain⟨q,m,rfl,hm1,hm2,rfl,hq,hqm,rfl,rfl⟩:=hrel
      have hq64:q<64:=Nat.lt_of_lt_of_le hqm (Nat.pow_le_pow_right (n:=2) (by omega) hm2)
      by_cases hm6:m<6
      ·have HQ:=Hd hq;have QM:=Hd hqm
       clear hq hqm
       go_wp2_with fail
       go_roundg (6-(m+1))
       case measure=>omega
       case rel=>
        refine⟨2*q,m+1,rfl,by omega,by omega,rfl,?_,?_,by go_num,by go_num⟩
        ·rw[HQ.o,show m+1-c=(m-c)+1 by omega,Nat.pow_succ,Nat.mul_comm 2,Nat.mul_assoc]
        ·have:=QM.o;rw[Nat.pow_succ];omega
      ·obtain rfl:m=6:=by omega
       have hex:=Xqy q hq64
       unfold alphS at hex
       have hsz:(Xaq xs).size≤2000000:=by rw[Xan];omega
       have hsz2:(Xaq [al q]).size=1:=Xan _
       have HQ:=Hd hq
       clear hq hqm
       go_wp2_with fail
       go_meet
       refine⟨?_,rfl⟩
       rw[Xbo,qP hc0]
       simp only
       rw[←HQ.o]
       exact congrArg Value.string (Xg3 _ _)
    ·have hc0':decide (0<c)=false:=by simp;omega
     go_wp2_with fail
     go_meet
     refine⟨?_,rfl⟩
     rw[Xbo,qN hc0]
   case rest=>
    obtain⟨rfl,rfl⟩:=hcut
    obtain⟨ts,hts⟩:=xq (Xbo (b,c,xs))
    rw[←hts] at EF htl⊢
    clear hts I2
    go_wp2_with fail
    go_loopg [3] ((4-ts.length%4)%4) (fun k o wr=>∃ys,w=wr∧o=.string (Xaq ys)∧ys.length+k≤900000∧k=(4-ys.length%4)%4∧Xik ys=Xfk l)
    case atStart=>exact⟨ts,rfl,rfl,by omega,rfl,EF.o⟩
    case round=>
     obtain⟨ys,rfl,rfl,hyl,rfl,hpad⟩:=hrel
     have HP:=Hd hpad
     obtain⟨m,hm⟩:=xq ys.length
     have hsz:(Xaq ys).size=m:=by rw[Xan,hm]
     have HM:=Hd hm
     rw[←hm] at hyl
     clear hpad htl hm
     by_cases h4:m%4=0
     ·have h4':((m:Int)%4 !=0)=false:=Xau (by omega)
      go_wp2_with fail
      go_ret
      exact⟨by rw[←HP.o,Xpv _ (by rw[←HM.o];exact h4)];rfl,rfl⟩
     ·have h4':((m:Int)%4 !=0)=true:=Xam (by omega)
      go_wp2_with fail
      go_roundg ((4-(m+1)%4)%4)
      case measure=>rw[←HM.o];omega
      case rel=>
       refine⟨ys++[61],rfl,?_,?_,?_,?_⟩
       ·exact congrArg Value.string (Xg3 ys [61])
       ·simp;rw[←HM.o];omega
       ·simp;rw[←HM.o]
       ·rw[Xpu _ (by rw[←HM.o];exact h4)];exact HP.o
theorem Xv0 (w:World)(h:Int){r:List Nat}(hr:B16 r):
    Calls prog 108 #[.int .i64 h,.agg (idA r)] w fun e w'=>∃a cap,e=.returned (.slice a 17 cap)∧Rd w' a ((h%256).toNat::r)∧Bw w w':=by
 obtain⟨i0,hi0,hz0,hz1,hz2⟩:=info_parts Xhw
 obtain⟨b,hb⟩:=xq ((h%256).toNat)
 have hb2:b<256:=by omega
 have eb:h%256=(b:Int):=by omega
 obtain⟨cs,hcs⟩:=xq (idA r)
 obtain⟨w0,hw0⟩:=xq (w.alloc (.cells cs 22))
 have B0:Hid (Bw w w0):=Hd (by rw[hw0];exact(zR _ _).alloc (zL _) _)
 have I0:Hid (IB w0 w.heap.size 22 r):=Hd (by unfold IB;rw[hw0,hcs];exact heap_alloc_last w _)
 obtain⟨w1,hw1⟩:=xq (w0.alloc (.cells #[.int .u8 (b:Int)] 5))
 have B1:Hid (Bw w w1):=Hd (by rw[hw1];exact B0.o.alloc B0.o.size _)
 have OWN:Hid (w1.ownsRow w0.heap.size 5 1 (.slice (some ⟨w0.heap.size,0,none⟩) 1 1) 1 [.int .u8 (b:Int)]):=Hd (by
  rw[hw1]
  exact⟨rfl,.inr ⟨w0.heap.size,1,#[.int .u8 (b:Int)],rfl,zL _,heap_alloc_last w0 _,zL _,by decide,rfl,rfl⟩⟩)
 have SRC:Hid (∀j u,(r.map U)[j]?=some u→w1.cell? ((⟨w.heap.size,0,none⟩:Addr).add j)=some u):=Hd (fun j u hu=>by
  have i1:IB w1 w.heap.size 22 r:=by rw[hw1];exact I0.o.below ((zR _ _).alloc (zL _) _)
  rw[Addr.add_mid,cell_of_row w1 _ (0+j) _ _ _ i1,Nat.zero_add]
  unfold idA
  rw[List.getElem?_toArray];exact hu)
 have S0:w0.heap.size=w.heap.size+1:=by rw[hw0];simp
 have RL:=Hd hr.len
 have FIN:Hid (∀v' w2,w2.ownsRow w0.heap.size 5 1 v' 17 ([.int .u8 (b:Int)]++r.map U)→w1.grownBy w2 (some w0.heap.size)→∃a cap,v'=.slice a 17 cap∧Rd w2 a (b::r)∧Bw w w2):=Hd (fun v' w2 h1 h2=>by
  have o:OW w0.heap.size (b::r) v' w2:=by unfold OW;rw[List.length_cons,hr.len];exact h1
  obtain⟨g,c,rfl,_⟩:=o.slice (by simp)
  refine⟨some ⟨g,0,none⟩,c,by rw[List.length_cons,hr.len],Yhb (n:=17) (cap:=c) (by have:=o;unfold OW at this;rw[List.length_cons,hr.len] at this;exact this) (fun x hx=>?_),Below.grown B1.o h2 B1.o.size (fun k hk=>by cases hk;omega)⟩
  rcases List.mem_cons.1 hx with rfl|hx
  ·exact hb2
  ·exact hr.lt x hx)
 have HW0:=Hd hw0;have HW1:Hid (w1=w0.alloc (.cells #[.int .u8 (h%256)] 5)):=Hd (by rw[eb];exact hw1)
 have EB:=Hd eb
 rw[S0] at OWN FIN
 have S1:Hid (w.heap.size+1≤w1.heap.size):=Hd (by rw[hw1];simp;omega)
 have SZ0:=Hd S0
 rw[←hcs]
 have HB:=Hd hb
 clear hb hcs hw0 hw1 hr S0 eb
 go_enter func108,ntmps108
 go_upto_region 1 with fail
 rw[←HW0.o]
 have CV:=SZ0.o
 go_wp2_with (at_builtin;first
  |(rw[←HW1.o];refine wpList_append_own _ rfl _ _ 82 rfl (w.heap.size+1) 5 i0 (.int .u8 0) 1 1 underlying82 hi0 hz0 hz1 hz2 rfl (by decide) _ 1 [.int .u8 (b:Int)] rfl OWN.o ⟨w.heap.size,0,none⟩ 16 16 (r.map U) rfl (by rw[List.length_map,RL.o]) SRC.o (fun u hu=>by obtain⟨y,_,rfl⟩:=List.mem_map.1 hu;rfl) (by unfold maxLen;omega) (by omega) S1.o ?_;intro v' w3 hown' hgrow _))
 obtain⟨a,cap,rfl,f1,f2⟩:=FIN.o _ w3 hown' hgrow
 have F1:=Hd f1;have F2:=Hd f2
 clear hown' hgrow f1 f2 FIN
 go_wp2_with fail
 go_ret
 exact⟨a,cap,rfl,by rw[←HB.o];exact F1.o,F2.o⟩
theorem Xdh {n:Int}(h:0≤n):(Xdq n).length≤21:=by rw[Xgf h];exact Xog 20 _
theorem Yaw {l:List Nat}(h:∀x∈l,x<256)(hl:l.length=17):(Xfk l).length≤1000:=by
 rw[Xjz l h,hl];decide
theorem Yc1 (w:World)(c:Cn)(ok:c.Ok)(hnum:0≤c.number)(gv rv:Value):
    zJ 59 #[.agg (c.cells gv rv)] w (.string (Xaq (Xi7 c.p))):=by
 obtain⟨w0,hw0⟩:=xq (w.alloc (.cells (c.cells gv rv) 28))
 have B0:Bw w w0:=by rw[hw0];exact(zR _ _).alloc (zL _) _
 have C0:CB w0 w.heap.size c gv rv 28:=by unfold CB;rw[hw0];exact heap_alloc_last w _
 have OK:=Hd ok
 obtain⟨ro,hro⟩:=xq (idA c.root)
 have LDR:Hid (∀wx,CB wx w.heap.size c gv rv 28→Ld 22 ⟨w.heap.size,57,none⟩ wx (.agg ro)):=Hd (fun wx h=>by rw[hro];exact CB.root16 h OK.o)
 obtain⟨pb,hpb⟩:=xq ((c.height%256).toNat::c.root)
 have PL:pb.length=17:=by rw[hpb,List.length_cons,ok.root.len]
 have PX:∀x∈pb,x<256:=by
  intro x hx
  rw[hpb] at hx
  rcases List.mem_cons.1 hx with rfl|hx
  ·omega
  ·exact ok.root.lt x hx
 obtain⟨d,hd⟩:=xq (Xaq (Xdq c.number))
 obtain⟨t,ht⟩:=xq (Xaq (Xfk pb))
 have C2:Hid (∀wx:World,zJ 56 #[.int .i64 c.number] wx (.string d)):=Hd (fun wx=>by rw[hd];exact Xg5 c.number hnum (Xhx ok.number).2 wx)
 have C8:Hid (∀wx:World,Calls prog 108 #[.int .i64 c.height,.agg ro] wx fun e w'=>∃a cap,e=.returned (.slice a 17 cap)∧Rd w' a pb∧Bw wx w'):=Hd (fun wx=>by rw[hro,hpb];exact Xv0 wx c.height ok.root)
 have C9:Hid (∀(wx:World) a cap,Rd wx a pb→Rx 107 #[.slice a 17 cap] wx (.string t)):=Hd (fun wx a cap hrd=>by
  have:=Xrh wx a cap pb (by omega) hrd
  rw[PL] at this
  rw[ht];exact this)
 have zd:d.size≤21:=by rw[hd,Xan];exact Xdh hnum
 have zt:t.size≤1000:=by rw[ht,Xan];exact Yaw PX PL
 have zd1:(d++(⟨#[32]⟩:ByteArray)).size≤22:=by rw[ByteArray.size_append];show d.size+1≤_;omega
 have y1:d.size≤9223372036854775806:=by omega
 have y2:(d++(⟨#[32]⟩:ByteArray)).size+t.size≤9223372036854775807:=by omega
 have y3:d.size+1+t.size≤9223372036854775807:=by omega
 have RES:Hid (d++(⟨#[32]⟩:ByteArray)++t=Xaq (Xi7 c.p)):=Hd (by
  rw[hd,ht,show(⟨#[32]⟩:ByteArray)=Xaq [32] from rfl,←Xcq,←Xcq,hpb]
  unfold Xi7 Xho
  simp[Cn.p])
 obtain⟨cs,hcs⟩:=xq (c.cells gv rv)
 rw[←hcs] at hw0⊢
 have HW:=Hd hw0;have HC0:=Hd C0;have HB0:=Hd B0
 clear hw0 hcs hro hpb hd ht PL PX C0 B0 ok hnum
 go_enter func59,ntmps59
 go_upto_region 1 with fail
 rw[←HW.o]
 clear HW
 refine wp_region_held (S:=fun wx=>CB wx w.heap.size c gv rv 28) (by kernel_rfl) ?_
 change wpAnyH _ _ _ _ _ _ _ _ w0.drew
 obtain⟨wd,hwd⟩:=xq w0.drew
 rw[←hwd]
 have D0:Hid (Bw w0 wd):=Hd (by rw[hwd];exact(zR _ _).drew)
 clear hwd
 have hB:(fun wx:World=>CB wx w.heap.size c gv rv 28) wd:=HC0.o.on D0.o
 refine Xad 0 (.pointer (some ⟨w.heap.size,55,none⟩)) rfl (fun _ _=>by go_simp) hB ?_
 refine Xad 1 (.int .i64 c.number) rfl (fun w' hw'=>by have cl:=hw'.at (Xjm OK.o gv rv);go_simp) hB ?_
 refine Xad 4 (.pointer (some ⟨w.heap.size,56,none⟩)) rfl (fun _ _=>by go_simp) hB ?_
 refine Xad 5 (.int .i64 c.height) rfl (fun w' hw'=>by have cl:=hw'.at (Xst OK.o gv rv);go_simp) hB ?_
 refine Xad 6 (.pointer (some ⟨w.heap.size,57,none⟩)) rfl (fun _ _=>by go_simp) hB ?_
 refine Xad 7 (.agg ro) rfl (fun w' hw'=>Xai (ty:=22) (x:=.tmp 9) (ad:=⟨w.heap.size,57,none⟩) rfl (by kernel_rfl) (LDR.o w' hw')) hB ?_
 refine Xak (i:=2) (by kernel_rfl) ?_
 refine Xao (f:=56) (args:=#[.int .i64 c.number]) rfl rfl (by kernel_rfl) ?_
 refine(C2.o wd).mono ?_
 rintro e y1' ⟨rfl,hb⟩
 have D1:=bh D0 hb
 clear hb
 replace hB:=HC0.o.on D1.o
 refine⟨_,rfl,hB,?_⟩
 refine Xad 3 (.string (d++(⟨#[32]⟩:ByteArray))) rfl (fun _ _=>by go_simp) hB ?_
 refine Xak (i:=8) (by kernel_rfl) ?_
 refine Xao (f:=108) (args:=#[.int .i64 c.height,.agg ro]) rfl rfl (by kernel_rfl) ?_
 refine(C8.o y1').mono ?_
 rintro e y2' ⟨a,cap,rfl,hrd,hb⟩
 have D2:=bh D1 hb
 have RD:=Hd hrd
 clear hb hrd
 replace hB:=HC0.o.on D2.o
 refine⟨_,rfl,hB,?_⟩
 refine Xak (i:=9) (by kernel_rfl) ?_
 refine Xao (f:=107) (args:=#[.slice a 17 cap]) rfl rfl (by kernel_rfl) ?_
 refine(C9.o y2' a cap RD.o).mono ?_
 rintro e y3' ⟨rfl,rfl⟩
 refine⟨_,rfl,hB,?_⟩
 refine Xad 10 (.string (d++(⟨#[32]⟩:ByteArray)++t)) rfl (fun _ _=>by go_simp) hB ?_
 refine Xad 11 (.string (d++(⟨#[32]⟩:ByteArray)++t)) rfl (fun _ _=>by go_simp) hB ?_
 refine wpAnyH_done (by kernel_rfl) ?_ _
 go_simp
 refine‹∀(a:Act) (w_1:World),_→_› _ _ ?_
 go_wp2_with fail
 go_ret
 exact⟨by rw[←RES.o];rfl,bg HB0.o D2.o⟩
theorem Yit:∀l:List Value,l.length=32→prog.builtSlice 118 1 [(0,.agg l.toArray)]=some l.toArray
 |[a0,a1,a2,a3,a4,a5,a6,a7,a8,a9,a10,a11,a12,a13,a14,a15,a16,a17,a18,a19,a20,a21,a22,a23,a24,a25,a26,a27,a28,a29,a30,a31],_=>by kernel_rfl
theorem Ygd:∀(l:List Value),l.length=32→Array.foldl (fun(cs:Array Value) (x:Value×Nat)=>cs.setIfInBounds x.snd x.fst) #[Value.int .u8 0,.int .u8 0,.int .u8 0,.int .u8 0,.int .u8 0,.int .u8 0,.int .u8 0,.int .u8 0,.int .u8 0,.int .u8 0,.int .u8 0,.int .u8 0,.int .u8 0,.int .u8 0,.int .u8 0,.int .u8 0,.int .u8 0,.int .u8 0,.int .u8 0,.int .u8 0,.int .u8 0,.int .u8 0,.int .u8 0,.int .u8 0,.int .u8 0,.int .u8 0,.int .u8 0,.int .u8 0,.int .u8 0,.int .u8 0,.int .u8 0,.int .u8 0] l.toArray.zipIdx 0 l.toArray.size=l.toArray
 |[a0,a1,a2,a3,a4,a5,a6,a7,a8,a9,a10,a11,a12,a13,a14,a15,a16,a17,a18,a19,a20,a21,a22,a23,a24,a25,a26,a27,a28,a29,a30,a31],_=>by kernel_rfl
theorem Yks:(prog.info? 118).map (fun i=>(i.zero,i.size,i.bytes))=some (some (.agg (idA zero32)),32,32):=by kernel_rfl
theorem Xnk:(prog.info? 118).map (·.size)=some 32:=by kernel_rfl
theorem Xi8 (l:List (List Nat))(x:List Nat):Xbi (l++[x])=Xbi l++x.map U:=by simp[Xbi]
theorem Ydp {T:TypeId}{w:World}{base:Nat}{v:Value}{l:List (List Nat)}(ho:∀x∈l,IdOk x)(h:w.ownsRow base T 32 v l.length (Xbi l)):IRow w v l:=by
 rcases h.2 with⟨rfl,h0⟩|⟨g,cap,cur,rfl,hb,hg,hc,_,hs,ht⟩
 ·exact⟨none,0,by rw[h0],by rw[h0];exact zL _,fun hne=>absurd (List.length_eq_zero_iff.1 h0) hne⟩
 ·refine⟨some ⟨g,0,none⟩,cap,rfl,hc,fun _=>⟨g,0,rfl,zY hg,fun j hj k u hu=>?_⟩⟩
  have hk:k<32:=by
   have:=(Array.getElem?_eq_some_iff.1 hu).1
   rw[Xag,(ho _ (zG hj)).len] at this
   exact this
  rw[Nat.zero_add,cell_of_row w g _ _ _ _ hg]
  have e1:(cur.toList.take (l.length*32))[j*32+k]?=some u:=by
   rw[ht,Xgd l j k hj ho hk]
   unfold idA at hu
   rw[List.getElem?_toArray] at hu
   exact hu
  rw[List.getElem?_take,qP (by omega)] at e1
  simpa using e1
theorem Xph (w:World)(v:Value)(ids:List (List Nat))(hr:IRow w v ids)(hn:ids.length≤1000000)(hok:∀x∈ids,IdOk x):
    Calls prog 29 #[v] w fun e w'=>∃v',e=.returned v'∧IRow w' v' ids∧Bw w w':=by
 obtain⟨i0,hi0,hz0,hz1,hz2⟩:=info_parts Yks
 obtain⟨a,cap,rfl,hc,r⟩:=hr
 obtain⟨n,hnn⟩:=xq ids.length
 have HN:=Hd hnn;have R:=Hd r;have OK:=Hd hok
 rw[←hnn] at hn⊢
 clear hnn r hc hok
 go_enter func29,ntmps29
 go_wp2_with fail
 go_loopg [3,4] n (fun k s i wr=>∃j:Nat,j≤n∧k=n-j∧i=.int .i64 (j:Int)∧Hid (wr.ownsRow w.heap.size 118 32 s j (Xbi (ids.take j)))∧Hid (Bw w wr))
 case atStart=>exact⟨0,by omega,rfl,rfl,Hd (World.ownsRow_nil _ _ _ _),Hd (zR _ _)⟩
 case round=>
  obtain⟨j,hj,rfl,rfl,ho,hbw⟩:=hrel
  by_cases hlt:j<n
  ·have hl:j<ids.length:=by rw[←HN.o];exact hlt
   obtain⟨b,off,rfl,hb,hcell⟩:=R.o (fun e=>by rw[e] at hl;simp at hl)
   have ok:=OK.o _ (zG hl)
   have LD:Hid (Ld 26 ⟨b,off+j*32,none⟩ wr (.agg (idA ids[j]))):=Hd
    (Xah wr b (off+j*32) 26 _ _ underlying26 rfl (by rw[Xag,ok.len];exact Xa3) (fun k u hu=>(hbw.o.cell (p:=⟨b,off+j*32+k,none⟩) hb).trans (hcell j hl k u hu)))
   have BS:Hid (prog.builtSlice 118 1 [(0,.agg (idA ids[j]))]=some (idA ids[j])):=Hd (Yit (ids[j].map U) (by rw[List.length_map,ok.len]))
   have TS:Hid (Xbi (ids.take (j+1))=Xbi (ids.take j)++(idA ids[j]).toList):=Hd (by rw[List.take_succ_eq_append_getElem hl,Xi8];rfl)
   have CSZ:Hid ((idA ids[j]).size=32):=Hd (by rw[Xag,ok.len])
   have ONE:Hid (∀u∈(idA ids[j]).toList,u.oneCell'=true):=Hd (fun u hu=>(Array.all_eq_true'.1 (Xdf ids[j])) u (by simpa using hu))
   obtain⟨cs,hcs⟩:=xq (idA ids[j])
   rw[←hcs] at LD BS TS CSZ ONE
   have FO:Hid (Array.foldl (fun(cs:Array Value) (x:Value×Nat)=>cs.setIfInBounds x.snd x.fst) #[Value.int .u8 0,.int .u8 0,.int .u8 0,.int .u8 0,.int .u8 0,.int .u8 0,.int .u8 0,.int .u8 0,.int .u8 0,.int .u8 0,.int .u8 0,.int .u8 0,.int .u8 0,.int .u8 0,.int .u8 0,.int .u8 0,.int .u8 0,.int .u8 0,.int .u8 0,.int .u8 0,.int .u8 0,.int .u8 0,.int .u8 0,.int .u8 0,.int .u8 0,.int .u8 0,.int .u8 0,.int .u8 0,.int .u8 0,.int .u8 0,.int .u8 0,.int .u8 0] cs.zipIdx 0 cs.size=cs):=Hd (by rw[hcs];exact Ygd (ids[j].map U) (by rw[List.length_map,ok.len]))
   have FO2:Hid (Array.foldl (fun(cs:Array Value) (x:Value×Nat)=>cs.setIfInBounds x.snd x.fst) #[Value.int .u8 0,.int .u8 0,.int .u8 0,.int .u8 0,.int .u8 0,.int .u8 0,.int .u8 0,.int .u8 0,.int .u8 0,.int .u8 0,.int .u8 0,.int .u8 0,.int .u8 0,.int .u8 0,.int .u8 0,.int .u8 0,.int .u8 0,.int .u8 0,.int .u8 0,.int .u8 0,.int .u8 0,.int .u8 0,.int .u8 0,.int .u8 0,.int .u8 0,.int .u8 0,.int .u8 0,.int .u8 0,.int .u8 0,.int .u8 0,.int .u8 0,.int .u8 0] cs.zipIdx 0 32=cs):=Hd (by have:=FO.o;rw[CSZ.o] at this;exact this)
   have hsz:w.heap.size≤wr.heap.size:=hbw.o.size
   have GROW:Hid (∀(o:Obj) (w8:World),(wr.alloc o).grownBy w8 u3.ownBlock→Bw w w8):=Hd (fun o w8 hg=>Below.grown (hbw.o.alloc hsz o) hg (by simp;omega) (fun k hk=>(ho.o.lt k hk).1))
   have hcz:cs.size=32:=CSZ.o
   clear hcs hcell ok hl hb
   go_wp2_with (first
    |((with_reducible refine Xac 26 rfl _ rfl ?_);refine⟨_,_,rfl,LD.o,?_⟩)
    |((with_reducible refine wpList_buildSliceTo rfl 67 118 1 _ rfl wr.heap.size rfl _ rfl underlying67 cs BS.o ?_))
    |(at_builtin;refine wpList_append_own _ rfl _ _ 67 rfl w.heap.size 118 i0 (.agg (idA zero32)) 32 32 underlying67 hi0 hz0 hz1 hz2 rfl (by decide) _ _ _ rfl (ho.o.alloc _) ⟨wr.heap.size,0,none⟩ 1 1 cs.toList rfl (by simpa using CSZ.o) (World.news_of_block (cs:=cs) (t:=118) (fr:=(0,0)) (by(first|rw[FO2.o]|rw[FO.o]);exact zN wr _)) ONE.o (by unfold maxLen;omega) (by omega) (by simp;omega) ?_;intro v' w8 hown' hgrow _))
   have O8:Hid (w8.ownsRow w.heap.size 118 32 v' (j+1) (Xbi (ids.take (j+1)))):=Hd (by rw[TS.o];exact hown')
   have F8:=Hd (GROW.o _ w8 hgrow)
   clear hown' hgrow
   go_wp2_with fail
   go_roundg (n-(j+1))
   case measure=>omega
   case rel=>exact⟨j+1,by omega,rfl,by go_num,O8,F8⟩
  ·obtain rfl:j=n:=by omega
   have IR:Hid (IRow wr u3 ids):=Hd (by
    have h:=ho.o
    rw[List.take_of_length_le (by rw[HN.o];exact zL _),HN.o] at h
    exact Ydp OK.o h)
   clear ho
   go_wp2_with fail
   go_ret
   exact⟨_,rfl,IR.o,hbw.o⟩
theorem Ydb (w:World)(v:Value)(ids:List (List Nat))(x:List Nat)(hr:IRow w v ids)(hn:ids.length≤1000000)(hok:∀y∈ids,IdOk y)(hx:IdOk x):
    zJ 71 #[v,.agg (idA x)] w (.bool (ids.contains x)):=by
 obtain⟨w0,hw0⟩:=xq (w.alloc (.cells (idA x) 118))
 have B0:Hid (Bw w w0):=Hd (by rw[hw0];exact(zR _ _).alloc (zL _) _)
 have I0:Hid (IB w0 w.heap.size 118 x):=Hd (by unfold IB;rw[hw0];exact heap_alloc_last w _)
 obtain⟨a,cap,rfl,hc,r⟩:=hr.below B0.o
 obtain⟨n,hnn⟩:=xq ids.length
 have HN:=Hd hnn;have R:=Hd r;have OK:=Hd hok;have HX:=Hd hx
 rw[←hnn] at hn⊢
 obtain⟨xs,hxs⟩:=xq (idA x)
 have LX:Hid (∀q p,Ld 118 ⟨w.heap.size,0,none⟩ ((w0.drewN p).drewN q) (.agg xs)):=Hd (fun q p=>by
  rw[hxs]
  exact run_loadVar_row _ w.heap.size _ 118 _ _ _ (show((w0.drewN p).drewN q).heap[w.heap.size]?=_ from I0.o) underlying118 rfl (by rw[Xag,hx.len];exact Xnk))
 rw[←hxs] at hw0⊢
 have HW:=Hd hw0
 have HXS:=Hd hxs
 clear hnn r hc hok hx hw0 hxs hr
 go_enter func71,ntmps71
 go_upto_region 1 with fail
 rw[←HW.o]
 clear HW
 go_wp2_with fail
 go_loopg [5] n (fun k i wr=>∃j:Nat,j≤n∧k=n-j∧i=.int .i64 (j:Int)∧Hid ((ids.take j).contains x=false)∧Hid (Dr w0 wr))
 case atStart=>exact⟨0,by omega,rfl,rfl,Hd rfl,Hd (Dr.refl _)⟩
 case round=>
  obtain⟨j,hj,rfl,rfl,hg,hdr⟩:=hrel
  by_cases hlt:j<n
  ·have hl:j<ids.length:=by rw[←HN.o];exact hlt
   obtain⟨b,off,rfl,hb,hcell⟩:=R.o (fun e=>by rw[e] at hl;simp at hl)
   have ok:=OK.o _ (zG hl)
   have LD:Hid (∀q,Ld 118 ⟨b,off+j*32,none⟩ (wr.drewN q) (.agg (idA ids[j]))):=Hd (fun q=>by
    obtain⟨p,hp⟩:=hdr.o
    rw[hp]
    exact Xah _ b (off+j*32) 118 _ _ underlying118 rfl (by rw[Xag,ok.len];exact Xnk) (fun k u hu=>hcell j hl k u hu))
   have LX2:Hid (∀q,Ld 118 ⟨w.heap.size,0,none⟩ (wr.drewN q) (.agg xs)):=Hd (fun q=>by obtain⟨p,hp⟩:=hdr.o;rw[hp];exact LX.o q p)
   have EQ:Hid (∀w,(Op.equal 118 (.agg (idA ids[j])) (.agg xs)).run prog w=.ok (decide (ids[j]=x)) w):=Hd (fun w=>by
    rw[HXS.o];exact Xh3 underlying118 (by kernel_rfl) (by kernel_rfl) w ok.len ok.lt HX.o.len HX.o.lt)
   have G:Hid (prog.eqGuardType prog.depth 118=false):=Hd (by kernel_rfl)
   have TS:=List.take_succ_eq_append_getElem hl
   obtain⟨y,hy⟩:=xq (idA ids[j])
   obtain⟨r,hr⟩:=xq (decide (ids[j]=x))
   rw[←hy] at LD EQ
   rw[←hr] at EQ
   have HR:=Hd hr;have HTS:=Hd TS
   have HL:=Hd hl
   clear hy hr ok hcell TS hb
   go_upto_region 4 with fail
   refine wp_region_quiet_lit (by kernel_rfl) (by kernel_rfl) ?_
   quiet_step (fail)
   quiet_step (fail)
   quiet_step (fail)
   refine Xc0 118 rfl _ rfl ⟨_,.agg y,rfl,?_,?_⟩
   ·rintro w2 ⟨q,rfl⟩
    exact LD.o q
   refine Xc0 118 rfl _ rfl ⟨_,.agg xs,rfl,?_,?_⟩
   ·rintro w2 ⟨q,rfl⟩
    exact LX2.o q
   refine Xq2 118 rfl _ _ rfl G.o ⟨_,_,_,rfl,rfl,EQ.o,?_⟩
   refine wpQuiet_nil ?_
   rintro _ ⟨nq,rfl⟩
   clear LD LX2 EQ
   cases r
   ·have G2:Hid ((ids.take (j+1)).contains x=false):=Hd (by
       have hne:=of_decide_eq_false HR.o.symm
       rw[HTS.o,List.contains_eq_mem,decide_eq_false_iff_not,List.mem_append,List.mem_singleton]
       rintro(h|h)
       ·have:=hg.o;rw[List.contains_eq_mem,decide_eq_false_iff_not] at this;exact this h
       ·exact hne h.symm)
    clear HR hg
    go_wp2_with fail
    go_roundg (n-(j+1))
    case measure=>omega
    case rel=>exact⟨j+1,by omega,rfl,by go_num,G2,Hd (Xmb hdr.o ⟨nq,rfl⟩)⟩
   ·have YES:Hid (ids.contains x=true):=Hd (by
       rw[List.contains_eq_mem,decide_eq_true_iff,←of_decide_eq_true HR.o.symm]
       exact zG HL.o)
    clear HR hg
    go_wp2_with fail
    go_ret
    exact⟨by rw[YES.o];rfl,B0.o.trans ((Dr.below (Xmb hdr.o ⟨nq,rfl⟩)).mono B0.o.size)⟩
  ·obtain rfl:j=n:=by omega
   have NO:Hid (ids.contains x=false):=Hd (by have:=hg.o;rwa [List.take_of_length_le (by rw[HN.o];exact zL _)] at this)
   clear hg
   go_wp2_with fail
   go_ret
   exact⟨by rw[NO.o];rfl,B0.o.trans ((Dr.below hdr.o).mono B0.o.size)⟩
end Go.Proofs.YtjolcnopipbkhaaGreatDoor
