/- Plain functions on lists: what the reference's Decode computes, and that it is the same. -/
import Derived.Test.YtjolcnopipbkhaaGreatDoorVe16
namespace Go.Proofs.YtjolcnopipbkhaaGreatDoor
open Go.Proofs.Tryz
open Go.RowKit Go.Maps
set_option linter.unusedVariables false
set_option maxRecDepth 100000
set_option maxHeartbeats 100000000
def Xdr (s:Nat×Nat×List Nat)(t:Nat):Nat×Nat×List Nat:=if s.2.1+1=8 then(0,0,s.2.2++[2*s.1+t]) else(2*s.1+t,s.2.1+1,s.2.2)
def Xbz (s:Nat×Nat×List Nat)(g:Nat):Nat→Nat×Nat×List Nat
 |0=>s
 |j+1=>Xdr (Xbz s g j) (g/2^(5-j)%2)
theorem Xqo (b c t:Nat)(xs ys:List Nat):Xdr (b,c,xs++ys) t=((Xdr (b,c,ys) t).1,(Xdr (b,c,ys) t).2.1,xs++(Xdr (b,c,ys) t).2.2):=by unfold Xdr;split<;>simp_all
theorem Xss (b c g:Nat)(xs ys:List Nat)(j:Nat):Xbz (b,c,xs++ys) g j=((Xbz (b,c,ys) g j).1,(Xbz (b,c,ys) g j).2.1,xs++(Xbz (b,c,ys) g j).2.2):=by
 induction j with
 |zero=>rfl
 |succ j ih=>rw[Xbz,ih,Xqo];rfl
theorem Yod:∀c:Fin 4,∀b:Fin 64,b.val<2^(2*c.val)→∀g:Fin 64,Xbz (b.val,2*c.val,[]) g.val 6=Xbb (b.val,2*c.val,[]) g.val:=by decide+kernel
theorem Xsu {s:Nat×Nat×List Nat}{g:Nat}(hc:s.2.1<8)(hev:s.2.1%2=0)(hb:s.1<2^s.2.1)(hg:g<64):Xbz s g 6=Xbb s g:=by
 obtain⟨b,c,xs⟩:=s;simp only at hc hev hb;have f:Xbz (b,c,xs) g 6=Xbz (b,c,xs++[]) g 6:=by simp
 have h:Xbb (b,c,xs) g=Xb6 id 8 16 (b*2^6+g) (c+6) (xs++[]):=by simp[Xbb]
 have a:b<64:=Nat.lt_of_lt_of_le hb (by have:2^c≤2^6:=Nat.pow_le_pow_right (by omega) (by omega);omega);have e:c=2*(c/2):=by omega
 have d:=Yod ⟨c/2,by omega⟩ ⟨b,a⟩ (by simp only;rw[←e];exact hb) ⟨g,hg⟩;simp only[←e] at d;rw[f,h,Xss,Xqk,d];rfl
theorem Xst {s:Nat×Nat×List Nat}{g:Nat}(hc:s.2.1<8)(hb:s.1<2^s.2.1)(j:Nat):(Xbz s g j).2.1<8∧(Xbz s g j).1<2^(Xbz s g j).2.1∧(Xbz s g j).2.2.length≤s.2.2.length+j:=by
 induction j with
 |zero=>exact⟨hc,hb,by simp[Xbz]⟩
 |succ j ih=>
  rw[Xbz];generalize Xbz s g j=r at*;unfold Xdr;have a:g/2^(5-j)%2<2:=Nat.mod_lt _ (by omega);split;·simp;omega
  refine⟨by simp;omega,?_,by simp;omega⟩;simp only[Nat.pow_succ];omega
theorem Yfz (l:List Nat)(hl:∀x∈l,x<64):(Xei l).2.1%2=0:=by have:=(Xk6 l hl).2.2;omega
theorem Xkt (l:List Nat)(i:Nat)(hi:i<l.length):Xbq l≤i↔(l.length%4=0∧l.getD i 0=61∧(i=l.length-1∨(i=l.length-2∧l.getD (l.length-1) 0=61))):=by
 unfold Xbq;by_cases h4:l.length%4=0
 ·by_cases hl:l.getD (l.length-1) 0=61
  ·rw[qN (by omega)];by_cases h2:l.getD (l.length-2) 0=61
   ·rw[qP h2];constructor
    ·intro h;refine⟨h4,?_,by omega⟩;rcases(by omega:i=l.length-1∨i=l.length-2) with rfl|rfl;·exact hl
     exact h2
    rintro⟨_,_,h⟩;omega
   rw[qN h2];constructor
   ·intro h;obtain rfl:i=l.length-1:=by omega
    exact⟨h4,hl,.inl rfl⟩
   rintro⟨_,a,h⟩;rcases h with rfl|⟨rfl,_⟩;·omega
   exact absurd a h2
  rw[qP (.inr (.inr hl))];constructor;·intro h;omega
  rintro⟨_,a,h⟩;rcases h with rfl|⟨_,b⟩;·exact absurd a hl
  exact absurd b hl
 rw[qP (.inr (.inl h4))];constructor;·intro h;omega
 rintro⟨a,_⟩;omega
theorem Xxd (l:List Nat)(i:Nat)(hi:i<l.length)(h:Xbq l≤i):vOf (l.getD i 0)=none:=by rw[((Xkt l i hi).1 h).2.1];decide+kernel
theorem Ydf {c:Nat}(h:∀i,i<64→al i≠c):vOf c=none:=by unfold vOf;rw[List.find?_eq_none];intro i hi;simp at hi;simpa using h i hi
theorem Yde {c i:Nat}(hi:i<64)(h:al i=c):vOf c=some i:=by
 subst h;have:∀v:Fin 64,vOf (al v.val)=some v.val:=by decide+kernel
 exact this ⟨i,hi⟩
def Xq9 (c:Nat):Int:=match vOf c with|some v=>(v:Int)|none=>-1
theorem Xx1:alphS.size=64:=rfl
theorem Ygo:∀v:Fin 64,(bs alphS).getD v.val 0=al v.val:=by decide+kernel
theorem Ycr (j:Nat)(hlt:j<64)(w:World):(Instr.index 9 (.string alphS) (.int .i64 (j:Int))).run prog w=.ok (.int .u8 ((al j:Nat):Int)) w:=by rw[Xbj 9 underlying9 alphS .i64 (j:Int) j rfl (by rw[Xx1];exact hlt),Ygo ⟨j,hlt⟩]
theorem Xh3 (w:World)(c:Nat)(hc:c<256):Rx 258 #[.int .u8 (c:Int)] w (.int .i64 (Xq9 c)):=by
 go_enter func258,ntmps258;go_wp2_with fail;go_loopg [3] 64 (fun k i wr=>∃(j:Nat),w=wr∧j≤64∧k=64-j∧i=.int .i64 (j:Int)∧∀x,x<j→al x≠c);exact⟨0,rfl,by omega,by omega,rfl,fun x d=>by omega⟩;obtain⟨j,rfl,n,rfl,rfl,a⟩:=hrel;have l:=Hd a;clear a;by_cases hlt:j<64
 ·have d:=fun w=>Ycr j hlt w;unfold alphS at d;obtain⟨q,b⟩:=xq (al j);have f:q<256:=by rw[b];have:=Ygp j;omega
  rw[←b] at d;have g:=Hd b;clear b;by_cases he:q=c;·have e:((q:Int)==(c:Int))=true:=Xa8 (by omega);have m:=Hd he;clear he;go_wp2_with fail;go_ret;refine⟨?_,rfl⟩;unfold Xq9;rw[Yde hlt (by rw[←g.o];exact m.o)];rfl
  have e:((q:Int)==(c:Int))=false:=Xar (by omega);go_wp2_with fail;go_roundg (64-(j+1))
  ·refine⟨j+1,rfl,by omega,rfl,by go_num,fun x d=>?_⟩;rcases(by omega:x<j∨x=j) with h|rfl;·exact l.o x h
   rw[←g.o];exact he
  omega
 obtain rfl:j=64:=by omega
 go_wp2_with fail;go_ret;refine⟨?_,rfl⟩;unfold Xq9;rw[Ydf l.o];rfl
theorem Xpk (w:World)(s:ByteArray)(i:Nat)(hi:i<s.size)(hs:s.size≤1000000):Rx 259 #[.string s,.int .i64 (i:Int)] w (.bool (decide (Xbq (bs s)≤i))):=by
 have a:=Xkt (bs s) i (by rw[Xac];exact hi);rw[Xac] at a;obtain⟨e,c⟩:=xq ((bs s).getD i 0);obtain⟨f,d⟩:=xq ((bs s).getD (s.size-1) 0);have n:∀w,(Instr.index 9 (.string s) (.int .i64 (i:Int))).run prog w=.ok (.int .u8 (e:Int)) w:=fun w=>by rw[Xbj 9 underlying9 s .i64 (i:Int) i rfl hi,c]
 have o:∀w,(Instr.index 9 (.string s) (.int .i64 ((s.size:Int)-1))).run prog w=.ok (.int .u8 (f:Int)) w:=fun w=>by rw[Xbj 9 underlying9 s .i64 ((s.size:Int)-1) (s.size-1) (by omega) (by omega),d]
 rw[←c,←d] at a;clear c d;by_cases h4:s.size%4=0
 ·have m:((s.size:Int)%4 !=0)=false:=Xaw (by omega);by_cases h0:e=61
  ·have g:((e:Int) !=61)=false:=Xaw (by omega);by_cases h1:i=s.size-1
   ·have b:decide (Xbq (bs s)≤i)=true:=by rw[decide_eq_true_eq,a];exact⟨h4,h0,.inl h1⟩
    rw[b];have j:((i:Int)==(s.size:Int)-1)=true:=Xa8 (by omega);clear a b h0 h1;go_enter func259,ntmps259;go_wp2_with fail;go_ret;exact⟨rfl,rfl⟩
   have j:((i:Int)==(s.size:Int)-1)=false:=Xar (by omega);by_cases h2:i=s.size-2
   ·have k:((i:Int)==(s.size:Int)-2)=true:=Xa8 (by omega);by_cases h3:f=61
    ·have l:((f:Int)==61)=true:=Xa8 (by omega);have b:decide (Xbq (bs s)≤i)=true:=by rw[decide_eq_true_eq,a];exact⟨h4,h0,.inr ⟨h2,h3⟩⟩
     rw[b];clear a b h0 h1 h2 h3;go_enter func259,ntmps259;go_wp2_with fail;go_ret;exact⟨rfl,rfl⟩
    have l:((f:Int)==61)=false:=Xar (by omega);have b:decide (Xbq (bs s)≤i)=false:=by rw[decide_eq_false_iff_not,a];rintro⟨_,_,h|⟨_,h⟩⟩;exact h1 h;exact h3 h
    rw[b];clear a b h0 h1 h2 h3;go_enter func259,ntmps259;go_wp2_with fail;go_ret;exact⟨rfl,rfl⟩
   have k:((i:Int)==(s.size:Int)-2)=false:=Xar (by omega);have b:decide (Xbq (bs s)≤i)=false:=by rw[decide_eq_false_iff_not,a];rintro⟨_,_,h|⟨h,_⟩⟩;exact h1 h;exact h2 h
   rw[b];clear a b h0 h1 h2;go_enter func259,ntmps259;go_wp2_with fail;go_ret;exact⟨rfl,rfl⟩
  have g:((e:Int) !=61)=true:=Xaq (by omega);have b:decide (Xbq (bs s)≤i)=false:=by rw[decide_eq_false_iff_not,a];rintro⟨_,h,_⟩;exact h0 h
  rw[b];clear a b h0;go_enter func259,ntmps259;go_wp2_with fail;go_ret;exact⟨rfl,rfl⟩
 have m:((s.size:Int)%4 !=0)=true:=Xaq (by omega);have b:decide (Xbq (bs s)≤i)=false:=by rw[decide_eq_false_iff_not,a];rintro⟨h,_⟩;exact h4 h
 rw[b];clear a b;go_enter func259,ntmps259;go_wp2_with fail;go_ret;exact⟨rfl,rfl⟩
theorem Xoj (q:Nat)(h:q<256):bits .and .i64 (q:Int) 1=((q%2:Nat):Int):=by
 have:∀q:Fin 256,bits .and .i64 ((q.val:Nat):Int) 1=((q.val%2:Nat):Int):=by decide+kernel
 exact this ⟨q,h⟩
def Yhg (j:Nat):Nat:=j-1
theorem Xvp {c v:Nat}(h:vOf c=some v):Xq9 c=(v:Int):=by unfold Xq9;rw[h]
theorem Xvq {c:Nat}(h:vOf c=none):Xq9 c=-1:=by unfold Xq9;rw[h]
theorem Xnq (s:ByteArray)(w:World)(hl:s.size≤174764):Calls prog 224 #[.string s] w (Xor w (Xcu (bs s))):=by
 obtain⟨i0,aG,aI,aJ,aK⟩:=info_parts Xgl;obtain⟨n,hn⟩:=xq (Xbq (bs s));have aT:n≤s.size:=by rw[hn,←Xac];exact Xjo _
 have W:=Hd hn;clear hn;go_enter func224,ntmps224;go_wp2_with fail;go_loopg [5,6,7,8,9] s.size (fun k o v h la i wr=>∃(d j b c:Nat) (xs vs:List Nat),d≤s.size∧j=min d n∧k=s.size-d∧i=.int .i64 (d:Int)∧v=.int .i64 (b:Int)∧h=.int .i64 (c:Int)∧la=.int .i64 ((Yhg j:Nat):Int)∧Xjb ((bs s).take j)=some vs∧Xei vs=(b,c,xs)∧wr.ownsRow w.heap.size 5 1 o xs.length (xs.map U)∧Bw w wr);exact⟨0,0,0,0,[],[],by omega,by omega,by omega,rfl,rfl,rfl,rfl,Xtg,rfl,World.ownsRow_nil _ _ _ _,zR _ _⟩;obtain⟨d,j,b,c,xs,vs,aS,hj,rfl,rfl,rfl,rfl,rfl,R,O,a,r⟩:=hrel;have hvl:=Xq8 R;have C:=Xk6 vs hvl.1;have F:=Yfz vs hvl.1;rw[O] at C F;obtain⟨v1,v2⟩:=hvl;obtain⟨i1,i2,i3⟩:=C;simp only[List.length_take,Xac] at v2;simp only at i1 i2 i3 F;have hxl:xs.length≤900000:=by omega
 have VS:=Hd R;have ST:=Hd O;have OW:=Hd a;have S:=Hd r;have I2:=Hd i2;have V1:=Hd v1;have Z:=Hd hj;have I3:=Hd i3;have V2:=Hd v2;obtain⟨ao,co,rfl⟩:=Xer a;clear R O a r i2 v1 hj i3 v2;by_cases hlt:d<s.size
 ·have y:d<(bs s).length:=by rw[Xac];exact hlt
  obtain⟨g,B⟩:=xq ((bs s)[d]);have G:g<256:=by rw[B];exact Xhs s _ (zG y)
  have H:(bs s).getD d 0=g:=by rw[B,List.getD_eq_getElem?_getD,List.getElem?_eq_getElem y,Option.getD_some]
  have hx:∀w,(Instr.index 9 (.string s) (.int .i64 (d:Int))).run prog w=.ok (.int .u8 (g:Int)) w:=fun w=>by rw[Xbj 9 underlying9 s .i64 (d:Int) d rfl hlt,H]
  have IP:=Hd (Xpk wr s d hlt (by omega));have V:=Hd B;have GD:=Hd H;clear B H
  cases hv:vOf g with
  |none=>
   have p:=Xvq hv;have HV:=Hd hv;clear hv;by_cases hp:n≤d
   ·have M:decide (Xbq (bs s)≤d)=true:=by rw[←W.o];simpa using hp
    rw[M] at IP;go_wp2_with (first|(go_at_call 258;refine(Xh3 _ _ G).mono ?_;rintro e w' ⟨rfl,rfl⟩;rw[p])|(go_at_call 259;refine IP.o.mono ?_;rintro e w' ⟨rfl,rfl⟩))
    go_roundg (s.size-(d+1));exact⟨d+1,j,b,c,xs,vs,by omega,by have:=Z.o;omega,rfl,by go_num,rfl,rfl,rfl,VS.o,ST.o,OW.o,S.o⟩;omega
   have M:decide (Xbq (bs s)≤d)=false:=by rw[←W.o];simpa using hp
   rw[M] at IP;go_wp2_with (first|(go_at_call 258;refine(Xh3 _ _ G).mono ?_;rintro e w' ⟨rfl,rfl⟩;rw[p])|(go_at_call 259;refine IP.o.mono ?_;rintro e w' ⟨rfl,rfl⟩))
   go_ret3;have J:j=d:=by have:=Z.o;omega
   subst J;have hd:=Xu7 VS.o (by rw[←W.o];omega) y (by rw[←V.o];exact HV.o) (by rw[Xac];omega);rw[hd];exact⟨_,rfl,World.ownsRow_nil _ _ _ _,S.o⟩
  |some v=>
   have Y:=Xyb hv;have p:=Xvp hv;have hp:d<n:=by
    rcases Nat.lt_or_ge d n with h|h;·exact h
    have:=Xxd (bs s) d y (by rw[←W.o];exact h);rw[GD.o,hv] at this;cases this
   have HV:=Hd hv;clear hv;have J:j=d:=by have:=Z.o;omega
   subst J;go_wp2_with (first|(go_at_call 258;refine(Xh3 _ _ G).mono ?_;rintro e w' ⟨rfl,rfl⟩;rw[p]))
   go_loopg [5,6,7,11] 6 (fun k o v' h i wr=>∃(m A u:Nat) (ys:List Nat),m≤6∧k=6-m∧i=.int .i64 (5-(m:Int))∧v'=.int .i64 (A:Int)∧h=.int .i64 (u:Int)∧Xbz (b,c,xs) v m=(A,u,ys)∧wr.ownsRow w.heap.size 5 1 o ys.length (ys.map U)∧Bw w wr);exact⟨0,b,c,xs,by omega,by omega,rfl,rfl,rfl,rfl,OW.o,S.o⟩;obtain⟨m,A,u,ys,hm,rfl,rfl,rfl,rfl,x,a,r⟩:=hrel;have f:=Xst (s:=(b,c,xs)) (g:=v) i1 I2.o m;rw[x] at f;simp only at f;have aW:ys.length≤900006:=by omega
   obtain⟨aA,aB,rfl⟩:=Xer a;have D:=Hd r;have X:w.heap.size≤wr.heap.size:=r.size;by_cases hm6:m<6
   ·obtain⟨k,hk⟩:=xq (5-m);obtain⟨q,hq⟩:=xq (v/2^k);obtain⟨t,P⟩:=xq (q%2);have N:q<256:=by rw[hq];exact Nat.lt_of_le_of_lt (Nat.div_le_self _ _) (by omega)
    have ek:(5:Int)-(m:Int)=(k:Int):=by omega
    have e1:(v:Int)/2^k=(q:Int):=by rw[hq];push_cast;rfl
    have e2:Go.bits .and .i64 (q:Int) 1=(t:Int):=by rw[P];exact Xoj q N
    have aU:t<2:=by omega
    have aP:A<256:=Nat.lt_of_lt_of_le f.2.1 (by have:2^u≤2^8:=Nat.pow_le_pow_right (by omega) (by omega);omega);have BR:=Hd x;have K:=Hd hk;have Q:=Hd hq;have T:=Hd P;have BI:=Hd f;have aR:u<8:=f.1;clear x hk hq P f r;by_cases h8:u+1=8
    ·have aD:((u:Int)+1==8)=true:=Xa8 (by omega);have aV:2*A+t<256:=by
      have:=BI.o.2.1;obtain rfl:u=7:=by omega
      omega
     obtain⟨z,hz⟩:=xq (2*A+t);have ez:2*(A:Int)+(t:Int)=(z:Int):=by omega
     have aL:z<256:=by omega
     have HZ:=Hd hz;clear hz;go_wp2_with ((at_builtin;refine wpList_append_lies _ rfl _ _ _ rfl w.heap.size 5 i0 _ 1 1 underlying82 aG aI aJ aK rfl (by omega) (.slice aA ys.length aB) ys.length (ys.map U) rfl (a.alloc _) ⟨wr.heap.size,0,none⟩ 1 1 [.int .u8 z] rfl rfl (World.news_of_block (cs:=#[.int .u8 z]) (t:=5) (fr:=(0,0)) (zN wr _)) (by simp[Value.oneCell']) (by omega) (by unfold maxLen;omega) (by omega) (by simp;omega) (wr.heap.size+1) (by simp) ?_;intro gg aM w1 L I aO aN))
     go_roundg (6-(m+1))
     ·refine⟨m+1,0,0,ys++[z],by omega,rfl,by go_num,rfl,rfl,?_,?_,?_⟩;·rw[Xbz,BR.o,Xdr,qP h8,←K.o,←Q.o,←T.o,HZ.o]
      ·rw[List.length_append,List.map_append];exact L
      exact(D.o.alloc X _).grown I (by simp;omega) (fun j hj=>(a.lt j hj).1)
     omega
    have aD:((u:Int)+1==8)=false:=Xar (by omega);go_wp2_with fail;go_roundg (6-(m+1));·refine⟨m+1,2*A+t,u+1,ys,by omega,rfl,by go_num,by go_num,by go_num,?_,a,D.o⟩;rw[Xbz,BR.o,Xdr,qN h8,←K.o,←Q.o,←T.o]
    omega
   obtain rfl:m=6:=by omega
   have E:=Xsu (s:=(b,c,xs)) (g:=v) i1 F I2.o Y;rw[x] at E;have BE:=Hd E;clear E x f;go_wp2_with fail;go_roundg (s.size-(j+1))
   ·refine⟨j+1,j+1,A,u,ys,vs++[v],by omega,by omega,rfl,by go_num,rfl,rfl,by simp[Yhg],?_,?_,a,D.o⟩;·rw[List.take_succ_eq_append_getElem y];exact Xoy VS.o (by rw[←V.o];exact HV.o)
    rw[Xmt,ST.o,BE.o]
   omega
 have aH:j=n:=by have:=Z.o;omega
 subst aH;have G:=Xk7 (l:=bs s) (by rw[←W.o];exact VS.o) (by rw[Xac];exact hl);rw[ST.o,Xac,←W.o] at G;have aQ:Hid (j=0→b=0):=fun h=>by
  have h2:=V2.o;have h3:=I3.o;have aF:c=0:=by omega
  have:=I2.o;rw[aF] at this;simpa using this
 have V:=Hd G;clear G;by_cases h4:s.size%4=0
 ·have aC:((s.size:Int)%4 !=0)=false:=Xaw (by omega);by_cases hb0:b=0;·have aE:((b:Int) !=0)=false:=Xaw (by omega);go_wp2_with fail;go_ret3;rw[V.o,qN (by omega),qN (by simpa using hb0)];exact⟨_,rfl,OW.o,S.o⟩
  have aE:((b:Int) !=0)=true:=Xaq (by omega);go_wp2_with fail;go_ret3;rw[V.o,qN (by omega),qP (by simpa using hb0)];exact⟨_,rfl,World.ownsRow_nil _ _ _ _,S.o⟩
 have aC:((s.size:Int)%4 !=0)=true:=Xaq (by omega);go_wp2_with fail;go_ret3;rw[V.o,qP h4];exact⟨_,rfl,World.ownsRow_nil _ _ _ _,S.o⟩
theorem Xzc (w:World)(a:Option Addr)(cap:Nat)(ids:List (List Nat))(h0:0<ids.length)(hn:ids.length≤1000000)(hA:Yky w a ids)(hok:∀x∈ids,AuOk x):Rz 171 #[.slice a ids.length cap] w (.int .i64 ((if 8<ids.length then 9 else if Xmp ids=false then 30 else 0:Nat):Int)):=by
 have C:=Hd (Xzf w a cap ids hn hA hok);obtain⟨n,d⟩:=xq ids.length;rw[←d] at hn C h0⊢;obtain⟨b,f⟩:=xq (Xmp ids);rw[←f] at C⊢;clear hA hok d f;have h:((n:Int)==0)=false:=Xar (by omega);by_cases h8:8<n;·rw[qP h8];go_enter func171,ntmps171;go_wp2_with fail;go_ret;exact⟨rfl,Dr.refl _⟩
 rw[qN h8]
 cases b with
 |true=>go_enter func171,ntmps171;go_wp2_with fail;refine C.o.mono ?_;rintro e g ⟨rfl,c⟩;have D:=Hd c;clear c C;go_wp2_with fail;go_ret;exact⟨rfl,D.o⟩
 |false=>go_enter func171,ntmps171;go_wp2_with fail;refine C.o.mono ?_;rintro e g ⟨rfl,c⟩;have D:=Hd c;clear c C;go_wp2_with fail;go_ret;exact⟨rfl,D.o⟩
def Xi7 (k:Nat):ByteArray:=Xax (if k=1 then Xig else if k=2 then Xf6 else if k=3 then Xif else if k=4 then Xie else Xml)
theorem Xrk (w:World)(k:Nat)(h1:1≤k)(h5:k≤5):zJ 120 #[.int .i64 (k:Int)] w (.string (Xi7 k)):=by
 have a:Xi7 1=⟨#[99,97,110,99,101,108]⟩:=by decide
 have b:Xi7 2=⟨#[97,112,112,114,111,118,101]⟩:=by decide
 have c:Xi7 3=⟨#[100,101,102,105,110,101]⟩:=by decide
 have d:Xi7 4=⟨#[114,101,109,111,118,101]⟩:=by decide
 have e:Xi7 5=⟨#[114,101,107,101,121]⟩:=by decide
 rcases(by omega:k=1∨k=2∨k=3∨k=4∨k=5) with rfl|rfl|rfl|rfl|rfl
 all_goals
  first|rw[a]|rw[b]|rw[c]|rw[d]|rw[e]
  clear a b c d e;go_enter func120,ntmps120;go_wp2_with fail;go_ret;exact⟨rfl,by first|exact(zR _ _).alloc (zL _) _|exact(zR _ _).drew.alloc (zL _) _⟩
theorem Xgh {P:Program}{fn:Func}{p u v:Tmp}{ty:TypeId}(h:fn.results=#[.tmp u,.cell p ty,.tmp v])(tmps:Array Value)(w:World)(g:Nat)(t:TypeId)(cs:Array Value)(fr:Nat×Nat)(d:TypeDesc) (hp:tmps.getD p undef=.pointer (some ⟨g,0,none⟩)) (hg:w.heap[g]?=some (.cells cs t fr)) (hu:P.underlying ty=some d) (hd:(match d with|.struct _|.array _ _=>true|_=>false)=true) (hi:(P.info? ty).map (·.size)=some cs.size):(results fn tmps).run P w=.ok (.tuple #[tmps.getD u undef,.agg cs,tmps.getD v undef]) w:=by
 have a:tmps[p]?.getD undef=.pointer (some ⟨g,0,none⟩):=by simpa using hp
 simp[results,h,a,asAddr,run_loadVar_row w g t ty cs fr d hg hu hd hi]
def Xf0 (l:List Nat)(w:World)(e:Ending)(w':World):Prop:=
 ∃(h:Int) (cs:Array Value),e=.returned (.tuple #[.int .i64 h,.agg cs,.int .i64 ((Xhf l:Nat):Int)])∧Cl 16 cs∧Bw w w'
theorem Xqt {n:Nat}{cs:Array Value}(h:Cl n cs)(j:Nat){u:Value}(hu:u.oneCell'=true):Cl n (cs.setIfInBounds j u):=by
 obtain⟨c,a⟩:=h;refine⟨by simpa using c,?_⟩;rw[Array.all_eq_true'] at a⊢;intro x b;rw[Array.mem_iff_getElem] at b;obtain⟨i,hi,rfl⟩:=b;rw[Array.getElem_setIfInBounds (by simpa using hi)];split;·exact hu
 exact a _ (Array.getElem_mem _)
theorem Xy8 (s:ByteArray)(w:World)(hs:s.size≤100000):Calls prog 172 #[.string s] w (Xf0 (bs s) w):=by
 obtain⟨d,aB⟩:=xq (idA Xel);have aL:=Hd aB;have y:Hid (Cl 16 d):=Hd (by rw[aB];exact Xsz Xha);obtain⟨w0,Q⟩:=xq ((w.alloc (.cells d 22)).alloc (.cells d 22));have X:Hid ((w.alloc (.cells #[.int .u8 0,.int .u8 0,.int .u8 0,.int .u8 0,.int .u8 0,.int .u8 0,.int .u8 0,.int .u8 0,.int .u8 0,.int .u8 0,.int .u8 0,.int .u8 0,.int .u8 0,.int .u8 0,.int .u8 0,.int .u8 0] 22)).alloc (.cells #[.int .u8 0,.int .u8 0,.int .u8 0,.int .u8 0,.int .u8 0,.int .u8 0,.int .u8 0,.int .u8 0,.int .u8 0,.int .u8 0,.int .u8 0,.int .u8 0,.int .u8 0,.int .u8 0,.int .u8 0,.int .u8 0] 22)=w0):=Hd (by rw[Q,aB];rfl);have R0:w0.heap[w.heap.size]?=some (.cells d 22 (0,0)):=by rw[Q];exact Xad (heap_alloc_last w _)
 have L0:w0.heap[w.heap.size+1]?=some (.cells d 22 (0,0)):=by rw[Q];have:=heap_alloc_last (w.alloc (.cells d 22)) (.cells d 22);rw[World.size_alloc] at this;exact this
 have B0:Bw w w0:=by rw[Q];exact((zR _ _).alloc (zL _) _).alloc (by simp) _
 have S0:w0.heap.size=w.heap.size+2:=by rw[Q,World.size_alloc,World.size_alloc]
 have r:Hid (∀(w4:World) (cs:Array Value),Cl 16 cs→w4.heap[w.heap.size]?=some (.cells d 22 (0,0))→Bw w w4→
     Sv 22 ⟨w.heap.size,0,none⟩ (.agg cs) w4 (w4.setRow w.heap.size cs)∧
     (∀tmps:Array Value,tmps.getD 3 undef=.pointer (some ⟨w.heap.size,0,none⟩)→(results Tryz.f172 tmps).run prog (w4.setRow w.heap.size cs)=.ok (.tuple #[tmps.getD 2 undef,.agg cs,tmps.getD 4 undef]) (w4.setRow w.heap.size cs))∧
     Bw w (w4.setRow w.heap.size cs)):=Hd (fun w4 cs C hg hb=>
  ⟨run_storeVar_row (P:=prog) w4 w.heap.size _ 22 d cs hg (by rw[C.1];exact Xck) (by rw[C.1,y.o.1]) C.2,
   fun tmps h2=>Xgh results172 tmps _ w.heap.size _ _ _ _ h2 (setRow_heap w4 w.heap.size d cs _ _ hg) underlying22 rfl (by rw[C.1];exact Xck),
   below_setRow hb (zL _) cs⟩)
 obtain⟨xs,Z⟩:=xq ((Xcu (bs s)).1);obtain⟨er,aD⟩:=xq ((Xcu (bs s)).2.2);obtain⟨m,hm⟩:=xq xs.length;obtain⟨R,hR⟩:=xq (Xhf (bs s));have PF:Hid (R=if er≠0 then er else if m<17 then 4 else if 17<m then 5 else if xs.getD 0 0<1∨8<xs.getD 0 0 then 2 else 0):=Hd (by rw[hR,hm,Z,aD];rfl);have N:Hid (∀(h:Int) cs w',Cl 16 cs→Bw w w'→Xf0 (bs s) w (.returned (.tuple #[.int .i64 h,.agg cs,.int .i64 (R:Int)])) w'):=Hd (fun h cs w' E hb=>⟨h,cs,by rw[hR],E,hb⟩);have aP:m≤s.size:=by rw[hm,Z,←Xac s];exact Xu6 _
 have D:=Hd (Xnq s w0 (by omega));have aI:Hid (xs=(Xcu (bs s)).1):=Hd Z;have HM:=Hd hm;have aH:=Hd aD;have aE:=Hd B0;have aG:=Hd R0;have aF:=Hd L0;have W:=Hd S0;have aJ:Hid (∀x∈xs,x<256):=Hd (by
  rw[Z];by_cases h:(Xcu (bs s)).2.2=0;·exact(Xn9 _ h).2
  rw[Xfx _ h];intro x hx;cases hx)
 clear Z aD hm hR Q R0 L0 B0 aB S0;go_enter func172,ntmps172;go_upto_region 2 with fail;rw[X.o];clear X;go_wp2_with fail;refine D.o.mono ?_;rintro e w1 ⟨v,rfl,L,aA⟩;rw[←aI.o,←HM.o] at L;rw[←aH.o];have V:=Hd L;have R1:Hid (w1.heap[w.heap.size]?=some (.cells d 22 (0,0))):=Hd ((aA.block w.heap.size (by rw[W.o];omega)).trans aG.o);have L1:Hid (w1.heap[w.heap.size+1]?=some (.cells d 22 (0,0))):=Hd ((aA.block (w.heap.size+1) (by rw[W.o];omega)).trans aF.o);have B1:Hid (Bw w w1):=Hd (aE.o.trans (aA.mono (by rw[W.o];omega)));obtain⟨a,cap,hv⟩:∃a cap,v=.slice a m cap:=by
  rcases L.2 with⟨h1,h0⟩|⟨g,cap,cur,h1,_⟩;·exact⟨none,0,by rw[h1,h0]⟩
  exact⟨_,_,h1⟩
 subst hv;have LZ:Hid (∀wx:World,wx.heap[w.heap.size+1]?=some (.cells d 22 (0,0))→Ld 22 ⟨w.heap.size+1,0,none⟩ wx (.agg d)):=Hd (fun wx h=>Xap wx (w.heap.size+1) 16 _ _ d _ _ h rfl underlying22 Xck y.o.1);have O:Hid (∀(wx:World) (cs:Array Value),(wx.setRow w.heap.size cs).heap[w.heap.size+1]?=wx.heap[w.heap.size+1]?):=Hd (fun wx cs=>setRow_other wx _ _ cs (by omega));clear D L aA aG aF aE;by_cases e0:er=0
 ·have q0:((er:Int) !=0)=false:=Xaw (by omega);by_cases h17:m<17
  ·have F:=Hd (show R=4 by rw[PF.o,qN (by omega),qP h17]);have T:Hid (∀(h:Int) (cs:Array Value) w',Cl 16 cs→Bw w w'→Xf0 (bs s) w (.returned (.tuple #[.int .i64 h,.agg cs,.int .i64 4])) w'):=Hd (fun h cs w' E hb=>by have:=N.o h cs w' E hb;rw[F.o] at this;exact this);go_upto_region 6 with fail;obtain⟨f,b⟩:=xq w1.drew;have q:(fun wx:World=>wx.heap[w.heap.size+1]?=some (.cells d 22 (0,0))) f:=by rw[b];exact L1.o
   have G:f.heap[w.heap.size]?=some (.cells d 22 (0,0)):=by rw[b];exact R1.o
   have BD:Bw w f:=by rw[b];exact B1.o.drew
   obtain⟨H,n,B⟩:=r.o f d y.o G BD;have l:(fun wx:World=>wx.heap[w.heap.size+1]?=some (.cells d 22 (0,0))) (f.setRow w.heap.size d):=(O.o f d).trans q;have n:=Hd n;have B:=Hd B;refine wp_region_held (S:=fun wx:World=>wx.heap[w.heap.size+1]?=some (.cells d 22 (0,0))) (by kernel_rfl) ?_;change wpAnyH _ _ _ _ _ _ _ _ w1.drew;rw[←b];clear b r;refine Xae 0 (.agg d) rfl (fun w' hw'=>Xaj (ty:=22) (x:=.tmp 5) (ad:=⟨w.heap.size+1,0,none⟩) rfl (by kernel_rfl) (LZ.o w' hw')) q ?_;refine Xa6 (i:=1) (v:=.int .i64 0) (by kernel_rfl) rfl rfl (Xal rfl (by kernel_rfl)) q ?_;refine Xbe (i:=2) (by kernel_rfl) rfl rfl (Xak (t:=22) (ad:=⟨w.heap.size,0,none⟩) (u:=.agg d) rfl (by kernel_rfl) (by kernel_rfl) H) l ?_;refine Xa6 (i:=3) (v:=.int .i64 4) (by kernel_rfl) rfl rfl (Xal rfl (by kernel_rfl)) l ?_;refine wpAnyH_done (by kernel_rfl) ?_ _;clear q l H G BD;go_simp;refine‹∀(a:Act) (w_1:World),_→_› _ _ ?_;go_wp2_with fail;exact zP (n.o _ rfl) rfl (T.o _ _ _ y.o B.o)
  by_cases h18:17<m
  ·have F:=Hd (show R=5 by rw[PF.o,qN (by omega),qN h17,qP h18]);have T:Hid (∀(h:Int) (cs:Array Value) w',Cl 16 cs→Bw w w'→Xf0 (bs s) w (.returned (.tuple #[.int .i64 h,.agg cs,.int .i64 5])) w'):=Hd (fun h cs w' E hb=>by have:=N.o h cs w' E hb;rw[F.o] at this;exact this);go_upto_region 8 with fail;obtain⟨f,b⟩:=xq w1.drew;have q:(fun wx:World=>wx.heap[w.heap.size+1]?=some (.cells d 22 (0,0))) f:=by rw[b];exact L1.o
   have G:f.heap[w.heap.size]?=some (.cells d 22 (0,0)):=by rw[b];exact R1.o
   have BD:Bw w f:=by rw[b];exact B1.o.drew
   obtain⟨H,n,B⟩:=r.o f d y.o G BD;have l:(fun wx:World=>wx.heap[w.heap.size+1]?=some (.cells d 22 (0,0))) (f.setRow w.heap.size d):=(O.o f d).trans q;have n:=Hd n;have B:=Hd B;refine wp_region_held (S:=fun wx:World=>wx.heap[w.heap.size+1]?=some (.cells d 22 (0,0))) (by kernel_rfl) ?_;change wpAnyH _ _ _ _ _ _ _ _ w1.drew;rw[←b];clear b r;refine Xae 0 (.agg d) rfl (fun w' hw'=>Xaj (ty:=22) (x:=.tmp 5) (ad:=⟨w.heap.size+1,0,none⟩) rfl (by kernel_rfl) (LZ.o w' hw')) q ?_;refine Xa6 (i:=1) (v:=.int .i64 0) (by kernel_rfl) rfl rfl (Xal rfl (by kernel_rfl)) q ?_;refine Xbe (i:=2) (by kernel_rfl) rfl rfl (Xak (t:=22) (ad:=⟨w.heap.size,0,none⟩) (u:=.agg d) rfl (by kernel_rfl) (by kernel_rfl) H) l ?_;refine Xa6 (i:=3) (v:=.int .i64 5) (by kernel_rfl) rfl rfl (Xal rfl (by kernel_rfl)) l ?_;refine wpAnyH_done (by kernel_rfl) ?_ _;clear q l H G BD;go_simp;refine‹∀(a:Act) (w_1:World),_→_› _ _ ?_;go_wp2_with fail;exact zP (n.o _ rfl) rfl (T.o _ _ _ y.o B.o)
  obtain rfl:m=17:=by omega
  obtain⟨g,aK,hg⟩:=ownsRow_succ V.o;cases hg;have aO:w0.heap.size≤g:=(V.o.lt g rfl).1;have J:Hid (∀j,j<17→w1.cell? ⟨g,j,none⟩=some (U (xs.getD j 0))):=Hd (fun j hj=>by
   rw[V.o.cellAt j hj,List.getElem?_map];have hl:j<xs.length:=by rw[←HM.o];exact hj
   rw[List.getElem?_eq_getElem hl];simp[List.getD,hl])
  obtain⟨c,E⟩:=xq (xs.getD 0 0);have c0:w1.cell? ⟨g,0,none⟩=some (.int .u8 (c:Int)):=by rw[J.o 0 (by omega),E];rfl
  have aM:c<256:=by
   rw[E];have hl:0<xs.length:=by rw[←HM.o];omega
   have:=aJ.o (xs[0]) (zG hl);simpa [List.getD,hl] using this
  have PG:Hid (R=if c<1∨8<c then 2 else 0):=Hd (by rw[PF.o,qN (by omega),qN h17,qN h18,E]);clear E PF;rcases(by omega:c<1∨8<c∨(1≤c∧c≤8)) with h|h|⟨h,h2⟩
  ·have F:=Hd (show R=2 by rw[PG.o,qP (.inl h)]);have T:Hid (∀(h:Int) (cs:Array Value) w',Cl 16 cs→Bw w w'→Xf0 (bs s) w (.returned (.tuple #[.int .i64 h,.agg cs,.int .i64 2])) w'):=Hd (fun h cs w' E hb=>by have:=N.o h cs w' E hb;rw[F.o] at this;exact this);go_upto_region 10 with fail;obtain⟨f,b⟩:=xq w1.drew;have q:(fun wx:World=>wx.heap[w.heap.size+1]?=some (.cells d 22 (0,0))) f:=by rw[b];exact L1.o
   have G:f.heap[w.heap.size]?=some (.cells d 22 (0,0)):=by rw[b];exact R1.o
   have BD:Bw w f:=by rw[b];exact B1.o.drew
   obtain⟨H,n,B⟩:=r.o f d y.o G BD;have l:(fun wx:World=>wx.heap[w.heap.size+1]?=some (.cells d 22 (0,0))) (f.setRow w.heap.size d):=(O.o f d).trans q;have n:=Hd n;have B:=Hd B;refine wp_region_held (S:=fun wx:World=>wx.heap[w.heap.size+1]?=some (.cells d 22 (0,0))) (by kernel_rfl) ?_;change wpAnyH _ _ _ _ _ _ _ _ w1.drew;rw[←b];clear b r;refine Xae 0 (.agg d) rfl (fun w' hw'=>Xaj (ty:=22) (x:=.tmp 5) (ad:=⟨w.heap.size+1,0,none⟩) rfl (by kernel_rfl) (LZ.o w' hw')) q ?_;refine Xa6 (i:=1) (v:=.int .i64 0) (by kernel_rfl) rfl rfl (Xal rfl (by kernel_rfl)) q ?_;refine Xbe (i:=2) (by kernel_rfl) rfl rfl (Xak (t:=22) (ad:=⟨w.heap.size,0,none⟩) (u:=.agg d) rfl (by kernel_rfl) (by kernel_rfl) H) l ?_;refine Xa6 (i:=3) (v:=.int .i64 2) (by kernel_rfl) rfl rfl (Xal rfl (by kernel_rfl)) l ?_;refine wpAnyH_done (by kernel_rfl) ?_ _;clear q l H G BD;go_simp;refine‹∀(a:Act) (w_1:World),_→_› _ _ ?_;go_wp2_with fail;exact zP (n.o _ rfl) rfl (T.o _ _ _ y.o B.o)
  ·have F:=Hd (show R=2 by rw[PG.o,qP (.inr h)]);have T:Hid (∀(h:Int) (cs:Array Value) w',Cl 16 cs→Bw w w'→Xf0 (bs s) w (.returned (.tuple #[.int .i64 h,.agg cs,.int .i64 2])) w'):=Hd (fun h cs w' E hb=>by have:=N.o h cs w' E hb;rw[F.o] at this;exact this);go_upto_region 10 with fail;obtain⟨f,b⟩:=xq w1.drew;have q:(fun wx:World=>wx.heap[w.heap.size+1]?=some (.cells d 22 (0,0))) f:=by rw[b];exact L1.o
   have G:f.heap[w.heap.size]?=some (.cells d 22 (0,0)):=by rw[b];exact R1.o
   have BD:Bw w f:=by rw[b];exact B1.o.drew
   obtain⟨H,n,B⟩:=r.o f d y.o G BD;have l:(fun wx:World=>wx.heap[w.heap.size+1]?=some (.cells d 22 (0,0))) (f.setRow w.heap.size d):=(O.o f d).trans q;have n:=Hd n;have B:=Hd B;refine wp_region_held (S:=fun wx:World=>wx.heap[w.heap.size+1]?=some (.cells d 22 (0,0))) (by kernel_rfl) ?_;change wpAnyH _ _ _ _ _ _ _ _ w1.drew;rw[←b];clear b r;refine Xae 0 (.agg d) rfl (fun w' hw'=>Xaj (ty:=22) (x:=.tmp 5) (ad:=⟨w.heap.size+1,0,none⟩) rfl (by kernel_rfl) (LZ.o w' hw')) q ?_;refine Xa6 (i:=1) (v:=.int .i64 0) (by kernel_rfl) rfl rfl (Xal rfl (by kernel_rfl)) q ?_;refine Xbe (i:=2) (by kernel_rfl) rfl rfl (Xak (t:=22) (ad:=⟨w.heap.size,0,none⟩) (u:=.agg d) rfl (by kernel_rfl) (by kernel_rfl) H) l ?_;refine Xa6 (i:=3) (v:=.int .i64 2) (by kernel_rfl) rfl rfl (Xal rfl (by kernel_rfl)) l ?_;refine wpAnyH_done (by kernel_rfl) ?_ _;clear q l H G BD;go_simp;refine‹∀(a:Act) (w_1:World),_→_› _ _ ?_;go_wp2_with fail;exact zP (n.o _ rfl) rfl (T.o _ _ _ y.o B.o)
  have F:=Hd (show R=0 by rw[PG.o,qN (by omega)]);have T:Hid (∀(h:Int) (cs:Array Value) w',Cl 16 cs→Bw w w'→Xf0 (bs s) w (.returned (.tuple #[.int .i64 h,.agg cs,.int .i64 0])) w'):=Hd (fun h cs w' E hb=>by have:=N.o h cs w' E hb;rw[F.o] at this;exact this);clear LZ PG;go_wp2_with fail;go_loopg [9] 16 (fun k i wr=>∃j:Nat,j≤16∧k=16-j∧i=.int .i64 (j:Int)∧Hid (∃cs,wr.heap[w.heap.size+1]?=some (.cells cs 22 (0,0))∧Cl 16 cs)∧Hid (wr.heap[w.heap.size]?=some (.cells d 22 (0,0)))∧Hid (wr.heap[g]?=w1.heap[g]?)∧Hid (Bw w wr));exact⟨0,by omega,rfl,rfl,Hd ⟨d,L1.o,y.o⟩,R1,Hd rfl,B1⟩;obtain⟨j,hj,rfl,rfl,aC,M,Y,K⟩:=hrel;obtain⟨I,A,C⟩:=aC.o;by_cases hlt:j<16
  ·obtain⟨z,hz⟩:=xq (xs.getD (j+1) 0);have cz:wr.cell? ⟨g,j+1,none⟩=some (.int .u8 (z:Int)):=by
    have h:=J.o (j+1) (by omega);rw[←hz] at h;have e:wr.cell? ⟨g,j+1,none⟩=w1.cell? ⟨g,j+1,none⟩:=by unfold World.cell?;simp only[Y.o]
    exact e.trans h
   obtain⟨u,hu⟩:∃u,wr.cell? ⟨w.heap.size+1,j,none⟩=some u:=⟨I[j]'(by rw[C.1];omega),by rw[cell_of_row wr _ j _ _ _ A];simp[C.1,hlt]⟩
   have aN:wr.frozen? ⟨w.heap.size+1,j,none⟩=false:=by simp[World.frozen?,A]
   have k0:(0:Int)≤(j:Int):=by omega
   have k1:(j:Int)<16:=by omega
   have k2:(0:Int)≤(j:Int)+1:=by omega
   have k3:(j:Int)+1<17:=by omega
   have v0:IntKind.i64.wrap (j:Int)=(j:Int):=IntWalk.i64_in _ (by omega);have v1:IntKind.i64.wrap ((j:Int)+1)=(j:Int)+1:=IntWalk.i64_in _ (by omega);have C2:Hid (∃cs,(wr.setCell ⟨w.heap.size+1,j,none⟩ (.int .u8 (z:Int))).heap[w.heap.size+1]?=some (.cells cs 22 (0,0))∧Cl 16 cs):=Hd ⟨_,Xez A j _,Xqt C j rfl⟩;have R2:Hid ((wr.setCell ⟨w.heap.size+1,j,none⟩ (.int .u8 (z:Int))).heap[w.heap.size]?=some (.cells d 22 (0,0))):=Hd (by rw[Below.heap_setCell _ _ _ _ (show w.heap.size≠w.heap.size+1 by omega)];exact M.o);have G2:Hid ((wr.setCell ⟨w.heap.size+1,j,none⟩ (.int .u8 (z:Int))).heap[g]?=w1.heap[g]?):=Hd (by rw[Below.heap_setCell _ _ _ _ (show g≠w.heap.size+1 by have:=W.o;omega)];exact Y.o);have BW:Hid (Bw w (wr.setCell ⟨w.heap.size+1,j,none⟩ (.int .u8 (z:Int)))):=Hd (K.o.setCell (p:=⟨w.heap.size+1,j,none⟩) (Nat.le_succ _) _);clear aC A C hz Y M K r J;go_wp2_with fail;go_roundg (16-(j+1));exact⟨j+1,by omega,rfl,by go_num,C2,R2,G2,BW⟩;omega
  obtain rfl:j=16:=by omega
  go_upto_region 15 with fail;obtain⟨f,b⟩:=xq wr.drew;have RL:=Hd C;have cg:f.cell? ⟨g,0,none⟩=some (.int .u8 (c:Int)):=by
   have e:f.cell? ⟨g,0,none⟩=w1.cell? ⟨g,0,none⟩:=by
    have h:f.heap[g]?=w1.heap[g]?:=by rw[b];exact Y.o
    unfold World.cell?;simp only[h]
   exact e.trans c0
  have q:(fun wx:World=>wx.cell? ⟨g,0,none⟩=some (.int .u8 (c:Int))∧wx.heap[w.heap.size+1]?=some (.cells I 22 (0,0))) f:=⟨cg,by rw[b];exact A⟩
  have G:f.heap[w.heap.size]?=some (.cells d 22 (0,0)):=by rw[b];exact M.o
  have BD:Bw w f:=by rw[b];exact K.o.drew
  obtain⟨H,n,B⟩:=r.o f I RL.o G BD;have l:(fun wx:World=>wx.cell? ⟨g,0,none⟩=some (.int .u8 (c:Int))∧wx.heap[w.heap.size+1]?=some (.cells I 22 (0,0))) (f.setRow w.heap.size I):=⟨by
   have e:(f.setRow w.heap.size I).cell? ⟨g,0,none⟩=f.cell? ⟨g,0,none⟩:=by have h:(f.setRow w.heap.size I).heap[g]?=f.heap[g]?:=setRow_other f _ _ I (by have:=W.o;omega);unfold World.cell?;simp only[h]
   exact e.trans cg,(O.o f I).trans q.2⟩
  have n:=Hd n;have B:=Hd B;have LZ:Hid (∀wx:World,wx.heap[w.heap.size+1]?=some (.cells I 22 (0,0))→Ld 22 ⟨w.heap.size+1,0,none⟩ wx (.agg I)):=Hd (fun wx h=>Xap wx (w.heap.size+1) 16 _ _ I _ _ h rfl underlying22 Xck RL.o.1);have vc:IntKind.i64.wrap (c:Int)=(c:Int):=IntWalk.i64_in _ (by omega);refine wp_region_held (S:=fun wx:World=>wx.cell? ⟨g,0,none⟩=some (.int .u8 (c:Int))∧wx.heap[w.heap.size+1]?=some (.cells I 22 (0,0))) (by kernel_rfl) ?_;change wpAnyH _ _ _ _ _ _ _ _ wr.drew;rw[←b];clear b r A C aC Y M K J c0 cg;refine Xae 0 (.slice (some ⟨g,0,none⟩) 17 cap) rfl (fun _ _=>by go_simp) q ?_;refine Xae 1 (.pointer (some ⟨g,0,none⟩)) rfl (fun _ _=>by go_simp) q ?_;refine Xae 2 (.int .u8 (c:Int)) rfl (fun w' hw'=>by obtain⟨c3,c4⟩:=hw';go_simp) q ?_;refine Xae 3 (.int .i64 (c:Int)) rfl (fun _ _=>by go_simp) q ?_;refine Xae 4 (.agg I) rfl (fun w' hw'=>Xaj (ty:=22) (x:=.tmp 5) (ad:=⟨w.heap.size+1,0,none⟩) rfl (by kernel_rfl) (LZ.o w' hw'.2)) q ?_;refine Xa6 (i:=5) (v:=.int .i64 (c:Int)) (by kernel_rfl) rfl rfl (Xal rfl (by kernel_rfl)) q ?_;refine Xbe (i:=6) (by kernel_rfl) rfl rfl (Xak (t:=22) (ad:=⟨w.heap.size,0,none⟩) (u:=.agg I) rfl (by kernel_rfl) (by kernel_rfl) H) l ?_;refine Xa6 (i:=7) (v:=.int .i64 0) (by kernel_rfl) rfl rfl (Xal rfl (by kernel_rfl)) l ?_;refine wpAnyH_done (by kernel_rfl) ?_ _;clear q l H G BD;go_simp;refine‹∀(a:Act) (w_1:World),_→_› _ _ ?_;go_wp2_with fail;exact zP (n.o _ rfl) rfl (T.o _ _ _ RL.o B.o)
 have q0:((er:Int) !=0)=true:=Xaq (by omega);have F:=Hd (show R=er by rw[PF.o,qP e0]);have T:Hid (∀(h:Int) (cs:Array Value) w',Cl 16 cs→Bw w w'→Xf0 (bs s) w (.returned (.tuple #[.int .i64 h,.agg cs,.int .i64 (er:Int)])) w'):=Hd (fun h cs w' E hb=>by have:=N.o h cs w' E hb;rw[F.o] at this;exact this);go_upto_region 4 with fail;obtain⟨f,b⟩:=xq w1.drew;have q:(fun wx:World=>wx.heap[w.heap.size+1]?=some (.cells d 22 (0,0))) f:=by rw[b];exact L1.o
 have G:f.heap[w.heap.size]?=some (.cells d 22 (0,0)):=by rw[b];exact R1.o
 have BD:Bw w f:=by rw[b];exact B1.o.drew
 obtain⟨H,n,B⟩:=r.o f d y.o G BD;have l:(fun wx:World=>wx.heap[w.heap.size+1]?=some (.cells d 22 (0,0))) (f.setRow w.heap.size d):=(O.o f d).trans q;have n:=Hd n;have B:=Hd B;refine wp_region_held (S:=fun wx:World=>wx.heap[w.heap.size+1]?=some (.cells d 22 (0,0))) (by kernel_rfl) ?_;change wpAnyH _ _ _ _ _ _ _ _ w1.drew;rw[←b];clear b r;refine Xae 0 (.agg d) rfl (fun w' hw'=>Xaj (ty:=22) (x:=.tmp 5) (ad:=⟨w.heap.size+1,0,none⟩) rfl (by kernel_rfl) (LZ.o w' hw')) q ?_;refine Xae 1 (.int .i64 (er:Int)) rfl (fun _ _=>by go_simp) q ?_;refine Xa6 (i:=2) (v:=.int .i64 0) (by kernel_rfl) rfl rfl (Xal rfl (by kernel_rfl)) q ?_;refine Xbe (i:=3) (by kernel_rfl) rfl rfl (Xak (t:=22) (ad:=⟨w.heap.size,0,none⟩) (u:=.agg d) rfl (by kernel_rfl) (by kernel_rfl) H) l ?_;refine Xa6 (i:=4) (v:=.int .i64 (er:Int)) (by kernel_rfl) rfl rfl (Xal rfl (by kernel_rfl)) l ?_;refine wpAnyH_done (by kernel_rfl) ?_ _;clear q l H G BD;go_simp;refine‹∀(a:Act) (w_1:World),_→_› _ _ ?_;go_wp2_with fail;exact zP (n.o _ rfl) rfl (T.o _ _ _ y.o B.o)
theorem Xyt (c:Nat):∀l:List Nat,spl c l=(l.takeWhile fun x=>!decide (x=c))::(match l.dropWhile fun x=>!decide (x=c) with|[]=>[]|_::u=>spl c u)
 |[]=>rfl
 |x::t=>by
  simp only[spl];by_cases h:x=c;·rw[qP h,List.takeWhile_cons,List.dropWhile_cons];simp[h]
  rw[qN h,Xyt c t,List.takeWhile_cons,List.dropWhile_cons];simp[h]
def rst (t:List Nat):List (List Nat):=match t with
 |[]=>[]
 |_::u=>spl 32 u
def Ydb (a:Nat)(x:List Nat):Nat:=if a=0 then Xhx x else if a=1 then Xih x else if a=2 then Xfe 0 1000000 x else if a=3 then(if x=Xgt∨x=Xip then 0 else 3) else if a=4 then Xc5 x else if a=5 then Xfe 1 1000 x else Xhf x
def Xcq (k:Nat):List Nat:=if k=1 then[0] else if k=2 then[0,1] else if k=3 then[1,2,3,4] else if k=4 then[1,2] else[5,6]
def Yni (k:Nat)(t:List Nat):Nat:=if k=3 then Xd3 t else fin t
def chF (k:Nat):List Nat→Bool→List Nat→Nat
 |[],_,t=>Yni k t
 |a::r,m,t=>if a=4∧m=false then chF k r m t else nxt t fun x t=>fe (Ydb a x) (chF k r (if a=3 then decide (x=Xip) else m) t)
def Xg2 (x:List Nat):Nat:=if x=Xml then 5 else if x=Xie then 4 else if x=Xif then 3 else if x=Xf6 then 2 else if x=Xig then 1 else 0
theorem Xkd {t:List Nat}{f g:List Nat→List Nat→Nat}(h:∀x t,f x t=g x t):nxt t f=nxt t g:=by
 unfold nxt;split;·rfl
 exact h _ _
theorem Yj4 (k t:List Nat):Xxl k t=if Xg2 k=0 then 11 else chF (Xg2 k) (Xcq (Xg2 k)) false t:=by
 unfold Xxl Xg2;by_cases h5:k=Xml;·subst h5;rfl
 by_cases h4:k=Xie;·subst h4;rfl
 by_cases h3:k=Xif
 ·subst h3;rw[qN (by decide),qN (by decide),qP rfl];show _=nxt t fun g t=>fe (Xih g) (nxt t fun v t=>fe (Xfe 0 1000000 v) (nxt t fun m t=>fe (if m=Xgt∨m=Xip then 0 else 3) (if 4=4∧decide (m=Xip)=false then Xd3 t else nxt t fun a t=>fe (Xc5 a) (Xd3 t))));refine Xkd fun g t=>?_;refine congrArg (fe (Xih g)) (Xkd fun v t=>?_);refine congrArg (fe (Xfe 0 1000000 v)) (Xkd fun m t=>?_);by_cases ho:m=Xgt;·subst ho;rfl
  by_cases hm:m=Xip;·subst hm;rfl
  simp[ho,hm,fe]
 by_cases h2:k=Xf6;·subst h2;rfl
 by_cases h1:k=Xig;·subst h1;rfl
 rw[qN h1,qN h2,qN h3,qN h4,qN h5,qN h5,qN h4,qN h3,qN h2,qN h1];rfl
theorem Xt3 (s:List Nat)(at':Nat)(x:List Nat)(r:List (List Nat))(h:rst (s.drop at')=x::r):at'<s.length∧(∃u,s.drop at'=u∧u≠[]∧x=(u.drop 1).takeWhile (fun c=>!decide (c=32))∧s.drop (at'+1+x.length)=(u.drop 1).dropWhile (fun c=>!decide (c=32)))∧rst (s.drop (at'+1+x.length))=r∧at'+1+x.length≤s.length:=by
 generalize hu:s.drop at'=u at h⊢
 match u,h with
 |[],h=>simp[rst] at h
 |y::u,h=>
  have d:at'<s.length:=by have:=congrArg List.length hu;simp at this;omega
  simp only[rst] at h;rw[Xyt] at h;injection h with h1 h2;have e:u=x++u.dropWhile (fun c=>!decide (c=32)):=by rw[←h1];exact(List.takeWhile_append_dropWhile).symm
  have a:s.drop (at'+1+x.length)=u.dropWhile (fun c=>!decide (c=32)):=by rw[←List.drop_drop,←List.drop_drop,hu];show List.drop x.length u=_;rw[e];simp;rw[←e]
  refine⟨d,⟨_,rfl,by simp,h1.symm,a⟩,?_,?_⟩;·rw[a];exact h2
  have:=congrArg List.length e;have b:=congrArg List.length hu;simp at this b;omega
theorem Yj6 {k:Nat}{r:List Nat}{t:List Nat}:chF k (4::r) false t=chF k r false t:=by simp[chF]
theorem Ygb {k a:Nat}{r:List Nat}{m:Bool}(h:¬(a=4∧m=false)):chF k (a::r) m []=4:=by simp only[chF];rw[qN h];rfl
theorem Yj5 {k a:Nat}{r:List Nat}{m:Bool}{s:List Nat}{at':Nat}{x:List Nat}{ws:List (List Nat)}(h:¬(a=4∧m=false))(hr:rst (s.drop at')=x::ws):chF k (a::r) m (s.drop at')=fe (Ydb a x) (chF k r (if a=3 then decide (x=Xip) else m) (s.drop (at'+1+x.length))):=by
 obtain⟨_,⟨u,c,d,b,e⟩,_,_⟩:=Xt3 s at' x ws hr;rw[c,e]
 match u,d with
 |y::u,_=>simp only[chF];rw[qN h];simp only[nxt];simp only[List.drop_succ_cons,List.drop_zero] at b⊢;rw[←b]
theorem Xyk (p:Nat→Bool):∀s:List Nat,s.drop (s.takeWhile p).length=s.dropWhile p
 |[]=>rfl
 |x::s=>by
  simp only[List.takeWhile_cons,List.dropWhile_cons];split;·simpa using Xyk p s
  rfl
theorem Xxm (s:List Nat)(hl:s.length≤1000):∃x ws,spl 32 s=x::ws∧x=s.takeWhile (fun c=>!decide (c=32))∧rst (s.drop x.length)=ws∧x.length≤s.length∧Xd4 s=if Xg2 x=0 then 11 else chF (Xg2 x) (Xcq (Xg2 x)) false (s.drop x.length):=by
 refine⟨_,_,Xyt 32 s,rfl,?_⟩;have e:s=s.takeWhile (fun c=>!decide (c=32))++s.dropWhile (fun c=>!decide (c=32)):=(List.takeWhile_append_dropWhile).symm;have a:=Xyk (fun c=>!decide (c=32)) s;rw[a];refine⟨rfl,?_,?_⟩;·have:=congrArg List.length e;rw[List.length_append] at this;omega
 unfold Xd4;rw[qN (by omega),Yj4]
theorem Xbt:(prog.info? 121).map (·.size)=some 56:=by kernel_rfl
structure RC (cs:Array Value) (k:Nat) (m mo:Bool):Prop where
 cl:Cl 56 cs
 kind:cs[0]?=some (.int .i64 (k:Int))
 mod:cs[35]?=some (.bool m)
 mods:mo=true→cs[36]?=some (.slice none 0 0)
theorem RC.set {cs:Array Value}{k:Nat}{m mo:Bool}(h:RC cs k m mo)(j:Nat){u:Value}(hu:u.oneCell'=true)(h0:j≠0)(h1:j≠35)(h2:j≠36):RC (cs.setIfInBounds j u) k m mo:=
 ⟨Xqt h.cl j hu,by rw[Array.getElem?_setIfInBounds_ne h0];exact h.kind,by rw[Array.getElem?_setIfInBounds_ne h1];exact h.mod,fun e=>by rw[Array.getElem?_setIfInBounds_ne h2];exact h.mods e⟩
theorem RC.setM {cs:Array Value}{k:Nat}{m mo:Bool}(h:RC cs k m mo)(b:Bool):RC (cs.setIfInBounds 35 (.bool b)) k b mo:=
 ⟨Xqt h.cl 35 rfl,by rw[Array.getElem?_setIfInBounds_ne (by omega)];exact h.kind,by rw[Array.getElem?_setIfInBounds_self_of_lt (by rw[h.cl.1];omega)],fun e=>by rw[Array.getElem?_setIfInBounds_ne (by omega)];exact h.mods e⟩
theorem RC.setL {cs:Array Value}{k:Nat}{m mo:Bool}(h:RC cs k m mo){u:Value}(hu:u.oneCell'=true):RC (cs.setIfInBounds 36 u) k m false:=
 ⟨Xqt h.cl 36 hu,by rw[Array.getElem?_setIfInBounds_ne (by omega)];exact h.kind,by rw[Array.getElem?_setIfInBounds_ne (by omega)];exact h.mod,fun e=>by cases e⟩
theorem RC.weak {cs:Array Value}{k:Nat}{m mo:Bool}(h:RC cs k m mo):RC cs k m false:=⟨h.cl,h.kind,h.mod,fun e=>by cases e⟩
def RB (w:World)(p k:Nat)(m mo:Bool):Prop:=∃cs,w.heap[p]?=some (.cells cs 121 (0,0))∧RC cs k m mo
theorem RB.lt {w:World}{p k:Nat}{m mo:Bool}(h:RB w p k m mo):p<w.heap.size:=by obtain⟨cs,h,_⟩:=h;exact zY h
theorem RB.on {w w':World}{p k:Nat}{m mo:Bool}(h:RB w p k m mo)(hb:Bw w w'):RB w' p k m mo:=by obtain⟨cs,a,b⟩:=h;exact⟨cs,(hb.block p (zY a)).trans a,b⟩
theorem RB.drew {w:World}{p k:Nat}{m mo:Bool}(h:RB w p k m mo):RB w.drew p k m mo:=h
theorem RB.cell {w:World}{p k:Nat}{m mo:Bool}(h:RB w p k m mo){j:Nat}(hj:j<56):∃u,w.cell? ⟨p,j,none⟩=some u∧w.frozen? ⟨p,j,none⟩=false:=by obtain⟨cs,a,b⟩:=h;exact⟨cs[j]'(by rw[b.cl.1];omega),by rw[cell_of_row w p j _ _ _ a];simp[b.cl.1,hj],by simp[World.frozen?,a]⟩
theorem RB.kind {w:World}{p k:Nat}{m mo:Bool}(h:RB w p k m mo):w.cell? ⟨p,0,none⟩=some (.int .i64 (k:Int)):=by obtain⟨cs,a,b⟩:=h;rw[cell_of_row w p 0 _ _ _ a];exact b.kind
theorem RB.modc {w:World}{p k:Nat}{m mo:Bool}(h:RB w p k m mo):w.cell? ⟨p,35,none⟩=some (.bool m):=by obtain⟨cs,a,b⟩:=h;rw[cell_of_row w p 35 _ _ _ a];exact b.mod
theorem RB.modsc {w:World}{p k:Nat}{m:Bool}(h:RB w p k m true):w.cell? ⟨p,36,none⟩=some (.slice none 0 0):=by obtain⟨cs,a,b⟩:=h;rw[cell_of_row w p 36 _ _ _ a];exact b.mods rfl
theorem RB.set {w:World}{p k:Nat}{m mo:Bool}(h:RB w p k m mo)(j:Nat){u:Value}(hu:u.oneCell'=true)(h0:j≠0)(h1:j≠35)(h2:j≠36)(hj:j<56):RB (w.setCell ⟨p,j,none⟩ u) p k m mo∧(w.setCell ⟨p,j,none⟩ u).cell? ⟨p,j,none⟩=some u:=by obtain⟨cs,c,a⟩:=h;have b:=Xez c j u;exact⟨⟨_,b,a.set j hu h0 h1 h2⟩,by rw[cell_of_row _ p j _ _ _ b];exact Array.getElem?_setIfInBounds_self_of_lt (by rw[a.cl.1];omega)⟩
theorem RB.setM {w:World}{p k:Nat}{m mo:Bool}(h:RB w p k m mo)(b:Bool):RB (w.setCell ⟨p,35,none⟩ (.bool b)) p k b mo∧(w.setCell ⟨p,35,none⟩ (.bool b)).cell? ⟨p,35,none⟩=some (.bool b):=by obtain⟨cs,d,a⟩:=h;have c:=Xez d 35 (.bool b);exact⟨⟨_,c,a.setM b⟩,by rw[cell_of_row _ p 35 _ _ _ c];exact Array.getElem?_setIfInBounds_self_of_lt (by rw[a.cl.1];omega)⟩
theorem RB.setL {w:World}{p k:Nat}{m mo:Bool}(h:RB w p k m mo){u:Value}(hu:u.oneCell'=true):RB (w.setCell ⟨p,36,none⟩ u) p k m false∧(w.setCell ⟨p,36,none⟩ u).cell? ⟨p,36,none⟩=some u:=by obtain⟨cs,c,a⟩:=h;have b:=Xez c 36 u;exact⟨⟨_,b,a.setL hu⟩,by rw[cell_of_row _ p 36 _ _ _ b];exact Array.getElem?_setIfInBounds_self_of_lt (by rw[a.cl.1];omega)⟩
theorem RB.setCells {p k:Nat}{m mo:Bool}:∀(vs:List Value) (o:Nat) (w:World),RB w p k m mo→(∀v∈vs,v.oneCell'=true)→(1≤o∧o+vs.length≤35∨37≤o∧o+vs.length≤56)→RB (w.setCells p o vs) p k m mo∧Fr1 p w (w.setCells p o vs)
 |[],o,w,h,_,_=>⟨h,Fr1.refl _ _⟩
 |v::r,o,w,h,hv,ho=>by have c:(v::r).length=r.length+1:=rfl;obtain⟨a,b⟩:=RB.setCells r (o+1) _ (h.set o (hv v (List.mem_cons_self ..)) (by omega) (by omega) (by omega) (by omega)).1 (fun x hx=>hv x (List.mem_cons_of_mem _ hx)) (by omega);exact⟨a,(Fr1.setC v).trans b⟩
theorem RB.store {w:World}{p k:Nat}{m mo:Bool}(h:RB w p k m mo)(o n:Nat)(hn:1≤o∧o+n≤35∨37≤o∧o+n≤56)(ty:TypeId){cs:Array Value}(hc:Cl n cs)(hi:(prog.info? ty).map (·.size)=some n):(storeVar ty ⟨p,o,none⟩ (.agg cs)).run prog w=.ok () (w.setCells p o cs.toList)∧RB (w.setCells p o cs.toList) p k m mo∧Fr1 p w (w.setCells p o cs.toList)∧(∀j u,cs[j]?=some u→(w.setCells p o cs.toList).cell? ⟨p,o+j,none⟩=some u):=by
 have c:w.there p o cs.size:=fun j hj=>by obtain⟨u,a,b⟩:=h.cell (j:=o+j) (by rw[hc.1] at hj;omega);exact⟨by rw[a];rfl,b⟩
 obtain⟨a,b⟩:=RB.setCells cs.toList o w h (Xqu hc) (by rw[Array.length_toList,hc.1];omega);exact⟨run_storeVar_mid w p o ty cs c (by rw[hc.1];exact hi) hc.2,a,b,fun j u hu=>
  World.rangeAt_setCells_same w p o cs.toList (by simpa using c) j u (by simpa using hu)⟩
def Xbn (k a:Nat)(m:Bool)(x:List Nat)(w:World)(e:Ending)(w':World):Prop:=
 ∃cs',e=.returned (.tuple #[.agg cs',.int .i64 ((Ydb a x:Nat):Int)])∧RC cs' k (if a=3 then decide (x=Xip) else m) (decide (a≠4))∧Bw w w'
def z17:Array Value:=#[.int .i64 0,.int .u8 0,.int .u8 0,.int .u8 0,.int .u8 0,.int .u8 0,.int .u8 0,.int .u8 0,.int .u8 0,.int .u8 0,.int .u8 0,.int .u8 0,.int .u8 0,.int .u8 0,.int .u8 0,.int .u8 0,.int .u8 0,.int .u8 0,.int .u8 0,.int .u8 0,.int .u8 0,.int .u8 0,.int .u8 0,.int .u8 0,.int .u8 0,.int .u8 0,.int .u8 0,.int .u8 0,.int .u8 0,.int .u8 0,.int .u8 0,.int .u8 0,.int .u8 0,.string ⟨#[]⟩,.int .i64 0,.bool false,.slice none 0 0,.string ⟨#[]⟩,.int .i64 0,.int .i64 0,.int .u8 0,.int .u8 0,.int .u8 0,.int .u8 0,.int .u8 0,.int .u8 0,.int .u8 0,.int .u8 0,.int .u8 0,.int .u8 0,.int .u8 0,.int .u8 0,.int .u8 0,.int .u8 0,.int .u8 0,.int .u8 0]
theorem cl_z17:Cl 56 z17:=⟨by kernel_rfl,by kernel_rfl⟩
theorem Yli:RC z17 0 false true:=⟨cl_z17,by kernel_rfl,by kernel_rfl,fun _=>by kernel_rfl⟩
theorem Xe5 (w:World)(cs:Array Value){k:Nat}{m mo:Bool}(h:RC cs k m mo)(w0:World)(hw:w0=(w.alloc (.cells cs 121)).alloc (.cells z17 121)):RB w0 w.heap.size k m mo∧w0.heap[w.heap.size+1]?=some (.cells z17 121 (0,0))∧Bw w w0∧w0.heap.size=w.heap.size+2:=by subst hw;refine⟨⟨cs,Xad (heap_alloc_last w _),h⟩,?_,((zR _ _).alloc (zL _) _).alloc (by simp) _,by simp⟩;have:=heap_alloc_last (w.alloc (.cells cs 121)) (.cells z17 121);rw[World.size_alloc] at this;exact this
theorem Xeb (w wx:World){k:Nat}{m mo:Bool}(h:RB wx w.heap.size k m mo)(hq:wx.heap[w.heap.size+1]?=some (.cells z17 121 (0,0)))(hb:Bw w wx):∃cs',RC cs' k m mo∧Ld 121 ⟨w.heap.size,0,none⟩ wx (.agg cs')∧Sv 121 ⟨w.heap.size+1,0,none⟩ (.agg cs') wx (wx.setRow (w.heap.size+1) cs')∧
     (∀tmps:Array Value,tmps.getD 6 undef=.pointer (some ⟨w.heap.size+1,0,none⟩)→(results Tryz.f122 tmps).run prog (wx.setRow (w.heap.size+1) cs')=.ok (.tuple #[.agg cs',tmps.getD 7 undef]) (wx.setRow (w.heap.size+1) cs'))∧Bw w (wx.setRow (w.heap.size+1) cs'):=by
 obtain⟨cs',b,a⟩:=h;exact⟨cs',a,Xap wx w.heap.size 56 _ _ cs' _ _ b rfl underlying121 Xbt a.cl.1,
  run_storeVar_row (P:=prog) wx (w.heap.size+1) _ 121 z17 cs' hq (by rw[a.cl.1];exact Xbt) (by rw[a.cl.1,cl_z17.1]) a.cl.2,
  fun tmps ht=>Xa4 results122 tmps _ (w.heap.size+1) _ _ _ _ ht (setRow_heap wx (w.heap.size+1) z17 cs' _ _ hq) underlying121 rfl (by rw[a.cl.1];exact Xbt),
  below_setRow hb (Nat.le_succ _) cs'⟩
theorem Xpc {w wx:World}{k:Nat}{m mo:Bool}(h:RB wx w.heap.size k m mo)(hq:wx.heap[w.heap.size+1]?=some (.cells z17 121 (0,0)))(hb:Bw w wx)(j:Nat)(u:Value):(wx.setCell ⟨w.heap.size,j,none⟩ u).heap[w.heap.size+1]?=some (.cells z17 121 (0,0))∧Bw w (wx.setCell ⟨w.heap.size,j,none⟩ u):=
 ⟨by rw[Below.heap_setCell _ _ _ _ (show w.heap.size+1≠w.heap.size by omega)];exact hq,hb.setCell (p:=⟨w.heap.size,j,none⟩) (zL _) _⟩
theorem Xrh (w:World)(cs:Array Value)(k:Nat)(m:Bool)(x:ByteArray)(hs:x.size≤10000000)(h:RC cs k m true):Calls prog 122 #[.agg cs,.string ⟨#[103,114,111,117,112]⟩,.string x] w (Xbn k 1 m (bs x) w):=by
 obtain⟨w0,c⟩:=xq ((w.alloc (.cells cs 121)).alloc (.cells z17 121));obtain⟨l,G,C,s0⟩:=Xe5 w cs h w0 c;obtain⟨u,K,L⟩:=l.cell (show 33<56 by omega);obtain⟨H,_⟩:=l.set 33 (u:=.string x) rfl (by omega) (by omega) (by omega) (by omega);obtain⟨j,D⟩:=Xpc l G C 33 (.string x);obtain⟨T,t⟩:=xq (Xbo (bs x));have q:=Hd (fun w=>Xj9 x w hs);rw[←t] at q;have r:=Hd H;have i:=Hd j;have p:=Hd D;have z:=Hd c;have a:Hid (∀cs' w',RC cs' k m true→Bw w w'→Xbn k 1 m (bs x) w (.returned (.tuple #[.agg cs',.int .i64 ((if T=0 then 0 else 12:Nat):Int)])) w'):=Hd (fun cs' w' h1 h2=>⟨cs',by rw[t];rfl,h1,h2⟩);clear c h l G C s0 H j D t;go_enter func122,ntmps122;go_upto_region 1 with fail;have s:=z.o;unfold z17 at s;rw[←s];clear s z;go_wp2_with fail;obtain⟨w1,g⟩:=xq (w0.setCell ⟨w.heap.size,33,none⟩ (.string x));rw[←g] at r i p⊢;clear g K L;refine(q.o w1).mono ?_;rintro e v ⟨rfl,b⟩;obtain⟨cs',I,F,st,J,E⟩:=Xeb w v (r.o.on b) ((b.block _ (zY i.o)).trans i.o) (bg p.o b);have d:=Hd I;have A:=Hd F;have B:=Hd st;have f:=Hd J;have y:=Hd E;clear I F st J E b q r i p;by_cases h0:T=0
 ·have j:((T:Int) !=0)=false:=Xaw (by omega);have n:Hid (Xbn k 1 m (bs x) w (.returned (.tuple #[.agg cs',.int .i64 0])) (v.setRow (w.heap.size+1) cs')):=Hd (by have:=a.o cs' _ d.o y.o;rw[qP h0] at this;exact this);clear h0 a;go_wp2_with (first
   |((with_reducible refine Xab 121 rfl _ rfl ?_);refine⟨_,_,rfl,A.o,?_⟩)
   |((with_reducible refine Xaa 121 rfl _ _ rfl ?_);refine⟨_,_,_,rfl,rfl,B.o,?_⟩))
  exact zP (f.o _ rfl) rfl n.o
 have j:((T:Int) !=0)=true:=Xaq (by omega);have n:Hid (Xbn k 1 m (bs x) w (.returned (.tuple #[.agg cs',.int .i64 12])) (v.setRow (w.heap.size+1) cs')):=Hd (by have:=a.o cs' _ d.o y.o;rw[qN h0] at this;exact this);clear h0 a;go_wp2_with (first
  |((with_reducible refine Xab 121 rfl _ rfl ?_);refine⟨_,_,rfl,A.o,?_⟩)
  |((with_reducible refine Xaa 121 rfl _ _ rfl ?_);refine⟨_,_,_,rfl,rfl,B.o,?_⟩))
 exact zP (f.o _ rfl) rfl n.o
theorem Xnk (w:World)(cs:Array Value)(k:Nat)(m:Bool)(x:ByteArray)(hs:x.size≤100000)(h:RC cs k m true):Calls prog 122 #[.agg cs,.string ⟨#[118,101,114,115,105,111,110]⟩,.string x] w (Xbn k 2 m (bs x) w):=by
 obtain⟨w0,c⟩:=xq ((w.alloc (.cells cs 121)).alloc (.cells z17 121));obtain⟨d,l,g,s0⟩:=Xe5 w cs h w0 c;obtain⟨Z,H⟩:=xq (Yhf (bs x));have z:=Hd (fun w=>Xl8 x w (by unfold maxLen;omega));rw[←H] at z;have q:=Hd H;have J:=Hd d;have A:=Hd l;have s:=Hd g;have I:=Hd c;clear c h d l g s0 H;go_enter func122,ntmps122;go_upto_region 1 with fail;have F:=I.o;unfold z17 at F;rw[←F];clear F I;go_wp2_with fail;refine(z.o w0).mono ?_;rintro e w1 ⟨rfl,r⟩;have d:RB w1 w.heap.size k m true:=J.o.on (Dr.below r);have l:w1.heap[w.heap.size+1]?=some (.cells z17 121 (0,0)):=((Dr.below r:Bw w0 w1).block _ (zY A.o)).trans A.o;have g:Bw w w1:=s.o.trans ((Dr.below r:Bw w0 w1).mono s.o.size);obtain⟨u,T,U⟩:=d.cell (show 34<56 by omega);obtain⟨O,G⟩:=d.set 34 (u:=.int .i64 Z) rfl (by omega) (by omega) (by omega) (by omega);obtain⟨N,K⟩:=Xpc d l g 34 (.int .i64 Z);have C:=Hd O;have v:=Hd G;have B:=Hd N;have t:=Hd K;clear r d l g O N K G z J A s;go_upto_region 15 with fail;obtain⟨p,i⟩:=xq (w1.setCell ⟨w.heap.size,34,none⟩ (.int .i64 Z));rw[←i] at C v B t⊢;clear i T U;have G:=v.o;obtain⟨cs',P,M,st,Q,L⟩:=Xeb w p (C.o) (B.o) (t.o);have D:=Hd P;have y:=Hd M;have E:=Hd st;have b:=Hd Q;have R:=Hd L;clear P M st Q L;have a:Hid (∀er:Nat,er=Xfe 0 1000000 (bs x)→Xbn k 2 m (bs x) w (.returned (.tuple #[.agg cs',.int .i64 (er:Int)])) (p.setRow (w.heap.size+1) cs')):=Hd (fun er he=>⟨cs',by rw[he];rfl,D.o,R.o⟩);clear v C B t;have S:(Z=-1∧Xfe 0 1000000 (bs x)=3)∨(∃n:Nat,Z=(n:Int)∧Xfe 0 1000000 (bs x)=if n<0∨1000000<n then 2 else 0):=by
  have j:=q.o;unfold Yhf at j;unfold Xfe
  cases hp:Xli (bs x) with
  |none=>rw[hp] at j;exact .inl ⟨j,rfl⟩
  |some n=>rw[hp] at j;exact .inr ⟨n,j,rfl⟩
 rcases S with⟨rfl,hf⟩|⟨n,rfl,hf⟩
 ·have f:Hid (Xbn k 2 m (bs x) w (.returned (.tuple #[.agg cs',.int .i64 3])) (p.setRow (w.heap.size+1) cs')):=Hd (a.o 3 hf.symm);clear hf a q;go_wp2_with (first
   |((with_reducible refine Xab 121 rfl _ rfl ?_);refine⟨_,_,rfl,y.o,?_⟩)
   |((with_reducible refine Xaa 121 rfl _ _ rfl ?_);refine⟨_,_,_,rfl,rfl,E.o,?_⟩))
  exact zP (b.o _ rfl) rfl f.o
 by_cases h1:1000000<n
 ·have f:Hid (Xbn k 2 m (bs x) w (.returned (.tuple #[.agg cs',.int .i64 2])) (p.setRow (w.heap.size+1) cs')):=Hd (a.o 2 (by rw[hf,qP (.inr h1)]));clear hf a q;go_wp2_with (first
   |((with_reducible refine Xab 121 rfl _ rfl ?_);refine⟨_,_,rfl,y.o,?_⟩)
   |((with_reducible refine Xaa 121 rfl _ _ rfl ?_);refine⟨_,_,_,rfl,rfl,E.o,?_⟩))
  exact zP (b.o _ rfl) rfl f.o
 have f:Hid (Xbn k 2 m (bs x) w (.returned (.tuple #[.agg cs',.int .i64 0])) (p.setRow (w.heap.size+1) cs')):=Hd (a.o 0 (by rw[hf,qN (by omega)]));clear hf a q;go_wp2_with (first
  |((with_reducible refine Xab 121 rfl _ rfl ?_);refine⟨_,_,rfl,y.o,?_⟩)
  |((with_reducible refine Xaa 121 rfl _ _ rfl ?_);refine⟨_,_,_,rfl,rfl,E.o,?_⟩))
 exact zP (b.o _ rfl) rfl f.o
theorem Xpb (w:World)(cs:Array Value)(k:Nat)(m:Bool)(x:ByteArray)(hs:x.size≤100000)(h:RC cs k m true):Calls prog 122 #[.agg cs,.string ⟨#[110,117,109,98,101,114]⟩,.string x] w (Xbn k 5 m (bs x) w):=by
 obtain⟨w0,d⟩:=xq ((w.alloc (.cells cs 121)).alloc (.cells z17 121));obtain⟨f,q,j,s0⟩:=Xe5 w cs h w0 d;obtain⟨Z,H⟩:=xq (Yhf (bs x));have A:=Hd (fun w=>Xl8 x w (by unfold maxLen;omega));rw[←H] at A;have i:=Hd H;have J:=Hd f;have B:=Hd q;have v:=Hd j;have I:=Hd d;clear d h f q j s0 H;go_enter func122,ntmps122;go_upto_region 1 with fail;have F:=I.o;unfold z17 at F;rw[←F];clear F I;go_wp2_with fail;refine(A.o w0).mono ?_;rintro e w1 ⟨rfl,t⟩;have f:RB w1 w.heap.size k m true:=J.o.on (Dr.below t);have q:w1.heap[w.heap.size+1]?=some (.cells z17 121 (0,0)):=((Dr.below t:Bw w0 w1).block _ (zY B.o)).trans B.o;have j:Bw w w1:=v.o.trans ((Dr.below t:Bw w0 w1).mono v.o.size);obtain⟨u,T,U⟩:=f.cell (show 38<56 by omega);obtain⟨O,G⟩:=f.set 38 (u:=.int .i64 Z) rfl (by omega) (by omega) (by omega) (by omega);obtain⟨N,K⟩:=Xpc f q j 38 (.int .i64 Z);have D:=Hd O;have z:=Hd G;have C:=Hd N;have y:=Hd K;clear t f q j O N K G A J B v;go_upto_region 21 with fail;obtain⟨g,l⟩:=xq (w1.setCell ⟨w.heap.size,38,none⟩ (.int .i64 Z));rw[←l] at D z C y⊢;clear l T U;have G:=z.o;obtain⟨cs',P,M,st,Q,L⟩:=Xeb w g (D.o) (C.o) (y.o);have E:=Hd P;have r:=Hd M;have s:=Hd st;have b:=Hd Q;have R:=Hd L;clear P M st Q L;have a:Hid (∀er:Nat,er=Xfe 1 1000 (bs x)→Xbn k 5 m (bs x) w (.returned (.tuple #[.agg cs',.int .i64 (er:Int)])) (g.setRow (w.heap.size+1) cs')):=Hd (fun er he=>⟨cs',by rw[he];rfl,E.o,R.o⟩);clear z D C y;have S:(Z=-1∧Xfe 1 1000 (bs x)=3)∨(∃n:Nat,Z=(n:Int)∧Xfe 1 1000 (bs x)=if n<1∨1000<n then 2 else 0):=by
  have p:=i.o;unfold Yhf at p;unfold Xfe
  cases hp:Xli (bs x) with
  |none=>rw[hp] at p;exact .inl ⟨p,rfl⟩
  |some n=>rw[hp] at p;exact .inr ⟨n,p,rfl⟩
 rcases S with⟨rfl,hf⟩|⟨n,rfl,hf⟩
 ·have c:Hid (Xbn k 5 m (bs x) w (.returned (.tuple #[.agg cs',.int .i64 3])) (g.setRow (w.heap.size+1) cs')):=Hd (a.o 3 hf.symm);clear hf a i;go_wp2_with (first
   |((with_reducible refine Xab 121 rfl _ rfl ?_);refine⟨_,_,rfl,r.o,?_⟩)
   |((with_reducible refine Xaa 121 rfl _ _ rfl ?_);refine⟨_,_,_,rfl,rfl,s.o,?_⟩))
  exact zP (b.o _ rfl) rfl c.o
 by_cases h1:1000<n
 ·have c:Hid (Xbn k 5 m (bs x) w (.returned (.tuple #[.agg cs',.int .i64 2])) (g.setRow (w.heap.size+1) cs')):=Hd (a.o 2 (by rw[hf,qP (.inr h1)]));clear hf a i;go_wp2_with (first
   |((with_reducible refine Xab 121 rfl _ rfl ?_);refine⟨_,_,rfl,r.o,?_⟩)
   |((with_reducible refine Xaa 121 rfl _ _ rfl ?_);refine⟨_,_,_,rfl,rfl,s.o,?_⟩))
  exact zP (b.o _ rfl) rfl c.o
 by_cases h2:n<1
 ·have c:Hid (Xbn k 5 m (bs x) w (.returned (.tuple #[.agg cs',.int .i64 2])) (g.setRow (w.heap.size+1) cs')):=Hd (a.o 2 (by rw[hf,qP (.inl h2)]));clear hf a i;go_wp2_with (first
   |((with_reducible refine Xab 121 rfl _ rfl ?_);refine⟨_,_,rfl,r.o,?_⟩)
   |((with_reducible refine Xaa 121 rfl _ _ rfl ?_);refine⟨_,_,_,rfl,rfl,s.o,?_⟩))
  exact zP (b.o _ rfl) rfl c.o
 have c:Hid (Xbn k 5 m (bs x) w (.returned (.tuple #[.agg cs',.int .i64 0])) (g.setRow (w.heap.size+1) cs')):=Hd (a.o 0 (by rw[hf,qN (by omega)]));clear hf a i;go_wp2_with (first
  |((with_reducible refine Xab 121 rfl _ rfl ?_);refine⟨_,_,rfl,r.o,?_⟩)
  |((with_reducible refine Xaa 121 rfl _ _ rfl ?_);refine⟨_,_,_,rfl,rfl,s.o,?_⟩))
 exact zP (b.o _ rfl) rfl c.o
theorem Xvv (w:World)(cs:Array Value)(k:Nat)(m:Bool)(x:ByteArray)(hs:x.size≤100000)(h:RC cs k m true):Calls prog 122 #[.agg cs,.string ⟨#[109,111,100,101]⟩,.string x] w (Xbn k 3 m (bs x) w):=by
 obtain⟨w0,z⟩:=xq ((w.alloc (.cells cs 121)).alloc (.cells z17 121));obtain⟨H,R,P,s0⟩:=Xe5 w cs h w0 z;obtain⟨u,L,M⟩:=H.cell (show 35<56 by omega);obtain⟨b,F⟩:=xq (decide (bs x=Xip));obtain⟨S,E⟩:=H.setM b;obtain⟨N,Q⟩:=Xpc H R P 35 (.bool b);have n:=Hd S;have j:=Hd E;have l:=Hd N;have i:=Hd Q;have a:Hid (∀d cs',RC cs' k b true→Bw w d→∀er:Nat,er=(if bs x=Xgt∨bs x=Xip then 0 else 3)→Xbn k 3 m (bs x) w (.returned (.tuple #[.agg cs',.int .i64 (er:Int)])) d):=Hd (fun d cs' h1 h2 er he=>⟨cs',by rw[he];rfl,by rw[qP rfl,←F];exact h1,h2⟩);have O:=Hd z;clear z h H R P s0 S E N Q;go_enter func122,ntmps122;go_upto_region 1 with fail;have K:=O.o;unfold z17 at K;rw[←K];clear K O;by_cases hm:x=(⟨#[109,111,100,101,114,97,116,101,100]⟩:ByteArray)
 ·have v:b=true:=by rw[F,hm];rfl
  have t:Hid (bs x=Xip):=Hd (by rw[hm];rfl);have U:=Hd hm;clear F;subst v;subst hm;go_upto_region 27 with fail;obtain⟨d,c⟩:=xq (w0.setCell ⟨w.heap.size,35,none⟩ (.bool true));rw[←c] at n j l i⊢;clear c L M;have E:=j.o;obtain⟨cs',r,q,st,s,p⟩:=Xeb w d (n.o) (l.o) (i.o);have f:=Hd r;have C:=Hd q;have D:=Hd st;have g:=Hd s;have B:=Hd p;clear r q st s p;have A:Hid (Xbn k 3 m (bs (⟨#[109,111,100,101,114,97,116,101,100]⟩:ByteArray)) w (.returned (.tuple #[.agg cs',.int .i64 0])) (d.setRow (w.heap.size+1) cs')):=Hd (a.o _ cs' f.o B.o 0 (by rw[qP (.inr t.o)]));clear a j n l i;go_wp2_with (first
   |((with_reducible refine Xab 121 rfl _ rfl ?_);refine⟨_,_,rfl,C.o,?_⟩)
   |((with_reducible refine Xaa 121 rfl _ _ rfl ?_);refine⟨_,_,_,rfl,rfl,D.o,?_⟩))
  exact zP (g.o _ rfl) rfl A.o
 have y:bs x≠Xip:=fun e=>hm (Xjx (e.trans (by rfl)));have T:(x.toList==[109,111,100,101,114,97,116,101,100])=false:=by rw[beq_eq_false_iff_ne];intro e;apply hm;apply ByteArray.ext;apply Array.toList_inj.1;rw[←ByteArray.toList_eq];exact e
 have v:b=false:=by rw[F,zW y]
 have I:=Hd y;clear F y hm;subst v;by_cases ho:x=⟨#[111,112,101,110]⟩
 ·have t:Hid (bs x=Xgt):=Hd (by rw[ho];rfl);subst ho;clear T;go_upto_region 27 with fail;obtain⟨d,c⟩:=xq (w0.setCell ⟨w.heap.size,35,none⟩ (.bool false));rw[←c] at n j l i⊢;clear c L M;have E:=j.o;obtain⟨cs',r,q,st,s,p⟩:=Xeb w d (n.o) (l.o) (i.o);have f:=Hd r;have C:=Hd q;have D:=Hd st;have g:=Hd s;have B:=Hd p;clear r q st s p;have A:Hid (Xbn k 3 m (bs (⟨#[111,112,101,110]⟩:ByteArray)) w (.returned (.tuple #[.agg cs',.int .i64 0])) (d.setRow (w.heap.size+1) cs')):=Hd (a.o _ cs' f.o B.o 0 (by rw[qP (.inl t.o)]));clear a j n l i;go_wp2_with (first
   |((with_reducible refine Xab 121 rfl _ rfl ?_);refine⟨_,_,rfl,C.o,?_⟩)
   |((with_reducible refine Xaa 121 rfl _ _ rfl ?_);refine⟨_,_,_,rfl,rfl,D.o,?_⟩))
  exact zP (g.o _ rfl) rfl A.o
 have G:bs x≠Xgt:=fun e=>ho (Xjx (e.trans (by rfl)));have N:(x.toList==[111,112,101,110])=false:=by rw[beq_eq_false_iff_ne];intro e;apply ho;apply ByteArray.ext;apply Array.toList_inj.1;rw[←ByteArray.toList_eq];exact e
 have J:=Hd G;clear ho G;go_upto_region 27 with fail;obtain⟨d,c⟩:=xq (w0.setCell ⟨w.heap.size,35,none⟩ (.bool false));rw[←c] at n j l i⊢;clear c L M;have E:=j.o;obtain⟨cs',r,q,st,s,p⟩:=Xeb w d (n.o) (l.o) (i.o);have f:=Hd r;have C:=Hd q;have D:=Hd st;have g:=Hd s;have B:=Hd p;clear r q st s p;have A:Hid (Xbn k 3 m (bs x) w (.returned (.tuple #[.agg cs',.int .i64 3])) (d.setRow (w.heap.size+1) cs')):=Hd (a.o _ cs' f.o B.o 3 (by rw[qN (fun h=>h.elim J.o I.o)]));clear a j n l i;go_wp2_with (first
  |((with_reducible refine Xab 121 rfl _ rfl ?_);refine⟨_,_,rfl,C.o,?_⟩)
  |((with_reducible refine Xaa 121 rfl _ _ rfl ?_);refine⟨_,_,_,rfl,rfl,D.o,?_⟩))
 exact zP (g.o _ rfl) rfl A.o
theorem Xtr:(prog.info? 160).map (·.size)=some 32:=by kernel_rfl
theorem Xtv:(prog.info? 25).map (·.size)=some 32:=by kernel_rfl
theorem Xp9:prog.eqGuardType prog.depth 25=false:=by kernel_rfl
theorem Xo9 (w:World)(cs:Array Value)(k:Nat)(m:Bool)(x:ByteArray)(hs:x.size≤100000)(h:RC cs k m true):Calls prog 122 #[.agg cs,.string ⟨#[116,97,114,103,101,116]⟩,.string x] w (Xbn k 0 m (bs x) w):=by
 obtain⟨w0,y⟩:=xq ((w.alloc (.cells cs 121)).alloc (.cells z17 121));obtain⟨r0,q0,b0,s0⟩:=Xe5 w cs h w0 y;obtain⟨zs,z⟩:=xq (idA zero32);have BZ:Hid (∀w,(Instr.build 25 #[]).run prog w=.ok (.agg zs) w):=Hd (fun w=>by rw[z];kernel_rfl);have MP:=Hd (Xv6 x w0 (by omega));have R0:=Hd r0;have Q0:=Hd q0;have B0:=Hd b0;have HW:=Hd y;have aA:=Hd z;clear y h r0 q0 b0 s0 z;go_enter func122,ntmps122;go_upto_region 1 with fail;have W':=HW.o;unfold z17 at W';rw[←W'];clear W' HW;go_wp2_with fail;refine MP.o.mono ?_;rintro e w1 ⟨ao,er,a,r⟩;have v:∃(c:List Nat) (j:Int),e=.returned (.tuple #[.agg (idA c),.int .i64 ao,.int .i64 j])∧IdOk c∧((Xlj (bs x)=none∧j≠0)∨(Xlj (bs x)=some c∧j=0)):=by
  cases hp:Xlj (bs x) with
  |none=>rw[hp] at a;exact⟨zero32,er,a.1,zero_ok,.inl ⟨rfl,a.2⟩⟩
  |some i=>rw[hp] at a;exact⟨i,0,a,Xuh hp,.inr ⟨rfl,rfl⟩⟩
 clear a MP;obtain⟨c,j,rfl,l,u⟩:=v;obtain⟨n,t⟩:=xq (idA c);have d:Hid (Cl 32 n):=Hd (by rw[t];exact Yga l);have S:Hid (∀w,(Op.equal 25 (.agg n) (.agg zs)).run prog w=.ok (decide (c=zero32)) w):=Hd (fun w=>by rw[t,aA.o];exact Xqh underlying25 (by kernel_rfl) (by kernel_rfl) w l.len l.lt zero_ok.len zero_ok.lt);rw[←t];have I:Hid (∀zz:Array Value,zz.size=32→Sv 160 ⟨w1.heap.size,0,none⟩ (.agg n) (w1.alloc (.cells zz 160)) (w1.alloc (.cells n 160))):=Hd (fun zz hz=>run_storeVar_new w1 160 zz n (by rw[d.o.1];exact Xtr) (by rw[hz,d.o.1]) d.o.2);have s:Bw w0 (w1.alloc (.cells n 160)):=r.alloc r.size _;have G:=Hd (R0.o.on s);have B:=Hd ((s.block _ (zY Q0.o)).trans Q0.o);have A:=bh B0 s;have D:=Hd (zN w1 (.cells n 160));have GW:Hid (w.heap.size<w1.heap.size):=Hd (by have:=R0.o.lt;have:=r.size;omega);clear t r s R0 Q0 B0;have f:=Hd u;have aB:=Hd l;clear l u;go_upto_region 4 with((with_reducible refine Xaa 160 rfl _ _ rfl ?_);refine⟨_,_,_,rfl,rfl,I.o _ rfl,?_⟩)
 obtain⟨W,L⟩:=xq (w1.alloc (.cells n 160));obtain⟨g,hg⟩:=xq w1.heap.size;rw[←L] at G B A D⊢;rw[←hg] at D GW⊢;clear L hg I;rcases f.o with⟨hn,he⟩|⟨hn,rfl⟩
 ·have q1:(j !=0)=true:=by simpa using he
  obtain⟨cs',O,N,st,P,J⟩:=Xeb w W (G.o) (B.o) (A.o);have p:=Hd O;have T:=Hd N;have U:=Hd st;have q:=Hd P;have R:=Hd J;clear O N st P J;have C:Hid (Xbn k 0 m (bs x) w (.returned (.tuple #[.agg cs',.int .i64 3])) (W.setRow (w.heap.size+1) cs')):=Hd ⟨cs',by show _=Ending.returned (.tuple #[_,.int .i64 ((Xhx (bs x):Nat):Int)]);unfold Xhx;rw[hn];rfl,p.o,R.o⟩;clear he hn f G B A D S;go_wp2_with (first
   |((with_reducible refine Xab 121 rfl _ rfl ?_);refine⟨_,_,rfl,T.o,?_⟩)
   |((with_reducible refine Xaa 121 rfl _ _ rfl ?_);refine⟨_,_,_,rfl,rfl,U.o,?_⟩))
  exact zP (q.o _ rfl) rfl C.o
 have F:=Hd (Xap W g 32 _ _ n _ _ D.o rfl underlying160 Xtr d.o.1);obtain⟨Q,r4,f4,c4⟩:=G.o.store 1 32 (by omega) 25 d.o Xtv;have H:=Hd Q;have R4:=Hd r4;have Z:=Hd c4;have Q4:=Hd ((f4.other _ (zY B.o) (by omega)).trans B.o);have Y:=Hd (A.o.trans (f4.below A.o.size (zL _)));have V:Hid (Xhx (bs x)=if c=zero32 then 1 else 0):=Hd (by unfold Xhx;rw[hn]);clear Q r4 f4 c4 G B A f hn;go_upto_region 7 with(first
  |((with_reducible refine Xab 160 rfl _ rfl ?_);refine⟨_,_,rfl,F.o,?_⟩)
  |((with_reducible refine Xaa 25 rfl _ _ rfl ?_);refine⟨_,_,_,rfl,rfl,H.o,?_⟩))
 obtain⟨X,M⟩:=xq (W.setCells w.heap.size 1 n.toList);rw[←M] at R4 Q4 Y Z⊢;clear M H F D;have E:=Hd (Xai X w.heap.size 1 25 n _ underlying25 rfl (by rw[d.o.1];exact Xtv) Z.o);obtain⟨cs',O,N,st,P,J⟩:=Xeb w X (R4.o) (Q4.o) (Y.o);have p:=Hd O;have T:=Hd N;have U:=Hd st;have q:=Hd P;have R:=Hd J;clear O N st P J;obtain⟨b,K⟩:=xq (decide (c=zero32));rw[←K] at S;clear R4 Q4 Y Z;cases b
 ·have C:Hid (Xbn k 0 m (bs x) w (.returned (.tuple #[.agg cs',.int .i64 0])) (X.setRow (w.heap.size+1) cs')):=Hd ⟨cs',by show _=Ending.returned (.tuple #[_,.int .i64 ((Xhx (bs x):Nat):Int)]);rw[V.o,qN (by simpa using K)];rfl,p.o,R.o⟩;clear K V;go_wp2_with (first
   |((with_reducible refine Xab 121 rfl _ rfl ?_);refine⟨_,_,rfl,T.o,?_⟩)
   |((with_reducible refine Xab 25 rfl _ rfl ?_);refine⟨_,_,rfl,E.o,?_⟩)
   |((with_reducible refine Xah 25 rfl rfl ?_);refine⟨_,BZ.o _,?_⟩)
   |((with_reducible refine Xc8 25 rfl _ _ rfl Xp9 ?_);refine⟨_,_,_,rfl,rfl,S.o _,?_⟩)
   |((with_reducible refine Xaa 121 rfl _ _ rfl ?_);refine⟨_,_,_,rfl,rfl,U.o,?_⟩))
  exact zP (q.o _ rfl) rfl C.o
 have C:Hid (Xbn k 0 m (bs x) w (.returned (.tuple #[.agg cs',.int .i64 1])) (X.setRow (w.heap.size+1) cs')):=Hd ⟨cs',by show _=Ending.returned (.tuple #[_,.int .i64 ((Xhx (bs x):Nat):Int)]);rw[V.o,qP (by simpa using K)];rfl,p.o,R.o⟩;clear K V;go_wp2_with (first
  |((with_reducible refine Xab 121 rfl _ rfl ?_);refine⟨_,_,rfl,T.o,?_⟩)
  |((with_reducible refine Xab 25 rfl _ rfl ?_);refine⟨_,_,rfl,E.o,?_⟩)
  |((with_reducible refine Xah 25 rfl rfl ?_);refine⟨_,BZ.o _,?_⟩)
  |((with_reducible refine Xc8 25 rfl _ _ rfl Xp9 ?_);refine⟨_,_,_,rfl,rfl,S.o _,?_⟩)
  |((with_reducible refine Xaa 121 rfl _ _ rfl ?_);refine⟨_,_,_,rfl,rfl,U.o,?_⟩))
 exact zP (q.o _ rfl) rfl C.o
theorem Xpa (w:World)(cs:Array Value)(k:Nat)(m:Bool)(x:ByteArray)(hs:x.size≤100000)(h:RC cs k m true):Calls prog 122 #[.agg cs,.string ⟨#[112,117,98,108,105,99]⟩,.string x] w (Xbn k 6 m (bs x) w):=by
 obtain⟨w0,q⟩:=xq ((w.alloc (.cells cs 121)).alloc (.cells z17 121));obtain⟨r0,q0,b0,s0⟩:=Xe5 w cs h w0 q;obtain⟨P,N⟩:=xq (Xhf (bs x));have Y:=Hd (Xy8 x w0 (by omega));have p:Hid (∀cs' w',RC cs' k m true→Bw w w'→Xbn k 6 m (bs x) w (.returned (.tuple #[.agg cs',.int .i64 (P:Int)])) w'):=Hd (fun cs' w' h1 h2=>⟨cs',by rw[N];rfl,h1,h2⟩);have K:=Hd r0;have J:=Hd q0;have T:=Hd b0;have V:=Hd q;have HP:=Hd N;clear q h r0 q0 b0 s0 N;go_enter func122,ntmps122;go_upto_region 1 with fail;have M:=V.o;unfold z17 at M;rw[←M];clear M V;go_wp2_with fail;refine Y.o.mono ?_;rintro e w1 ⟨G,b,rfl,B,j⟩;rw[←HP.o];have f:=Hd B;have A:Hid (∀zz:Array Value,zz.size=16→Sv 22 ⟨w1.heap.size,0,none⟩ (.agg b) (w1.alloc (.cells zz 22)) (w1.alloc (.cells b 22))):=Hd (fun zz hz=>run_storeVar_new w1 22 zz b (by rw[f.o.1];exact Xck) (by rw[hz,f.o.1]) f.o.2);have l:Bw w0 (w1.alloc (.cells b 22)):=j.alloc j.size _;have R3:=Hd (K.o.on l);have Z:=Hd ((l.block _ (zY J.o)).trans J.o);have U:=bh T l;have W:=Hd (zN w1 (.cells b 22));have I:Hid (w.heap.size<w1.heap.size):=Hd (by have:=K.o.lt;have:=j.size;omega);clear B j l K J T Y;go_upto_region 41 with((with_reducible refine Xaa 22 rfl _ _ rfl ?_);refine⟨_,_,_,rfl,rfl,A.o _ rfl,?_⟩)
 obtain⟨r,c⟩:=xq ((w1.alloc (.cells b 22)).drew);obtain⟨g,O⟩:=xq w1.heap.size;have rd:RB r w.heap.size k m true:=by rw[c];exact R3.o.drew
 have qd:r.heap[w.heap.size+1]?=some (.cells z17 121 (0,0)):=by rw[c];exact Z.o
 have bd:Bw w r:=by rw[c];exact U.o.drew
 have v:(fun wx:World=>wx.heap[g]?=some (.cells b 22 (0,0))) r:=by rw[c,O];exact W.o
 refine wp_region_held (S:=fun wx:World=>wx.heap[g]?=some (.cells b 22 (0,0))) (by kernel_rfl) ?_;change wpAnyH _ _ _ _ _ _ _ _ (w1.alloc (.cells b 22)).drew;rw[←c];rw[←O] at I⊢;clear c O A R3 Z U W;obtain⟨u,cu,fu⟩:=rd.cell (show 39<56 by omega);obtain⟨Q,c1⟩:=rd.set 39 (u:=.int .i64 G) rfl (by omega) (by omega) (by omega) (by omega);obtain⟨H,E⟩:=Xpc rd qd bd 39 (.int .i64 G);obtain⟨s,n⟩:=xq (r.setCell ⟨w.heap.size,39,none⟩ (.int .i64 G));have d:(fun wx:World=>wx.heap[g]?=some (.cells b 22 (0,0))) s:=by rw[n];show(r.setCell _ _).heap[g]?=_;rw[Below.heap_setCell _ _ _ _ (show g≠w.heap.size by have:=I.o;omega)];exact v
 rw[←n] at Q H E;obtain⟨D,r4,F,c4⟩:=Q.store 40 16 (by omega) 22 f.o Xck;have y:(fun wx:World=>wx.heap[g]?=some (.cells b 22 (0,0))) (s.setCells w.heap.size 40 b.toList):=(F.other g (zY d) (by have:=I.o;omega)).trans d;have q4:=(F.other _ (zY H) (by omega)).trans H;have b4:=E.trans (F.below E.size (zL _));have LZ:Hid (∀wx:World,wx.heap[g]?=some (.cells b 22 (0,0))→Ld 22 ⟨g,0,none⟩ wx (.agg b)):=Hd (fun wx h=>Xap wx g 16 _ _ b _ _ h rfl underlying22 Xck f.o.1);clear rd qd bd Q H E c1 F c4;refine Xae 0 (.int .i64 G) rfl (fun _ _=>by go_simp) v ?_;refine Xae 1 (.agg b) rfl (fun w' hw'=>Xaj (ty:=22) (x:=.tmp 17) (ad:=⟨g,0,none⟩) rfl (by kernel_rfl) (LZ.o w' hw')) v ?_;refine Xae 2 (.pointer (some ⟨w.heap.size,39,none⟩)) rfl (fun _ _=>by go_simp) v ?_;refine Xbe (i:=3) (w':=s) (by kernel_rfl) rfl rfl (by rw[n];go_simp) d ?_;refine Xae 4 (.pointer (some ⟨w.heap.size,40,none⟩)) rfl (fun _ _=>by go_simp) d ?_;refine Xbe (i:=5) (by kernel_rfl) rfl rfl (Xak (t:=22) (ad:=⟨w.heap.size,40,none⟩) (u:=.agg b) rfl (by kernel_rfl) (by kernel_rfl) D) y ?_;refine wpAnyH_done (by kernel_rfl) ?_ _;clear v d y n cu fu D;obtain⟨cs',rc,ld,st,b,bb⟩:=Xeb w (s.setCells w.heap.size 40 b.toList) (r4) (q4) (b4);have L:=Hd rc;have X:=Hd ld;have ST:=Hd st;have z:=Hd b;have BB:=Hd bb;clear rc ld st b bb;have R:Hid (Xbn k 6 m (bs x) w (.returned (.tuple #[.agg cs',.int .i64 (P:Int)])) ((s.setCells w.heap.size 40 b.toList).setRow (w.heap.size+1) cs')):=Hd (p.o cs' _ L.o BB.o);obtain⟨w5,C⟩:=xq (s.setCells w.heap.size 40 b.toList);rw[←C] at X ST z R⊢;clear r4 q4 b4 C p;go_simp;refine‹∀(a:Act) (w_1:World),_→_› _ _ ?_;go_wp2_with (first
  |((with_reducible refine Xab 121 rfl _ rfl ?_);refine⟨_,_,rfl,X.o,?_⟩)
  |((with_reducible refine Xaa 121 rfl _ _ rfl ?_);refine⟨_,_,_,rfl,rfl,ST.o,?_⟩))
 exact zP (z.o _ rfl) rfl R.o
theorem Ym1:∀(l:List Value),l.length=16→prog.builtSlice 22 1 [((0:Nat),Value.agg l.toArray)]=some l.toArray
 |[v0,v1,v2,v3,v4,v5,v6,v7,v8,v9,v10,v11,v12,v13,v14,v15],_=>by kernel_rfl
theorem Ymb:(prog.info? 22).map (fun i=>(i.zero,i.size,i.bytes))=some (some (.agg (idA Xel)),16,16):=by kernel_rfl
theorem Xwg {w:World}{base n sz:Nat}{T:TypeId}{v:Value}{xs:List Value}(h:w.ownsRow base T sz v n xs):∃(va:Option Addr) (vc:Nat),v=.slice va n vc:=by
 rcases h.2 with⟨rfl,h0⟩|⟨g,cap,cur,rfl,r⟩;·exact⟨none,0,by rw[h0]⟩
 exact⟨_,cap,rfl⟩
theorem Yel {T:TypeId}{w:World}{base n:Nat}{v:Value}{gs:List ByteArray}(hn:n=gs.length)(h:w.ownsRow base T 16 v n (Xcj gs)):∃(va:Option Addr) (vc:Nat),v=.slice va n vc∧Yky w va (gs.map auZ):=by
 rcases h.2 with⟨rfl,h0⟩|⟨g,cap,cur,rfl,hg,hgb,hc,_,hs,ht⟩;·refine⟨none,0,by rw[h0],fun hne=>absurd ?_ hne⟩;rw[h0] at hn;rw[List.map_eq_nil_iff];exact List.length_eq_zero_iff.1 hn.symm
 refine⟨_,cap,rfl,fun _=>⟨g,0,rfl,fun q hq k u hu=>?_⟩⟩;have b:q<gs.length:=by simpa using hq
 have c:k<16:=by have:=(Array.getElem?_eq_some_iff.1 hu).1;rw[Xaf,List.getElem_map,(Xht _).len] at this;exact this
 rw[Nat.zero_add,cell_of_row w g _ _ _ _ hgb];have a:(cur.toList.take (n*16))[q*16+k]?=some u:=by rw[ht,Xil gs q k b c];rw[List.getElem_map] at hu;unfold idA at hu;rw[List.getElem?_toArray] at hu;exact hu
 rw[List.getElem?_take] at a;split at a;·simpa using a
 cases a
theorem Xnl (w:World)(cs:Array Value)(k0:Nat)(m:Bool)(x:ByteArray)(hs:x.size≤100000)(h:RC cs k0 m true):Calls prog 122 #[.agg cs,.string ⟨#[97,117,116,104,111,114,115]⟩,.string x] w (Xbn k0 4 m (bs x) w):=by
 obtain⟨w0,aN⟩:=xq ((w.alloc (.cells cs 121)).alloc (.cells z17 121));obtain⟨r0,q0,b0,s0⟩:=Xe5 w cs h w0 aN;have SP:=Hd (Xl7 x 44 w0 (by omega) (by omega));have R0:=Hd r0;have Q0:=Hd q0;have B0:=Hd b0;have S0:=Hd s0;have HW:=Hd aN;obtain⟨i0,bP,bR,bS,bT⟩:=info_parts Ymb;clear aN h r0 q0 b0 s0;go_enter func122,ntmps122;go_upto_region 1 with fail;have W':=HW.o;unfold z17 at W';rw[←W'];clear W' HW;go_wp2_with fail;refine SP.o.mono ?_;rintro e E ⟨v,d,rfl,aL,⟨sa,bX,rfl,aM,aB⟩,bF,bO,aA,K⟩;have aR:=Hd aL;have R3:=Hd (R0.o.on K);have Q3:=Hd ((K.block _ (zY Q0.o)).trans Q0.o);have B3:=bh B0 K;have aV:Hid (d≠[]→∃R off,sa=some ⟨R,off,none⟩∧R<E.heap.size∧R≠w.heap.size∧∀j (h:j<d.length),E.cell? ⟨R,off+j,none⟩=some (.string d[j])):=Hd (fun hne=>by obtain⟨R,off,h1,h2,h3⟩:=aB hne;refine⟨R,off,h1,h2,?_,h3⟩;have:=(aA.lt R (by rw[h1];rfl)).1;have:=S0.o;omega);have GZ:=Hd bF;have NE:Hid (0<d.length):=Hd (by rw[←List.length_map (f:=bs),aL];exact List.length_pos_iff.2 (Xjz 44 _));obtain⟨n,hn⟩:=xq d.length;have HN:=Hd hn;rw[←hn] at bO aM⊢;have bC:=K.size;have bV:w.heap.size+2≤E.heap.size:=by have:=S0.o;omega
 clear SP aL aB bF aA K hn R0 Q0 B0 S0 bC;go_wp2_with fail;go_loopg [12,13,14,15] n (fun k i s13 s14 s15 wr=>∃(j:Nat) (v:Value),j≤n∧k=n-j∧i=.int .i64 (j:Int)∧Hid (Xds (d.take j)=0)∧Hid (RB wr w.heap.size k0 m (decide (j=0)))∧Hid (wr.cell? ⟨w.heap.size,36,none⟩=some v∧v.oneCell'=true)∧Hid (wr.heap[w.heap.size+1]?=some (.cells z17 121 (0,0)))∧Hid (wr.ownsRow E.heap.size 22 16 v j (Xcj (d.take j)))∧Hid (Fr1 w.heap.size E wr));exact⟨0,.slice none 0 0,by omega,rfl,rfl,Hd rfl,R3,Hd ⟨R3.o.modsc,rfl⟩,Q3,Hd (World.ownsRow_nil _ _ _ _),Hd (Fr1.refl _ _)⟩;obtain⟨j,v,hj,rfl,rfl,l,Q,q,hq,ho,z⟩:=hrel;have bQ:=Q.o.lt;have bW:E.heap.size≤wr.heap.size:=z.o.size;by_cases hjn:j<n
 ·have A:j<d.length:=by rw[←HN.o];exact hjn
  obtain⟨R,off,rfl,bM,bL,bD⟩:=aV.o (by intro e;rw[e] at A;simp at A);obtain⟨g,hg⟩:=xq (d[j]);have bN:wr.cell? ⟨R,off+j,none⟩=some (.string g):=by have h5:=bD j A;rw[←hg] at h5;have:=z.o.other R bM bL;unfold World.cell? at h5⊢;simp only[this];exact h5
  have bU:g.size≤1000000:=by have:=GZ.o g (by rw[hg];exact zG A);omega
  have aK:d.take (j+1)=d.take j++[g]:=by rw[List.take_succ_eq_append_getElem A,hg]
  have PA:=Hd (Xy9 g wr (by omega));have TB:=Hd (show Xds (d.take (j+1))=fe (Xds (d.take j)) (if(Xfz (bs g)).isNone=true then 3 else 0) by rw[aK,Xm1]);have aP:Hid ((Xfz (bs g)).isNone=true→Xc5 (bs x)=3):=Hd (fun h=>by unfold Xc5;rw[←aR.o,Xjg,qP];exact List.any_eq_true.2 ⟨g,by rw[hg];exact zG A,h⟩);obtain⟨cs,V⟩:=xq (idA (auZ g));have CL:Hid (Cl 16 cs):=Hd (by rw[V];exact Xsz (Xht g));have TS:Hid (Xcj (d.take (j+1))=Xcj (d.take j)++cs.toList):=Hd (by rw[aK,Xiy,V];rfl);have aT:Hid (Calls prog 170 #[.string g] wr fun e w'=>∃(aa er:Int),e=.returned (.tuple #[.agg cs,.int .i64 aa,.int .i64 er])∧((Xfz (bs g)).isNone=true↔er≠0)∧Bw wr w'):=Hd (PA.o.mono (by
   rintro e w' ⟨aa,er,h1,h2⟩;rw[V];unfold auZ
   cases hq:Xfz (bs g) with
   |none=>rw[hq] at h1;obtain⟨rfl,h3⟩:=h1;exact⟨aa,er,rfl,by simp[h3],h2⟩
   |some id=>rw[hq] at h1;subst h1;exact⟨aa,0,rfl,by simp,h2⟩))
  have H:Hid (cs.size=16):=Hd CL.o.1;have aH:=Hd (Xqu CL.o);have BS:Hid (prog.builtSlice 22 1 [((0:Nat),Value.agg cs)]=some cs):=Hd (by have:=Ym1 cs.toList (by simpa using H.o);simpa using this);have FO:Hid (Array.foldl (fun(cs:Array Value) (x:Value×Nat)=>cs.setIfInBounds x.snd x.fst) #[Value.int .u8 0,.int .u8 0,.int .u8 0,.int .u8 0,.int .u8 0,.int .u8 0,.int .u8 0,.int .u8 0,.int .u8 0,.int .u8 0,.int .u8 0,.int .u8 0,.int .u8 0,.int .u8 0,.int .u8 0,.int .u8 0] cs.zipIdx 0 cs.size=cs):=Hd (by have:=Ybd cs.toList (by simpa using H.o);simpa using this);have aD:Hid (Array.foldl (fun(cs:Array Value) (x:Value×Nat)=>cs.setIfInBounds x.snd x.fst) #[Value.int .u8 0,.int .u8 0,.int .u8 0,.int .u8 0,.int .u8 0,.int .u8 0,.int .u8 0,.int .u8 0,.int .u8 0,.int .u8 0,.int .u8 0,.int .u8 0,.int .u8 0,.int .u8 0,.int .u8 0,.int .u8 0] cs.zipIdx 0 16=cs):=Hd (by have:=FO.o;rw[H.o] at this;exact this);clear bD V hg PA aK;go_wp2_with fail;refine aT.o.mono ?_;rintro e F ⟨aa,aZ,rfl,Z,U⟩;have aJ:Hid (∀zz:Array Value,zz.size=16→Sv 22 ⟨F.heap.size,0,none⟩ (.agg cs) (F.alloc (.cells zz 22)) (F.alloc (.cells cs 22))):=Hd (fun zz hz=>run_storeVar_new F 22 zz cs (by rw[CL.o.1];exact Xck) (by rw[hz,CL.o.1]) CL.o.2);have s:Bw wr (F.alloc (.cells cs 22)):=U.alloc U.size _;have P5:=Hd (zN F (.cells cs 22));have R5:=Hd (Q.o.on s);have Q5:=Hd ((s.block _ (zY hq.o)).trans hq.o);have O5:=Hd (Xep ho.o s);have W:=Hd (z.o.trans (Fr1.of_below s));have C5:Hid ((F.alloc (.cells cs 22)).cell? ⟨w.heap.size,36,none⟩=some v∧v.oneCell'=true):=Hd ⟨(s.cell (p:=⟨w.heap.size,36,none⟩) bQ).trans q.o.1,q.o.2⟩;have bZ:wr.heap.size≤F.heap.size:=U.size;have J:=Hd Z;clear U s aT Z Q hq ho z q bN;by_cases her:aZ=0
  ·subst her;have bK:Hid (Xds (d.take (j+1))=0):=Hd (by rw[TB.o,qN (fun h=>J.o.1 h rfl),Xqf];exact l.o);go_upto_region 37 with((with_reducible refine Xaa 22 rfl _ _ rfl ?_);refine⟨_,_,_,rfl,rfl,aJ.o _ rfl,?_⟩)
   obtain⟨w6,aO⟩:=xq (F.alloc (.cells cs 22));rw[←aO] at R5 Q5 O5 W C5 P5⊢;have LD:=Hd (Xap w6 F.heap.size 16 _ _ cs _ _ P5.o rfl underlying22 Xck CL.o.1);have aC:E.heap.size≤w6.heap.size:=by rw[aO];simp;omega
   have X:Hid (∀(o:Obj) (G:World),(w6.alloc o).grownBy G v.ownBlock→RB G w.heap.size k0 m (decide (j=0))∧G.heap[w.heap.size+1]?=some (.cells z17 121 (0,0))∧Fr1 w.heap.size E G):=Hd (fun o G hg=>by have B1:Below E.heap.size w6 (w6.alloc o):=(zR _ _).alloc aC _;have B:=Below.grown B1 hg (by simp;omega) (fun k hk=>(O5.o.lt k hk).1);obtain⟨c,L,N⟩:=R5.o;exact⟨⟨c,(B.block _ (by omega)).trans L,N⟩,(B.block _ (by omega)).trans Q5.o,⟨B.os.trans W.o.os,B.tape.trans W.o.tape,B.output.trans W.o.output,Nat.le_trans aC B.size,fun k hk hne=>(B.block k hk).trans (W.o.other k hk hne)⟩⟩);have bY:cs.size=16:=H.o;have aY:=C5.o.1;clear aO aJ J TB l R5 Q5 W;go_wp2_with (first
    |((with_reducible refine Xab 22 rfl _ rfl ?_);refine⟨_,_,rfl,LD.o,?_⟩)
    |((with_reducible refine wpList_buildSliceTo rfl 53 22 1 _ rfl w6.heap.size rfl _ rfl underlying53 cs BS.o ?_))
    |(at_builtin;refine wpList_append_own _ rfl _ _ 53 rfl E.heap.size 22 i0 (.agg (idA Xel)) 16 16 underlying53 bP bR bS bT rfl (by decide) _ _ _ rfl (O5.o.alloc _) ⟨w6.heap.size,0,none⟩ 1 1 cs.toList rfl (by simpa using H.o) (World.news_of_block (cs:=cs) (t:=22) (fr:=(0,0)) (by(first|rw[aD.o]|rw[FO.o]);exact zN w6 _)) aH.o (by unfold maxLen;omega) (by omega) (by simp;omega) ?_;intro v' G r O _;obtain⟨C,D,rfl⟩:=Xwg r;obtain⟨r8,q8,f8⟩:=X.o _ G O;clear O X;obtain⟨u,cu,fu⟩:=r8.cell (show 36<56 by omega)))
   have O8:Hid (G.ownsRow E.heap.size 22 16 (.slice C (j+1) D) (j+1) (Xcj (d.take (j+1)))):=Hd (by rw[TS.o];exact r);obtain⟨r9,c9⟩:=r8.setL (u:=.slice C (j+1) D) rfl;have f9:Fr1 w.heap.size E (G.setCell ⟨w.heap.size,36,none⟩ (.slice C (j+1) D)):=f8.trans (Fr1.setC _);have q9:(G.setCell ⟨w.heap.size,36,none⟩ (.slice C (j+1) D)).heap[w.heap.size+1]?=some (.cells z17 121 (0,0)):=by rw[Below.heap_setCell _ _ _ _ (show w.heap.size+1≠w.heap.size by omega)];exact q8
   have O9:=Hd (Xnt O8.o (Fr1.setC (w:=G) (b:=w.heap.size) (j:=36) (.slice C (j+1) D)) (by omega));have R9:Hid (RB (G.setCell ⟨w.heap.size,36,none⟩ (.slice C (j+1) D)) w.heap.size k0 m (decide (j+1=0))):=Hd r9;have C9:=Hd c9;have F9:=Hd f9;have Q9:=Hd q9;clear r r9 c9 f9 q9 r8 q8 f8 O8 LD BS FO aD aY C5 O5 P5 aH;go_wp2_with fail;go_roundg (n-(j+1));exact⟨j+1,_,by omega,rfl,by go_num,bK,R9,Hd ⟨C9.o,rfl⟩,Q9,O9,F9⟩;omega
  have q0:(aZ !=0)=true:=Xaq her;have MF:=Hd (aP.o (J.o.2 her));have B5:=Hd (B3.o.trans (W.o.below B3.o.size (zL _)));obtain⟨cs',rc,ld,st,rs,bb⟩:=Xeb w (F.alloc (.cells cs 22)) (R5.o) (Q5.o) (B5.o);have bJ:=Hd rc;have LD:=Hd ld;have ST:=Hd st;have aI:=Hd rs;have BB:=Hd bb;clear rc ld st rs bb;have A0:Hid (Xbn k0 4 m (bs x) w (.returned (.tuple #[.agg cs',.int .i64 3])) ((F.alloc (.cells cs 22)).setRow (w.heap.size+1) cs')):=Hd ⟨cs',by show _=Ending.returned (.tuple #[_,.int .i64 ((Xc5 (bs x):Nat):Int)]);rw[MF.o];rfl,bJ.o.weak,BB.o⟩;clear her C5 O5 W R5 Q5 P5 B5 BS FO aD aH;go_wp2_with (first
   |((with_reducible refine Xab 121 rfl _ rfl ?_);refine⟨_,_,rfl,LD.o,?_⟩)
   |((with_reducible refine Xaa 22 rfl _ _ rfl ?_);refine⟨_,_,_,rfl,rfl,aJ.o _ rfl,?_⟩)
   |((with_reducible refine Xaa 121 rfl _ _ rfl ?_);refine⟨_,_,_,rfl,rfl,ST.o,?_⟩))
  exact zP (aI.o _ rfl) rfl A0.o
 obtain rfl:j=n:=by omega
 have bA:d.take j=d:=List.take_of_length_le (by rw[HN.o];exact zL _);rw[bA] at l ho;have aS:Hid (Xc5 (bs x)=if 8<j then 9 else if Xmp (d.map auZ)=false then 30 else 0):=Hd (by
  have h0:d.any (fun g=>(Xfz (bs g)).isNone)=false:=by
   have:=l.o;unfold Xds at this;cases h:d.any (fun g=>(Xfz (bs g)).isNone);·rfl
   rw[qP h] at this;cases this
  unfold Xc5;rw[←aR.o,Xjg,h0,HN.o];simp)
 obtain⟨va,vc,rfl,bB⟩:=Yel HN.o ho.o;obtain⟨c,L,N⟩:=Q.o;have Y:c[36]?=some (.slice va j vc):=by have h:=q.o.1;rw[cell_of_row wr w.heap.size 36 _ _ _ L] at h;exact h
 have I:=Hd N;have T:(d.map auZ).length=j:=by rw[List.length_map,HN.o]
 obtain⟨M,hM⟩:=xq (Xc5 (bs x));have aU:Hid (∀w',Bw w w'→Xbn k0 4 m (bs x) w (.returned (.tuple #[.agg c,.int .i64 (M:Int)])) w'):=Hd (fun w' h2=>⟨c,by rw[hM];rfl,N.weak,h2⟩);have MD:=Xzc wr.drew va vc (d.map auZ) (by rw[T];have:=NE.o;have:=HN.o;omega) (by rw[T];omega) bB (fun y hy=>by obtain⟨g,_,rfl⟩:=List.mem_map.1 hy;exact Xht g);rw[T,←aS.o,←hM] at MD;have MD:=Hd MD;have BR:=B3.o.trans (z.o.below B3.o.size (zL _));have aE:Hid (Bw w wr.drew):=Hd BR.drew;have HQ:=Hd (show wr.drew.heap[w.heap.size+1]?=some (.cells z17 121 (0,0)) from hq.o);have LZ:Hid (∀wx:World,wx.heap[w.heap.size]?=some (.cells c 121 (0,0))→Ld 121 ⟨w.heap.size,0,none⟩ wx (.agg c)):=Hd (fun wx h=>Xap wx w.heap.size 56 _ _ c _ _ h rfl underlying121 Xbt I.o.cl.1);have aQ:Hid (∀wx:World,wx.heap[w.heap.size]?=some (.cells c 121 (0,0))→wx.cell? ⟨w.heap.size,36,none⟩=some (.slice va j vc)):=Hd (fun wx h=>by rw[cell_of_row wx w.heap.size 36 _ _ _ h];exact Y)
 have aW:Hid (∀wx:World,wx.heap[w.heap.size+1]?=some (.cells z17 121 (0,0))→Bw w wx→Sv 121 ⟨w.heap.size+1,0,none⟩ (.agg c) wx (wx.setRow (w.heap.size+1) c)∧
     (∀tmps:Array Value,tmps.getD 6 undef=.pointer (some ⟨w.heap.size+1,0,none⟩)→(results Tryz.f122 tmps).run prog (wx.setRow (w.heap.size+1) c)=.ok (.tuple #[.agg c,tmps.getD 7 undef]) (wx.setRow (w.heap.size+1) c))∧Bw w (wx.setRow (w.heap.size+1) c)):=Hd (fun wx hx hbx=>
  ⟨run_storeVar_row (P:=prog) wx (w.heap.size+1) _ 121 z17 c hx (by rw[I.o.cl.1];exact Xbt) (by rw[I.o.cl.1,cl_z17.1]) I.o.cl.2,
   fun tmps ht=>Xa4 results122 tmps _ (w.heap.size+1) _ _ _ _ ht (setRow_heap wx (w.heap.size+1) z17 c _ _ hx) underlying121 rfl (by rw[I.o.cl.1];exact Xbt),
   below_setRow hbx (Nat.le_succ _) c⟩)
 clear hM aS bB q l Q hq ho z BR Y N aV GZ T;go_upto_region 38 with fail;have HS:(fun wx:World=>wx.heap[w.heap.size]?=some (.cells c 121 (0,0))) wr.drew:=L;refine wp_region_held (S:=fun wx:World=>wx.heap[w.heap.size]?=some (.cells c 121 (0,0))) (by kernel_rfl) ?_;change wpAnyH _ _ _ _ _ _ _ _ wr.drew;obtain⟨wd,bG⟩:=xq wr.drew;rw[←bG] at HS MD aE HQ⊢;clear bG L;refine Xae 0 (.agg c) rfl (fun w' hw'=>Xaj (ty:=121) (x:=.tmp 3) (ad:=⟨w.heap.size,0,none⟩) rfl (by kernel_rfl) (LZ.o w' hw')) HS ?_;refine Xae 1 (.pointer (some ⟨w.heap.size,36,none⟩)) rfl (fun _ _=>by go_simp) HS ?_;refine Xae 2 (.slice va j vc) rfl (fun w' hw'=>by have aY:=aQ.o w' hw';go_simp) HS ?_;refine Xag (i:=3) (by kernel_rfl) ?_;refine Xao (f:=171) (args:=#[.slice va j vc]) rfl rfl (by go_simp) ?_;refine MD.o.mono ?_;rintro e w7 ⟨rfl,bE⟩;have b7:Bw wd w7:=Dr.below bE;have aF:(fun wx:World=>wx.heap[w.heap.size]?=some (.cells c 121 (0,0))) w7:=(b7.block _ (zY HS)).trans HS;obtain⟨bI,bH,aX⟩:=aW.o w7 ((b7.block _ (zY HQ.o)).trans HQ.o) (bg aE.o b7);have aG:(fun wx:World=>wx.heap[w.heap.size]?=some (.cells c 121 (0,0))) (w7.setRow (w.heap.size+1) c):=(setRow_other w7 (w.heap.size+1) w.heap.size c (by omega)).trans aF;have aI:=Hd bH;have BB:=Hd aX;refine⟨_,rfl,aF,?_⟩;refine Xbe (i:=4) (by kernel_rfl) rfl rfl (Xak (t:=121) (ad:=⟨w.heap.size+1,0,none⟩) (u:=.agg c) rfl (by kernel_rfl) (by kernel_rfl) bI) aG ?_;refine Xa6 (i:=5) (v:=.int .i64 (M:Int)) (by kernel_rfl) rfl rfl (Xal rfl (by kernel_rfl)) aG ?_;refine wpAnyH_done (by kernel_rfl) ?_ _;clear HS aF aG bI bH aX b7 bE MD aE HQ LZ aQ aW;go_simp;refine‹∀(a:Act) (w_1:World),_→_› _ _ ?_;go_wp2_with fail;exact zP (aI.o _ rfl) rfl (aU.o _ BB.o)
end Go.Proofs.YtjolcnopipbkhaaGreatDoor
