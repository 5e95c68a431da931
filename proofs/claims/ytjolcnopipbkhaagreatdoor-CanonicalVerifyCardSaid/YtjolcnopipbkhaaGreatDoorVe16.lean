/- bulletinref15.bad, end, Body. -/
import Derived.Test.YtjolcnopipbkhaaGreatDoorVe15
namespace Go.Proofs.YtjolcnopipbkhaaGreatDoor
open Go.Proofs.Tryz
open Go.RowKit Go.Maps
set_option linter.unusedVariables false
set_option maxHeartbeats 100000000
set_option maxRecDepth 100000
theorem Ygz (p:Nat→Bool):∀(m:List Nat) (k:Nat),k≤m.length→(∀j,j<k→p (m.getD j 0)=true)→(k=m.length∨p (m.getD k 0)=false)→(m.takeWhile p).length=k
 |[],k,hk,_,_=>by simp at hk;subst hk;rfl
 |x::m,0,hk,h1,a=>by
  rcases a with a|a;·simp at a
  have:p x=false:=a;simp[this]
 |x::m,k+1,hk,h1,a=>by
  have b:p x=true:=h1 0 (by omega);have:=Ygz p m k (by simpa using hk) (fun j hj=>h1 (j+1) (by omega)) (by
   rcases a with a|a;·left;simpa using a
   right;exact a)
  simp[b,this]
theorem Yje (l:List Nat)(a n:Nat)(h1:a≤n)(h2:n≤l.length)(h3:∀j,a≤j→j<n→l.getD j 0≠10)(b:n=l.length∨l.getD n 0=10):a+(Xff (l.drop a)).length=n:=by
 have d:∀j,(l.drop a).getD j 0=l.getD (a+j) 0:=fun j=>by simp[List.getD]
 have:=Ygz (fun c=>!decide (c=10)) (l.drop a) (n-a) (by rw[List.length_drop];omega) (fun j hj=>by
  rw[d];have:=h3 (a+j) (by omega) (by omega);simp only[Bool.not_eq_true',decide_eq_false_iff_not];exact this) (by
  rcases b with b|b;·left;rw[List.length_drop];omega
  right;rw[d,show a+(n-a)=n by omega,b];rfl)
 unfold Xff;omega
theorem Yad (l:List Nat):Xff l=l.take (Xff l).length:=by have h:Xff l<+:l:=List.takeWhile_prefix _;exact List.prefix_iff_eq_take.1 h
theorem Ygf:∀(n:Nat) (l:List Nat) (k:Nat),l.length≤n→l.length≤k→Xoi k l=Xoi l.length l:=by
 intro n
 induction n with
 |zero=>intro l k c b;have:l=[]:=List.length_eq_zero_iff.1 (by omega);subst this;cases k<;>rfl
 |succ n ih=>
  intro l k c b
  cases l with
  |nil=>cases k<;>rfl
  |cons a l=>
   cases k with
   |zero=>simp at b
   |succ k=>
    rw[List.length_cons];simp only[Xoi];have d:((a::l).drop ((Xff (a::l)).length+1)).length≤l.length:=by simp
    have f:l.length≤n:=by simpa using c
    have e:l.length≤k:=by simpa using b
    rw[ih _ k (by omega) (by omega),ih _ l.length (by omega) (by omega)]
theorem Xxt {l:List Nat}(h:l≠[]):Xfy l=if(Xff l).length=l.length then 4 else if 998<(Xff l).length then 5 else if Xhz true (Xff l)=false then 6 else Xfy (l.drop ((Xff l).length+1)):=by
 cases l with
 |nil=>exact absurd rfl h
 |cons a l=>
  conv=>lhs;unfold Xfy
  rw[List.length_cons];simp only[Xoi];rw[qN (List.cons_ne_nil _ _),Ygf l.length _ l.length (by simp) (by simp)];rfl
def Yc2 (l:List Nat)(w:World)(e:Ending)(w':World):Prop:=
 ∃r:Int,e=.returned (.int .i64 r)∧(Xhz true l=true→r<0)∧(Xhz true l=false→0≤r)∧-1≤r∧r≤20000000∧Bw w w'
theorem Xl9:∀(k a:Nat) (l:List Nat),∀p∈rsN k a l,p.1≤a+l.length
 |0,_,_,p,h=>by simp[rsN] at h
 |k+1,a,l,p,h=>by
  simp only[rsN] at h;split at h;·cases h
  have b:=(Xrl l).1;rcases List.mem_cons.1 h with rfl|h;·simp
  have:=Xl9 k (a+rn l) (l.drop (rn l)) p h;rw[List.length_drop] at this;omega
theorem Yee (s:ByteArray)(w:World)(hs:s.size≤10000000):Calls prog 76 #[.string s] w (Yc2 (bs s) w):=by
 have A:=Hd (Yct s w hs);have LN:(rns (bs s)).length≤s.size:=by rw[←Xac];exact Xza _
 have R:((rns (bs s)).map Prod.snd).length≤s.size:=by rw[List.length_map];exact LN
 obtain⟨g,l⟩:=xq (Xhz true (bs s));have S:Hid (g=(vld (bs s)&&((rns (bs s)).map Prod.snd).all (gd true))):=Hd (by rw[l,Xux]);have z:Hid (∀(r:Int) w',(g=true→r<0)→(g=false→0≤r)→-1≤r→r≤20000000→Bw w w'→Yc2 (bs s) w (.returned (.int .i64 r)) w'):=Hd (fun r w' K L h3 h4 h5=>⟨r,rfl,by rw[←l];exact K,by rw[←l];exact L,h3,h4,h5⟩);obtain⟨V,U⟩:=xq (vld (bs s));obtain⟨F,q⟩:=xq ((rns (bs s)).map Prod.snd);obtain⟨H,u⟩:=xq ((rns (bs s)).map Prod.fst);have HV:=Hd U;rw[←U,←q] at S;obtain⟨m,t⟩:=xq F.length;rw[←q,←t] at R;have OL:Hid (H.length=m):=Hd (by rw[u,t,q,List.length_map,List.length_map]);have OB:Hid (∀j,H.getD j 0≤s.size):=Hd (fun j=>by
  by_cases h:j<H.length
  ·have hm:=zG h;rw[List.getD_eq_getElem?_getD,List.getElem?_eq_getElem h];have X:H[j]∈(rns (bs s)).map Prod.fst:=by rw[←u];exact hm
   obtain⟨p,hp,e⟩:=List.mem_map.1 X;have:=Xl9 _ _ _ p hp;rw[Xac] at this;simp only[Option.getD_some];have e2:H[j]=p.1:=by rw[e]
   omega
  rw[List.getD_eq_getElem?_getD,List.getElem?_eq_none (by omega)];simp)
 have O:=Hd q;have P:=Hd u;have N:=Hd t;have SZ:=Hd hs;clear LN U q t u l;go_enter func76,ntmps76;go_wp2_with fail;refine A.o.mono ?_;rintro e w1 ⟨v1,v2,a,T,rfl,r1,r2,K,L,ha,hb⟩;rw[Xac] at ha;rw[←O.o] at r1;rw[←P.o] at r2;have R1:=Hd r1;have R2:=Hd r2;have B1:=Hd hb;have ER:Hid ((V=true→T=0)∧(V=false→T≠0)):=Hd ⟨fun h=>K (HV.o.symm.trans h),fun h=>L (HV.o.symm.trans h)⟩;clear A r1 r2 K L hb;obtain⟨ba,cap,rfl,hc,_⟩:=R1.o;rw[←N.o] at hc⊢;go_wp2_with fail;go_loopg [7] m (fun k i wr=>∃n:Nat,n≤m∧k=m-n∧i=.int .i64 (n:Int)∧Hid ((F.take n).all (gd true)=true)∧Hid (Dr w1 wr));exact⟨0,by omega,rfl,rfl,Hd rfl,Hd (Dr.refl _)⟩;obtain⟨n,hn,rfl,rfl,l,D⟩:=hrel;have BD:Hid (Bw w wr):=Hd (B1.o.trans ((Dr.below D.o).mono B1.o.size));by_cases b:n<m
 ·have E:n<F.length:=by rw[←N.o];exact b
  obtain⟨b0,off,aA,e0,_,I,f⟩:=R1.o.at n E;obtain⟨x,Y⟩:=xq (F.getD n 0);rw[←Y] at f;cases e0;have aD:wr.cell? ⟨b0,off+n,none⟩=some (.int .i64 (x:Int)):=((Dr.below D.o).cell (p:=⟨b0,off+n,none⟩) I).trans f;obtain⟨c,B⟩:=xq (Xu8 x);have C:=Hd (fun w=>Xt7 w x);rw[←B] at C;have HC:=Hd B;have Q:=Hd Y;have M:=Hd E;clear f Y B E I;cases c
  ·have G:Hid ((F.take (n+1)).all (gd true)=true):=Hd (Xb2 l.o M.o Q.o (by unfold gd;rw[←HC.o];rfl));clear l;go_wp2_with (go_at_call 68;refine(C.o _).mono ?_;rintro e w' ⟨rfl,rfl⟩)
   go_roundg (m-(n+1));exact⟨n+1,by omega,rfl,by go_num,G,by(first|exact D|exact Hd (D.o.drewN _))⟩;omega
  by_cases x9:x=9
  ·have q1:((x:Int) !=9)=false:=Xaw (by omega);have G:Hid ((F.take (n+1)).all (gd true)=true):=Hd (Xb2 l.o M.o Q.o (by unfold gd;rw[zT x9,Bool.and_self,Bool.or_true]));clear l x9;go_wp2_with (go_at_call 68;refine(C.o _).mono ?_;rintro e w' ⟨rfl,rfl⟩)
   go_roundg (m-(n+1));exact⟨n+1,by omega,rfl,by go_num,G,by(first|exact D|exact Hd (D.o.drewN _))⟩;omega
  have q1:((x:Int) !=9)=true:=Xaq (by omega);have G:Hid (g=false):=Hd (by rw[S.o,Xdk M.o Q.o (by unfold gd;rw[←HC.o,zW x9];rfl),Bool.and_false]);obtain⟨b2,v,aB,e2,W,J,d⟩:=R2.o.at n (by rw[OL.o];exact b);obtain⟨y,Z⟩:=xq (H.getD n 0);have aE:y≤s.size:=by rw[Z];exact OB.o n
  rw[←Z] at d;subst e2;rw[OL.o] at W⊢;have aC:wr.cell? ⟨b2,v+n,none⟩=some (.int .i64 (y:Int)):=((Dr.below D.o).cell (p:=⟨b2,v+n,none⟩) J).trans d;clear l x9 d Z J;go_wp2_with (go_at_call 68;refine(C.o _).mono ?_;rintro e w' ⟨rfl,rfl⟩)
  go_ret;exact z.o _ _ (fun h=>by rw[G.o] at h;cases h) (fun _=>by omega) (by omega) (by have:=SZ.o;omega) (by(first|exact BD.o|exact BD.o.drew|exact BD.o.trans ((Dr.below ((Dr.refl _).drewN _)).mono BD.o.size)))
 obtain rfl:n=m:=by omega
 have GV:Hid (g=V):=Hd (by have h:=l.o;rw[List.take_of_length_le (by rw[N.o];exact zL _)] at h;rw[S.o,h,Bool.and_true]);clear l
 cases V with
 |true=>obtain rfl:=ER.o.1 rfl;go_wp2_with fail;go_ret;exact z.o _ _ (fun _=>by decide) (fun h=>by rw[GV.o] at h;cases h) (by decide) (by decide) BD.o
 |false=>have q1:((T:Int) !=0)=true:=Xaq (by have:=ER.o.2 rfl;omega);go_wp2_with fail;go_ret;exact z.o _ _ (fun h=>by rw[GV.o] at h;cases h) (fun _=>by omega) (by omega) (by have:=SZ.o;omega) BD.o
theorem Yea (s:ByteArray)(a:Nat)(w:World)(hs:s.size≤10000000)(ha:a≤s.size):Rz 75 #[.string s,.int .i64 (a:Int)] w (.int .i64 ((a+(Xff ((bs s).drop a)).length:Nat):Int)):=by
 go_enter func75,ntmps75;go_wp2_with fail;go_loopg [1] (s.size-a) (fun k i wr=>∃n:Nat,a≤n∧n≤s.size∧k=s.size-n∧i=.int .i64 (n:Int)∧Hid (∀j,a≤j→j<n→(bs s).getD j 0≠10)∧Hid (Dr w wr));exact⟨a,by omega,by omega,rfl,rfl,Hd (fun j f l=>by omega),Hd (Dr.refl _)⟩;obtain⟨n,f,l,rfl,rfl,hv,c⟩:=hrel;have E:Hid (n=s.size∨(bs s).getD n 0=10→n=a+(Xff ((bs s).drop a)).length):=Hd (fun h=>(Yje (bs s) a n f (by rw[Xac];exact l) hv.o (by rw[Xac];exact h)).symm);by_cases b:n<s.size
 ·obtain⟨x,d⟩:=xq ((bs s).getD n 0);have m:x<256:=by rw[d];exact Xbd s n
  have q:=fun w=>Xg4 s w n n rfl b x d;have e:=Hd d;clear d;by_cases e10:x=10;·have p:((x:Int) !=10)=false:=Xaw (by omega);have F:=Hd (E.o (.inr (by rw[←e.o];exact e10)));clear hv E e10;go_wp2_with fail;go_ret;exact⟨by rw[←F.o];rfl,by(first|exact c.o|exact c.o.drewN _)⟩
  have p:((x:Int) !=10)=true:=Xaq (by omega);have F:Hid (∀j,a≤j→j<n+1→(bs s).getD j 0≠10):=Hd (fun j g1 g2=>by
   rcases Nat.lt_succ_iff_lt_or_eq.1 g2 with g|rfl;·exact hv.o j g1 g
   rw[←e.o];exact e10)
  clear hv E e10;go_wp2_with fail;go_roundg (s.size-(n+1));exact⟨n+1,by omega,by omega,rfl,by go_num,F,by(first|exact c|exact Hd (c.o.drewN _))⟩;omega
 have F:=Hd (E.o (.inl (by omega)));clear hv E;go_wp2_with fail;go_ret;exact⟨by rw[←F.o];rfl,by(first|exact c.o|exact c.o.drewN _)⟩
def Ycz (l:List Nat)(w:World)(e:Ending)(w':World):Prop:=∃n:Int,e=.returned (.tuple #[.int .i64 n,.int .i64 (Xfy l:Nat)])∧Bw w w'
theorem Xzq (s:ByteArray)(w:World)(hs:s.size≤10000000):Calls prog 32 #[.string s] w (Ycz (bs s) w):=by
 obtain⟨T,z⟩:=xq (Xfy (bs s));have c:Hid (∀(n:Int) (t:Nat) w',t=T→Bw w w'→Ycz (bs s) w (.returned (.tuple #[.int .i64 n,.int .i64 (t:Int)])) w'):=Hd (by rintro n t w' rfl h;exact⟨n,by rw[z],h⟩);have L:=Hd z;clear z;go_enter func32,ntmps32;go_wp2_with fail;go_loopg [4] s.size (fun k i wr=>∃n:Nat,n≤s.size∧k=s.size-n∧i=.int .i64 (n:Int)∧Hid (T=Xfy ((bs s).drop n))∧Hid (Bw w wr));exact⟨0,by omega,rfl,rfl,L,Hd (zR _ _)⟩;obtain⟨n,M,rfl,rfl,hv,A⟩:=hrel;by_cases b:n<s.size
 ·have f:((bs s).drop n).length=s.size-n:=by rw[List.length_drop,Xac]
  have u:(bs s).drop n≠[]:=by intro e;rw[e] at f;simp at f;omega
  have j:=Xxt u;have x:=Hd (Yea s n wr hs M);have q:=Xr5 ((bs s).drop n);rw[f] at q j;obtain⟨m,C⟩:=xq ((Xff ((bs s).drop n)).length);have G:Hid (Xff ((bs s).drop n)=bs (s.extract n (n+m))):=Hd (by rw[Yad,←C,Xb3,List.drop_take];congr 1;omega);rw[←C] at q j x;rw[List.drop_drop] at j;have a:Hid (T=if m=s.size-n then 4 else if 998<m then 5 else if Xhz true (bs (s.extract n (n+m)))=false then 6 else Xfy ((bs s).drop (n+(m+1)))):=Hd (by rw[hv.o,j,G.o]);clear f u j C hv G;go_wp2_with fail;refine x.o.mono ?_;rintro e w1 ⟨rfl,p⟩;have v:=Hd (A.o.trans ((Dr.below p).mono A.o.size));clear p x;by_cases c1:m=s.size-n;·have N:(((n+m:Nat):Int)==(s.size:Int))=true:=Xa8 (by omega);have F:Hid (4=T):=Hd (by rw[a.o,qP c1]);clear a c1;go_wp2_with fail;go_ret2;exact c.o _ 4 _ F.o v.o
  have N:(((n+m:Nat):Int)==(s.size:Int))=false:=Xar (by omega);by_cases c2:998<m;·have F:Hid (5=T):=Hd (by rw[a.o,qN c1,qP c2]);clear a c1;go_wp2_with fail;go_ret2;exact c.o _ 5 _ F.o v.o
  have E:=Hd (fun w=>Yee (s.extract n (n+m)) w (by rw[ByteArray.size_extract];omega));obtain⟨g,B⟩:=xq (Xhz true (bs (s.extract n (n+m))));have y:=Hd B;have d:Hid (T=if g=false then 6 else Xfy ((bs s).drop (n+(m+1)))):=Hd (by rw[a.o,qN c1,qN c2,←B]);have O:n+m<s.size:=by omega
  clear a c1 B;go_wp2_with fail;refine(E.o _).mono ?_;rintro e R ⟨r,rfl,H,I,P,Q,l⟩;have D:=bh v l;have J:=Hd (fun h=>H (y.o.symm.trans h));have K:=Hd (fun h=>I (y.o.symm.trans h));clear H I l E y
  cases g with
  |false=>have:=K.o rfl;have F:Hid (6=T):=Hd (by rw[d.o];rfl);clear d;go_wp2_with fail;go_ret2;exact c.o _ 6 _ F.o D.o
  |true=>have:=J.o rfl;have F:Hid (T=Xfy ((bs s).drop (n+(m+1)))):=Hd (by rw[d.o];rfl);clear d;go_wp2_with fail;go_roundg (s.size-(n+(m+1)));exact⟨n+(m+1),by omega,rfl,by go_num,F,D⟩;omega
 have F:Hid (0=T):=Hd (by rw[hv.o,List.drop_of_length_le (by rw[Xac];omega)];rfl);clear hv;go_wp2_with fail;go_ret2;exact c.o _ 0 _ F.o A.o
theorem Yd5 (w:World)(c:Nat)(hc:c<256):Rx 73 #[.int .u8 (c:Int)] w (.bool (low c)):=by
 rcases(by omega:c<97∨(97≤c∧c≤122)∨122<c) with h|⟨h,h2⟩|h
 all_goals
  go_enter func73,ntmps73;go_wp2_with fail;go_ret;exact⟨Xa5 (by rw[Bool.eq_iff_iff];simp[low];try omega),rfl⟩
theorem Xwc (w:World)(c:Nat)(hc:c<256):Rx 74 #[.int .u8 (c:Int)] w (.bool (dig c)):=by
 rcases(by omega:c<48∨(48≤c∧c≤57)∨57<c) with h|⟨h,h2⟩|h
 all_goals
  go_enter func74,ntmps74;go_wp2_with fail;go_ret;exact⟨Xa5 (by rw[Bool.eq_iff_iff];simp[dig];try omega),rfl⟩
theorem Xvw (w:World)(n:Int):Rx 26 #[.int .i64 n] w (.bool (!(decide (n<0)||decide (105190559<n)))):=by
 rcases(by omega:n<0∨(0≤n∧n≤105190559)∨105190559<n) with h|⟨h,h2⟩|h
 all_goals
  go_enter func26,ntmps26;go_wp2_with fail;go_ret;exact⟨Xa5 (by(first|(rw[Bool.eq_iff_iff];done)|(rw[Bool.eq_iff_iff];simp;done)|(rw[Bool.eq_iff_iff];simp;omega))),rfl⟩
theorem Xzn (s:ByteArray)(w:World)(hs:s.size≤maxLen):Rz 31 #[.string s] w (.int .i64 (Xk4 (bs s):Nat)):=by
 unfold maxLen at hs;obtain⟨T,z⟩:=xq (Xk4 (bs s));rw[←z];have y:Hid (T=fe (eIf (decide (20<s.size)) 5) (eIf ((bs s).any dsB) 6)):=Hd (by rw[z];unfold Xk4;rw[Xac];rfl);clear z;by_cases hl:20<s.size;·have C:Hid (T=5):=Hd (by rw[y.o,zT hl];rfl);go_enter func31,ntmps31;go_wp2_with fail;go_ret;exact⟨by rw[C.o];rfl,Dr.refl _⟩
 have A:Hid (T=eIf ((bs s).any dsB) 6):=Hd (by rw[y.o,zW hl];rfl);clear y;go_enter func31,ntmps31;go_wp2_with fail;go_loopg [3] s.size (fun k i wr=>∃n:Nat,n≤s.size∧k=s.size-n∧i=.int .i64 (n:Int)∧Hid (((bs s).take n).any dsB=false)∧Hid (Dr w wr));exact⟨0,by omega,rfl,rfl,Hd rfl,Hd (Dr.refl _)⟩;obtain⟨n,G,rfl,rfl,hv,a⟩:=hrel;by_cases b:n<s.size
 ·obtain⟨x,r⟩:=xq ((bs s).getD n 0);have t:x<256:=by rw[r];exact Xbd s n
  have H:=fun w=>Xg4 s w n n rfl b x r;have m:=Hd (fun w=>Yd5 w x t);have j:=Hd (fun w=>Xwc w x t);obtain⟨l,g⟩:=xq (low x);obtain⟨d,f⟩:=xq (dig x);rw[←g] at m;rw[←f] at j;obtain⟨q,v⟩:=xq (dsB x);have u:Hid (q=(!l&&!d&&!decide (x=45))):=Hd (by rw[v,g,f];rfl);have c:Hid (q=false→((bs s).take (n+1)).any dsB=false):=Hd (fun h=>Xhv hv.o (by rw[Xac];exact b) r (v.symm.trans h));have p:Hid (q=true→(bs s).any dsB=true):=Hd (fun h=>Xiz (by rw[Xac];exact b) r (v.symm.trans h));clear r g f v hv
  cases l with
  |true=>
   have F:=Hd (c.o (by rw[u.o];rfl));clear c p;go_wp2_with (first|(go_at_call 73;refine(m.o _).mono ?_;rintro e w' ⟨rfl,rfl⟩)|(go_at_call 74;refine(j.o _).mono ?_;rintro e w' ⟨rfl,rfl⟩))
   go_roundg (s.size-(n+1));exact⟨n+1,by omega,rfl,by go_num,F,by(first|exact a|exact Hd (a.o.drewN _))⟩;omega
  |false=>
   cases d with
   |true=>
    have F:=Hd (c.o (by rw[u.o];rfl));clear c p;go_wp2_with (first|(go_at_call 73;refine(m.o _).mono ?_;rintro e w' ⟨rfl,rfl⟩)|(go_at_call 74;refine(j.o _).mono ?_;rintro e w' ⟨rfl,rfl⟩))
    go_roundg (s.size-(n+1));exact⟨n+1,by omega,rfl,by go_num,F,by(first|exact a|exact Hd (a.o.drewN _))⟩;omega
   |false=>
    by_cases e45:x=45
    ·have E:((x:Int) !=45)=false:=Xaw (by omega);have F:=Hd (c.o (by rw[u.o,zT e45];rfl));clear c p e45;go_wp2_with (first|(go_at_call 73;refine(m.o _).mono ?_;rintro e w' ⟨rfl,rfl⟩)|(go_at_call 74;refine(j.o _).mono ?_;rintro e w' ⟨rfl,rfl⟩))
     go_roundg (s.size-(n+1));exact⟨n+1,by omega,rfl,by go_num,F,by(first|exact a|exact Hd (a.o.drewN _))⟩;omega
    have E:((x:Int) !=45)=true:=Xaq (by omega);have F:=Hd (p.o (by rw[u.o,zW e45];rfl));have D:Hid (T=6):=Hd (by rw[A.o,F.o];rfl);clear c p e45;go_wp2_with (first|(go_at_call 73;refine(m.o _).mono ?_;rintro e w' ⟨rfl,rfl⟩)|(go_at_call 74;refine(j.o _).mono ?_;rintro e w' ⟨rfl,rfl⟩))
    go_ret;exact⟨by rw[D.o];rfl,by(first|exact a.o|exact a.o.drewN _)⟩
 have B:Hid (T=0):=Hd (by rw[A.o,Xi0 hv.o (by rw[Xac];omega)];rfl);clear hv;go_wp2_with fail;go_ret;exact⟨by rw[B.o];rfl,by(first|exact a.o|exact a.o.drewN _)⟩
theorem Xzp (s:ByteArray)(w:World)(hs:s.size≤maxLen):Rz 167 #[.string s] w (.bool (Xej (bs s))):=by
 unfold maxLen at hs;obtain⟨T,q⟩:=xq (Xej (bs s));rw[←q];have a:Hid (T=(!(bs s).isEmpty&&decide (s.size≤20)&&low ((bs s).getD 0 0)&&(bs s).all nmC)):=Hd (by rw[q];unfold Xej;rw[Xac]);clear q;by_cases h0:s.size=0;·have F:Hid (T=false):=Hd (by rw[a.o,Xvc h0];rfl);obtain rfl:=Xd9 h0;clear a h0 hs;go_enter func167,ntmps167;go_wp2_with fail;go_ret;exact⟨by rw[F.o];rfl,Dr.refl _⟩
 have r:Hid ((bs s).isEmpty=false):=Hd (by rw[List.isEmpty_eq_false_iff];intro e;have:=congrArg List.length e;rw[Xac] at this;exact h0 this);by_cases h20:20<s.size;·have F:Hid (T=false):=Hd (by rw[a.o,zW (by omega)];simp);clear a;go_enter func167,ntmps167;go_wp2_with fail;go_ret;exact⟨by rw[F.o];rfl,Dr.refl _⟩
 obtain⟨c,f⟩:=xq ((bs s).getD 0 0);have A:c<256:=by rw[f];exact Xbd s 0
 have E:=Yc5 s c f (by omega);have j:Hid (T=(low c&&(bs s).all nmC)):=Hd (by rw[a.o,r.o,zT (show s.size≤20 by omega),f];simp);have y:=Hd f;clear a r f;by_cases hlo:c<97;·have F:Hid (T=false):=Hd (by rw[j.o];unfold low;rw[zW (by omega)];rfl);go_enter func167,ntmps167;go_wp2_with fail;go_ret;exact⟨by rw[F.o];rfl,Dr.refl _⟩
 by_cases hhi:122<c;·have F:Hid (T=false):=Hd (by rw[j.o];unfold low;rw[zW (show¬c≤122 by omega)];simp);go_enter func167,ntmps167;go_wp2_with fail;go_ret;exact⟨by rw[F.o];rfl,Dr.refl _⟩
 have l:low c=true:=by unfold low;rw[zT (show 97≤c by omega),zT (show c≤122 by omega)];rfl
 have TA:Hid (T=(bs s).all nmC):=Hd (by rw[j.o,l];rfl);have z:Hid (((bs s).take 1).all nmC=true):=Hd (Xb2 (k:=0) rfl (by rw[Xac];omega) y.o (by unfold nmC;rw[l];rfl));clear j l;go_enter func167,ntmps167;go_wp2_with fail;go_loopg [3,4] s.size (fun k i c wr=>∃n:Nat,1≤n∧n≤s.size∧k=s.size+1-n∧i=.int .i64 (n:Int)∧Hid (((bs s).take n).all nmC=true)∧Hid (Dr w wr));exact⟨1,by omega,by omega,by omega,rfl,z,Hd (Dr.refl _)⟩;obtain⟨n,C,D,rfl,rfl,hv,d⟩:=hrel;by_cases b:n<s.size
 ·obtain⟨x,g⟩:=xq ((bs s).getD n 0);have B:x<256:=by rw[g];exact Xbd s n
  have G:=fun w=>Xg4 s w n n rfl b x g;have p:Hid (nmC x=true→((bs s).take (n+1)).all nmC=true):=Hd (fun h=>Xb2 hv.o (by rw[Xac];exact b) g h);have m:Hid (nmC x=false→(bs s).all nmC=false):=Hd (fun h=>Xdk (by rw[Xac];exact b) g h);clear g hv;rcases(by omega:(97≤x∧x≤122)∨(48≤x∧x≤57)∨x=45∨x=43∨x=95∨(x<43)∨(x=44)∨(45<x∧x<48)∨(57<x∧x<95)∨x=96∨122<x) with⟨h,h2⟩|⟨h,h2⟩|h|h|h|h|h|⟨h,h2⟩|⟨h,h2⟩|h|h
  all_goals
   first
    |have F:=Hd (p.o (by simp[nmC,low,dig];omega))
     clear p m;try have t:((x:Int)==45)=true:=Xa8 (by omega)
     try have u:((x:Int)==43)=true:=Xa8 (by omega)
     try have v:((x:Int)==95)=true:=Xa8 (by omega)
     try have t:((x:Int)==45)=false:=Xar (by omega)
     try have u:((x:Int)==43)=false:=Xar (by omega)
     try have v:((x:Int)==95)=false:=Xar (by omega)
     go_wp2_with fail;go_roundg (s.size+1-(n+1));exact⟨n+1,by omega,by omega,rfl,by go_num,F,by(first|exact d|exact Hd (d.o.drewN _))⟩;omega
    |have F:Hid (T=false):=Hd (by rw[TA.o,m.o (by simp[nmC,low,dig];omega)])
     clear p m;try have t:((x:Int)==45)=false:=Xar (by omega)
     try have u:((x:Int)==43)=false:=Xar (by omega)
     try have v:((x:Int)==95)=false:=Xar (by omega)
     go_wp2_with fail
     all_goals
      first
       |(go_ret;exact⟨by rw[F.o];rfl,by(first|exact d.o|exact d.o.drewN _)⟩)
       |(exfalso;simp only[Bool.not_eq_false',decide_eq_true_eq] at*;omega)
 have F:Hid (T=true):=Hd (by have h:=hv.o;rw[List.take_of_length_le (by rw[Xac];omega)] at h;rw[TA.o,h]);clear hv;go_wp2_with fail;go_ret;exact⟨by rw[F.o];rfl,by(first|exact d.o|exact d.o.drewN _)⟩
def ahd (p:List Nat):List (List Nat)→List (List Nat)
 |[]=>[p]
 |h::r=>(p++h)::r
theorem Ycu (c:Nat)(p t:List Nat):ahd p (spl c (c::t))=p::ahd [] (spl c t):=by
 simp only[spl,if_true,ahd,List.append_nil]
 cases h:spl c t with
 |nil=>exact absurd h (Xjz c t)
 |cons a r=>rfl
theorem Xvg (c x:Nat)(hx:x≠c)(p t:List Nat):ahd p (spl c (x::t))=ahd (p++[x]) (spl c t):=by
 simp only[spl,qN hx]
 cases h:spl c t with
 |nil=>exact absurd h (Xjz c t)
 |cons a r=>simp[ahd]
theorem Ycv (c:Nat)(p:List Nat):ahd p (spl c [])=[p]:=by simp[spl,ahd]
theorem Xq3 (c:Nat)(l:List Nat):ahd [] (spl c l)=spl c l:=by
 cases h:spl c l with
 |nil=>exact absurd h (Xjz c l)
 |cons a r=>rfl
theorem Xqj {l:List Nat}{n:Nat}(h:n<l.length):l.drop n=l.getD n 0::l.drop (n+1):=by rw[List.drop_eq_getElem_cons h];simp[List.getD,h]
structure PaI (s:ByteArray) (c:Nat) (w:World) (n:Nat) (v:Value) (gs:List ByteArray) (cur:ByteArray) (wr:World):Prop where
 eq:spl c (bs s)=gs.map bs++ahd (bs cur) (spl c ((bs s).drop n))
 row:wr.ownsRow w.heap.size 9 1 v gs.length (gs.map Value.string)
 siz:∀g∈gs,g.size≤s.size
 cur:cur.size≤n
 num:gs.length≤n
 bel:Bw w wr
theorem PaI.post {s:ByteArray}{c:Nat}{w:World}{v:Value}{gs:List ByteArray}{wr:World}(h:gs.map bs=spl c (bs s))(hr:wr.ownsRow w.heap.size 9 1 v gs.length (gs.map Value.string))(hs:∀g∈gs,g.size≤s.size)(hn:gs.length≤s.size+1)(hb:Bw w wr):Xim c s w (.returned v) wr:=
 ⟨v,gs,rfl,h,Xnv hr,hs,hn,hr,hb⟩
theorem Xv4 (s:ByteArray)(c:Nat)(w:World)(hs:s.size≤10000000)(hc:c<256):Calls prog 166 #[.string s,.int .u8 (c:Int)] w (Xim c s w):=by
 obtain⟨Q,B,D,E,F⟩:=info_parts Yfd;go_enter func166,ntmps166;go_wp2_with fail;go_loopg [5,6,7] s.size (fun k v p i wr=>∃(n:Nat) (j:List ByteArray) (a:ByteArray),n≤s.size∧k=s.size-n∧i=.int .i64 (n:Int)∧p=.string a∧Hid (PaI s c w n v j a wr));exact⟨0,[],⟨#[]⟩,by omega,rfl,rfl,rfl,Hd ⟨by rw[List.drop_zero];exact(Xq3 c (bs s)).symm,World.ownsRow_nil _ _ _ _,(fun g h=>by cases h),zL _,zL _,zR _ _⟩⟩;obtain⟨n,j,a,V,rfl,rfl,rfl,J⟩:=hrel;by_cases b:n<s.size
 ·obtain⟨x,C⟩:=xq ((bs s).getD n 0);have S:x<256:=by rw[C];exact Xbd s n
  have W:=fun w=>Xg4 s w n n rfl b x C;have y:Hid ((bs s).drop n=x::(bs s).drop (n+1)):=Hd (by rw[C];exact Xqj (by rw[Xac];exact b));have U:=Hd C;clear C;obtain⟨m,l⟩:=xq j.length;have r:=Hd l;have O:m≤n:=by rw[l];exact J.o.num
  have N:a.size≤n:=J.o.cur;have P:=J.o.bel.size;by_cases e:x=c
  ·subst e;have T:((x:Int)==(x:Int))=true:=Xa8 rfl;have q:Hid (spl x (bs s)=(j++[a]).map bs++ahd (bs ⟨#[]⟩) (spl x ((bs s).drop (n+1)))):=Hd (by rw[J.o.eq,y.o,Ycu,List.map_append,List.append_assoc];rfl);have z:Hid (wr.ownsRow w.heap.size 9 1 u5 m (j.map Value.string)):=Hd (by rw[r.o];exact J.o.row);have L:Hid (∀g∈j++[a],g.size≤s.size):=Hd (fun g hg=>by
    rcases List.mem_append.1 hg with h|h;·exact J.o.siz g h
    simp at h;subst h;omega)
   have u:=Hd J.o.bel;clear J l y;go_wp2_with (at_builtin;refine wpList_append_own _ rfl _ _ 23 rfl w.heap.size 9 Q (.string ⟨#[]⟩) 1 16 underlying23 B D E F rfl (by decide) _ _ _ rfl (z.o.alloc _) ⟨wr.heap.size,0,none⟩ 1 1 [.string a] rfl rfl (World.news_of_block (cs:=#[.string a]) (t:=9) (fr:=(0,0)) (zN wr _)) (by simp[Value.oneCell']) (by unfold maxLen;omega) (by omega) (by simp;omega) ?_;intro v' G f d _)
   have K:Hid (G.ownsRow w.heap.size 9 1 v' (j++[a]).length ((j++[a]).map Value.string)):=Hd (by rw[List.length_append,←r.o,List.map_append];exact f);have H:Hid (Bw w G):=Hd (Below.grown (u.o.alloc u.o.size _) d (by simp;omega) (fun k hk=>(z.o.lt k hk).1));have I:Hid ((j++[a]).length≤n+1):=Hd (by rw[List.length_append,←r.o];simp;omega);clear f d;go_wp2_with fail;go_roundg (s.size-(n+1));exact⟨n+1,j++[a],⟨#[]⟩,by omega,rfl,by go_num,rfl,Hd ⟨q.o,K.o,L.o,Nat.zero_le _,I.o,H.o⟩⟩;omega
  have T:((x:Int)==(c:Int))=false:=Xar (by omega);have M:(s.extract n (n+1)).size=1:=by rw[ByteArray.size_extract];omega
  have A:bs (s.extract n (n+1))=[x]:=by rw[Xb3,List.drop_take,y.o];simp
  have R:Hid (PaI s c w (n+1) u5 j (a++s.extract n (n+1)) wr):=Hd ⟨by
   rw[J.o.eq,y.o,Xvg c x e];have:bs (a++s.extract n (n+1))=bs a++[x]:=by rw[←A];unfold bs;rw[ByteArray.data_append,Array.toList_append,List.map_append]
   rw[this],J.o.row,J.o.siz,by rw[ByteArray.size_append,M];omega,by omega,J.o.bel⟩
  clear J e y A l;go_wp2_with fail;go_roundg (s.size-(n+1));exact⟨n+1,j,_,by omega,rfl,by go_num,rfl,R⟩;omega
 obtain rfl:n=s.size:=by omega
 obtain⟨m,l⟩:=xq j.length;have r:=Hd l;have O:m≤s.size:=by rw[l];exact J.o.num
 have N:a.size≤s.size:=J.o.cur;have P:=J.o.bel.size;have q:Hid ((j++[a]).map bs=spl c (bs s)):=Hd (by rw[J.o.eq,List.drop_of_length_le (by rw[Xac];exact zL _),Ycv,List.map_append];rfl);have z:Hid (wr.ownsRow w.heap.size 9 1 u5 m (j.map Value.string)):=Hd (by rw[r.o];exact J.o.row);have L:Hid (∀g∈j++[a],g.size≤s.size):=Hd (fun g hg=>by
  rcases List.mem_append.1 hg with h|h;·exact J.o.siz g h
  simp at h;subst h;omega)
 have u:=Hd J.o.bel;clear J l;go_wp2_with (at_builtin;refine wpList_append_own _ rfl _ _ 23 rfl w.heap.size 9 Q (.string ⟨#[]⟩) 1 16 underlying23 B D E F rfl (by decide) _ _ _ rfl (z.o.alloc _) ⟨wr.heap.size,0,none⟩ 1 1 [.string a] rfl rfl (World.news_of_block (cs:=#[.string a]) (t:=9) (fr:=(0,0)) (zN wr _)) (by simp[Value.oneCell']) (by unfold maxLen;omega) (by omega) (by simp;omega) ?_;intro v' G f d _)
 have K:Hid (G.ownsRow w.heap.size 9 1 v' (j++[a]).length ((j++[a]).map Value.string)):=Hd (by rw[List.length_append,←r.o,List.map_append];exact f);have H:Hid (Bw w G):=Hd (Below.grown (u.o.alloc u.o.size _) d (by simp;omega) (fun k hk=>(z.o.lt k hk).1));have I:Hid ((j++[a]).length≤s.size+1):=Hd (by rw[List.length_append,←r.o];simp;omega);clear f d;go_wp2_with fail;go_ret;exact PaI.post q.o K.o L.o I.o H.o
def WdI (s:ByteArray)(c:Nat)(w:World)(n f:Nat)(v:Value)(gs:List ByteArray)(wr:World):Prop:=
 (n≤s.size∧f≤n∧PaI s c w n v gs (s.extract f n) wr)∨(n=s.size+1∧Xim c s w (.returned v) wr)
theorem Xs2 (s:ByteArray)(f n x:Nat)(h1:f≤n)(h2:n<s.size)(hx:x=(bs s).getD n 0):bs (s.extract f (n+1))=bs (s.extract f n)++[x]:=by
 have a:n<(bs s).length:=by rw[Xac];exact h2
 rw[Xb3,Xb3,List.take_succ_eq_append_getElem a,List.drop_append_of_le_length (by rw[List.length_take];omega)];congr 1;rw[hx];simp[List.getD,a]
theorem Xmz (s:ByteArray)(n:Nat):bs (s.extract n n)=[]:=by rw[Xb3];apply List.drop_eq_nil_of_le;rw[List.length_take];omega
theorem Xl7 (s:ByteArray)(c:Nat)(w:World)(hs:s.size≤10000000)(hc:c<256):Calls prog 119 #[.string s,.int .u8 (c:Int)] w (Xim c s w):=by
 obtain⟨O,u,A,B,C⟩:=info_parts Yfd;go_enter func119,ntmps119;go_wp2_with fail;go_loopg [5,6,7] (s.size+1) (fun k v p i wr=>∃(n f:Nat) (j:List ByteArray),n≤s.size+1∧f≤s.size+1∧k=s.size+1-n∧i=.int .i64 (n:Int)∧p=.int .i64 (f:Int)∧Hid (WdI s c w n f v j wr));exact⟨0,0,[],by omega,by omega,rfl,rfl,rfl,Hd (.inl ⟨Nat.zero_le _,zL _,by rw[List.drop_zero,Xmz];exact(Xq3 c (bs s)).symm,World.ownsRow_nil _ _ _ _,(fun g h=>by cases h),by rw[ByteArray.size_extract];omega,zL _,zR _ _⟩)⟩;obtain⟨n,f,j,W,V,rfl,rfl,rfl,I⟩:=hrel;rcases I.o with⟨hn1,hfn,J1⟩|⟨rfl,J1⟩
 ·have J:=Hd J1;obtain⟨m,y⟩:=xq j.length;have q:=Hd y;have Q:m≤n:=by rw[y];exact J.o.num
  have R:=J.o.bel.size;have r:(s.extract f n).size≤s.size:=by rw[ByteArray.size_extract];omega
  have N:Hid (∀g∈j++[s.extract f n],g.size≤s.size):=Hd (fun g hg=>by
   rcases List.mem_append.1 hg with h|h;·exact J.o.siz g h
   simp at h;subst h;exact r)
  have G:Hid (wr.ownsRow w.heap.size 9 1 u5 m (j.map Value.string)):=Hd (by rw[q.o];exact J.o.row);have E:=Hd J.o.bel;clear I J1 r;by_cases b:n<s.size
  ·obtain⟨x,z⟩:=xq ((bs s).getD n 0);have S:x<256:=by rw[z];exact Xbd s n
   have X:=fun w=>Xg4 s w n n rfl b x z;have T:((n:Int)==(s.size:Int))=false:=Xar (by omega);have F:Hid ((bs s).drop n=x::(bs s).drop (n+1)):=Hd (by rw[z];exact Xqj (by rw[Xac];exact b));have M:=Hd (Xs2 s f n x hfn b z);clear z;by_cases e:x=c
   ·subst e;have U:((x:Int)==(x:Int))=true:=Xa8 rfl;have l:Hid (spl x (bs s)=(j++[s.extract f n]).map bs++ahd (bs (s.extract (n+1) (n+1))) (spl x ((bs s).drop (n+1)))):=Hd (by rw[J.o.eq,F.o,Ycu,List.map_append,List.append_assoc,Xmz];rfl);clear J y F M;go_wp2_with (at_builtin;refine wpList_append_own _ rfl _ _ 23 rfl w.heap.size 9 O (.string ⟨#[]⟩) 1 16 underlying23 u A B C rfl (by decide) _ _ _ rfl (G.o.alloc _) ⟨wr.heap.size,0,none⟩ 1 1 [.string (s.extract f n)] rfl rfl (World.news_of_block (cs:=#[.string (s.extract f n)]) (t:=9) (fr:=(0,0)) (zN wr _)) (by simp[Value.oneCell']) (by unfold maxLen;omega) (by omega) (by simp;omega) ?_;intro v' D d a _)
    have L:Hid (D.ownsRow w.heap.size 9 1 v' (j++[s.extract f n]).length ((j++[s.extract f n]).map Value.string)):=Hd (by rw[List.length_append,←q.o,List.map_append];exact d);have H:Hid (Bw w D):=Hd (Below.grown (E.o.alloc E.o.size _) a (by simp;omega) (fun k hk=>(G.o.lt k hk).1));have K:Hid ((j++[s.extract f n]).length≤n+1):=Hd (by rw[List.length_append,←q.o];simp;omega);clear d a;go_wp2_with fail;go_roundg (s.size+1-(n+1));exact⟨n+1,n+1,j++[s.extract f n],by omega,by omega,rfl,by go_num,by go_num,Hd (.inl ⟨by omega,zL _,l.o,L.o,N.o,by rw[ByteArray.size_extract];omega,K.o,H.o⟩)⟩;omega
   have U:((x:Int)==(c:Int))=false:=Xar (by omega);have P:Hid (PaI s c w (n+1) u5 j (s.extract f (n+1)) wr):=Hd ⟨by rw[J.o.eq,F.o,Xvg c x e,M.o],J.o.row,J.o.siz,by rw[ByteArray.size_extract];omega,by have:=J.o.num;omega,J.o.bel⟩;clear J e F y M;go_wp2_with fail;go_roundg (s.size+1-(n+1));exact⟨n+1,f,j,by omega,by omega,rfl,by go_num,rfl,Hd (.inl ⟨by omega,by omega,P.o⟩)⟩;omega
  obtain rfl:n=s.size:=by omega
  have T:((s.size:Int)==(s.size:Int))=true:=Xa8 rfl;have l:Hid ((j++[s.extract f s.size]).map bs=spl c (bs s)):=Hd (by rw[J.o.eq,List.drop_of_length_le (by rw[Xac];exact zL _),Ycv,List.map_append];rfl);clear J y;go_wp2_with (at_builtin;refine wpList_append_own _ rfl _ _ 23 rfl w.heap.size 9 O (.string ⟨#[]⟩) 1 16 underlying23 u A B C rfl (by decide) _ _ _ rfl (G.o.alloc _) ⟨wr.heap.size,0,none⟩ 1 1 [.string (s.extract f s.size)] rfl rfl (World.news_of_block (cs:=#[.string (s.extract f s.size)]) (t:=9) (fr:=(0,0)) (zN wr _)) (by simp[Value.oneCell']) (by unfold maxLen;omega) (by omega) (by simp;omega) ?_;intro v' D d a _)
  have L:Hid (D.ownsRow w.heap.size 9 1 v' (j++[s.extract f s.size]).length ((j++[s.extract f s.size]).map Value.string)):=Hd (by rw[List.length_append,←q.o,List.map_append];exact d);have H:Hid (Bw w D):=Hd (Below.grown (E.o.alloc E.o.size _) a (by simp;omega) (fun k hk=>(G.o.lt k hk).1));have K:Hid ((j++[s.extract f s.size]).length≤s.size+1):=Hd (by rw[List.length_append,←q.o];simp;omega);clear d a;go_wp2_with fail;go_roundg (s.size+1-(s.size+1));exact⟨s.size+1,s.size+1,[],by omega,by omega,rfl,by go_num,by go_num,Hd (.inr ⟨rfl,PaI.post l.o L.o N.o K.o H.o⟩)⟩;omega
 have J:=Hd J1;clear I J1;go_wp2_with fail;go_ret;exact J.o
theorem SRow.at {w:World}{v:Value}{gs:List ByteArray}(h:SRow w v gs)(j:Nat)(hj:j<gs.length):∃b off cap,v=.slice (some ⟨b,off,none⟩) gs.length cap∧gs.length≤cap∧b<w.heap.size∧w.cell? ⟨b,off+j,none⟩=some (.string gs[j]):=by obtain⟨a,cap,c,d,f⟩:=h;obtain⟨b,off,rfl,g,i⟩:=f (fun e=>by rw[e] at hj;simp at hj);exact⟨b,off,cap,c,d,g,i j hj⟩
def ncB (p:List Nat):Bool:=!Xej p
theorem Ygk {p:List Nat→Bool}{l:List (List Nat)}{k:Nat}{c:List Nat}(hk:k<l.length)(hc:c=l[k])(h:p c=true):l.any p=true:=by rw[List.any_eq_true];exact⟨l[k],zG hk,by rw[←hc];exact h⟩
theorem Ycp {p:List Nat→Bool}{l:List (List Nat)}{k:Nat}{c:List Nat}(h0:(l.take k).any p=false)(hk:k<l.length)(hc:c=l[k])(h:p c=false):(l.take (k+1)).any p=false:=by rw[List.take_succ_eq_append_getElem hk,List.any_append,h0,←hc];simp[h]
theorem Xj9 (s:ByteArray)(w:World)(hs:s.size≤10000000):zJ 118 #[.string s] w (.int .i64 (Xbo (bs s):Nat)):=by
 obtain⟨T,O⟩:=xq (Xbo (bs s));rw[←O];have M:Hid (T=if 80<s.size then 5 else if(spl 46 (bs s)).any ncB=true then 12 else if 10<(spl 46 (bs s)).length then 9 else 0):=Hd (by rw[O];unfold Xbo;rw[Xac];rfl);clear O;by_cases hl:80<s.size;·have T5:Hid (T=5):=Hd (by rw[M.o,qP hl]);go_enter func118,ntmps118;go_wp2_with fail;go_ret;exact⟨by rw[T5.o];rfl,zR _ _⟩
 have A:Hid (T=if(spl 46 (bs s)).any ncB=true then 12 else if 10<(spl 46 (bs s)).length then 9 else 0):=Hd (by rw[M.o,qN hl]);have P:=Hd (Xv4 s 46 w hs (by omega));obtain⟨L,N⟩:=xq (spl 46 (bs s));rw[←N] at A;have HL:=Hd N;clear M N;go_enter func118,ntmps118;go_wp2_with fail;refine P.o.mono ?_;rintro e w1 ⟨v,B,rfl,X,Y,Z,h4,h5,hb⟩;have r:L=B.map bs:=by rw[HL.o,X]
 have H:=Hd r;have U:=Hd Y;have E:=Hd hb;have SZ:=Hd Z;obtain⟨m,z⟩:=xq B.length;have HM:=Hd z;have f:Hid (L.length=m):=Hd (by rw[r,List.length_map,z]);have aB:m≤s.size+1:=by rw[z];exact h4
 clear P X Y Z h4 h5 hb r;obtain⟨ba,cap,rfl,hc,_⟩:=U.o;rw[←z] at hc⊢;clear z;go_wp2_with fail;go_loopg [4] m (fun k i wr=>∃n:Nat,n≤m∧k=m-n∧i=.int .i64 (n:Int)∧Hid ((L.take n).any ncB=false)∧Hid (Bw w1 wr));exact⟨0,by omega,rfl,rfl,Hd rfl,Hd (zR _ _)⟩;obtain⟨n,hn,rfl,rfl,D,x⟩:=hrel;by_cases b:n<m
 ·have u:n<B.length:=by rw[←HM.o];exact b
  have t:n<L.length:=by rw[f.o];exact b
  obtain⟨V,off,W,e0,_,y,a⟩:=U.o.at n u;cases e0;obtain⟨g,l⟩:=xq (B[n]);have Q:g.size≤s.size:=by rw[l];exact SZ.o _ (zG u)
  have I:bs g=L[n]:=by rw[l];simp[H.o]
  rw[←l] at a;have aA:wr.cell? ⟨V,off+n,none⟩=some (.string g):=(x.o.cell (p:=⟨V,off+n,none⟩) y).trans a;have C:=Hd (Xzp g wr (by unfold maxLen;omega));obtain⟨c,j⟩:=xq (Xej (bs g));rw[←j] at C;have q:Hid (c=true→(L.take (n+1)).any ncB=false):=Hd (fun h=>Ycp D.o t I (by unfold ncB;rw[←j,h];rfl));have J:Hid (c=false→L.any ncB=true):=Hd (fun h=>Ygk t I (by unfold ncB;rw[←j,h];rfl));clear a l I j D u t y Q;cases c;·have K:Hid (T=12):=Hd (by rw[A.o,qP (J.o rfl)]);clear q J;go_wp2_with fail;refine C.o.mono ?_;rintro e w2 ⟨rfl,d⟩;have F:=Hd (E.o.trans ((x.o.trans ((Dr.below d).mono x.o.size)).mono E.o.size));clear d C;go_wp2_with fail;go_ret;exact⟨by rw[K.o];rfl,F.o⟩
  have G:=Hd (q.o rfl);clear q J;go_wp2_with fail;refine C.o.mono ?_;rintro e w2 ⟨rfl,d⟩;have F:=Hd (x.o.trans ((Dr.below d).mono x.o.size));clear d C;go_wp2_with fail;go_roundg (m-(n+1));exact⟨n+1,by omega,rfl,by go_num,G,F⟩;omega
 have R:Hid (L.any ncB=false):=Hd (by have h:=D.o;rwa [List.take_of_length_le (by rw[f.o];omega)] at h);have S:=Hd (bg E.o x.o);clear D;by_cases h10:10<m;·have T9:Hid (T=9):=Hd (by rw[A.o,R.o,qN (by simp),qP (by rw[f.o];exact h10)]);go_wp2_with fail;go_ret;exact⟨by rw[T9.o];rfl,S.o⟩
 have T0:Hid (T=0):=Hd (by rw[A.o,R.o,qN (by simp),qN (by rw[f.o];exact h10)]);go_wp2_with fail;go_ret;exact⟨by rw[T0.o];rfl,S.o⟩
theorem Xv7 (w:World)(v:Value)(gs:List ByteArray)(hr:SRow w v gs)(hl:gs.length≤1000000)(hz:∀g∈gs,g.size≤1000000):zJ 70 #[v] w (.int .i64 (Xcy Xbo (gs.map bs):Nat)):=by
 obtain⟨T,Q⟩:=xq (Xcy Xbo (gs.map bs));rw[←Q];obtain⟨m,r⟩:=xq gs.length;have N:=Hd r;have W:=Hd hr;have SZ:=Hd hz;have O:Hid (T=if 20<m then 9 else Xc6 Xbo 7 ((gs.map bs).take 0) ((gs.map bs).drop 0)):=Hd (by rw[Q,r];unfold Xcy;rw[List.length_map];rfl);obtain⟨ba,cap,rfl,hc,_⟩:=hr;rw[←r] at hc hl⊢;clear Q r hz;by_cases h20:20<m;·have T9:Hid (T=9):=Hd (by rw[O.o,qP h20]);go_enter func70,ntmps70;go_wp2_with fail;go_ret;exact⟨by rw[T9.o];rfl,zR _ _⟩
 have X:Hid (T=Xc6 Xbo 7 ((gs.map bs).take 0) ((gs.map bs).drop 0)):=Hd (by rw[O.o,qN h20]);clear O;go_enter func70,ntmps70;go_wp2_with fail;go_loopg [3,4,5] m (fun k i _ _ wr=>∃n:Nat,n≤m∧k=m-n∧i=.int .i64 (n:Int)∧Hid (T=Xc6 Xbo 7 ((gs.map bs).take n) ((gs.map bs).drop n))∧Hid (Bw w wr));exact⟨0,by omega,rfl,rfl,X,Hd (zR _ _)⟩;clear X;obtain⟨n,hn,rfl,rfl,L,K⟩:=hrel;by_cases b:n<m
 ·have s:n<gs.length:=by rw[←N.o];exact b
  have J:=Xid Xbo 7 (gs.map bs) n (by rw[List.length_map];exact s);obtain⟨t,off,Y,e0,_,y,d⟩:=W.o.at n s;cases e0;obtain⟨g,x⟩:=xq (gs[n]);have V:(gs.map bs)[n]'(by rw[List.length_map];exact s)=bs g:=by rw[x];simp
  rw[←x] at d;rw[V,←L.o] at J;have F:wr.cell? ⟨t,off+n,none⟩=some (.string g):=(K.o.cell (p:=⟨t,off+n,none⟩) y).trans d;have R:g.size≤1000000:=by rw[x];exact SZ.o _ (zG s)
  have C:=Hd (Xj9 g wr (by omega));obtain⟨c,G⟩:=xq (Xbo (bs g));rw[←G] at C J;have u:=Hd J;have D:=Hd d;clear d x V G L s R J;by_cases c0:c=0
  ·have q1:((c:Int) !=0)=false:=Xaw (by omega);have E:Hid (T=if bs g∈(gs.map bs).take n then 7 else Xc6 Xbo 7 ((gs.map bs).take (n+1)) ((gs.map bs).drop (n+1))):=Hd (by rw[u.o,qN (fun h=>h c0)]);clear u c0;go_wp2_with fail;refine C.o.mono ?_;rintro e w2 ⟨rfl,j⟩;have z:=bh K j;clear j C F;go_wp2_with fail;go_loopg [5] n (fun k i wr=>∃q:Nat,q≤n∧k=n-q∧i=.int .i64 (q:Int)∧Hid (bs g∉(gs.map bs).take q)∧Hid (Dr w2 wr));exact⟨0,by omega,rfl,rfl,Hd (by simp),Hd (Dr.refl _)⟩;obtain⟨q,hq,rfl,rfl,H,l⟩:=hrel;by_cases b2:q<n
   ·have I:q<gs.length:=by rw[←N.o];omega
    have aC:q<m:=by omega
    obtain⟨b1,aA,Z,P,_,aB,a⟩:=W.o.at q I;cases P;obtain⟨h,M⟩:=xq (gs[q]);rw[←M] at a;have A:Bw w wr:=z.o.trans ((Dr.below l.o).mono z.o.size);have k1:wr.cell? ⟨t,off+q,none⟩=some (.string h):=(A.cell (p:=⟨t,off+q,none⟩) y).trans a;have k2:wr.cell? ⟨t,off+n,none⟩=some (.string g):=(A.cell (p:=⟨t,off+n,none⟩) y).trans D.o;have f:(gs.map bs).take (q+1)=(gs.map bs).take q++[bs h]:=by rw[List.take_succ_eq_append_getElem (by rw[List.length_map];exact I),M];simp
    have TK:=Hd f;by_cases e:h=g
    ·have P:=toList_eq e;have T7:Hid (T=7):=Hd (by rw[E.o,qP];have:(gs.map bs).take (q+1)<+:(gs.map bs).take n:=List.take_prefix_take_left (by omega);exact this.subset (by rw[f,e];simp));have B:=Hd A;have S:wr.drew.cell? ⟨t,off+q,none⟩=some (.string h):=k1;have U:wr.drew.cell? ⟨t,off+n,none⟩=some (.string g):=k2;clear e f M A a;go_upto_region 12 with fail;refine wp_region_still_lit (by kernel_rfl) (by kernel_rfl) ?_;repeat still_step
     refine wpStill_nil ?_;go_wp2_with fail;go_ret;exact⟨by rw[T7.o];rfl,by(first|exact B.o|exact B.o.drew)⟩
    have P:=Xyl e;have S:wr.drew.cell? ⟨t,off+q,none⟩=some (.string h):=k1;have U:wr.drew.cell? ⟨t,off+n,none⟩=some (.string g):=k2;have N2:Hid (bs g∉(gs.map bs).take (q+1)):=Hd (by
     rw[f];intro r;rcases List.mem_append.1 r with r|r;·exact H.o r
     simp at r;exact e (by rw[←Xe3 h,←Xe3 g,r]))
    clear e f M A a;go_upto_region 12 with fail;refine wp_region_still_lit (by kernel_rfl) (by kernel_rfl) ?_;repeat still_step
    refine wpStill_nil ?_;go_wp2_with fail;go_roundg (n-(q+1));exact⟨q+1,by omega,rfl,by go_num,N2,by(first|exact l|exact Hd l.o.drew|exact Hd (l.o.drewN 1))⟩;omega
   obtain rfl:q=n:=by omega
   have NX:Hid (T=Xc6 Xbo 7 ((gs.map bs).take (q+1)) ((gs.map bs).drop (q+1))):=Hd (by rw[E.o,qN H.o]);have B:Hid (Bw w wr):=Hd (z.o.trans ((Dr.below l.o).mono z.o.size));go_wp2_with fail;go_roundg (m-(q+1));exact⟨q+1,by omega,rfl,by go_num,NX,by(first|exact B|exact Hd B.o.drew)⟩;omega
  have q1:((c:Int) !=0)=true:=Xaq (by omega);have TC:Hid (T=c):=Hd (by rw[u.o,qP c0]);clear u c0;go_wp2_with fail;refine C.o.mono ?_;rintro e w2 ⟨rfl,j⟩;have z:=bh K j;clear j C F;go_wp2_with fail;go_ret;exact⟨by rw[TC.o];rfl,z.o⟩
 have T0:Hid (T=0):=Hd (by rw[L.o,List.drop_of_length_le (by rw[List.length_map,←N.o];omega)];rfl);clear L;go_wp2_with fail;go_ret;exact⟨by rw[T0.o];rfl,K.o⟩
theorem Xwa (w:World)(c:Nat)(hc:c<256):Rx 222 #[.int .u8 (c:Int)] w (.int .i64 (hvz c)):=by
 obtain⟨r,a⟩:=xq (hvz c);rw[←a];rcases(by omega:c<48∨(48≤c∧c≤57)∨(57<c∧c<97)∨(97≤c∧c≤102)∨102<c) with h|⟨h,h2⟩|⟨h,h2⟩|⟨h,h2⟩|h;·have R:Hid (r=-1):=Hd (by rw[a];unfold hvz hvl;rw[qN (by omega),qN (by omega)]);clear a;go_enter func222,ntmps222;go_wp2_with fail;go_ret;exact⟨by rw[R.o];rfl,rfl⟩
 ·have R:Hid (r=(c:Int)-48):=Hd (by rw[a];unfold hvz hvl;rw[qP ⟨h,h2⟩];simp;omega);have b:IntKind.u8.wrap ((c:Int)-48)=(c:Int)-48:=by rw[IntKind.wrap_u8];omega
  clear a;go_enter func222,ntmps222;go_wp2_with fail;go_ret;exact⟨by rw[R.o];rfl,rfl⟩
 ·have R:Hid (r=-1):=Hd (by rw[a];unfold hvz hvl;rw[qN (by omega),qN (by omega)]);clear a;go_enter func222,ntmps222;go_wp2_with fail;go_ret;exact⟨by rw[R.o];rfl,rfl⟩
 ·have R:Hid (r=(c:Int)-97+10):=Hd (by rw[a];unfold hvz hvl;rw[qN (by omega),qP ⟨h,h2⟩];simp;omega);have b:IntKind.u8.wrap ((c:Int)-97)=(c:Int)-97:=by rw[IntKind.wrap_u8];omega
  clear a;go_enter func222,ntmps222;go_wp2_with fail;go_ret;exact⟨by rw[R.o];rfl,rfl⟩
 have R:Hid (r=-1):=Hd (by rw[a];unfold hvz hvl;rw[qN (by omega),qN (by omega)]);clear a;go_enter func222,ntmps222;go_wp2_with fail;go_ret;exact⟨by rw[R.o];rfl,rfl⟩
theorem Xwb (w:World)(c:Nat)(hc:c<256):Rx 221 #[.int .u8 (c:Int)] w (.int .i64 (hvz c)):=by
 obtain⟨r,a⟩:=xq (hvz c);rw[←a];rcases(by omega:c<48∨(48≤c∧c≤57)∨(57<c∧c<97)∨(97≤c∧c≤102)∨102<c) with h|⟨h,h2⟩|⟨h,h2⟩|⟨h,h2⟩|h;·have R:Hid (r=-1):=Hd (by rw[a];unfold hvz hvl;rw[qN (by omega),qN (by omega)]);clear a;go_enter func221,ntmps221;go_wp2_with fail;go_ret;exact⟨by rw[R.o];rfl,rfl⟩
 ·have R:Hid (r=(c:Int)-48):=Hd (by rw[a];unfold hvz hvl;rw[qP ⟨h,h2⟩];simp;omega);clear a;go_enter func221,ntmps221;go_wp2_with fail;go_ret;exact⟨by rw[R.o];rfl,rfl⟩
 ·have R:Hid (r=-1):=Hd (by rw[a];unfold hvz hvl;rw[qN (by omega),qN (by omega)]);clear a;go_enter func221,ntmps221;go_wp2_with fail;go_ret;exact⟨by rw[R.o];rfl,rfl⟩
 ·have R:Hid (r=(c:Int)-97+10):=Hd (by rw[a];unfold hvz hvl;rw[qN (by omega),qP ⟨h,h2⟩];simp;omega);clear a;go_enter func221,ntmps221;go_wp2_with fail;go_ret;exact⟨by rw[R.o];rfl,rfl⟩
 have R:Hid (r=-1):=Hd (by rw[a];unfold hvz hvl;rw[qN (by omega),qN (by omega)]);clear a;go_enter func221,ntmps221;go_wp2_with fail;go_ret;exact⟨by rw[R.o];rfl,rfl⟩
theorem Ya2 {l:List Nat}(h:0<l.length):l.head?=some (l.getD 0 0):=by rw[List.head?_eq_getElem?,List.getElem?_eq_getElem h];simp[List.getD,h]
theorem Yak {l:List Nat}(h:0<l.length):l.getLast?=some (l.getD (l.length-1) 0):=by
 have a:l.length-1<l.length:=by omega
 rw[List.getLast?_eq_getElem?,List.getElem?_eq_getElem a,List.getD_eq_getElem?_getD,List.getElem?_eq_getElem a];rfl
theorem Xvx (s:ByteArray)(w:World)(hs:s.size≤maxLen):Rz 123 #[.string s] w (.int .i64 (Xna (bs s):Nat)):=by
 unfold maxLen at hs;obtain⟨T,r⟩:=xq (Xna (bs s));rw[←r];have p:Hid (T=if 200<s.size then 5 else if(bs s).all prC=false then 6 else if(bs s).head?=some 32∨(bs s).getLast?=some 32 then 3 else 0):=Hd (by rw[r];unfold Xna;rw[Xac]);clear r;by_cases hl:200<s.size;·have A:Hid (T=5):=Hd (by rw[p.o,qP hl]);go_enter func123,ntmps123;go_wp2_with fail;go_ret;exact⟨by rw[A.o];rfl,Dr.refl _⟩
 have g:Hid (T=if(bs s).all prC=false then 6 else if(bs s).head?=some 32∨(bs s).getLast?=some 32 then 3 else 0):=Hd (by rw[p.o,qN hl]);clear p;go_enter func123,ntmps123;go_wp2_with fail;go_loopg [3] s.size (fun k i wr=>∃n:Nat,n≤s.size∧k=s.size-n∧i=.int .i64 (n:Int)∧Hid (((bs s).take n).all prC=true)∧Hid (Dr w wr));exact⟨0,by omega,rfl,rfl,Hd rfl,Hd (Dr.refl _)⟩;obtain⟨n,G,rfl,rfl,hv,a⟩:=hrel;by_cases b:n<s.size
 ·obtain⟨x,c⟩:=xq ((bs s).getD n 0);have t:x<256:=by rw[c];exact Xbd s n
  have E:=fun w=>Xg4 s w n n rfl b x c;have f:Hid (prC x=true→((bs s).take (n+1)).all prC=true):=Hd (fun h=>Xb2 hv.o (by rw[Xac];exact b) c h);have d:Hid (prC x=false→(bs s).all prC=false):=Hd (fun h=>Xdk (by rw[Xac];exact b) c h);clear c hv;rcases(by omega:x<32∨(32≤x∧x≤126)∨126<x) with h|⟨h,h2⟩|h;·have m:Hid (T=6):=Hd (by rw[g.o,qP (d.o (by unfold prC;rw[zW (by omega)];rfl))]);clear f d;go_wp2_with fail;go_ret;exact⟨by rw[m.o];rfl,by(first|exact a.o|exact a.o.drewN _)⟩
  ·have F:=Hd (f.o (by unfold prC;rw[zT h,zT h2];rfl));clear f d;go_wp2_with fail;go_roundg (s.size-(n+1));exact⟨n+1,by omega,rfl,by go_num,F,by(first|exact a|exact Hd (a.o.drewN _))⟩;omega
  have m:Hid (T=6):=Hd (by rw[g.o,qP (d.o (by unfold prC;rw[zW (show¬x≤126 by omega)];simp))]);clear f d;go_wp2_with fail;go_ret;exact⟨by rw[m.o];rfl,by(first|exact a.o|exact a.o.drewN _)⟩
 have u:(bs s).all prC=true:=by have h:=hv.o;rwa [List.take_of_length_le (by rw[Xac];omega)] at h
 have j:Hid (T=if(bs s).head?=some 32∨(bs s).getLast?=some 32 then 3 else 0):=Hd (by rw[g.o,u];rfl);clear u hv g;by_cases h0:s.size=0;·have z:Hid (T=0):=Hd (by rw[j.o,Xvc h0];rfl);obtain rfl:=Xd9 h0;clear h0 j;go_wp2_with fail;go_ret;exact⟨by rw[z.o];rfl,by(first|exact a.o|exact a.o.drewN _)⟩
 obtain⟨x,c⟩:=xq ((bs s).getD 0 0);obtain⟨y,l⟩:=xq ((bs s).getD (s.size-1) 0);have t:x<256:=by rw[c];exact Xbd s 0
 have B:y<256:=by rw[l];exact Xbd s _
 have H:=fun w=>Yc5 s x c (by omega) w;have E:=fun w=>Xg4 s w ((s.size:Int)-1) (s.size-1) (by omega) (by omega) y l;have D:=Xfa h0;have q:Hid (T=if x=32∨y=32 then 3 else 0):=Hd (by rw[j.o,Ya2 (by rw[Xac];omega),Yak (by rw[Xac];omega),Xac,←c,←l];simp);clear c l j;by_cases e1:x=32;·have v:((x:Int)==32)=true:=Xa8 (by omega);have e:Hid (T=3):=Hd (by rw[q.o,qP (.inl e1)]);clear e1;go_wp2_with fail;go_ret;exact⟨by rw[e.o];rfl,by(first|exact a.o|exact a.o.drewN _)⟩
 by_cases e2:y=32;·have v:((x:Int)==32)=false:=Xar (by omega);have C:((y:Int)==32)=true:=Xa8 (by omega);have e:Hid (T=3):=Hd (by rw[q.o,qP (.inr e2)]);clear e1 e2;go_wp2_with fail;go_ret;exact⟨by rw[e.o];rfl,by(first|exact a.o|exact a.o.drewN _)⟩
 have v:((x:Int)==32)=false:=Xar (by omega);have C:((y:Int)==32)=false:=Xar (by omega);have e:Hid (T=0):=Hd (by rw[q.o,qN (fun h=>h.elim e1 e2)]);clear e1 e2;go_wp2_with fail;go_ret;exact⟨by rw[e.o];rfl,by(first|exact a.o|exact a.o.drewN _)⟩
def nvl (l:List Nat):Nat:=l.foldl (fun n c=>10*n+(c-48)) 0
theorem Xug (l:List Nat)(c:Nat):nvl (l++[c])=10*nvl l+(c-48):=by unfold nvl;rw[List.foldl_append];rfl
theorem Ylt:∀(k:Nat) (l:List Nat),l.length=k→l.all dig=true→nvl l<10^k:=by
 intro k
 induction k with
 |zero=>intro l h _;obtain rfl:=List.length_eq_zero_iff.1 h;decide
 |succ k ih=>
  intro l h b;have a:l≠[]:=by intro e;rw[e] at h;simp at h
  have d:=List.dropLast_concat_getLast a;rw[←d] at b⊢;rw[List.all_append,Bool.and_eq_true] at b;have:=ih l.dropLast (by rw[List.length_dropLast,h];rfl) b.1;have c:dig (l.getLast a)=true:=by simpa using b.2
  unfold dig at c;simp at c;rw[Xug,Nat.pow_succ];omega
theorem Ylu {l:List Nat}(h:l.length≤7)(hd:l.all dig=true):nvl l<10000000:=
 Nat.lt_of_lt_of_le (Ylt _ l rfl hd) (Nat.pow_le_pow_right (by decide:0<10) h)
theorem Yes {l:List Nat}{k c:Nat}(hk:k<l.length)(hc:c=l.getD k 0):nvl (l.take (k+1))=10*nvl (l.take k)+(c-48):=by
 rw[List.take_succ_eq_append_getElem hk,Xug];have:l[k]=c:=by rw[hc];simp[List.getD,hk]
 rw[this]
def Yhf (l:List Nat):Int:=match Xli l with|none=>-1|some n=>(n:Int)
theorem Xl8 (s:ByteArray)(w:World)(hs:s.size≤maxLen):Rz 169 #[.string s] w (.int .i64 (Yhf (bs s))):=by
 unfold maxLen at hs;obtain⟨T,A⟩:=xq (Yhf (bs s));rw[←A];have a:Hid (bs s=[]∨7<s.size∨(1<s.size∧(bs s).getD 0 0=48)∨(bs s).all dig=false→T=-1):=Hd (fun h=>by rw[A];unfold Yhf Xli;rw[Xac,qP h]);have q:Hid (¬(bs s=[]∨7<s.size∨(1<s.size∧(bs s).getD 0 0=48)∨(bs s).all dig=false)→T=(nvl (bs s):Int)):=Hd (fun h=>by rw[A];unfold Yhf Xli;rw[Xac,qN h];rfl);clear A;by_cases h0:s.size=0;·have F:=Hd (a.o (.inl (Xvc h0)));obtain rfl:=Xd9 h0;clear h0 a q;go_enter func169,ntmps169;go_wp2_with fail;go_ret;exact⟨by rw[F.o];rfl,Dr.refl _⟩
 have K:Hid (bs s≠[]):=Hd (fun e=>h0 (by rw[←Xac,e];rfl));have R:=Xfa h0;by_cases h7:7<s.size;·have F:=Hd (a.o (.inr (.inl h7)));clear a q;go_enter func169,ntmps169;go_wp2_with fail;go_ret;exact⟨by rw[F.o];rfl,Dr.refl _⟩
 obtain⟨c,C⟩:=xq ((bs s).getD 0 0);have O:c<256:=by rw[C];exact Xbd s 0
 have S:=Yc5 s c C (by omega);have D:=Hd C;clear C;by_cases hz:1<s.size∧c=48;·obtain⟨H,t⟩:=hz;have F:=Hd (a.o (.inr (.inr (.inl ⟨H,by rw[←D.o];exact t⟩))));have I:((c:Int)==48)=true:=Xa8 (by omega);clear a q t;go_enter func169,ntmps169;go_wp2_with fail;go_ret;exact⟨by rw[F.o];rfl,Dr.refl _⟩
 have z:Hid ((bs s).all dig=true→T=(nvl (bs s):Int)):=Hd (fun h=>q.o (by
  rintro(h|h|h|h);·exact K.o h
  ·exact h7 h
  ·exact hz ⟨h.1,by rw[D.o];exact h.2⟩
  rename_i hh;rw[hh] at h;cases h))
 have p:Hid ((bs s).all dig=false→T=-1):=Hd (fun h=>a.o (.inr (.inr (.inr h))));have Z:Hid (c=48→¬1<s.size):=Hd (fun e h=>hz ⟨h,e⟩);clear a q K D hz;have G:c=48→s.size=1:=fun e=>by have:=Z.o e;omega
 have j:(((c:Int)==48)=true∧s.size=1)∨((c:Int)==48)=false:=by
  by_cases e48:c=48;·exact .inl ⟨Xa8 (by omega),G e48⟩
  exact .inr (Xar (by omega))
 clear Z G;rcases j with⟨I,G⟩|I
 all_goals
  go_enter func169,ntmps169;go_wp2_with fail;clear I S;go_loopg [3,4] s.size (fun k u i wr=>∃(n:Nat) (v:Nat),n≤s.size∧k=s.size-n∧i=.int .i64 (n:Int)∧u=.int .i64 (v:Int)∧v<10000000∧Hid (nvl ((bs s).take n)=v)∧Hid (((bs s).take n).all dig=true)∧Hid (Dr w wr));exact⟨0,0,by omega,by omega,rfl,rfl,by omega,Hd rfl,Hd rfl,Hd (Dr.refl _)⟩;obtain⟨n,v,V,rfl,rfl,rfl,P,hv,B,d⟩:=hrel;by_cases b:n<s.size
  ·obtain⟨x,g⟩:=xq ((bs s).getD n 0);have Q:x<256:=by rw[g];exact Xbd s n
   have W:=fun w=>Xg4 s w n n rfl b x g;have y:Hid (dig x=true→((bs s).take (n+1)).all dig=true∧nvl ((bs s).take (n+1))=10*v+(x-48)∧10*v+(x-48)<10000000):=Hd (fun h=>by have r:=Xb2 B.o (by rw[Xac];exact b) g h;have f:=Yes (l:=bs s) (k:=n) (by rw[Xac];exact b) g;rw[hv.o] at f;have E:=Ylu (l:=(bs s).take (n+1)) (by rw[List.length_take,Xac];omega) r;exact⟨r,f,by rw[←f];exact E⟩);have m:Hid (dig x=false→(bs s).all dig=false):=Hd (fun h=>Xdk (by rw[Xac];exact b) g h);clear g hv B;rcases(by omega:x<48∨(48≤x∧x≤57)∨57<x) with h|⟨h,h2⟩|h;·have F:=Hd (p.o (m.o (by unfold dig;rw[zW (by omega)];rfl)));clear y m p z;go_wp2_with fail;go_ret;exact⟨by rw[F.o];rfl,by(first|exact d.o|exact d.o.drewN _)⟩
   ·obtain⟨r,f,E⟩:=y.o (by unfold dig;rw[zT h,zT h2];rfl);have M:=Hd r;have N:=Hd f;have U:IntKind.u8.wrap ((x:Int)-48)=(x:Int)-48:=by rw[IntKind.wrap_u8];omega
    clear y m r f;go_wp2_with fail;go_roundg (s.size-(n+1));exact⟨n+1,10*v+(x-48),by omega,by omega,by go_num,by go_num,E,N,M,by(first|exact d|exact Hd (d.o.drewN _))⟩;omega
   have F:=Hd (p.o (m.o (by unfold dig;rw[zW (show¬x≤57 by omega)];simp)));clear y m p z;go_wp2_with fail;go_ret;exact⟨by rw[F.o];rfl,by(first|exact d.o|exact d.o.drewN _)⟩
  have J:(bs s).all dig=true:=by have h:=B.o;rwa [List.take_of_length_le (by rw[Xac];omega)] at h
  have L:nvl (bs s)=v:=by have h:=hv.o;rwa [List.take_of_length_le (by rw[Xac];omega)] at h
  have F:Hid (T=(v:Int)):=Hd (by rw[z.o J,L]);clear J L hv B z p;go_wp2_with fail;go_ret;exact⟨by rw[F.o];rfl,by(first|exact d.o|exact d.o.drewN _)⟩
def pn (n:Nat)(l:List Nat)(j:Nat):List Nat:=(List.range n).map fun k=>if 2*k+1<j then 16*hv (l.getD (2*k) 0)+hv (l.getD (2*k+1) 0) else if 2*k<j then hv (l.getD (2*k) 0) else 0
theorem Xps (n:Nat)(l:List Nat)(j:Nat):(pn n l j).length=n:=by simp[pn]
theorem Xpt {n:Nat}{l:List Nat}{j k:Nat}(hk:k<n):(pn n l j)[k]?=some (if 2*k+1<j then 16*hv (l.getD (2*k) 0)+hv (l.getD (2*k+1) 0) else if 2*k<j then hv (l.getD (2*k) 0) else 0):=by simp[pn,hk]
theorem Xzu (n:Nat)(l:List Nat):pn n l 0=List.replicate n 0:=by
 apply List.ext_getElem?;intro k;by_cases hk:k<n;·rw[Xpt hk,qN (by omega),qN (by omega),List.getElem?_replicate,qP hk]
 rw[List.getElem?_eq_none (by rw[Xps];omega),List.getElem?_eq_none (by simp;omega)]
theorem Xzv {n:Nat}{l:List Nat}{j k v:Nat}(hk:k=j/2)(hj:j<2*n)(hv':(pn n l j)[k]?=some v):pn n l (j+1)=(pn n l j).set k (v*16+hv (l.getD j 0))∧v<16:=by
 rw[Xpt (by omega)] at hv';have a:=Option.some.inj hv';rw[qN (by omega)] at a;have b:v<16:=by
  rw[←a];split;·exact Yaz _
  decide
 refine⟨?_,b⟩;apply List.ext_getElem?;intro m;by_cases hn:m<n
 ·rw[List.getElem?_set];by_cases e:k=m
  ·subst e;rw[qP rfl,qP (by rw[Xps];exact hn),Xpt hn];by_cases hp:j=2*k;·rw[qN (by omega),qP (by omega)];rw[qN (by omega)] at a;rw[←a,←hp];simp
   have c:j=2*k+1:=by omega
   rw[qP (by omega)];rw[qP (by omega)] at a;rw[a,Nat.mul_comm,c]
  rw[qN e,Xpt hn,Xpt hn];by_cases c1:2*m+1<j;·rw[qP (by omega),qP c1]
  rw[qN (by omega),qN c1];by_cases c2:2*m<j;·rw[qP (by omega),qP c2]
  rw[qN (by omega),qN c2]
 rw[List.getElem?_eq_none (by rw[Xps];omega),List.getElem?_eq_none (by rw[List.length_set,Xps];omega)]
theorem Yhb {n:Nat}{l:List Nat}(h:l.length=2*n):pn n l (2*n)=uh l:=by
 apply List.ext_getElem?;intro k;by_cases hk:k<n;·rw[Xpt hk,Yib n l k h hk,qP (by omega)]
 rw[List.getElem?_eq_none (by rw[Xps];omega),List.getElem?_eq_none (by rw[Xju n l h];omega)]
theorem Xy9 (s:ByteArray)(w:World)(hs:s.size≤10000000):Calls prog 170 #[.string s] w (Xm3 (bs s) w):=by
 obtain⟨u,D⟩:=xq (idA Xel);have C:=Hd (Xac s);have aB:=Hd D;have F:Hid (Cl 16 u):=Hd (by rw[D];exact Xsz Xha);have Q:Hid (∀w,(Instr.build 22 #[]).run prog w=.ok (.agg u) w):=Hd (fun w=>by rw[D];kernel_rfl);have t:Hid ((w.alloc (.cells (Array.replicate 16 (.int .u8 0)) 22)).alloc (.cells (Array.replicate 16 (.int .u8 0)) 22)=(w.alloc (.cells u 22)).alloc (.cells u 22)):=Hd (by rw[D];rfl)
 have r:Hid (∀(w4:World) (cs:Array Value),Cl 16 cs→w4.heap[w.heap.size]?=some (.cells u 22 (0,0))→Bw w w4→
     Sv 22 ⟨w.heap.size,0,none⟩ (.agg cs) w4 (w4.setRow w.heap.size cs)∧
     (∀tmps:Array Value,tmps.getD 2 undef=.pointer (some ⟨w.heap.size,0,none⟩)→(results Tryz.f170 tmps).run prog (w4.setRow w.heap.size cs)=.ok (.tuple #[.agg cs,tmps.getD 3 undef,tmps.getD 4 undef]) (w4.setRow w.heap.size cs))∧
     Bw w (w4.setRow w.heap.size cs)):=Hd (fun w4 cs hcl N hb=>
  ⟨run_storeVar_row (P:=prog) w4 w.heap.size _ 22 u cs N (by rw[hcl.1];exact Xck) (by rw[hcl.1,F.o.1]) hcl.2,
   fun tmps h2=>Xay results170 tmps _ w.heap.size _ _ _ _ h2 (setRow_heap w4 w.heap.size u cs _ _ N) underlying22 rfl (by rw[hcl.1];exact Xck),
   below_setRow hb (zL _) cs⟩)
 have I:Hid (Xfz (bs s)=none→∀a er:Int,er≠0→∀w',Bw w w'→Xm3 (bs s) w (.returned (.tuple #[.agg u,.int .i64 a,.int .i64 er])) w'):=Hd (fun h a er he w' hb=>⟨a,er,by rw[h,aB.o];exact⟨rfl,he⟩,hb⟩);obtain⟨E,X⟩:∃E:Nat,E=min s.size 32:=⟨_,rfl⟩
 have aL:E≤s.size:=by omega
 have aM:E≤32:=by omega
 have R:=Hd X;have PZ:Hid (u=idA (pn 16 (bs s) 0)):=Hd (by rw[D,Xzu];rfl);clear D X;go_enter func170,ntmps170;go_wp2_with fail;go_loopg [6] E (fun k i wr=>∃j:Nat,j≤E∧k=E-j∧i=.int .i64 (j:Int)∧Hid (∀q,q<j→hdB ((bs s).getD q 0)=true)∧Hid (wr.heap[w.heap.size]?=some (.cells u 22 (0,0)))∧Hid (wr.heap[w.heap.size+1]?=some (.cells (idA (pn 16 (bs s) j)) 22 (0,0)))∧Hid (Bw w wr))
 ·refine⟨0,by omega,rfl,rfl,Hd (fun q hq=>by omega),Hd ?_,Hd ?_,Hd (((zR _ _).alloc (zL _) _).alloc (by simp) _)⟩;·have h:((w.alloc (.cells u 22)).alloc (.cells u 22)).heap[w.heap.size]?=some (.cells u 22 (0,0)):=Xad (heap_alloc_last w _);rw[←t.o] at h;exact h
  have h:=heap_alloc_last (w.alloc (.cells u 22)) (.cells u 22);rw[World.size_alloc,←t.o] at h;rw[←PZ.o];exact h
 obtain⟨j,hj,rfl,rfl,N,l,d,m⟩:=hrel;by_cases hlt:j<E
 ·obtain⟨c,K⟩:=xq ((bs s).getD j 0);have aD:c<256:=by rw[K];exact Xbd s j
  have y1:=fun w=>Xg4 s w j j rfl (by omega) c K;have J:=Hd (fun w=>Xwa w c aD);by_cases hd:hdB c=true
  ·rw[Xn5 hd] at J;obtain⟨y,Y⟩:=xq (hv c);have aI:y<16:=by rw[Y];exact Yaz c
   rw[←Y] at J;obtain⟨k,hk⟩:=xq (j/2);have W:k<16:=by omega
   obtain⟨v,O⟩:∃v,(pn 16 (bs s) j)[k]?=some v:=⟨_,Xpt W⟩
   obtain⟨H,aH⟩:=Xzv hk (by omega) O;rw[←K,←Y] at H;have L:∀w2:World,w2.heap[w.heap.size+1]?=wr.heap[w.heap.size+1]?→w2.cell? ⟨w.heap.size+1,k,none⟩=some (.int .u8 (v:Int)):=fun w2 h2=>by rw[cell_of_row w2 _ k _ _ _ (h2.trans d.o)];unfold idA;rw[List.getElem?_toArray,List.getElem?_map,O];rfl
   have aJ:=L wr rfl;have aF:=L wr.drew rfl;have aE:wr.frozen? ⟨w.heap.size+1,k,none⟩=false:=by have:=d.o;simp[World.frozen?,this]
   have aG:wr.drew.frozen? ⟨w.heap.size+1,k,none⟩=false:=aE;obtain⟨z,hz⟩:=xq (v*16+y);rw[←hz] at H;have s1:IntKind.u8.wrap ((v:Int)*16)=(v:Int)*16:=by rw[IntKind.wrap_u8];omega
   have s3:IntKind.u8.wrap (y:Int)=(y:Int):=by rw[IntKind.wrap_u8];omega
   have s2:IntKind.u8.wrap ((v:Int)*16+(y:Int))=(z:Int):=by rw[IntKind.wrap_u8];omega
   have aK:Int.tdiv (j:Int) 2=(k:Int):=by rw[Int.tdiv_eq_ediv_of_nonneg (by omega)];omega
   have wk:IntKind.i64.wrap (k:Int)=(k:Int):=IntWalk.i64_in _ (by omega);have HW:Hid (∀w2:World,w2.heap[w.heap.size+1]?=wr.heap[w.heap.size+1]?→(w2.setCell ⟨w.heap.size+1,k,none⟩ (.int .u8 (z:Int))).heap[w.heap.size+1]?=some (.cells (idA (pn 16 (bs s) (j+1))) 22 (0,0))):=Hd (fun w2 h2=>by rw[H,←Xsa];exact Xez (h2.trans d.o) k _);have RW:Hid (∀w2:World,w2.heap[w.heap.size]?=wr.heap[w.heap.size]?→(w2.setCell ⟨w.heap.size+1,k,none⟩ (.int .u8 (z:Int))).heap[w.heap.size]?=some (.cells u 22 (0,0))):=Hd (fun w2 h2=>by rw[Below.heap_setCell _ _ _ _ (show w.heap.size≠w.heap.size+1 by omega)];exact h2.trans l.o);have BW:Hid (∀w2:World,Bw w w2→Bw w (w2.setCell ⟨w.heap.size+1,k,none⟩ (.int .u8 (z:Int)))):=Hd (fun w2 h2=>h2.setCell (p:=⟨w.heap.size+1,k,none⟩) (Nat.le_succ _) _);have BD:=Hd m.o.drew;have G2:Hid (∀q,q<j+1→hdB ((bs s).getD q 0)=true):=Hd (fun q hq=>by
    by_cases e:q=j;·rw[e,←K];exact hd
    exact N.o q (by omega))
   have HK:=Hd hk;clear hd K Y O H hz N d l r I Q t HK hk PZ L;go_upto_region 7 with(go_at_call 222;refine(J.o _).mono ?_;rintro e w' ⟨rfl,rfl⟩)
   refine wp_region_held (S:=fun _=>True) (by kernel_rfl) ?_;change wpAnyH _ _ _ _ _ _ _ _ wr.drew;have x:(fun _:World=>True) wr.drew:=trivial;refine Xae 0 (.int .i64 (j:Int)) rfl (fun _ _=>by go_simp) x ?_;refine Xae 1 (.int .i64 (k:Int)) rfl (fun _ _=>by go_simp) x ?_;refine Xae 2 (.int .i64 (j:Int)) rfl (fun _ _=>by go_simp) x ?_;refine Xae 3 (.int .i64 (k:Int)) rfl (fun _ _=>by go_simp) x ?_;refine Xae 4 (.pointer (some ⟨w.heap.size+1,k,none⟩)) rfl (fun _ _=>by go_simp;exact fun hh=>absurd hh (by omega)) x ?_;refine Xae 7 (.string s) rfl (fun _ _=>by go_simp) x ?_;refine Xae 8 (.int .i64 (j:Int)) rfl (fun _ _=>by go_simp) x ?_;refine Xae 9 (.int .u8 (c:Int)) rfl (fun _ _=>by go_simp) x ?_;refine Xcb (i:=5) (k:=10) (by kernel_rfl) ?_ ?_;·skip;refine Xbr (v:=.int .u8 (v:Int)) rfl rfl (by go_simp) ?_;refine⟨trivial,?_⟩;refine Xae 6 (.int .u8 ((v:Int)*16)) rfl (fun _ _=>by go_simp) x ?_;refine Xag (i:=10) (by kernel_rfl) ?_;refine Xao (f:=222) (args:=#[.int .u8 (c:Int)]) rfl rfl (by go_simp) ?_;refine(J.o _).mono ?_;rintro e w' ⟨rfl,rfl⟩;refine⟨_,rfl,trivial,?_⟩;refine Xae 11 (.int .u8 (y:Int)) rfl (fun _ _=>by go_simp) x ?_;refine Xae 12 (.int .u8 (z:Int)) rfl (fun _ _=>by go_simp) x ?_;refine Xae 13 (.pointer (some ⟨w.heap.size+1,k,none⟩)) rfl (fun _ _=>by go_simp;exact fun hh=>absurd hh (by omega)) x ?_;refine Xag (i:=14) (by kernel_rfl) ?_;refine Xa1 (w':=wr.drew.setCell ⟨w.heap.size+1,k,none⟩ (.int .u8 (z:Int))) rfl rfl (by go_simp) ?_;refine⟨trivial,?_⟩;refine wpAnyH_done (by kernel_rfl) ?_ _;go_simp;refine‹∀(a:Act) (w_1:World),_→_› _ _ ?_;clear x;go_wp2_with fail;go_roundg (E-(j+1));exact⟨j+1,by omega,rfl,by go_num,G2,Hd (RW.o _ rfl),Hd (HW.o _ rfl),Hd (BW.o _ BD.o)⟩;omega
   skip;refine Xao (f:=222) (args:=#[.int .u8 (c:Int)]) rfl rfl (by go_simp) ?_;refine(J.o _).mono ?_;rintro e w' ⟨rfl,rfl⟩;refine⟨_,rfl,trivial,?_⟩;refine Xae 11 (.int .u8 (y:Int)) rfl (fun _ _=>by go_simp) x ?_;refine Xag (i:=5) (by kernel_rfl) ?_;refine Xbr (v:=.int .u8 (v:Int)) rfl rfl (by go_simp) ?_;refine⟨trivial,?_⟩;refine Xae 6 (.int .u8 ((v:Int)*16)) rfl (fun _ _=>by go_simp) x ?_;refine Xae 12 (.int .u8 (z:Int)) rfl (fun _ _=>by go_simp) x ?_;refine Xae 13 (.pointer (some ⟨w.heap.size+1,k,none⟩)) rfl (fun _ _=>by go_simp;exact fun hh=>absurd hh (by omega)) x ?_;refine Xag (i:=14) (by kernel_rfl) ?_;refine Xa1 (w':=wr.drew.setCell ⟨w.heap.size+1,k,none⟩ (.int .u8 (z:Int))) rfl rfl (by go_simp) ?_;refine⟨trivial,?_⟩;refine wpAnyH_done (by kernel_rfl) ?_ _;go_simp;refine‹∀(a:Act) (w_1:World),_→_› _ _ ?_;clear x;go_wp2_with fail;go_roundg (E-(j+1));exact⟨j+1,by omega,rfl,by go_num,G2,Hd (RW.o _ rfl),Hd (HW.o _ rfl),Hd (BW.o _ BD.o)⟩;omega
  have M:hdB c=false:=by simpa using hd
  rw[Xsb M] at J;have T:=Hd (I.o (Ycm (j:=j) (by rw[C.o];omega) (by rw[←K];exact M)));obtain⟨B,b,A⟩:=r.o wr u F.o l.o m.o;have B:=Hd B;have b:=Hd b;have A:=Hd A;clear hd M K r I;go_wp2_with (first
   |(go_at_call 222;refine(J.o _).mono ?_;rintro e w' ⟨rfl,rfl⟩)
   |((with_reducible refine Xah 22 rfl rfl ?_);refine⟨_,Q.o _,?_⟩)
   |((with_reducible refine Xaa 22 rfl _ _ rfl ?_);refine⟨_,_,_,rfl,rfl,B.o,?_⟩))
  exact zP (b.o _ rfl) rfl (T.o _ 6 (by decide) _ A.o)
 obtain rfl:j=E:=by omega
 by_cases h1:s.size<32
 ·have e1:j=s.size:=by have:=R.o;omega
  have T:=Hd (I.o (Xol (by rw[C.o];omega)));obtain⟨B,b,A⟩:=r.o wr u F.o l.o m.o;have B:=Hd B;have b:=Hd b;have A:=Hd A;clear r I;go_wp2_with (first
   |((with_reducible refine Xah 22 rfl rfl ?_);refine⟨_,Q.o _,?_⟩)
   |((with_reducible refine Xaa 22 rfl _ _ rfl ?_);refine⟨_,_,_,rfl,rfl,B.o,?_⟩))
  exact zP (b.o _ rfl) rfl (T.o _ 4 (by decide) _ A.o)
 have aC:j=32:=by have:=R.o;omega
 by_cases h2:32<s.size
 ·have T:=Hd (I.o (Xol (by rw[C.o];omega)));obtain⟨B,b,A⟩:=r.o wr u F.o l.o m.o;have B:=Hd B;have b:=Hd b;have A:=Hd A;clear r I;go_wp2_with (first
   |((with_reducible refine Xah 22 rfl rfl ?_);refine⟨_,Q.o _,?_⟩)
   |((with_reducible refine Xaa 22 rfl _ _ rfl ?_);refine⟨_,_,_,rfl,rfl,B.o,?_⟩))
  exact zP (b.o _ rfl) rfl (T.o _ 5 (by decide) _ A.o)
 have V:s.size=32:=by omega
 have GG:(bs s).all hdB=true:=Xg8 (fun q hq=>N.o q (by rw[C.o] at hq;omega));have U:=Hd (Xvf (by rw[C.o];exact V) GG);have OK:=Ycl U.o;have g:=d.o;rw[aC,show pn 16 (bs s) 32=uh (bs s) from Yhb (n:=16) (by rw[C.o];exact V)] at g;obtain⟨cs,G⟩:=xq (idA (uh (bs s)));have Z:Cl 16 cs:=by rw[G];exact Xsz OK
 rw[←G] at g;obtain⟨B,b,A⟩:=r.o wr cs Z l.o m.o;have B:=Hd B;have b:=Hd b;have A:=Hd A;have LD:=Hd (Xap wr (w.heap.size+1) 16 _ _ cs _ _ g rfl underlying22 Xck Z.1);have aA:=Hd G;clear r I OK g Z GG G d l m N Q t;go_wp2_with (first
  |((with_reducible refine Xab 22 rfl _ rfl ?_);refine⟨_,_,rfl,LD.o,?_⟩)
  |((with_reducible refine Xaa 22 rfl _ _ rfl ?_);refine⟨_,_,_,rfl,rfl,B.o,?_⟩))
 exact zP (b.o _ rfl) rfl (by unfold Xm3;rw[U.o];simp only[];rw[←aA.o];exact⟨_,0,rfl,A.o⟩)
def Yos:ByteArray:=⟨#[64,104,97,115,104,62]⟩
theorem Yjv:bs Yos=sHash:=by decide
theorem Xv6 (s:ByteArray)(w:World)(hs:s.size≤10000000):Calls prog 168 #[.string s] w (Xm4 (bs s) w):=by
 obtain⟨u,F⟩:=xq (idA zero32);have J:=Hd (Xac s);have aI:=Hd F;have zc:Cl 32 u:=by rw[F];exact⟨by rw[Xaf];rfl,Xec _⟩
 have B:=Hd zc;have L:Hid (∀w,(Instr.build 160 #[]).run prog w=.ok (.agg u) w):=Hd (fun w=>by rw[F];kernel_rfl);have m:Hid ((w.alloc (.cells (Array.replicate 32 (.int .u8 0)) 160)).alloc (.cells (Array.replicate 32 (.int .u8 0)) 160)=(w.alloc (.cells u 160)).alloc (.cells u 160)):=Hd (by rw[F];rfl);have SZ:(prog.info? 160).map (·.size)=some 32:=by kernel_rfl
 have g:Hid (∀(w4:World) (cs:Array Value),Cl 32 cs→w4.heap[w.heap.size]?=some (.cells u 160 (0,0))→Bw w w4→
     Sv 160 ⟨w.heap.size,0,none⟩ (.agg cs) w4 (w4.setRow w.heap.size cs)∧
     (∀tmps:Array Value,tmps.getD 2 undef=.pointer (some ⟨w.heap.size,0,none⟩)→(results Tryz.f168 tmps).run prog (w4.setRow w.heap.size cs)=.ok (.tuple #[.agg cs,tmps.getD 3 undef,tmps.getD 4 undef]) (w4.setRow w.heap.size cs))∧
     Bw w (w4.setRow w.heap.size cs)):=Hd (fun w4 cs A V hb=>
  ⟨run_storeVar_row (P:=prog) w4 w.heap.size _ 160 u cs V (by rw[A.1];exact SZ) (by rw[A.1,B.o.1]) A.2,
   fun tmps h2=>Xay results168 tmps _ w.heap.size _ _ _ _ h2 (setRow_heap w4 w.heap.size u cs _ _ V) underlying160 rfl (by rw[A.1];exact SZ),
   below_setRow hb (zL _) cs⟩)
 have G:Hid (Xlj (bs s)=none→∀a er:Int,er≠0→∀w',Bw w w'→Xm4 (bs s) w (.returned (.tuple #[.agg u,.int .i64 a,.int .i64 er])) w'):=Hd (fun h a er he w' hb=>⟨a,er,by rw[h,aI.o];exact⟨rfl,he⟩,hb⟩);have aF:Hid (∀j,j<71→j<s.size→Xgq j ((bs s).getD j 0)=false→Xlj (bs s)=none):=Hd (fun j h1 h2 h3=>Xz9 h1 (by rw[J.o];exact h2) h3);obtain⟨H,aE⟩:∃H:Nat,H=min s.size 71:=⟨_,rfl⟩
 have aT:H≤s.size:=by omega
 have aU:H≤71:=by omega
 have aA:=Hd aE;obtain⟨D,hD⟩:=xq (((bs s).drop 1).take 64);have aG:Hid (∀j,j<64→D.getD j 0=(bs s).getD (1+j) 0):=Hd (fun j hj=>by rw[hD,Xkz hj,Xft]);have HD:=Hd hD;have PZ:Hid (u=idA (pn 32 D 0)):=Hd (by rw[F,Xzu];rfl);have aJ:=Hd SZ;clear F aE hD zc SZ;go_enter func168,ntmps168;go_wp2_with fail;go_loopg [7] H (fun k i wr=>∃j:Nat,j≤H∧k=H-j∧i=.int .i64 (j:Int)∧Hid (∀q,q<j→Xgq q ((bs s).getD q 0)=true)∧Hid (wr.heap[w.heap.size]?=some (.cells u 160 (0,0)))∧Hid (wr.heap[w.heap.size+1]?=some (.cells (idA (pn 32 D (min (j-1) 64))) 160 (0,0)))∧Hid (Bw w wr))
 ·refine⟨0,by omega,rfl,rfl,Hd (fun q hq=>by omega),Hd ?_,Hd ?_,Hd (((zR _ _).alloc (zL _) _).alloc (by simp) _)⟩;·have h:((w.alloc (.cells u 160)).alloc (.cells u 160)).heap[w.heap.size]?=some (.cells u 160 (0,0)):=Xad (heap_alloc_last w _);rw[←m.o] at h;exact h
  have h:=heap_alloc_last (w.alloc (.cells u 160)) (.cells u 160);rw[World.size_alloc,←m.o] at h;show _=some (Obj.cells (idA (pn 32 D 0)) _ _);rw[←PZ.o];exact h
 obtain⟨j,hj,rfl,rfl,V,f,l,d⟩:=hrel;by_cases hlt:j<H
 ·obtain⟨c,Y⟩:=xq ((bs s).getD j 0);have aL:c<256:=by rw[Y];exact Xbd s j
  have y1:=fun w=>Xg4 s w j j rfl (by omega) c Y;have HC:=Hd Y;have M:Hid (Xgq j c=true→∀q,q<j+1→Xgq q ((bs s).getD q 0)=true):=Hd (fun h q hq=>by
   by_cases e:q=j;·rw[e,←Y];exact h
   exact V.o q (by omega))
  have C:=Hd (fun h:Xgq j c=false=>G.o (aF.o j (by omega) (by omega) (by rw[←Y];exact h)));clear Y V;rcases(by omega:j=0∨(1≤j∧j≤64)∨64<j) with h0|⟨h0,h64⟩|h64
  ·have y0:=fun w=>Xg4 s w 0 0 rfl (by omega) c (by rw[HC.o,h0]);have n0:((j:Int)==0)=true:=Xa8 (by omega);clear y1;by_cases e:c=60;·have q1:((c:Int) !=60)=false:=Xaw (by omega);have Z:=Hd (M.o (by unfold Xgq;rw[qP (by omega),zT e]));have I:Hid (wr.heap[w.heap.size+1]?=some (.cells (idA (pn 32 D (min (j+1-1) 64))) 160 (0,0))):=Hd (by have:=l.o;rw[show min (j-1) 64=0 by omega] at this;rw[show min (j+1-1) 64=0 by omega];exact this);clear e M C G g L m PZ;go_wp2_with fail;go_roundg (H-(j+1));exact⟨j+1,by omega,rfl,by go_num,Z,by(first|exact f|exact Hd f.o),by(first|exact I|exact Hd I.o),by(first|exact d|exact Hd d.o.drew)⟩;omega
   have q1:((c:Int) !=60)=true:=Xaq (by omega);have X:=Hd (C.o (by unfold Xgq;rw[qP (by omega),zW e]));obtain⟨t,b,r⟩:=g.o wr u B.o f.o d.o;have t:=Hd t;have b:=Hd b;have r:=Hd r;clear e M C G g;go_wp2_with (first
    |((with_reducible refine Xah 160 rfl rfl ?_);refine⟨_,L.o _,?_⟩)
    |((with_reducible refine Xaa 160 rfl _ _ rfl ?_);refine⟨_,_,_,rfl,rfl,t.o,?_⟩))
   exact zP (b.o _ rfl) rfl (X.o _ 6 (by decide) _ r.o)
  ·have n0:((j:Int)==0)=false:=Xar (by omega);have IX:=Hd (fun w=>Xwb w c aL);by_cases hd:hdB c=true
   ·rw[Xn5 hd] at IX;obtain⟨y,hy⟩:=xq (hv c);have aQ:y<16:=by rw[hy];exact Yaz c
    rw[←hy] at IX;obtain⟨k,hk⟩:=xq ((j-1)/2);have aD:k<32:=by omega
    have Q:min (j-1) 64=j-1:=by omega
    have A:=l.o;rw[Q] at A;obtain⟨v,W⟩:∃v,(pn 32 D (j-1))[k]?=some v:=⟨_,Xpt aD⟩
    obtain⟨O,aP⟩:=Xzv hk (by omega) W;rw[aG.o (j-1) (by omega),show 1+(j-1)=j by omega,←HC.o,←hy] at O;have aK:wr.cell? ⟨w.heap.size+1,k,none⟩=some (.int .u8 (v:Int)):=by rw[cell_of_row wr _ k _ _ _ A];unfold idA;rw[List.getElem?_toArray,List.getElem?_map,W];rfl
    have aN:wr.drew.cell? ⟨w.heap.size+1,k,none⟩=some (.int .u8 (v:Int)):=aK;have aM:wr.frozen? ⟨w.heap.size+1,k,none⟩=false:=by simp[World.frozen?,A]
    have aO:wr.drew.frozen? ⟨w.heap.size+1,k,none⟩=false:=aM;obtain⟨z,hz⟩:=xq (v*16+y);rw[←hz] at O;have s1:IntKind.u8.wrap ((v:Int)*16)=(v:Int)*16:=by rw[IntKind.wrap_u8];omega
    have s3:IntKind.u8.wrap (y:Int)=(y:Int):=by rw[IntKind.wrap_u8];omega
    have s2:IntKind.u8.wrap ((v:Int)*16+(y:Int))=(z:Int):=by rw[IntKind.wrap_u8];omega
    have aS:Int.tdiv ((j:Int)-1) 2=(k:Int):=by rw[Int.tdiv_eq_ediv_of_nonneg (by omega)];omega
    have wk:IntKind.i64.wrap (k:Int)=(k:Int):=IntWalk.i64_in _ (by omega);have HW:Hid (∀w2:World,w2.heap[w.heap.size+1]?=wr.heap[w.heap.size+1]?→(w2.setCell ⟨w.heap.size+1,k,none⟩ (.int .u8 (z:Int))).heap[w.heap.size+1]?=some (.cells (idA (pn 32 D (min (j+1-1) 64))) 160 (0,0))):=Hd (fun w2 h2=>by rw[show min (j+1-1) 64=j-1+1 by omega,O,←Xsa];exact Xez (h2.trans A) k _);have RW:Hid (∀w2:World,w2.heap[w.heap.size]?=wr.heap[w.heap.size]?→(w2.setCell ⟨w.heap.size+1,k,none⟩ (.int .u8 (z:Int))).heap[w.heap.size]?=some (.cells u 160 (0,0))):=Hd (fun w2 h2=>by rw[Below.heap_setCell _ _ _ _ (show w.heap.size≠w.heap.size+1 by omega)];exact h2.trans f.o);have BW:Hid (∀w2:World,Bw w w2→Bw w (w2.setCell ⟨w.heap.size+1,k,none⟩ (.int .u8 (z:Int)))):=Hd (fun w2 h2=>h2.setCell (p:=⟨w.heap.size+1,k,none⟩) (Nat.le_succ _) _);have BD:=Hd d.o.drew;have Z:=Hd (M.o (by unfold Xgq;rw[qN (by omega),qP (by omega)];exact hd));clear hd hy W O hz l f g G L m hk PZ A Q M C;go_wp2_with (go_at_call 221;refine(IX.o _).mono ?_;rintro e w' ⟨rfl,rfl⟩)
    go_roundg (H-(j+1));exact⟨j+1,by omega,rfl,by go_num,Z,Hd (RW.o _ rfl),Hd (HW.o _ rfl),Hd (BW.o _ (by first|exact d.o|exact BD.o))⟩;omega
   have U:hdB c=false:=by simpa using hd
   rw[Xsb U] at IX;have X:=Hd (C.o (by unfold Xgq;rw[qN (by omega),qP (by omega)];exact U));obtain⟨t,b,r⟩:=g.o wr u B.o f.o d.o;have t:=Hd t;have b:=Hd b;have r:=Hd r;clear hd U g G M C;go_wp2_with (first
    |(go_at_call 221;refine(IX.o _).mono ?_;rintro e w' ⟨rfl,rfl⟩)
    |((with_reducible refine Xah 160 rfl rfl ?_);refine⟨_,L.o _,?_⟩)
    |((with_reducible refine Xaa 160 rfl _ _ rfl ?_);refine⟨_,_,_,rfl,rfl,t.o,?_⟩))
   exact zP (b.o _ rfl) rfl (X.o _ 6 (by decide) _ r.o)
  have n0:((j:Int)==0)=false:=Xar (by omega);obtain⟨x,hx⟩:=xq (sHash.getD (j-65) 0);generalize hE:({data:=#[64,104,97,115,104,62]}:ByteArray)=E;have T:E=Yos:=hE.symm;have es:E.size=6:=by rw[T];rfl
  have y2:=fun w=>Xg4 E w ((j:Int)-65) (j-65) (by omega) (by omega) x (by rw[T,Yjv];exact hx);have HE:=Hd hE;clear hE T;have wk:IntKind.i64.wrap ((j:Int)-65)=(j:Int)-65:=IntWalk.i64_in _ (by omega);by_cases e:c=x
  ·subst e;have q1:((c:Int) !=(c:Int))=false:=Xaw rfl;have Z:=Hd (M.o (by unfold Xgq;rw[qN (by omega),qN (by omega),←hx,zT rfl]));have I:Hid (wr.heap[w.heap.size+1]?=some (.cells (idA (pn 32 D (min (j+1-1) 64))) 160 (0,0))):=Hd (by have:=l.o;rw[show min (j-1) 64=64 by omega] at this;rw[show min (j+1-1) 64=64 by omega];exact this);clear M C G g L m PZ hx l;go_upto_region 6 with fail;refine wp_region_still_lit (by kernel_rfl) (by kernel_rfl) ?_;repeat still_step
   refine wpStill_nil ?_;go_wp2_with fail;have hE:=HE.o;subst hE;go_roundg (H-(j+1));exact⟨j+1,by omega,rfl,by go_num,Z,by(first|exact f|exact Hd f.o),by(first|exact I|exact Hd I.o),by(first|exact d|exact Hd d.o.drew)⟩;omega
  have q1:((c:Int) !=(x:Int))=true:=Xaq (by omega);have X:=Hd (C.o (by unfold Xgq;rw[qN (by omega),qN (by omega),←hx,zW e]));obtain⟨t,b,r⟩:=g.o wr u B.o f.o d.o;obtain⟨S,K,R⟩:=g.o wr.drew u B.o f.o d.o.drew;have S:=Hd S;have K:=Hd K;have R:=Hd R;have t:=Hd t;have b:=Hd b;have r:=Hd r;clear e M C G g hx;go_upto_region 6 with fail;refine wp_region_still_lit (by kernel_rfl) (by kernel_rfl) ?_;repeat still_step
  refine wpStill_nil ?_;go_wp2_with (first
   |((with_reducible refine Xah 160 rfl rfl ?_);refine⟨_,L.o _,?_⟩)
   |((with_reducible refine Xaa 160 rfl _ _ rfl ?_);first|(refine⟨_,_,_,rfl,rfl,t.o,?_⟩)|(refine⟨_,_,_,rfl,rfl,S.o,?_⟩)))
  first
   |exact zP (b.o _ rfl) rfl (X.o _ 6 (by decide) _ r.o)
   |exact zP (K.o _ rfl) rfl (X.o _ 6 (by decide) _ R.o)
 obtain rfl:j=H:=by omega
 by_cases h1:s.size<71
 ·have e1:j=s.size:=by have:=aA.o;omega
  have C:=Hd (G.o (Xnz (by rw[J.o];omega)));obtain⟨t,b,r⟩:=g.o wr u B.o f.o d.o;have t:=Hd t;have b:=Hd b;have r:=Hd r;clear g G;go_wp2_with (first
   |((with_reducible refine Xah 160 rfl rfl ?_);refine⟨_,L.o _,?_⟩)
   |((with_reducible refine Xaa 160 rfl _ _ rfl ?_);refine⟨_,_,_,rfl,rfl,t.o,?_⟩))
  exact zP (b.o _ rfl) rfl (C.o _ 4 (by decide) _ r.o)
 have aR:j=71:=by have:=aA.o;omega
 by_cases h2:71<s.size
 ·have C:=Hd (G.o (Xnz (by rw[J.o];omega)));obtain⟨t,b,r⟩:=g.o wr u B.o f.o d.o;have t:=Hd t;have b:=Hd b;have r:=Hd r;clear g G;go_wp2_with (first
   |((with_reducible refine Xah 160 rfl rfl ?_);refine⟨_,L.o _,?_⟩)
   |((with_reducible refine Xaa 160 rfl _ _ rfl ?_);refine⟨_,_,_,rfl,rfl,t.o,?_⟩))
  exact zP (b.o _ rfl) rfl (C.o _ 5 (by decide) _ r.o)
 have aC:s.size=71:=by omega
 have GG:∀q,q<71→Xgq q ((bs s).getD q 0)=true:=fun q hq=>V.o q (by omega);have aB:=Hd (Xui (by rw[J.o];exact aC) GG);have OK:=Xuh aB.o;have n:=l.o;have DL:D.length=2*32:=by rw[HD.o,List.length_take,List.length_drop,J.o,aC];rfl
 rw[show min (j-1) 64=2*32 by omega,Yhb DL,HD.o] at n;obtain⟨cs,N⟩:=xq (idA (uh (((bs s).drop 1).take 64)));have CL:Cl 32 cs:=by rw[N];exact⟨by rw[Xaf,OK.len],Xec _⟩
 rw[←N] at n;obtain⟨t,b,r⟩:=g.o wr cs CL f.o d.o;have t:=Hd t;have b:=Hd b;have r:=Hd r;have LD:=Hd (Xap wr (w.heap.size+1) 32 _ _ cs _ _ n rfl underlying160 aJ.o CL.1);have aH:=Hd N;clear g G OK n CL GG N l f d V L m DL;go_wp2_with (first
  |((with_reducible refine Xab 160 rfl _ rfl ?_);refine⟨_,_,rfl,LD.o,?_⟩)
  |((with_reducible refine Xaa 160 rfl _ _ rfl ?_);refine⟨_,_,_,rfl,rfl,t.o,?_⟩))
 exact zP (b.o _ rfl) rfl (by unfold Xm4;rw[aB.o];simp only[];rw[←aH.o];exact⟨_,0,rfl,r.o⟩)
theorem Xrm (w:World)(v:Value)(gs:List ByteArray)(hr:SRow w v gs)(hl:gs.length≤1000000)(hz:∀g∈gs,g.size≤1000000):zJ 27 #[v] w (.int .i64 (Xco (gs.map bs):Nat)):=by
 obtain⟨T,b⟩:=xq (Xco (gs.map bs));rw[←b];have C:=Hd (Xv7 w v gs hr hl hz);obtain⟨a,cap,rfl,k,_⟩:=hr;obtain⟨m,d⟩:=xq gs.length;rw[←d] at k C hl⊢;by_cases h0:m=0;·have i:Hid (T=4):=Hd (by rw[b];unfold Xco;rw[qP];rw[d] at h0;rw[List.length_eq_zero_iff.1 h0];rfl);have l:((m:Int)==0)=true:=Xa8 (by omega);clear b d hz C;go_enter func27,ntmps27;go_wp2_with fail;go_ret;exact⟨by rw[i.o];rfl,zR _ _⟩
 have j:Hid (T=Xcy Xbo (gs.map bs)):=Hd (by rw[b];unfold Xco;rw[qN];intro e;exact h0 (by rw[d,←List.length_map (f:=bs),e];rfl));have l:((m:Int)==0)=false:=Xar (by omega);clear b d hz;go_enter func27,ntmps27;go_wp2_with fail;refine C.o.mono ?_;rintro e n ⟨rfl,c⟩;have h:=Hd c;clear c C;go_wp2_with fail;go_ret;exact⟨by rw[j.o];rfl,h.o⟩
theorem Xuj (k:Nat):∀(a b:List Nat),a.take k=b.take k→k≤a.length→k≤b.length→ltL a b=ltL (a.drop k) (b.drop k):=by
 induction k with
 |zero=>intros;simp
 |succ k ih=>
  intro a b h c d
  match a,b with
  |[],_=>simp at c
  |_::_,[]=>simp at d
  |x::a,y::b=>simp only[List.take_succ_cons,List.cons.injEq] at h;obtain⟨rfl,h⟩:=h;simp only[List.drop_succ_cons];rw[←ih a b h (by simpa using c) (by simpa using d)];simp[ltL]
theorem Ye2 {a b:List Nat}(h:a.take 16=b.take 16)(ha:a.length=16)(hb:b.length=16):ltL a b=false:=by rw[Xuj 16 a b h (by omega) (by omega),List.drop_of_length_le (by omega),List.drop_of_length_le (by omega)];rfl
theorem Yl0 {a b:List Nat}{k x y:Nat}(h:a.take k=b.take k)(ha:a.length=16)(hb:b.length=16)(hk:k<16)(hx:x=a.getD k 0)(hy:y=b.getD k 0)(hne:x≠y):ltL a b=decide (x<y):=by
 rw[Xuj k a b h (by omega) (by omega),List.drop_eq_getElem_cons (by omega:k<a.length),List.drop_eq_getElem_cons (by omega:k<b.length)];have c:a[k]=x:=by rw[hx];simp[List.getD,show k<a.length by omega]
 have d:b[k]=y:=by rw[hy];simp[List.getD,show k<b.length by omega]
 simp[ltL,c,d,hne]
theorem Xyp {a b:List Nat}{k x:Nat}(h:a.take k=b.take k)(ha:a.length=16)(hb:b.length=16)(hk:k<16)(hx:x=a.getD k 0)(hy:x=b.getD k 0):a.take (k+1)=b.take (k+1):=by
 rw[List.take_succ_eq_append_getElem (by omega),List.take_succ_eq_append_getElem (by omega),h];have c:a[k]=x:=by rw[hx];simp[List.getD,show k<a.length by omega]
 have d:b[k]=x:=by rw[hy];simp[List.getD,show k<b.length by omega]
 rw[c,d]
theorem Xzf (w:World)(a:Option Addr)(cap:Nat)(ids:List (List Nat))(hn:ids.length≤1000000)(hA:Yky w a ids)(hok:∀x∈ids,AuOk x):Rz 223 #[.slice a ids.length cap] w (.bool (Xmp ids)):=by
 obtain⟨n,D⟩:=xq ids.length;have HN:=Hd D;rw[←D] at hn⊢;have HA:=Hd hA;have C:=Hd hok;clear D hA hok;go_enter func223,ntmps223;go_wp2_with fail;go_loopg [3,4] n (fun k i _ wr=>∃j:Nat,(j+1≤n∨j=0)∧k=n-j∧i=.int .i64 ((j:Int)+1)∧Hid (∀q (h:q+1<ids.length),q<j→ltL ids[q] ids[q+1]=true)∧Hid (Dr w wr));exact⟨0,.inr rfl,rfl,rfl,Hd (fun q h hq=>by omega),Hd (Dr.refl w)⟩;obtain⟨j,hj,rfl,rfl,Y,c⟩:=hrel;by_cases hlt:j+1<n
 ·have M:j+1<ids.length:=by rw[←HN.o];exact hlt
  obtain⟨b,off,rfl,f⟩:=HA.o (fun e=>by rw[e] at M;simp at M);obtain⟨E,s⟩:=xq (ids[j]'(by omega));obtain⟨G,t⟩:=xq (ids[j+1]);have o1:=C.o E (by rw[s];exact zG _);have o2:=C.o G (by rw[t];exact zG _);have CA:=Hd (fun k u (hu:(idA E)[k]?=some u)=>f j (by omega) k u (by rw[←s];exact hu));have CB:=Hd (fun k u (hu:(idA G)[k]?=some u)=>f (j+1) M k u (by rw[←t];exact hu));have L:Hid (ltL E G=false→Xmp ids=false):=Hd (fun h=>Yau ids j M (by rw[←s,←t];exact h));have P:Hid (ltL E G=true→∀q (h:q+1<ids.length),q<j+1→ltL ids[q] ids[q+1]=true):=Hd (fun ht q h hq=>by
   by_cases e:q=j;·subst e;rw[←s,←t];exact ht
   exact Y.o q h (by omega))
  have T:=Hd o1;have U:=Hd o2;have w1:IntKind.i64.wrap ((j:Int)+1-1)=(j:Int):=by rw[show(j:Int)+1-1=(j:Int) by omega];exact IntWalk.i64_in _ (by omega)
  have w2:IntKind.i64.wrap ((j:Int)+1+1)=(j:Int)+1+1:=IntWalk.i64_in _ (by omega);have w0:IntKind.i64.wrap (j:Int)=(j:Int):=IntWalk.i64_in _ (by omega);have p0:(0:Int)≤(j:Int)+1:=by omega
  have p1:(j:Int)+1<(n:Int):=by omega
  have p2:(j:Int)<(n:Int):=by omega
  clear f M o1 o2 HA C Y hj s t;go_wp2_with fail;go_loopg [4] 16 (fun kk v wr=>∃k:Nat,k≤16∧kk=16-k∧v=.int .i64 (k:Int)∧Hid (E.take k=G.take k)∧Hid (Dr w wr));exact⟨0,by omega,rfl,rfl,Hd (by simp),c⟩;clear c;obtain⟨k,hk,rfl,rfl,H,c⟩:=hrel;by_cases hk16:k<16
  ·obtain⟨x,N⟩:=xq (E.getD k 0);obtain⟨y,O⟩:=xq (G.getD k 0);have z:k<E.length:=by rw[T.o.len];exact hk16
   have aD:(k:Int)<16:=by omega
   have aA:(0:Int)≤(k:Int):=by omega
   have A:k<G.length:=by rw[U.o.len];exact hk16
   have cA:wr.cell? ⟨b,off+j*16+k,none⟩=some (.int .u8 (x:Int)):=by obtain⟨p,Z⟩:=c.o;rw[Z];exact CA.o k _ (by unfold idA;rw[List.getElem?_toArray,List.getElem?_map,List.getElem?_eq_getElem z,N];simp[List.getD,z];rfl)
   have cB:wr.cell? ⟨b,off+(j+1)*16+k,none⟩=some (.int .u8 (y:Int)):=by obtain⟨p,Z⟩:=c.o;rw[Z];exact CB.o k _ (by unfold idA;rw[List.getElem?_toArray,List.getElem?_map,List.getElem?_eq_getElem A,O];simp[List.getD,A];rfl)
   obtain⟨r,m⟩:=xq wr.drew;obtain⟨I,l⟩:=xq r.drew;have W:r.cell? ⟨b,off+j*16+k,none⟩=some (.int .u8 (x:Int)):=by rw[m];exact cA
   have X:r.cell? ⟨b,off+(j+1)*16+k,none⟩=some (.int .u8 (y:Int)):=by rw[m];exact cB
   have aB:I.cell? ⟨b,off+j*16+k,none⟩=some (.int .u8 (x:Int)):=by rw[l];exact W
   have aC:I.cell? ⟨b,off+(j+1)*16+k,none⟩=some (.int .u8 (y:Int)):=by rw[l];exact X
   have K:=Hd m;have Q:=Hd l;have B:Hid (Dr w r):=Hd (by rw[m];exact c.o.drewN 1);have J:Hid (Dr w I):=Hd (by rw[l];exact B.o.drewN 1);clear m l cA cB;by_cases e:x=y
   ·subst e;have q1:((x:Int)==(x:Int))=true:=Xa8 rfl;have N2:=Hd (Xyp H.o T.o.len U.o.len hk16 N O);clear N O H z A;go_upto_region 5 with fail;refine wp_region_still_lit (by kernel_rfl) (by kernel_rfl) ?_;change wpStill _ _ wr.drew (fun a'=>Exit.then _ _ Exit.normal a' wr.drew) _ _;rw[←K.o];repeat still_step
    refine wpStill_nil ?_;go_wp2_with fail;go_roundg (16-(k+1));exact⟨k+1,by omega,rfl,by go_num,N2,by(first|exact c|exact B|exact J|exact Hd c.o.drew|exact Hd (c.o.drewN 1))⟩;omega
   have q1:((x:Int)==(y:Int))=false:=Xar (by omega);have q2:((k:Int)==16)=false:=Xar (by omega);have R:=Hd (Yl0 H.o T.o.len U.o.len hk16 N O e);clear N O H z A;by_cases g:y<x
   ·have q3:decide ((y:Int)<(x:Int))=true:=zT (by omega);have F:=Hd (L.o (by rw[R.o];exact zW (by omega)));clear e R L P;go_upto_region 5 with fail;refine wp_region_still_lit (by kernel_rfl) (by kernel_rfl) ?_;change wpStill _ _ wr.drew (fun a'=>Exit.then _ _ Exit.normal a' wr.drew) _ _;rw[←K.o];repeat still_step
    refine wpStill_nil ?_;go_upto_region 7 with fail;refine wp_region_still_lit (by kernel_rfl) (by kernel_rfl) ?_;change wpStill _ _ r.drew (fun a'=>Exit.then _ _ Exit.normal a' r.drew) _ _;rw[←Q.o];repeat still_step
    refine wpStill_nil ?_;go_wp2_with fail;go_ret;exact⟨by rw[F.o];rfl,by(first|exact c.o|exact B.o|exact J.o|exact c.o.drew|exact c.o.drewN _)⟩
   have q3:decide ((y:Int)<(x:Int))=false:=zW (by omega);have F:=Hd (P.o (by rw[R.o];exact zT (by omega)));clear e R L P;go_upto_region 5 with fail;refine wp_region_still_lit (by kernel_rfl) (by kernel_rfl) ?_;change wpStill _ _ wr.drew (fun a'=>Exit.then _ _ Exit.normal a' wr.drew) _ _;rw[←K.o];repeat still_step
   refine wpStill_nil ?_;go_upto_region 7 with fail;refine wp_region_still_lit (by kernel_rfl) (by kernel_rfl) ?_;change wpStill _ _ r.drew (fun a'=>Exit.then _ _ Exit.normal a' r.drew) _ _;rw[←Q.o];repeat still_step
   refine wpStill_nil ?_;go_wp2_with fail;go_roundg (n-(j+1));exact⟨j+1,.inl hlt,rfl,by go_num,F,by(first|exact c|exact B|exact J|exact Hd c.o.drew|exact Hd (c.o.drewN _))⟩;omega
  obtain rfl:k=16:=by omega
  obtain⟨r,m⟩:=xq wr.drew;obtain⟨I,l⟩:=xq r.drew;have K:=Hd m;have Q:=Hd l;have B:Hid (Dr w r):=Hd (by rw[m];exact c.o.drewN 1);have J:Hid (Dr w I):=Hd (by rw[l];exact B.o.drewN 1);clear m l;have F:=Hd (L.o (Ye2 H.o T.o.len U.o.len));clear L P H;go_upto_region 5 with fail;refine wp_region_held (S:=fun _=>True) (by kernel_rfl) ?_;change wpAnyH _ _ _ _ _ _ _ _ wr.drew;rw[←K.o];have d:(fun _:World=>True) r:=trivial;refine Xae 0 (.int .i64 16) rfl (fun _ _=>by go_simp) d ?_;refine Xae 1 (.bool false) rfl (fun _ _=>by go_simp) d ?_;refine Xae 2 (.bool false) rfl (fun _ _=>by go_simp) d ?_;refine Xb0 3 rfl d ?_;refine Xb0 4 rfl d ?_;refine Xb0 5 rfl d ?_;refine Xb0 6 rfl d ?_;refine Xb0 7 rfl d ?_;refine Xb0 8 rfl d ?_;refine Xb0 9 rfl d ?_;refine Xb0 10 rfl d ?_;refine Xb0 11 rfl d ?_;refine Xb0 12 rfl d ?_;refine Xb0 13 rfl d ?_;refine Xb0 14 rfl d ?_;refine Xb0 15 rfl d ?_;refine Xb0 16 rfl d ?_;refine Xae 17 (.bool false) rfl (fun _ _=>by go_simp) d ?_;refine wpAnyH_done (by kernel_rfl) ?_ _;go_simp;refine‹∀(a:Act) (w_1:World),_→_› _ _ ?_;clear d;go_upto_region 7 with fail;refine wp_region_held (S:=fun _=>True) (by kernel_rfl) ?_;change wpAnyH _ _ _ _ _ _ _ _ r.drew;rw[←Q.o];have d:(fun _:World=>True) I:=trivial;refine Xae 0 (.int .i64 16) rfl (fun _ _=>by go_simp) d ?_;refine Xae 1 (.bool true) rfl (fun _ _=>by go_simp) d ?_;refine Xae 2 (.bool true) rfl (fun _ _=>by go_simp) d ?_;refine Xb0 3 rfl d ?_;refine Xb0 4 rfl d ?_;refine Xb0 5 rfl d ?_;refine Xb0 6 rfl d ?_;refine Xb0 7 rfl d ?_;refine Xb0 8 rfl d ?_;refine Xb0 9 rfl d ?_;refine Xb0 10 rfl d ?_;refine Xb0 11 rfl d ?_;refine Xb0 12 rfl d ?_;refine Xb0 13 rfl d ?_;refine Xb0 14 rfl d ?_;refine Xb0 15 rfl d ?_;refine Xb0 16 rfl d ?_;refine Xae 17 (.bool true) rfl (fun _ _=>by go_simp) d ?_;refine wpAnyH_done (by kernel_rfl) ?_ _;go_simp;refine‹∀(a:Act) (w_1:World),_→_› _ _ ?_;clear d;go_wp2_with fail;go_ret;exact⟨by rw[F.o];rfl,by(first|exact c.o|exact B.o|exact J.o|exact c.o.drew|exact c.o.drewN _)⟩
 have V:=Hd (Xr9 ids (fun i h=>Y.o i h (by rw[←HN.o] at h;omega)));go_wp2_with fail;go_ret;exact⟨by rw[V.o];rfl,c.o⟩
end Go.Proofs.YtjolcnopipbkhaaGreatDoor
