/- control.ParseAuthor. -/
import Derived.Test.YtjolcnopipbkhaaGreatDoorVe04
import Derived.Lib.BytesEntry
import Derived.Lib.Bytealg
import Derived.Lib.SlBytesConst
import Derived.Lib.ItoaLen
namespace Go.Proofs.YtjolcnopipbkhaaGreatDoor
open Go.Proofs.Tryz
open Go.RowKit Go.Maps
set_option linter.unusedVariables false
set_option maxHeartbeats 100000000
set_option maxRecDepth 100000
def pa (l:List Nat)(j:Nat):List Nat:=(List.range 16).map fun k=>if 2*k+1<j then 16*hv (l.getD (2*k) 0)+hv (l.getD (2*k+1) 0) else if 2*k<j then hv (l.getD (2*k) 0) else 0
theorem Xis (l:List Nat)(j:Nat):(pa l j).length=16:=by simp[pa]
theorem Xrw {l:List Nat}{j k:Nat}(hk:k<16):(pa l j)[k]?=some (if 2*k+1<j then 16*hv (l.getD (2*k) 0)+hv (l.getD (2*k+1) 0) else if 2*k<j then hv (l.getD (2*k) 0) else 0):=by simp[pa,hk]
theorem Yaz (c:Nat):hv c<16:=by
 unfold hv
 cases h:hvl c with
 |none=>decide
 |some x=>unfold hvl at h;split at h<;>(try split at h)<;>simp at h<;>simp<;>omega
theorem Yiy (l:List Nat):pa l 0=List.replicate 16 0:=by
 apply List.ext_getElem?;intro k;by_cases hk:k<16;·rw[Xrw hk,qN (by omega),qN (by omega),List.getElem?_replicate,qP hk]
 rw[List.getElem?_eq_none (by rw[Xis];omega),List.getElem?_eq_none (by simp;omega)]
theorem Yiz {l:List Nat}{j k v:Nat}(hk:k=j/2)(hj:j<32)(hv':(pa l j)[k]?=some v):pa l (j+1)=(pa l j).set k (16*v%256+hv (l.getD j 0))∧v<16:=by
 rw[Xrw (by omega)] at hv';have a:=Option.some.inj hv';rw[qN (by omega)] at a;have b:v<16:=by
  rw[←a];split;·exact Yaz _
  decide
 refine⟨?_,b⟩;apply List.ext_getElem?;intro n;by_cases hn:n<16
 ·rw[List.getElem?_set];by_cases e:k=n
  ·subst e;rw[qP rfl,qP (by rw[Xis];exact hn),Xrw hn];by_cases hp:j=2*k;·rw[qN (by omega),qP (by omega)];rw[qN (by omega)] at a;rw[←a,←hp];simp
   have c:j=2*k+1:=by omega
   rw[qP (by omega)];rw[qP (by omega)] at a;rw[a,Nat.mod_eq_of_lt (by omega),c]
  rw[qN e,Xrw hn,Xrw hn];by_cases c1:2*n+1<j;·rw[qP (by omega),qP c1]
  rw[qN (by omega),qN c1];by_cases c2:2*n<j;·rw[qP (by omega),qP c2]
  rw[qN (by omega),qN c2]
 rw[List.getElem?_eq_none (by rw[Xis];omega),List.getElem?_eq_none (by rw[List.length_set,Xis];omega)]
theorem Yib:∀(n:Nat) (l:List Nat) (k:Nat),l.length=2*n→k<n→(uh l)[k]?=some (16*hv (l.getD (2*k) 0)+hv (l.getD (2*k+1) 0))
 |n+1,a::b::t,0,h,hk=>by simp[uh]
 |n+1,a::b::t,k+1,h,hk=>by simp only[uh,List.getElem?_cons_succ];rw[Yib n t k (by simp at h;omega) (by omega)];rw[show 2*(k+1)=2*k+1+1 by omega];simp
 |n+1,[_],_,h,_=>by simp at h;omega
 |n+1,[],_,h,_=>by simp at h
theorem Ylm {l:List Nat}(h:l.length=32):pa l 32=uh l:=by
 apply List.ext_getElem?;intro k;by_cases hk:k<16;·rw[Xrw hk,Yib 16 l k (by omega) hk,qP (by omega)]
 rw[List.getElem?_eq_none (by rw[Xis];omega),List.getElem?_eq_none (by rw[Xju 16 l (by omega)];omega)]
theorem Xvf {l:List Nat}(h:l.length=32)(hd:l.all hdB=true):Xfz l=some (uh l):=by unfold Xfz;rw[qP h];exact Xhc 16 l (by omega) hd
theorem Xol {l:List Nat}(h:l.length≠32):Xfz l=none:=by unfold Xfz;rw[qN h]
theorem Ycm {l:List Nat}{j:Nat}(hj:j<l.length)(hd:hdB (l.getD j 0)=false):Xfz l=none:=by
 unfold Xfz;split;·refine Xfk _ ?_;rw[List.all_eq_false];refine⟨l[j],zG hj,?_⟩;rw[List.getD_eq_getElem?_getD,List.getElem?_eq_getElem hj,Option.getD_some] at hd;rw[hd];decide
 rfl
theorem Xl6:(prog.info? 35).map (·.size)=some 16:=by kernel_rfl
structure AuOk (l:List Nat):Prop where
 len:l.length=16
 lt:∀x∈l,x<256
theorem Ycl {l id:List Nat}(h:Xfz l=some id):AuOk id:=by
 unfold Xfz at h;split at h
 ·rename_i h32;by_cases hd:l.all hdB=true;·rw[Xhc 16 l (by omega) hd] at h;cases h;exact⟨Xju 16 l (by omega),Yia l hd⟩
  rw[Xfk l (by simpa using hd)] at h;cases h
 cases h
theorem Xsz {l:List Nat}(h:AuOk l):Cl 16 (idA l):=⟨by rw[Xaf,h.len],Xec _⟩
def Xel:List Nat:=List.replicate 16 0
theorem Xha:AuOk Xel:=⟨by simp[Xel],fun x hx=>by simp[Xel] at hx;omega⟩
def Xm3 (l:List Nat)(w:World)(e:Ending)(w':World):Prop:=
 ∃(a er:Int),(match Xfz l with
  |some id=>e=.returned (.tuple #[.agg (idA id),.int .i64 a,.int .i64 0])
  |none=>e=.returned (.tuple #[.agg (idA Xel),.int .i64 a,.int .i64 er])∧er≠0)∧Bw w w'
theorem Xsb {c:Nat}(h:hdB c=false):hvz c=-1:=by
 unfold hdB at h;unfold hvz
 cases hc:hvl c with
 |none=>rfl
 |some x=>rw[hc] at h;simp at h
theorem Xn5 {c:Nat}(h:hdB c=true):hvz c=(hv c:Int):=by
 unfold hdB at h;unfold hvz hv
 cases hc:hvl c with
 |none=>rw[hc] at h;simp at h
 |some x=>rfl
theorem Xsa (l:List Nat)(k v:Nat):(idA l).setIfInBounds k (U v)=idA (l.set k v):=by unfold idA;rw[List.setIfInBounds_toArray,List.map_set]
theorem Xrt (s:ByteArray)(w:World)(hs:s.size≤1000000):Calls prog 98 #[.string s] w (Xm3 (bs s) w):=by
 obtain⟨D,u⟩:=xq (idA Xel);have t:=Hd (Xac s);have X:=Hd u;have G:Hid (Cl 16 D):=Hd (by rw[u];exact Xsz Xha);have L:Hid (∀w,(Instr.build 35 #[]).run prog w=.ok (.agg D) w):=Hd (fun w=>by rw[u];kernel_rfl);have r:Hid (w.alloc (.cells (Array.replicate 16 (.int .u8 0)) 35)=w.alloc (.cells D 35)):=Hd (by rw[u];rfl)
 have l:Hid (∀(w4:World) (old cs:Array Value),Cl 16 cs→old.size=16→w4.heap[w.heap.size]?=some (.cells old 35 (0,0))→Bw w w4→
     Sv 35 ⟨w.heap.size,0,none⟩ (.agg cs) w4 (w4.setRow w.heap.size cs)∧
     (∀tmps:Array Value,tmps.getD 2 undef=.pointer (some ⟨w.heap.size,0,none⟩)→(results Tryz.f98 tmps).run prog (w4.setRow w.heap.size cs)=.ok (.tuple #[.agg cs,tmps.getD 3 undef,tmps.getD 4 undef]) (w4.setRow w.heap.size cs))∧
     Bw w (w4.setRow w.heap.size cs)):=Hd (fun w4 old cs hcl ho J hb=>
  ⟨run_storeVar_row (P:=prog) w4 w.heap.size _ 35 old cs J (by rw[hcl.1];exact Xl6) (by rw[hcl.1,ho]) hcl.2,
   fun tmps h2=>Xay results98 tmps _ w.heap.size _ _ _ _ h2 (setRow_heap w4 w.heap.size old cs _ _ J) underlying35 rfl (by rw[hcl.1];exact Xl6),
   below_setRow hb (zL _) cs⟩)
 have E:Hid (Xfz (bs s)=none→∀a er:Int,er≠0→∀w',Bw w w'→Xm3 (bs s) w (.returned (.tuple #[.agg D,.int .i64 a,.int .i64 er])) w'):=Hd (fun h a er he w' hb=>⟨a,er,by rw[h,X.o];exact⟨rfl,he⟩,hb⟩);obtain⟨A,S⟩:∃A:Nat,A=min s.size 32:=⟨_,rfl⟩
 have aF:A≤s.size:=by omega
 have aG:A≤32:=by omega
 have W:=Hd S;have mi:min (s.size:Int) 32=(A:Int):=by omega
 have PZ:Hid (D=idA (pa (bs s) 0)):=Hd (by rw[u,Yiy];rfl);clear u S;go_enter func98,ntmps98;go_wp2_with fail;go_loopg [5,6,10] A (fun k x y i wr=>∃j:Nat,j≤A∧k=A-j∧i=.int .i64 (j:Int)∧Hid (∀q,q<j→hdB ((bs s).getD q 0)=true)∧Hid (wr.heap[w.heap.size]?=some (.cells (idA (pa (bs s) j)) 35 (0,0)))∧Hid (Bw w wr));exact⟨0,by omega,rfl,rfl,Hd (fun q hq=>by omega),Hd (by have h:=zN w (.cells D 35);rw[←r.o] at h;rw[←PZ.o];exact h),Hd ((zR _ _).alloc (zL _) _)⟩;obtain⟨j,hj,rfl,rfl,J,b,g⟩:=hrel;by_cases hlt:j<A
 ·obtain⟨c,H⟩:=xq ((bs s).getD j 0);have Y:c<256:=by rw[H];exact Xbd s j
  have xn:∀w,(Instr.index 9 (.string s) (.int .i64 (j:Int))).run prog w=.ok (.int .u8 (c:Int)) w:=fun w=>by rw[Xbj 9 underlying9 s .i64 j j rfl (by omega),H]
  have M:=Hd (Yar wr c Y);by_cases hd:hdB c=true
  ·rw[Xn5 hd] at M;obtain⟨y,U⟩:=xq (hv c);have aB:y<16:=by rw[U];exact Yaz c
   rw[←U] at M;obtain⟨k,Z⟩:=xq (j/2);have R:k<16:=by omega
   obtain⟨v,K⟩:∃v,(pa (bs s) j)[k]?=some v:=⟨_,Xrw R⟩
   obtain⟨C,aA⟩:=Yiz Z (by omega) K;rw[←H,←U] at C;have aC:wr.cell? ⟨w.heap.size,k,none⟩=some (.int .u8 (v:Int)):=by rw[cell_of_row wr _ k _ _ _ b.o];unfold idA;rw[List.getElem?_toArray,List.getElem?_map,K];rfl
   have aE:wr.frozen? ⟨w.heap.size,k,none⟩=false:=by have:=b.o;simp[World.frozen?,this]
   obtain⟨z,hz⟩:=xq (16*v%256+y);rw[←hz] at C;have s1:IntKind.u8.wrap ((v:Int)*16)=(v:Int)*16:=by rw[IntKind.wrap_u8];omega
   have s3:IntKind.u8.wrap (y:Int)=(y:Int):=by rw[IntKind.wrap_u8];omega
   have s2:Go.bits .or .u8 ((v:Int)*16) (y:Int)=(z:Int):=by rw[bits_join .u8 8 (by decide) wraps_u8 4 _ _ (by omega) (by omega) (by omega) (by omega) (by omega) (by omega)];omega
   have aD:Int.tdiv (j:Int) 2=(k:Int):=by rw[Int.tdiv_eq_ediv_of_nonneg (by omega)];omega
   have HW:Hid ((wr.setCell ⟨w.heap.size,k,none⟩ (.int .u8 (z:Int))).heap[w.heap.size]?=some (.cells (idA (pa (bs s) (j+1))) 35 (0,0))):=Hd (by rw[C,←Xsa];exact Xez b.o k _);have BW:Hid (Bw w (wr.setCell ⟨w.heap.size,k,none⟩ (.int .u8 (z:Int)))):=Hd (g.o.setCell (p:=⟨w.heap.size,k,none⟩) (zL _) _);have G2:Hid (∀q,q<j+1→hdB ((bs s).getD q 0)=true):=Hd (fun q hq=>by
    by_cases e:q=j;·rw[e,←H];exact hd
    exact J.o q (by omega))
   have HK:=Hd Z;clear hd H U K C hz J b g l E L r HK Z PZ;go_wp2_with (go_at_call 147;refine M.o.mono ?_;rintro e w' ⟨rfl,rfl⟩)
   go_roundg (A-(j+1));exact⟨j+1,by omega,rfl,by go_num,G2,HW,BW⟩;omega
  have I:hdB c=false:=by simpa using hd
  rw[Xsb I] at M;have N:=Hd (E.o (Ycm (j:=j) (by rw[t.o];omega) (by rw[←H];exact I)));obtain⟨n,d,m⟩:=l.o wr _ D G.o (by rw[Xaf,Xis]) b.o g.o;have n:=Hd n;have d:=Hd d;have m:=Hd m;clear hd I H l E;go_wp2_with (first
   |(go_at_call 147;refine M.o.mono ?_;rintro e w' ⟨rfl,rfl⟩)
   |((with_reducible refine Xah 35 rfl rfl ?_);refine⟨_,L.o _,?_⟩)
   |((with_reducible refine Xaa 35 rfl _ _ rfl ?_);refine⟨_,_,_,rfl,rfl,n.o,?_⟩))
  exact zP (d.o _ rfl) rfl (N.o _ 6 (by decide) _ m.o)
 obtain rfl:j=A:=by omega
 by_cases h1:s.size<32
 ·have N:=Hd (E.o (Xol (by rw[t.o];omega)));obtain⟨n,d,m⟩:=l.o wr _ D G.o (by rw[Xaf,Xis]) b.o g.o;have n:=Hd n;have d:=Hd d;have m:=Hd m;clear l E;go_wp2_with (first
   |((with_reducible refine Xah 35 rfl rfl ?_);refine⟨_,L.o _,?_⟩)
   |((with_reducible refine Xaa 35 rfl _ _ rfl ?_);refine⟨_,_,_,rfl,rfl,n.o,?_⟩))
  exact zP (d.o _ rfl) rfl (N.o _ 4 (by decide) _ m.o)
 by_cases h2:32<s.size
 ·have N:=Hd (E.o (Xol (by rw[t.o];omega)));obtain⟨n,d,m⟩:=l.o wr _ D G.o (by rw[Xaf,Xis]) b.o g.o;have n:=Hd n;have d:=Hd d;have m:=Hd m;clear l E;go_wp2_with (first
   |((with_reducible refine Xah 35 rfl rfl ?_);refine⟨_,L.o _,?_⟩)
   |((with_reducible refine Xaa 35 rfl _ _ rfl ?_);refine⟨_,_,_,rfl,rfl,n.o,?_⟩))
  exact zP (d.o _ rfl) rfl (N.o _ 5 (by decide) _ m.o)
 have Q:s.size=32:=by omega
 have F:j=32:=by have:=W.o;omega
 have GG:(bs s).all hdB=true:=Xg8 (fun q hq=>J.o q (by rw[t.o] at hq;omega));have O:=Hd (Xvf (by rw[t.o];exact Q) GG);have OK:=Ycl O.o;have f:=b.o;rw[F,Ylm (by rw[t.o];exact Q)] at f;obtain⟨cs,B⟩:=xq (idA (uh (bs s)));have T:Cl 16 cs:=by rw[B];exact Xsz OK
 rw[←B] at f;obtain⟨n,d,m⟩:=l.o wr _ cs T T.1 f g.o;have n:=Hd n;have d:=Hd d;have m:=Hd m;have LD:=Hd (Xap wr w.heap.size 16 _ _ cs _ _ f rfl underlying35 Xl6 T.1);have V:=Hd B;clear l E OK f T GG B F b g J L r;go_upto_region 13 with fail;refine wp_region_list ?_;simp only[];refine Xab 35 rfl _ rfl ⟨_,_,rfl,LD.o,?_⟩;go_wp2_with ((with_reducible refine Xaa 35 rfl _ _ rfl ?_);refine⟨_,_,_,rfl,rfl,n.o,?_⟩)
 exact zP (d.o _ rfl) rfl (by unfold Xm3;rw[O.o];simp only[];rw[←V.o];exact⟨_,0,rfl,m.o⟩)
def Yb7 (l m:List Nat):Int:=Lib.compareBytes (Lib.bytesOf (l.map fun x=>((x:Nat):Int))) (Lib.bytesOf (m.map fun x=>((x:Nat):Int)))
theorem Yk8 {a b:Nat}(ha:a<256)(hb:b<256):(UInt8.ofNat a<UInt8.ofNat b)↔a<b:=by rw[UInt8.lt_iff_toNat_lt];simp[Nat.mod_eq_of_lt ha,Nat.mod_eq_of_lt hb]
theorem Yb6:∀(l m:List Nat),(∀x∈l,x<256)→(∀x∈m,x<256)→decide (0≤Yb7 l m)=!ltL l m
 |[],[],_,_=>by decide
 |[],y::m,_,_=>by simp[Yb7,Lib.bytesOf,Lib.compareBytes,ltL]
 |x::l,[],_,_=>by simp[Yb7,Lib.bytesOf,Lib.compareBytes,ltL]
 |x::l,y::m,hl,hm=>by
  have c:=Yb6 l m (fun z hz=>hl z (List.mem_cons_of_mem _ hz)) (fun z hz=>hm z (List.mem_cons_of_mem _ hz));have a:=hl x (List.mem_cons_self ..);have b:=hm y (List.mem_cons_self ..);have e:Yb7 (x::l) (y::m)=if x<y then -1 else if y<x then 1 else Yb7 l m:=by unfold Yb7;simp only[Lib.bytesOf,List.map_cons,Lib.compareBytes,Int.toNat_natCast];simp only[Yk8 a b,Yk8 b a]
  rw[e];by_cases h1:x<y;·rw[qP h1];simp[ltL,h1]
  rw[qN h1];by_cases h2:y<x;·rw[qP h2];simp[ltL];omega
  rw[qN h2,c];obtain rfl:x=y:=by omega
  simp[ltL]
theorem Xfp (w:World){P:Program}(b off cap:Nat)(l:List Nat)(h:∀j u,(idA l)[j]?=some u→w.cell? ⟨b,off+j,none⟩=some u):(Extern.Bytes.bytesOf (.slice (some ⟨b,off,none⟩) l.length cap)).run P w=.ok ⟨(Lib.bytesOf (l.map fun x=>((x:Nat):Int))).toArray⟩ w:=by
 have:=Lib.run_loadBytesX (P:=P) w (l.map fun x=>((x:Nat):Int)) ⟨b,off,none⟩ .empty (by
  intro j x a;have:=h j (.int .u8 x) (by unfold idA;rw[List.getElem?_toArray,List.getElem?_map];rw[List.getElem?_map] at a;cases hq:l[j]? with
   |none=>rw[hq] at a;cases a
   |some y=>rw[hq] at a;simp at a;subst a;rfl)
  rw[←this];unfold Addr.add;by_cases hj:j=0;·subst hj;rfl
  simp[hj])
 rw[List.length_map] at this;unfold Extern.Bytes.bytesOf;rw[this,show ByteArray.empty.data=#[] from rfl,Array.empty_append]
theorem Yim (w:World){P:Program}(b o c b' o' c':Nat)(l m:List Nat)(h:∀j u,(idA l)[j]?=some u→w.cell? ⟨b,o+j,none⟩=some u)(h':∀j u,(idA m)[j]?=some u→w.cell? ⟨b',o'+j,none⟩=some u):(Extern.BytealgCompare.compare #[.slice (some ⟨b,o,none⟩) l.length c,.slice (some ⟨b',o',none⟩) m.length c']).run P w=.ok (.int .i64 (Yb7 l m)) w:=by change Sem.run P (do pure (goInt (Extern.BytealgCompare.cmp (←Extern.Bytes.bytesOf (.slice (some ⟨b,o,none⟩) l.length c)) (←Extern.Bytes.bytesOf (.slice (some ⟨b',o',none⟩) m.length c'))))) w=_;simp only[Sem.run_bind,Sem.run_pure,Xfp w b o c l h,Xfp w b' o' c' m h',Result.andThen];rw[Lib.cmp_eq];rfl
theorem Xsw (w:World)(b o c b' o' c':Nat)(l m:List Nat)(h:∀j u,(idA l)[j]?=some u→w.cell? ⟨b,o+j,none⟩=some u)(h':∀j u,(idA m)[j]?=some u→w.cell? ⟨b',o'+j,none⟩=some u):Ry 270 #[.slice (some ⟨b,o,none⟩) l.length c,.slice (some ⟨b',o',none⟩) m.length c'] w (.int .i64 (Yb7 l m)):=by have R:=Hd (Yim (P:=prog) w b o c b' o' c' l m h h');obtain⟨z,a⟩:=xq (Yb7 l m);rw[←a] at R⊢;clear h h' a;go_enter func270,ntmps270;go_wp2_with fail;rw[run_callFunc_extern func280 (by kernel_rfl) (by kernel_rfl) (by kernel_rfl) (e:=Extern.BytealgCompare.compare) (by kernel_rfl),R.o];simp only[Result.andThen];rw[Oper.upon_value];go_wp2_with fail;go_ret;exact⟨rfl,rfl⟩
def Yky (w:World)(a:Option Addr)(ids:List (List Nat)):Prop:=
 ids≠[]→∃b off,a=some ⟨b,off,none⟩∧∀j (h:j<ids.length) k u,(idA ids[j])[k]?=some u→w.cell? ⟨b,off+j*16+k,none⟩=some u
theorem Yau:∀(l:List (List Nat)) (i:Nat) (h:i+1<l.length),ltL l[i] l[i+1]=false→Xmp l=false
 |a::b::t,0,h,hl=>by simp at hl;simp[Xmp,hl]
 |a::b::t,i+1,h,hl=>by have:=Yau (b::t) i (by simpa using h) (by simpa using hl);simp[Xmp,this]
 |[_],_,h,_=>by simp at h
 |[],_,h,_=>by simp at h
theorem Xr9:∀(l:List (List Nat)),(∀i (h:i+1<l.length),ltL l[i] l[i+1]=true)→Xmp l=true
 |a::b::t,h=>by have c:=h 0 (by simp);have:=Xr9 (b::t) (fun i hi=>by have:=h (i+1) (by simpa using hi);simpa using this);simp at c;simp[Xmp,c,this]
 |[_],_=>rfl
 |[],_=>rfl
theorem Yav (w:World)(a:Option Addr)(cap:Nat)(ids:List (List Nat))(hn:ids.length≤1000000)(hA:Yky w a ids)(hok:∀x∈ids,AuOk x):Rz 241 #[.slice a ids.length cap] w (.bool (Xmp ids)):=by
 obtain⟨n,g⟩:=xq ids.length;have I:=Hd g;rw[←g] at hn⊢;have H:=Hd hA;have f:=Hd hok;clear g hA hok;go_enter func241,ntmps241;go_wp2_with fail;go_loopg [3] n (fun k i wr=>∃j:Nat,(j+1≤n∨j=0)∧k=n-j∧i=.int .i64 ((j:Int)+1)∧Hid (∀q (h:q+1<ids.length),q<j→ltL ids[q] ids[q+1]=true)∧Hid (Dr w wr));exact⟨0,.inr rfl,rfl,rfl,Hd (fun q h hq=>by omega),Hd (Dr.refl w)⟩;obtain⟨j,M,rfl,rfl,E,d⟩:=hrel;by_cases hlt:j+1<n
 ·have l:j+1<ids.length:=by rw[←I.o];exact hlt
  obtain⟨b,off,rfl,c⟩:=H.o (fun e=>by rw[e] at l;simp at l);have F:=f.o _ (zG (show j<ids.length by omega));have G:=f.o _ (zG l);have A:Hid (∀q,Calls prog 270 #[.slice (some ⟨b,off+j*16,none⟩) 16 16,.slice (some ⟨b,off+(j+1)*16,none⟩) 16 16] (wr.drewN q) fun e w'=>e=.returned (.int .i64 (Yb7 ids[j] ids[j+1]))∧w'=wr.drewN q):=Hd (fun q=>by obtain⟨p,m⟩:=d.o;have:=Xsw (wr.drewN q) b (off+j*16) 16 b (off+(j+1)*16) 16 ids[j] ids[j+1] (fun k u hu=>by rw[m];exact c j (by omega) k u hu) (fun k u hu=>by rw[m];exact c (j+1) l k u hu);rw[F.len,G.len] at this;exact this);have s:=Hd (Yb6 ids[j] ids[j+1] F.lt G.lt);have v:=Hd (Yau ids j l);have t:Hid (ltL ids[j] ids[j+1]=true→∀q (h:q+1<ids.length),q<j+1→ltL ids[q] ids[q+1]=true):=Hd (fun ht q h hq=>by
   by_cases e:q=j;·subst e;exact ht
   exact E.o q h (by omega))
  obtain⟨z,K⟩:=xq (Yb7 ids[j] ids[j+1]);obtain⟨r,J⟩:=xq (ltL ids[j] ids[j+1]);rw[←K] at A s;rw[←J] at s v t;have w1:IntKind.i64.wrap ((j:Int)+1-1)=(j:Int):=by rw[show(j:Int)+1-1=(j:Int) by omega];exact IntWalk.i64_in _ (by omega)
  have Q:IntKind.i64.wrap ((j:Int)+1+1)=(j:Int)+1+1:=IntWalk.i64_in _ (by omega);have N:(0:Int)≤(j:Int)+1:=by omega
  have O:(j:Int)+1<(n:Int):=by omega
  have P:(j:Int)<(n:Int):=by omega
  clear K J c l F G H f E M;have y:=s.o;cases r;·have D:decide (0≤z)=true:=y;have B:=Hd (v.o rfl);clear v s y t;go_wp2_with fail;go_quiet (first|(go_at_call 270;exact Calls.quiet_of_same (A.o _)));go_wp2_with fail;go_ret;obtain⟨p,m⟩:=d.o;exact⟨by rw[B.o];rfl,p+nq,by rw[m,Xd0]⟩
  have D:decide (0≤z)=false:=y;have L:=Hd (t.o rfl);clear v s y t;go_wp2_with fail;go_quiet (first|(go_at_call 270;exact Calls.quiet_of_same (A.o _)));go_wp2_with fail;go_roundg (n-(j+1));exact⟨j+1,.inl hlt,rfl,by go_num,L,Hd (by obtain⟨p,m⟩:=d.o;exact⟨p+nq,by rw[m,Xd0]⟩)⟩;omega
 have C:=Hd (Xr9 ids (fun i h=>E.o i h (by rw[←I.o] at h;omega)));go_wp2_with fail;go_ret;exact⟨by rw[C.o];rfl,d.o⟩
def pkC (h:Int)(r:List Nat):Array Value:=(.int .i64 h::r.map U:List Value).toArray
theorem Xt9 {h:Int}{r:List Nat}(hr:r.length=16):(pkC h r).size=17:=by simp[pkC,hr]
theorem Yiw (h:Int)(r:List Nat):(pkC h r)[0]?=some (.int .i64 h):=rfl
theorem Xda:(prog.info? 37).map (·.size)=some 17:=by kernel_rfl
theorem Xn1 (w:World)(g off:Nat){h:Int}{r:List Nat}(hr:r.length=16)(hp:∀j u,(pkC h r)[j]?=some u→w.cell? ⟨g,off+j,none⟩=some u):Ld 37 ⟨g,off,none⟩ w (.agg (pkC h r)):=
 Xai w g off 37 (pkC h r) _ underlying37 rfl (by rw[Xt9 hr];exact Xda) hp
theorem Xex (w:World)(g:Nat)(t:TypeId)(cs:Array Value)(fr:Nat×Nat)(hg:w.heap[g]?=some (.cells cs t fr)):∀j u,cs[j]?=some u→w.cell? ⟨g,0+j,none⟩=some u:=fun j u hu=>by rw[Nat.zero_add,cell_of_row w g j _ _ _ hg];exact hu
theorem Xdw (w:World)(h:Int){r:List Nat}(hr:r.length=16):zJ 48 #[.agg (pkC h r)] w (.int .i64 (eIf (!Xau h) 2:Nat)):=by
 have H:=Hd (fun w=>Xmq w h);have c:=Yiw h r;obtain⟨cs,a⟩:=xq (pkC h r);obtain⟨m,b⟩:=xq (eIf (!Xau h) 2);rw[←a] at c⊢;rw[←b] at H⊢;clear a b hr;go_enter func48,ntmps48;go_wp2_with (go_at_call 93;refine(H.o _).mono ?_;rintro e w' ⟨rfl,rfl⟩)
 go_ret;exact⟨rfl,(zR _ _).alloc (zL _) _⟩
theorem Xws (w:World)(h:Int){r:List Nat}(hr:r.length=16):zJ 49 #[.agg (pkC h r)] w (.int .i64 (Xbi h)):=by
 have k:=Yiw h r;have g:=Hd (Xn1 (w.alloc (.cells (pkC h r) 37)) w.heap.size 0 (h:=h) hr (Xex _ _ _ _ _ (heap_alloc_last w _)));have P:=Hd (Xdw (w.alloc (.cells (pkC h r) 37)) h hr);obtain⟨cs,c⟩:=xq (pkC h r);have j:Hid (Bw w (w.alloc (.cells cs 37))):=Hd ((zR _ _).alloc (zL _) _);rw[←c] at k P g⊢;have f:Hid ((w.alloc (.cells cs 37)).heap[w.heap.size]?=some (.cells cs 37 (0,0))):=Hd (heap_alloc_last w _);clear c hr;by_cases hh:1≤h∧h≤8
 ·have b:Xau h=true:=by unfold Xau;rw[zT hh.1,zT hh.2];rfl
  have i:Hid (Xbi h=2^h.toNat):=Hd (by unfold Xbi;rw[qP b]);rw[b] at P;clear b;obtain⟨m,n⟩:=hh;rcases(by omega:h=1∨h=2∨h=3∨h=4∨h=5∨h=6∨h=7∨h=8) with rfl|rfl|rfl|rfl|rfl|rfl|rfl|rfl
  all_goals
   go_enter func49,ntmps49;go_upto_region 1 with fail;refine wp_region_list ?_;simp only[];refine Xab 37 rfl _ rfl ⟨_,_,rfl,g.o,?_⟩;go_wp2_with fail;refine P.o.mono ?_;rintro e w1 ⟨rfl,a⟩;have l:w1.cell? ⟨w.heap.size,0,none⟩=cs[0]?:=by rw[a.cell (p:=⟨w.heap.size,0,none⟩) (by simp),cell_of_row _ _ _ _ _ _ f.o]
   rw[k] at l;have d:=bh j a;clear a;go_wp2_with fail;go_ret;exact⟨by rw[i.o];rfl,d.o⟩
 have b:Xau h=false:=by unfold Xau;rw[Bool.eq_false_iff];intro e;simp at e;exact hh e
 have i:Hid (Xbi h=0):=Hd (by unfold Xbi;rw[qN (by rw[b];decide)]);rw[b] at P;clear b hh;go_enter func49,ntmps49;go_upto_region 1 with fail;refine wp_region_list ?_;simp only[];refine Xab 37 rfl _ rfl ⟨_,_,rfl,g.o,?_⟩;go_wp2_with fail;refine P.o.mono ?_;rintro e w1 ⟨rfl,a⟩;have d:=bh j a;clear a;go_wp2_with fail;go_ret;exact⟨by rw[i.o];rfl,d.o⟩
def Xe9 (s:Nat×Nat×List Nat)(t:Nat):Nat×Nat×List Nat:=if s.2.1+1=6 then(0,0,s.2.2++[al (2*s.1+t)]) else(2*s.1+t,s.2.1+1,s.2.2)
def Xc1 (s:Nat×Nat×List Nat)(g:Nat):Nat→Nat×Nat×List Nat
 |0=>s
 |j+1=>Xe9 (Xc1 s g j) (g/2^(7-j)%2)
theorem Xs4 (b c t:Nat)(xs ys:List Nat):Xe9 (b,c,xs++ys) t=((Xe9 (b,c,ys) t).1,(Xe9 (b,c,ys) t).2.1,xs++(Xe9 (b,c,ys) t).2.2):=by unfold Xe9;split<;>simp_all
theorem Xxu (b c g:Nat)(xs ys:List Nat)(j:Nat):Xc1 (b,c,xs++ys) g j=((Xc1 (b,c,ys) g j).1,(Xc1 (b,c,ys) g j).2.1,xs++(Xc1 (b,c,ys) g j).2.2):=by
 induction j with
 |zero=>rfl
 |succ j ih=>rw[Xc1,ih,Xs4];rfl
theorem Xqk (f:Nat→Nat)(tt:Nat)(xs:List Nat):∀(k b c:Nat) (ys:List Nat),Xb6 f tt k b c (xs++ys)=((Xb6 f tt k b c ys).1,(Xb6 f tt k b c ys).2.1,xs++(Xb6 f tt k b c ys).2.2):=by
 intro k
 induction k with
 |zero=>intro b c ys;rfl
 |succ k ih=>
  intro b c ys;by_cases h:c<tt;·simp[Xb6,h]
  rw[Xew _ _ _ _ _ _ h,Xew _ _ _ _ _ _ h,List.append_assoc,ih]
theorem Yo0:∀c:Fin 3,∀b:Fin 16,b.val<2^(2*c.val)→∀g:Fin 256,Xc1 (b.val,2*c.val,[]) g.val 8=Xbg (b.val,2*c.val,[]) g.val:=by decide+kernel
theorem Xxw {s:Nat×Nat×List Nat}{g:Nat}(hc:s.2.1<6)(hev:s.2.1%2=0)(hb:s.1<2^s.2.1)(hg:g<256):Xc1 s g 8=Xbg s g:=by
 obtain⟨b,c,xs⟩:=s;simp only at hc hev hb;have f:Xc1 (b,c,xs) g 8=Xc1 (b,c,xs++[]) g 8:=by simp
 have h:Xbg (b,c,xs) g=Xb6 al 6 16 (b*2^8+g) (c+8) (xs++[]):=by simp[Xbg]
 have a:b<16:=Nat.lt_of_lt_of_le hb (by have:2^c≤2^4:=Nat.pow_le_pow_right (by omega) (by omega);omega);have e:c=2*(c/2):=by omega
 have d:=Yo0 ⟨c/2,by omega⟩ ⟨b,a⟩ (by simp only;rw[←e];exact hb) ⟨g,hg⟩;simp only[←e] at d;rw[f,h,Xxu,Xqk,d];rfl
theorem Xxv {s:Nat×Nat×List Nat}{g:Nat}(hc:s.2.1<6)(hb:s.1<2^s.2.1)(j:Nat):(Xc1 s g j).2.1<6∧(Xc1 s g j).1<2^(Xc1 s g j).2.1∧(Xc1 s g j).2.2.length≤s.2.2.length+j:=by
 induction j with
 |zero=>exact⟨hc,hb,by simp[Xc1]⟩
 |succ j ih=>
  rw[Xc1];generalize Xc1 s g j=r at*;unfold Xe9;have a:g/2^(7-j)%2<2:=Nat.mod_lt _ (by omega);split;·simp;omega
  refine⟨by simp;omega,?_,by simp;omega⟩;simp only[Nat.pow_succ];omega
theorem Yft (l:List Nat)(hl:∀x∈l,x<256):(Xgm l).2.1%2=0:=by have:=(Xhn l hl).2.2;omega
theorem Xoa (l:List Nat)(hl:∀x∈l,x<256):(Xi8 l).length=(l.length+2)/3*4:=by
 have h:=Xhn l hl;unfold Xi8;rw[Yek];unfold Xbp;split;·simp only[List.length_append,List.length_singleton];omega
 omega
def sx:List Nat→List Nat
 |x::y::z::r=>[x/4,x%4*16+y/16,y%16*4+z/64,z%64]++sx r
 |[x,y]=>[x/4,x%4*16+y/16,y%16*4]
 |[x]=>[x/4,x%4*16]
 |[]=>[]
def dv:List Nat→Nat×List Nat
 |a::b::c::d::r=>((dv r).1,[a*4+b/16,b%16*16+c/4,c%4*64+d]++(dv r).2)
 |[a,b,c]=>(c%4,[a*4+b/16,b%16*16+c/4])
 |[a,b]=>(b%16,[a*4+b/16])
 |[a]=>(a,[])
 |[]=>(0,[])
theorem Yjw (xs:List Nat)(x:Nat):Xbg (0,0,xs) x=(x%4,2,xs++[al (x/4)]):=by simp[Xbg,Xb6]
theorem Ymp (xs:List Nat)(b y:Nat)(hy:y<256):Xbg (b,2,xs) y=(y%16,4,xs++[al (b*16+y/16)]):=by simp[Xbg,Xb6];refine⟨by omega,?_⟩;congr 1;omega
theorem Yoa (xs:List Nat)(b z:Nat)(hz:z<256):Xbg (b,4,xs) z=(0,0,xs++[al (b*4+z/64),al (z%64)]):=by
 simp[Xbg,Xb6];refine⟨by omega,?_,?_⟩;·congr 1;omega
 congr 1;omega
theorem Yfs (n:Nat):∀(l:List Nat),l.length≤n→(∀x∈l,x<256)→∀xs,Xbp (l.foldl Xbg (0,0,xs))=xs++(sx l).map al:=by
 induction n using Nat.strongRecOn with
 |_ n ih=>
  intro l b a xs
  match l,b,a with
  |[],_,_=>simp[Xbp,sx]
  |[x],_,_=>simp only[List.foldl_cons,List.foldl_nil,Yjw];simp[Xbp,sx]
  |[x,y],_,a=>simp only[List.foldl_cons,List.foldl_nil,Yjw,Ymp _ _ y (a y (by simp))];simp[Xbp,sx]
  |x::y::z::r,b,a=>simp only[List.foldl_cons,Yjw,Ymp _ _ y (a y (by simp)),Yoa _ _ z (a z (by simp))];rw[ih (n-1) (by simp at b;omega) r (by simp at b;omega) (fun w hw=>a w (by simp[hw]))];simp[sx]
theorem Xw9 (l:List Nat)(hb:∀x∈l,x<256):Xbp (Xgm l)=(sx l).map al:=by have:=Yfs l.length l (zL _) hb [];simpa [Xgm] using this
theorem Yf0 (xs:List Nat)(a:Nat):Xbb (0,0,xs) a=(a,6,xs):=by simp[Xbb,Xb6]
theorem Yjy (xs:List Nat)(a b:Nat)(hb:b<64):Xbb (a,6,xs) b=(b%16,4,xs++[a*4+b/16]):=by simp[Xbb,Xb6];refine⟨by omega,by omega⟩
theorem Ymr (xs:List Nat)(b c:Nat)(hc:c<64):Xbb (b,4,xs) c=(c%4,2,xs++[b*16+c/4]):=by simp[Xbb,Xb6];refine⟨by omega,by omega⟩
theorem Yoc (xs:List Nat)(c d:Nat):Xbb (c,2,xs) d=(0,0,xs++[c*64+d]):=by simp[Xbb,Xb6];omega
theorem Yfy (n:Nat):∀(l:List Nat),l.length≤n→(∀x∈l,x<64)→∀xs,(l.foldl Xbb (0,0,xs)).1=(dv l).1∧(l.foldl Xbb (0,0,xs)).2.2=xs++(dv l).2:=by
 induction n using Nat.strongRecOn with
 |_ n ih=>
  intro l f e xs
  match l,f,e with
  |[],_,_=>simp[dv]
  |[a],_,_=>simp[dv,Yf0]
  |[a,b],_,e=>simp only[List.foldl_cons,List.foldl_nil,Yf0,Yjy _ _ b (e b (by simp))];simp[dv]
  |[a,b,c],_,e=>simp only[List.foldl_cons,List.foldl_nil,Yf0,Yjy _ _ b (e b (by simp)),Ymr _ _ c (e c (by simp))];simp[dv]
  |a::b::c::d::r,f,e=>simp only[List.foldl_cons,Yf0,Yjy _ _ b (e b (by simp)),Ymr _ _ c (e c (by simp)),Yoc];have:=ih (n-1) (by simp at f;omega) r (by simp at f;omega) (fun w hw=>e w (by simp[hw])) (xs++[a*4+b/16]++[b%16*16+c/4]++[c%4*64+d]);rw[this.1,this.2];simp[dv]
theorem Yf1 (l:List Nat)(hb:∀x∈l,x<64):(Xei l).1=(dv l).1∧(Xei l).2.2=(dv l).2:=by have:=Yfy l.length l (zL _) hb [];simpa [Xei] using this
theorem Ydn (n:Nat):∀(l:List Nat),l.length≤n→(∀x∈l,x<256)→dv (sx l)=(0,l)∧(∀v∈sx l,v<64)∧(sx l).length%4≠1:=by
 induction n using Nat.strongRecOn with
 |_ n ih=>
  intro l b a
  match l,b,a with
  |[],_,_=>simp[sx,dv]
  |[x],_,a=>
   have c:=a x (by simp);refine⟨?_,?_,?_⟩;·simp[sx,dv];omega
   ·simp[sx];omega
   simp[sx]
  |[x,y],_,a=>
   have c:=a x (by simp);have d:=a y (by simp);refine⟨?_,?_,?_⟩;·simp[sx,dv];omega
   ·simp[sx];omega
   simp[sx]
  |x::y::z::r,b,a=>
   have c:=a x (by simp);have d:=a y (by simp);have e:=a z (by simp);have h:=ih (n-1) (by simp at b;omega) r (by simp at b;omega) (fun w hw=>a w (by simp[hw]));refine⟨?_,?_,?_⟩;·simp only[sx,List.cons_append,List.nil_append,dv,h.1];simp;omega
   ·intro v hv;simp only[sx,List.cons_append,List.nil_append,List.mem_cons] at hv;rcases hv with rfl|rfl|rfl|rfl|hv;·omega
    ·omega
    ·omega
    ·omega
    exact h.2.1 v hv
   simp[sx];omega
theorem Yfw (n:Nat):∀(vs:List Nat),vs.length≤n→(∀v∈vs,v<64)→vs.length%4≠1→(dv vs).1=0→sx (dv vs).2=vs∧(∀x∈(dv vs).2,x<256):=by
 induction n using Nat.strongRecOn with
 |_ n ih=>
  intro vs j e g f
  match vs,j,e,g,f with
  |[],_,_,_,_=>simp[dv,sx]
  |[a],_,_,g,_=>simp at g
  |[a,b],_,e,_,f=>
   have l:=e a (by simp);have i:=e b (by simp);simp[dv] at f;refine⟨?_,?_⟩;·simp[dv,sx];omega
   simp[dv];omega
  |[a,b,c],_,e,_,f=>
   have l:=e a (by simp);have i:=e b (by simp);have m:=e c (by simp);simp[dv] at f;refine⟨?_,?_⟩;·simp[dv,sx];omega
   simp[dv];omega
  |a::b::c::d::r,j,e,g,f=>
   have l:=e a (by simp);have i:=e b (by simp);have m:=e c (by simp);have o:=e d (by simp);have h:=ih (n-1) (by simp at j;omega) r (by simp at j;omega) (fun w hw=>e w (by simp[hw])) (by simp at g;omega) (by simpa [dv] using f);refine⟨?_,?_⟩;·simp only[dv,List.cons_append,List.nil_append,sx,h.1];simp;omega
   intro x k;simp only[dv,List.cons_append,List.nil_append,List.mem_cons] at k;rcases k with rfl|rfl|rfl|k;·omega
   ·omega
   ·omega
   exact h.2 x k
theorem Ydc {l vs:List Nat}(h:Xjb l=some vs):l=vs.map al:=by
 induction l generalizing vs with
 |nil=>simp[Xjb] at h;subst h;rfl
 |cons c l ih=>simp only[Xjb,List.mapM_cons,Option.bind_eq_bind,Option.bind_eq_some_iff,Option.pure_def,Option.some.injEq] at h;obtain⟨v,hv,r,a,rfl⟩:=h;rw[List.map_cons,Yk6 hv,←ih a]
theorem Ybp (l:List Nat)(hb:∀x∈l,x<256):Xi8 l=Xq4 ((sx l).map al):=by rw[Xi8,Xw9 l hb]
theorem Xn9 (l:List Nat)(h:(Xcu l).2.2=0):Xi8 (Xcu l).1=l∧(∀x∈(Xcu l).1,x<256):=by
 have g:l.length≤174764:=by
  rcases Nat.lt_or_ge 174764 l.length with n|n;·unfold Xcu at h;rw[qP n] at h;simp at h
  exact n
 cases hv:Xjb (l.take (Xbq l)) with
 |none=>unfold Xcu at h;rw[qN (by omega),hv] at h;simp at h
 |some vs=>
  have d:=Xk7 hv g;by_cases h4:l.length%4=0
  ·rw[qN (by omega)] at d;by_cases hb:(Xei vs).1=0
   ·rw[qN (by omega)] at d;have hvl:=Xq8 hv;have i:=Yf1 vs hvl.1;have p:=Ydc hv;have r:vs.length=Xbq l:=by rw[hvl.2,List.length_take,Nat.min_eq_left (Xjo l)]
    have c:Xq4 (vs.map al)=l∧vs.length%4≠1:=by
     have k:=Xjo l;rw[←p];have o:l=l.take (Xbq l)++l.drop (Xbq l):=(List.take_append_drop _ _).symm;have j:(l.take (Xbq l)).length=Xbq l:=by rw[List.length_take,Nat.min_eq_left k]
     unfold Xq4;rw[j];have key:l.drop (Xbq l)=List.replicate ((4-Xbq l%4)%4) 61∧Xbq l%4≠1:=by
      unfold Xbq;split;·rename_i hc;refine⟨?_,by omega⟩;rw[List.drop_of_length_le (zL _),h4];rfl
      rename_i hc;have q:l.length≠0:=fun e=>hc (.inl e);have b:l.getD (l.length-1) 0=61:=by
       rcases Nat.decEq (l.getD (l.length-1) 0) 61 with e|e;·exact absurd (.inr (.inr e)) hc
       exact e
      have a:l[l.length-1]'(by omega)=61:=by rw[List.getD_eq_getElem?_getD,List.getElem?_eq_getElem (by omega)] at b;simpa using b
      split
      ·rename_i h2;have f:l[l.length-2]'(by omega)=61:=by rw[List.getD_eq_getElem?_getD,List.getElem?_eq_getElem (by omega)] at h2;simpa using h2
       refine⟨?_,by omega⟩;rw[show(4-(l.length-2)%4)%4=2 by omega];rw[List.drop_eq_getElem_cons (by omega),f,show l.length-2+1=l.length-1 by omega,List.drop_eq_getElem_cons (by omega),a,List.drop_of_length_le (by omega)];rfl
      refine⟨?_,by omega⟩;rw[show(4-(l.length-1)%4)%4=1 by omega];rw[List.drop_eq_getElem_cons (by omega),a,List.drop_of_length_le (by omega)];rfl
     rw[←key.1,←o];exact⟨rfl,by rw[r];exact key.2⟩
    have m:=Yfw vs.length vs (zL _) hvl.1 c.2 (by rw[←i.1];exact hb);rw[d];simp only[i.2];exact⟨by rw[Ybp _ m.2,m.1,c.1],m.2⟩
   rw[qP hb] at d;rw[d] at h;simp at h
  rw[qP h4] at d;rw[d] at h;simp at h
theorem Ybr (l:List Nat):∀x∈Xi8 l,x<256:=by
 intro x f;unfold Xi8 Xq4 at f;rcases List.mem_append.1 f with h|h
 ·have key:∀(s:Nat×Nat×List Nat),(∀y∈s.2.2,y<256)→∀y∈Xbp s,y<256:=by
   intro s e y a;unfold Xbp at a;split at a
   ·rcases List.mem_append.1 a with h|h;·exact e y h
    simp at h;subst h;have:=Ygp (s.1*2^(6-s.2.1));omega
   exact e y a
  refine key _ ?_ x h;have i:∀(k b c:Nat) (ys:List Nat),(∀y∈ys,y<256)→∀y∈(Xb6 al 6 k b c ys).2.2,y<256:=by
   intro k
   induction k with
   |zero=>intro b c ys h;exact h
   |succ k ih=>
    intro b c ys h;rw[Xb6];split;·exact h
    refine ih _ _ _ ?_;intro y a;rcases List.mem_append.1 a with d|d;·exact h y d
    simp at d;subst d;have:=Ygp (b/2^(c-6));omega
  have j:∀(r:List Nat) (s:Nat×Nat×List Nat),(∀y∈s.2.2,y<256)→∀y∈(r.foldl Xbg s).2.2,y<256:=by
   intro r
   induction r with
   |nil=>intro s h;exact h
   |cons g r ih=>intro s h;exact ih _ (i _ _ _ _ h)
  exact j l (0,0,[]) (by simp)
 have:=(List.mem_replicate.1 h).2;omega
end Go.Proofs.YtjolcnopipbkhaaGreatDoor
/- The library's decimal numerals at this seat (laid by the shelf's tools): Itoa. -/
namespace Go.Proofs.YtjolcnopipbkhaaGreatDoor
open Go.Proofs.Tryz
open Go.Shelf Go.RowKit Go.Sort
set_option linter.unusedVariables false
set_option maxRecDepth 100000
set_option maxHeartbeats 100000000
def Xkm:Go.Shelf.Ren:=⟨fun|171=>81|243=>130|246=>181|283=>232|284=>233|285=>234|286=>235|129=>264|317=>263|318=>265|319=>266|320=>267|337=>278|338=>279|n=>n,fun|3=>3|9=>9|2=>2|4=>4|171=>286|0=>0|53=>158|37=>82|5=>5|173=>289|212=>310|51=>163|20=>20|213=>311|46=>128|232=>25|233=>184|n=>n,fun|17=>4|18=>5|19=>6|n=>n⟩
theorem Xr6:Go.Proofs.LaysM.n171 prog Xkm:={
 mixed:=by kernel_rfl
 f129:=func264.trans (congrArg some (by kernel_rfl))
 f171:=func81.trans (congrArg some (by kernel_rfl))
 f243:=func130.trans (congrArg some (by kernel_rfl))
 f246:=func181.trans (congrArg some (by kernel_rfl))
 f283:=func232.trans (congrArg some (by kernel_rfl))
 f284:=func233.trans (congrArg some (by kernel_rfl))
 f285:=func234.trans (congrArg some (by kernel_rfl))
 f286:=func235.trans (congrArg some (by kernel_rfl))
 f317:=func263.trans (congrArg some (by kernel_rfl))
 f318:=func265.trans (congrArg some (by kernel_rfl))
 f319:=func266.trans (congrArg some (by kernel_rfl))
 f320:=func267.trans (congrArg some (by kernel_rfl))
 f337:=func278.trans (congrArg some (by kernel_rfl))
 f338:=func279.trans (congrArg some (by kernel_rfl))
 t0:=underlying0
 a0:=Tryz.isAgg0
 z0:=Tryz.sizeOf0
 v0:=Tryz.zeroValue0
 t2:=underlying2
 a2:=Tryz.isAgg2
 z2:=Tryz.sizeOf2
 v2:=Tryz.zeroValue2
 t3:=underlying3
 a3:=Tryz.isAgg3
 z3:=Tryz.sizeOf3
 v3:=Tryz.zeroValue3
 t4:=underlying4
 a4:=Tryz.isAgg4
 z4:=Tryz.sizeOf4
 v4:=Tryz.zeroValue4
 t5:=underlying5
 a5:=Tryz.isAgg5
 z5:=Tryz.sizeOf5
 v5:=Tryz.zeroValue5
 t9:=underlying9
 a9:=Tryz.isAgg9
 z9:=Tryz.sizeOf9
 v9:=Tryz.zeroValue9
 t20:=underlying20
 a20:=Tryz.isAgg20
 z20:=Tryz.sizeOf20
 v20:=Tryz.zeroValue20
 t37:=underlying82
 a37:=Tryz.isAgg82
 z37:=Tryz.sizeOf82
 v37:=Tryz.zeroValue82
 t46:=underlying128
 a46:=Tryz.isAgg128
 z46:=Tryz.sizeOf128
 v46:=Tryz.zeroValue128
 t51:=underlying163
 a51:=Tryz.isAgg163
 z51:=Tryz.sizeOf163
 v51:=Tryz.zeroValue163
 t53:=underlying158
 a53:=Tryz.isAgg158
 z53:=Tryz.sizeOf158
 v53:=Tryz.zeroValue158
 t171:=underlying286
 a171:=Tryz.isAgg286
 z171:=Tryz.sizeOf286
 v171:=Tryz.zeroValue286
 t173:=underlying289
 a173:=Tryz.isAgg289
 z173:=Tryz.sizeOf289
 v173:=Tryz.zeroValue289
 t212:=underlying310
 a212:=Tryz.isAgg310
 z212:=Tryz.sizeOf310
 v212:=Tryz.zeroValue310
 t213:=underlying311
 a213:=Tryz.isAgg311
 z213:=Tryz.sizeOf311
 t232:=underlying25
 a232:=Tryz.isAgg25
 z232:=Tryz.sizeOf25
 v232:=Tryz.zeroValue25
 t233:=underlying184
 a233:=Tryz.isAgg184
 z233:=Tryz.sizeOf184
 v233:=Tryz.zeroValue184
 g17:=by kernel_rfl
 g18:=by kernel_rfl
 g19:=by kernel_rfl
 i0:=by kernel_rfl
 i2:=by kernel_rfl
 i3:=by kernel_rfl
 i4:=by kernel_rfl
 i5:=by kernel_rfl
 i9:=by kernel_rfl
 i20:=by kernel_rfl
 i37:=by kernel_rfl
 i46:=by kernel_rfl
 i51:=by kernel_rfl
 i53:=by kernel_rfl
 i171:=by kernel_rfl
 i173:=by kernel_rfl
 i212:=by kernel_rfl
 i232:=by kernel_rfl
 i233:=by kernel_rfl
 m17:=by kernel_rfl
 m18:=by kernel_rfl
 m19:=by kernel_rfl}
theorem Xkl (n : Int)(h0 : -9223372036854775808 ≤ n)(h1 : n ≤ 9223372036854775807)(w : World)(htab : Lib.TabIs prog w "internal/strconv.uint64pow10" .u64 Lib.pow10Tab) :
    Calls prog 81 #[.int .i64 n] w fun e w'=>e=.returned (.string ⟨(Lib.itoa n).toArray⟩)∧∃k os,w'=grow (w.drewN k) os:=Any.strconv_Itoa Xr6 n h0 h1 w htab
end Go.Proofs.YtjolcnopipbkhaaGreatDoor
/- Walk of base64.Decode. -/
namespace Go.Proofs.YtjolcnopipbkhaaGreatDoor
open Go.Proofs.Tryz
open Go.RowKit Go.Maps
set_option linter.unusedVariables false
set_option maxHeartbeats 100000000
set_option maxRecDepth 100000
theorem Yej (w0:World)(B:Nat)(hs:B≤w0.heap.size):Xvi w0 B 249 (2^8) id:=by intro w v xs g c b a d e;exact Yoz w (B+1) g B v xs b a (Nat.le_trans hs c.size) (by omega) d (by omega)
def Xor (w:World)(r:List Nat×Nat×Nat)(e:Ending)(w':World):Prop:=
 ∃v,e=.returned (.tuple #[v,.int .i64 (r.2.1:Int),.int .i64 (r.2.2:Int)])∧w'.ownsRow w.heap.size 5 1 v r.1.length (r.1.map U)∧Bw w w'
theorem Xtq:Ydt 131072=174764:=by decide
theorem Xso (s:ByteArray)(w:World)(hs:s.size≤maxLen)(hl:174764<s.size):Calls prog 209 #[.string s] w (Xor w (Xcu (bs s))):=by
 unfold maxLen at hs;have a:Xcu (bs s)=([],0,5):=by unfold Xcu;rw[qP (by rw[Xac];exact hl)]
 rw[a];have b:=Xtq;clear a;go_enter func209,ntmps209;go_wp2_with (go_at_call 247;refine(Xtu _ _ (by omega) (by omega)).mono ?_;rintro e w' ⟨rfl,rfl⟩;rw[b])
 go_ret3;exact⟨_,rfl,World.ownsRow_nil _ _ _ _,zR _ _⟩
theorem Xqn (s:ByteArray)(w:World)(hl:s.size≤174764)(ht:Tab w):Calls prog 209 #[.string s] w (Xor w (Xcu (bs s))):=by
 obtain⟨i0,aA,aD,aE,aF⟩:=info_parts Xgl;have hm:=Xtq;obtain⟨n,P⟩:=xq (Xbq (bs s));have aJ:n≤s.size:=by rw[P,←Xac];exact Xjo _
 have D1:Hid (∀w,Rx 248 #[.string s] w (.int .i64 (n:Int))):=fun w=>by rw[P];exact Yf2 s w (by unfold maxLen;omega)
 have X:i0.bytes*(n*6/8)≤281474976710656:=by rw[aF];omega
 have R0:=fun(cs:Array Value) (h:cs.size=(n*6/8)*1)=>Xt5 w cs (n*6/8) 6 8 249 (by unfold maxLen;omega) h;have P0:=Hd (Yej w w.heap.size (zL _));have TB:=Hd ht;have R:=Hd P;have RR:=Hd R0;have HM:=Hd hm;clear ht P R0 hm;go_enter func209,ntmps209;go_wp2_with (first|(go_at_call 247;refine(Xtu _ _ (by omega) (by omega)).mono ?_;rintro e w' ⟨rfl,rfl⟩;rw[HM.o])|(go_at_call 248;refine(D1.o _).mono ?_;rintro e w' ⟨rfl,rfl⟩)|(at_make;refine Xcc _ rfl _ _ _ rfl 5 i0 _ 1 underlying82 aA aD aE .i64 .i64 _ _ 0 (n*6/8) rfl rfl rfl (by omega) (by omega) X (by unfold maxLen;omega) ?_;intro cs J;have CS:=Hd J;clear J)|(go_at_call 230;refine(Xka _ 6 8 _ _ w.heap.size (by simp)).mono ?_;rintro e w1 ⟨rfl,rfl⟩))
 have r7:=RR.o cs CS.o;have N:=Xld w (.cells cs 5) (.cells #[.slice (some ⟨w.heap.size,0,none⟩) 0 (n*6/8)] 82) (.cells #[.int .i64 ((6:Nat):Int)] 3) (.cells #[.int .i64 ((8:Nat):Int)] 3) (.cells #[.func (.func 249) #[] #[.pointer (some ⟨w.heap.size+1,0,none⟩)]] 183) (.cells #[.int .i64 0] 3) (.cells #[.int .i64 0] 3);refine(Xvn _ (TB.o.below N TB.o.size)).mono ?_;generalize ((((((((w.alloc (.cells cs 5)).alloc (.cells #[.slice (some ⟨w.heap.size,0,none⟩) 0 (n*6/8)] 82)).alloc (.cells #[.int .i64 ((6:Nat):Int)] 3)).alloc (.cells #[.int .i64 ((8:Nat):Int)] 3)).alloc (.cells #[.func (.func 249) #[] #[.pointer (some ⟨w.heap.size+1,0,none⟩)]] 183)).alloc (.cells #[.int .i64 0] 3)).alloc (.cells #[.int .i64 0] 3)))=W7 at*;obtain⟨M,V⟩:=xq W7.heap.size;rw[←V];rintro e w1 ⟨rfl,a,f⟩;have r8:=r7.below (by subst V;exact f);have b8:Bw w w1:=N.trans (f.mono (by have:=N.size;omega));have R8:=Hd r8;have B8:=Hd b8;have M8:=Hd a;clear r7 N V a f r8 b8;go_wp2_with fail;go_loopg [32] n (fun k i wr=>∃j b c xs vs,j≤n∧k=n-j∧i=.int .i64 (j:Int)∧Xjb ((bs s).take j)=some vs∧Xei vs=(b,c,xs)∧RG w.heap.size 6 8 249 b c xs wr∧Bw w wr∧wr.ownsMap prog 5 (plainElem (H:=Unit) prog 3) M 64 (Yc3 64));exact⟨0,0,0,[],[],by omega,by omega,rfl,Xtg,rfl,R8.o,B8.o,M8.o⟩;obtain⟨j,b,c,xs,vs,hj,rfl,rfl,r,q,p,t,a⟩:=hrel;have hvl:=Xq8 r;have B:=Xk6 vs hvl.1;rw[q] at B;obtain⟨v1,v2⟩:=hvl;obtain⟨i1,I,i3⟩:=B;simp only[List.length_take] at v2;simp only at i1 I i3;have hxl:xs.length≤900000:=by omega
 clear R8 B8 M8 W7;by_cases hlt:j<n
 ·have y:j<(bs s).length:=by rw[Xac];omega
  obtain⟨g,u⟩:=xq ((bs s)[j]);have G:g<256:=by rw[u];exact Xhs s _ (zG y)
  have hx:∀w,(Instr.index 9 (.string s) (.int .i64 (j:Int))).run prog w=.ok (.int .u8 (g:Int)) w:=fun w=>by rw[Xbj 9 underlying9 s .i64 (j:Int) j rfl (by omega),u,List.getD_eq_getElem?_getD,List.getElem?_eq_getElem y,Option.getD_some]
  have C:keyOf prog 5 (.int .u8 (g:Int))=some (.int .u8 (g:Int)):=keyOf_int_mk underlying5 (WalkArith.wf_u8 (by omega));have d:=Ydg g G;have z:=Yh6 g G;have VS:=Hd r;have ST:=Hd q;have T:=Hd p;have E:=Hd t;have S:=Hd a;have F:=Hd u;have I2:=Hd I;have AT:=Hd z;have V1:=Hd v1;clear r q p t a u I z v1
  cases hv:vOf g with
  |none=>
   rw[hv] at d;simp only[Option.isSome_none] at d;have L:=Hd hv;clear hv;go_wp2_with (at_lookup;refine wpList_lookup_own_ok_int _ rfl _ _ 299 rfl 5 3 .i64 Ynt underlying299 underlying3 (Yk2 _) M 64 _ rfl S.o _ _ rfl C ?_;intro c' D K)
   go_ret3;have O:=Xu7 VS.o (by rw[←R.o];exact hlt) y (by rw[←F.o];exact L.o) (by rw[Xac];omega);rw[O];exact⟨_,rfl,World.ownsRow_nil _ _ _ _,E.o⟩
  |some v=>
   have aH:=Xyb hv;rw[hv] at d;simp only[Option.isSome_some] at d;have C1:=Hd (Yo2 w wr w.heap.size 6 8 b c v id xs T.o E.o P0.o (by omega) (by omega) (by omega) i1 I2.o (by omega) hxl);have L:=Hd hv;clear hv;have A:∀x,(Yc3 64).atKey (.int .u8 (g:Int)) (.lit (.int .i64 0))=.lit (.int .i64 x)→x=(v:Int):=fun x hx=>by have:=AT.o x hx;rw[L.o] at this;simpa using this
   have Q:=Hd A;clear A;go_wp2_with (first|(at_lookup;refine wpList_lookup_own_ok_int _ rfl _ _ 299 rfl 5 3 .i64 Ynt underlying299 underlying3 (Yk2 _) M 64 _ rfl S.o _ _ rfl C ?_;intro c' D K;obtain rfl:=Q.o c' D;clear D K)|(go_at_call 261;refine C1.o.mono ?_;rintro e w1 ⟨rfl,f,aB,b1,c1,ys,O,aC⟩;have HD:=Hd O;clear O))
   go_roundg (n-(j+1))
   ·refine⟨j+1,b1,c1,ys,vs++[v],by omega,rfl,by go_num,?_,?_,aC,f,aB.owns S.o⟩;·rw[List.take_succ_eq_append_getElem y];exact Xoy VS.o (by rw[←F.o];exact L.o)
    rw[Xmt,ST.o];exact HD.o
   omega
 obtain rfl:j=n:=by omega
 have G:=Xk7 (l:=bs s) (by rw[←R.o];exact r) (by rw[Xac];exact hl);rw[q,Xac,←R.o] at G;obtain⟨v,hv,m⟩:=p.txt;have hc:=cell_of_one hv;have L1:=Hd (Xum wr w.heap.size 6 8 249 b c xs p);have F:=Hd G;have E:=Hd t;have OW:=Hd m;obtain⟨a',aG,rfl⟩:=Xer m;have Y:Hid (j=0→b=0):=fun h=>by
  have Z:c=0:=by omega
  rw[Z] at I;simpa using I
 clear G t m p q r hv a I;by_cases h4:s.size%4=0
 ·have U:((s.size:Int)%4 !=0)=false:=Xaw (by omega);by_cases hb0:b=0
  ·have W:((b:Int) !=0)=false:=Xaw (by omega);go_wp2_with (go_at_call 262;refine L1.o.mono ?_;rintro e w1 ⟨rfl,nq,rfl⟩)
   go_ret3;rw[F.o,qN (by omega),qN (by simpa using hb0)];exact⟨_,rfl,OW.o,below_drewN E.o nq⟩
  have W:((b:Int) !=0)=true:=Xaq (by omega);have aI:1≤j:=Nat.pos_of_ne_zero fun h=>hb0 (Y.o h);go_wp2_with (go_at_call 262;refine L1.o.mono ?_;rintro e w1 ⟨rfl,nq,rfl⟩)
  go_ret3;rw[F.o,qN (by omega),qP (by simpa using hb0)];exact⟨_,by simp;omega,World.ownsRow_nil _ _ _ _,below_drewN E.o nq⟩
 have U:((s.size:Int)%4 !=0)=true:=Xaq (by omega);go_wp2_with fail;go_ret3;rw[F.o,qP h4];exact⟨_,rfl,World.ownsRow_nil _ _ _ _,E.o⟩
theorem Xsm (w:World)(a:Option Addr)(cap:Nat)(l:List Nat)(hl:l.length≤131072)(hrd:Rd w a l)(ht:Tab w):zJ 128 #[.slice a l.length cap] w (.tuple #[.string (Xax (Xi8 l)),.int .i64 0]):=by
 have c:=Hd (Xw8 w a cap l (by omega) hrd ht);obtain⟨n,d⟩:=xq l.length;rw[←d] at c hl⊢;clear hrd ht d;go_enter func128,ntmps128;go_wp2_with (go_at_call 180;refine c.o.mono ?_;rintro e w1 ⟨rfl,b⟩)
 go_ret2;exact⟨rfl,b⟩
theorem Xxx (w:World)(k:Nat)(os:Array Obj):Bw w (Go.Sort.grow (w.drewN k) os):=
 ⟨rfl,rfl,rfl,by simp[Go.Sort.grow,World.drewN],fun b hb=>by simp[Go.Sort.grow,World.drewN,Array.getElem?_append,hb]⟩
def Yc1 (n:Int)(w:World)(e:Ending)(w':World):Prop:=∃t:ByteArray,e=.returned (.string t)∧bs t=Xfh n∧t.size≤21∧Bw w w'
theorem Xob:∀(k u:Nat),(Xiw k u).length≤k+1
 |0,_=>by simp[Xiw]
 |k+1,u=>by
  unfold Xiw;split;·simp
  have:=Xob k (u/10);simp;omega
theorem Xk5 (n:Int)(h0:-9223372036854775808≤n)(h1:n≤9223372036854775807)(w:World)(hE:Env w):Calls prog 38 #[.int .i64 n] w (Yc1 n w):=by
 obtain⟨t,c⟩:∃t:ByteArray,t=⟨(Lib.itoa n).toArray⟩:=⟨_,rfl⟩
 have I:Hid (zJ 81 #[.int .i64 n] w (.string t)):=Hd ((Xkl n h0 h1 w hE.pow).mono fun e w' ⟨a,k,os,b⟩=>⟨by rw[c];exact a,by rw[b];exact Xxx w k os⟩);have B:Hid (bs t=Xfh n):=Hd (by rw[c,Xi9];exact Yas n h0 h1);have S:Hid (t.size≤21):=Hd (by have d:=c;have:=Lib.itoa_length_le n h0 h1;rw[c];simpa [ByteArray.size] using this);clear c h0 h1 hE;go_enter func38,ntmps38;go_wp2_with fail;refine I.o.mono ?_;rintro e w1 ⟨rfl,d⟩;have f:=Hd d;clear d I;go_wp2_with fail;go_ret;exact⟨t,rfl,B.o,S.o,f.o⟩
theorem Xrs (w:World)(h:Nat)(h1:1≤h)(h8:h≤8){r:List Nat}(hr:B16 r):Calls prog 129 #[.agg (pkC h r)] w fun e w'=>∃b cap,e=.returned (.slice (some ⟨b,0,none⟩) 17 cap)∧Rd w' (some ⟨b,0,none⟩) (h::r)∧Bw w w':=by
 obtain⟨J,z,B,C,D⟩:=info_parts Xgl;have I:=Yiw h r;obtain⟨cs,d⟩:=xq (pkC h r);rw[←d] at I⊢;have K:IntKind.u8.wrap (h:Int)=(h:Int):=by rw[IntKind.wrap_u8];omega
 have H:Hid (∀w':World,w'.heap[w.heap.size]?=some (.cells cs 37 (0,0))→∀k u,(r.map U)[k]?=some u→w'.cell? ⟨w.heap.size,1+k,none⟩=some u):=Hd (fun w' hw k u hu=>by rw[cell_of_row _ _ _ _ _ _ hw,d];unfold pkC;rw[Nat.add_comm];simpa using hu);have s:=Hd hr;clear d hr;go_enter func129,ntmps129;go_wp2_with fail;have g:Hid ((((w.alloc (.cells cs 37)).drew).alloc (.cells #[.int .u8 (h:Int)] 5)).ownsRow w.heap.size 5 1 (.slice (some ⟨w.heap.size+1,0,none⟩) 1 1) 1 [.int .u8 (h:Int)]):=Hd
  ⟨rfl,.inr ⟨w.heap.size+1,1,#[.int .u8 (h:Int)],rfl,by omega,by have:=zN ((w.alloc (.cells cs 37)).drew) (.cells #[.int .u8 (h:Int)] 5);simpa using this,zL _,by unfold maxLen;omega,rfl,rfl⟩⟩
 have f:Hid (∀j u,(r.map U)[j]?=some u→(((w.alloc (.cells cs 37)).drew).alloc (.cells #[.int .u8 (h:Int)] 5)).cell? ((⟨w.heap.size,1,none⟩:Addr).add j)=some u):=Hd (fun j u hu=>by
  have m:(⟨w.heap.size,1,none⟩:Addr).add j=⟨w.heap.size,1+j,none⟩:=by unfold Addr.add;split<;>simp_all
  rw[m];exact H.o _ (Xad (zN w _)) j u hu)
 have t:Hid (∀u∈r.map U,u.oneCell'=true):=Hd (fun u hu=>by obtain⟨n,_,rfl⟩:=List.mem_map.1 hu;rfl);have q:Hid (Bw w (((w.alloc (.cells cs 37)).drew).alloc (.cells #[.int .u8 (h:Int)] 5))):=Hd ((((zR _ w).alloc (zL _) _).drew).alloc (by simp) _);go_region_law ((refine step_append_lies _ (by rfl) _ _ _ (by rfl) w.heap.size 5 J _ 1 1 underlying82 z B C D rfl (by omega) (.slice (some ⟨w.heap.size+1,0,none⟩) 1 1) 1 [.int .u8 (h:Int)] (by rfl) g.o ⟨w.heap.size,1,none⟩ 16 16 (r.map U) (by rfl) (by rw[List.length_map,s.o.len]) f.o t.o (by omega) (by unfold maxLen;omega) (by omega) (by simp;omega) (w.heap.size+2) (by simp) ?_;intro v l w1 c a y p))
 all_goals
  have E:=Hd c;have G:Hid (Bw w w1):=Hd (Below.grown q.o a (by simp;omega) (fun k hk=>(g.o.lt k hk).1));clear c a y p;go_wp2_with fail;go_ret;refine⟨v,l,rfl,⟨fun x A=>?_,fun _=>⟨v,0,rfl,?_,fun i hi=>?_⟩⟩,G.o⟩
  ·rcases List.mem_cons.1 A with rfl|A;·omega
   exact s.o.lt x A
  ·exact(E.o.lt v rfl).2
  have F:i<17:=by simpa [s.o.len] using hi
  rw[Nat.zero_add,E.o.cellAt i (by omega)];have:((.int .u8 (h:Int)::r.map U:List Value))[i]?=some (U (h::r)[i]):=by have e:(.int .u8 (h:Int)::r.map U:List Value)=(h::r).map U:=rfl;rw[e,List.getElem?_map,List.getElem?_eq_getElem hi];rfl
  exact this
def Yna (h:Int)(r:List Nat)(w:World)(e:Ending)(w':World):Prop:=
 ∃t:ByteArray,e=.returned (.tuple #[.string t,.int .i64 (eIf (!Xau h) 2:Nat)])∧(Xau h=true→bs t=Xi8 ((h%256).toNat::r))∧t.size≤1000∧Bw w w'
theorem Xzr (w:World)(h:Int){r:List Nat}(hr:B16 r)(hE:Env w):Calls prog 80 #[.agg (pkC h r)] w (Yna h r w):=by
 have i:Hid (∀w',Below (w.alloc (.cells (pkC h r) 37)).heap.size (w.alloc (.cells (pkC h r) 37)) w'→Ld 37 ⟨w.heap.size,0,none⟩ w' (.agg (pkC h r))):=Hd (fun w' g=>
  Xn1 w' w.heap.size 0 (h:=h) hr.len (Xex _ _ _ _ _ ((g.block w.heap.size (by simp)).trans (heap_alloc_last w _))))
 have P:=Hd (Xdw (w.alloc (.cells (pkC h r) 37)) h hr.len);have c:=Hd (i.o _ (zR _ _));have n:Hid (Bw w (w.alloc (.cells (pkC h r) 37))):=Hd ((zR _ _).alloc (zL _) _);have D:=Hd hE;obtain⟨b,g⟩:=xq (Xau h);rw[←g] at P;have t:=Hd g;cases b
 ·obtain⟨cs,d⟩:=xq (pkC h r);rw[←d] at P c n⊢;clear d hr hE i g;go_enter func80,ntmps80;go_upto_region 1 with fail;refine wp_region_list ?_;simp only[];refine Xab 37 rfl _ rfl ⟨_,_,rfl,c.o,?_⟩;go_wp2_with fail;refine P.o.mono ?_;rintro e w1 ⟨rfl,a⟩;have p:=bh n a;have q:(((eIf (!false) 2:Nat):Int) !=0)=true:=by decide
  clear a;go_wp2_with fail;go_ret2;exact⟨⟨#[]⟩,by rw[←t.o];rfl,(fun h=>by rw[←t.o] at h;cases h),by decide,p.o⟩
 have E:1≤h∧h≤8:=by unfold Xau at g;have:=g.symm;simpa using this
 obtain⟨k,rfl⟩:∃k:Nat,h=(k:Int):=⟨h.toNat,by omega⟩
 have s:Hid (∀w',Calls prog 129 #[.agg (pkC k r)] w' fun e w''=>∃b cap,e=.returned (.slice (some ⟨b,0,none⟩) 17 cap)∧Rd w'' (some ⟨b,0,none⟩) (k::r)∧Below w'.heap.size w' w''):=Hd (fun w'=>Xrs w' k (by omega) (by omega) hr);have z:Hid (∀(w':World) (b cap:Nat),Rd w' (some ⟨b,0,none⟩) (k::r)→Tab w'→Calls prog 128 #[.slice (some ⟨b,0,none⟩) 17 cap] w' fun e w''=>e=.returned (.tuple #[.string (Xax (Xi8 (k::r))),.int .i64 0])∧Below w'.heap.size w' w''):=Hd (fun w' b cap f ht=>by have:=Xsm w' (some ⟨b,0,none⟩) cap (k::r) (by simp[hr.len]) f ht;simpa [hr.len] using this);have KM:Hid (((k:Int)%256).toNat=k):=Hd (by omega);have B:Hid (bs (Xax (Xi8 (k::r)))=Xi8 (k::r)):=Hd (Xd2 _ (Ybr _));have C:Hid ((Xax (Xi8 (k::r))).size≤1000):=Hd (by
  rw[Xat];rw[Xoa (k::r) (fun x u=>by
   rcases List.mem_cons.1 u with rfl|u;· omega
   exact hr.lt x u)]
  simp[hr.len])
 obtain⟨cs,d⟩:=xq (pkC k r);rw[←d] at P c n i s⊢;clear d hr hE g E;go_enter func80,ntmps80;go_upto_region 1 with fail;refine wp_region_list ?_;simp only[];refine Xab 37 rfl _ rfl ⟨_,_,rfl,c.o,?_⟩;go_wp2_with fail;refine P.o.mono ?_;rintro e w1 ⟨rfl,a⟩;have p:=bh n a;have j:=Hd (i.o w1 a);have q:(((eIf (!true) 2:Nat):Int) !=0)=false:=by decide
 clear a i c;go_upto_region 4 with fail;refine wp_region_list ?_;simp only[];refine Xab 37 rfl _ rfl ⟨_,_,rfl,j.o,?_⟩;go_wp2_with fail;refine(s.o _).mono ?_;rintro e F ⟨b,cap,rfl,f,l⟩;have v:=bh p l;have y:=Hd (z.o F b cap f (D.o.on v.o).tab);clear f l s z j;go_wp2_with fail;refine y.o.mono ?_;rintro e G ⟨rfl,m⟩;have A:=bh v m;clear m y;go_wp2_with fail;go_ret2;exact⟨_,by rw[←t.o];rfl,(fun _=>by rw[KM.o];exact B.o),C.o,A.o⟩
def BRow (w:World)(B:Nat)(a:Option Addr)(l:List Nat):Prop:=
 l≠[]→∃b off,a=some ⟨b,off,none⟩∧b<w.heap.size∧b≠B∧∀j (h:j<l.length),w.cell? ⟨b,off+j,none⟩=some (U l[j])
structure RS (w:World) (B:Nat) (l:List Nat) (er:Nat) (a:Option Addr) (cap:Nat):Prop where
 blk:w.heap[B]?=some (.cells #[.slice a l.length cap,.int .i64 (er:Int)] 261 (0,0))
 row:BRow w B a l
 cp:l.length≤cap
theorem BRow.mono {w w':World}{B:Nat}{a:Option Addr}{l:List Nat}(h:BRow w B a l)(hf:Fr1 B w w'):BRow w' B a l:=by intro c;obtain⟨b,off,g,d,e,i⟩:=h c;exact⟨b,off,g,Nat.lt_of_lt_of_le d hf.size,e,fun j hj=>by have:=hf.other b d e;have f:=i j hj;unfold World.cell? at f⊢;simp only[this];exact f⟩
theorem Xrj (s:ByteArray)(w:World)(hs:s.size≤1000000)(hE:Env w):Calls prog 153 #[.string s] w fun e w'=>∃B a cap,e=.returned (.pointer (some ⟨B,0,none⟩))∧w.heap.size≤B∧RS w' B (Xcu (bs s)).1 (Xcu (bs s)).2.2 a cap∧Bw w w':=by
 have D:Hid (Calls prog 209 #[.string s] w (Xor w (Xcu (bs s)))):=Hd (by
  by_cases h:174764<s.size;·exact Xso s w (by unfold maxLen;omega) h
  exact Xqn s w (by omega) hE.tab)
 obtain⟨r,n⟩:=xq (Xcu (bs s));rw[←n] at D⊢;clear hE n;go_enter func153,ntmps153;go_wp2_with fail;refine D.o.mono ?_;rintro e w1 ⟨v,rfl,c,k⟩;have l:∃a cap,v=.slice a r.1.length cap∧r.1.length≤cap∧(r.1≠[]→∃b off,a=some ⟨b,off,none⟩∧b<w1.heap.size∧∀j (h:j<r.1.length),w1.cell? ⟨b,off+j,none⟩=some (U r.1[j])):=by
  rcases c.2 with⟨rfl,h0⟩|⟨g,cap,cur,rfl,k,hg,hc,_,hs,ht⟩;·exact⟨none,0,by rw[h0],by rw[h0];exact zL _,fun hne=>absurd (List.length_eq_zero_iff.1 h0) hne⟩
  refine⟨some ⟨g,0,none⟩,cap,rfl,hc,fun _=>⟨g,0,rfl,zY hg,fun j hj=>?_⟩⟩;rw[Nat.zero_add,cell_of_row w1 g j _ _ _ hg];have m:(cur.toList.take (r.1.length*1))[j]?=some (U r.1[j]):=by rw[ht];simp[hj]
  rw[List.getElem?_take,qP (by omega)] at m;simpa using m
 obtain⟨a,cap,rfl,f,d⟩:=l;have q:=Hd d;have i:=Hd k;clear d k c D;go_wp2_with fail;go_ret;refine⟨w1.heap.size,a,cap,rfl,i.o.size,⟨zN w1 _,fun hne=>?_,f⟩,i.o.alloc i.o.size _⟩;obtain⟨b,off,t,u,x⟩:=q.o hne;exact⟨b,off,t,by simp;omega,by omega,fun j hj=>by rw[←x j hj];exact(((zR _ w1).alloc (zL _) _).cell (p:=⟨b,off+j,none⟩) u)⟩
def Ycy (w:World)(B n:Nat)(l:List Nat)(er:Nat)(e:Ending)(w':World):Prop:=
 ∃(x l':List Nat) (er':Nat) (ax al:Option Addr) (cx cl:Nat),e=.returned (.slice ax n cx)∧n≤cx∧x.length=n∧BRow w' B ax x∧RS w' B l' er' al cl∧Fr1 B w w'∧
  ((er=0∧n≤l.length∧x=l.take n∧l'=l.drop n∧er'=0)∨(l'=l∧er'=(if er=0 then 4 else er)∧x=List.replicate n 0∧(er=0→l.length<n)))
theorem BRow.drop {w:World}{B b off:Nat}{l:List Nat}(n:Nat)(hn:n≤l.length)(h:BRow w B (some ⟨b,off,none⟩) l):BRow w B (some ⟨b,off+n,none⟩) (l.drop n):=by
 intro a;have c:n<l.length:=by
  rcases Nat.lt_or_ge n l.length with h|h;·exact h
  exact absurd (List.drop_of_length_le h) a
 obtain⟨k,d,e,f,g,i⟩:=h (fun e=>by rw[e] at c;simp at c);cases e;exact⟨b,off+n,rfl,f,g,fun j hj=>by rw[Nat.add_assoc,i (n+j) (by simp at hj;omega)];simp⟩
theorem BRow.take {w:World}{B:Nat}{a:Option Addr}{l:List Nat}(n:Nat)(h:BRow w B a l):BRow w B a (l.take n):=by intro b;obtain⟨d,c,e,f,g,i⟩:=h (fun e=>by rw[e] at b;simp at b);exact⟨d,c,e,f,g,fun j hj=>by rw[i j (by simp at hj;omega)];simp⟩
theorem Xwq (W:World)(n:Nat)(hn:n≤16):(Instr.makeSlice 82 (.int .i64 (n:Int)) (.int .i64 (n:Int))).run prog W=.ok (.slice (some ⟨W.heap.size,0,none⟩) n n) (W.alloc (.cells (idA (List.replicate n 0)) 5)):=by
 obtain⟨f,b,c,a,d⟩:=info_parts Xgl;have:=run_makeSlice (P:=prog) (w:=W) 82 5 f (.int .u8 0) underlying82 b c .i64 .i64 (n:Int) (n:Int) (by omega) (by omega) (by rw[a];simp;omega) (by rw[d];omega) (by omega);rw[this,a];have e:madeCells (Value.cells (.int .u8 0)) ((n:Int).toNat*1)=idA (List.replicate n 0):=by
  simp only[Int.toNat_natCast,Nat.mul_one];unfold madeCells idA;apply Array.ext;·simp
  intro i g h;simp[Value.cells,Nat.mod_one];rfl
 rw[e];simp
theorem Xfx (l:List Nat)(h:(Xcu l).2.2≠0):(Xcu l).1=[]:=by
 unfold Xcu at h⊢;by_cases h1:174764<l.length;·rw[qP h1]
 rw[qN h1] at h⊢
 cases hv:Xjb (l.take (Xbq l)) with
 |none=>rfl
 |some vs=>
  rw[hv] at h;simp only[] at h⊢;by_cases h2:l.length%4≠0;·rw[qP h2]
  rw[qN h2] at h⊢;by_cases h3:(Xei vs).1≠0;·rw[qP h3]
  rw[qN h3] at h;exact absurd rfl h
theorem Xsq (l:List Nat):∀x∈(Xcu l).1,x<256:=by
 by_cases h:(Xcu l).2.2=0;·exact(Xn9 l h).2
 rw[Xfx l h];simp
theorem Xyo (w:World)(B:Nat)(l:List Nat)(er:Nat)(a:Option Addr)(cap:Nat)(h:RS w B l er a cap)(hl:l.length≤1000000)(n:Nat)(hn0:0<n)(hn:n≤16):Calls prog 155 #[.pointer (some ⟨B,0,none⟩),.int .i64 (n:Int)] w (Ycy w B n l er):=by
 have s:w.cell? ⟨B,0,none⟩=some (.slice a l.length cap):=cell_of_row w B 0 _ _ _ h.blk;have g:w.cell? ⟨B,1,none⟩=some (.int .i64 (er:Int)):=cell_of_row w B 1 _ _ _ h.blk;have u:w.frozen? ⟨B,0,none⟩=false:=by have:=h.blk;simp[World.frozen?,this]
 have v:w.frozen? ⟨B,1,none⟩=false:=by have:=h.blk;simp[World.frozen?,this]
 have t:=h.cp;have d:Hid (B<w.heap.size):=Hd (zY h.blk);have r:=d.o;have H:=Hd h;have k:=Hd (fun W=>Xwq W n hn);clear h;by_cases h0:er=0
 ·subst h0;have m:w.cell? ⟨B,1,none⟩=some (.int .i64 0):=g;by_cases hs:l.length<n
  ·go_enter func155,ntmps155;go_wp2_with fail;rw[k.o];simp only[Result.andThen];rw[Oper.upon_value];go_wp2_with fail;go_ret;refine⟨List.replicate n 0,l,4,_,a,_,cap,rfl,zL _,by simp,fun _=>⟨w.heap.size,0,rfl,by simp,by omega,fun j hj=>?_⟩,⟨?_,?_,H.o.cp⟩,?_,.inr ⟨rfl,rfl,rfl,fun _=>hs⟩⟩;·rw[cell_of_row _ w.heap.size _ _ _ _ (by have:=zN (w.setCell ⟨B,1,none⟩ (.int .i64 4)) (.cells (idA (List.replicate n 0)) 5);simpa using this)];simp at hj;simp[idA,hj]
   ·exact(((zR _ (w.setCell ⟨B,1,none⟩ (.int .i64 4))).alloc (zL _) _).block B (by simp;exact d.o)).trans (Xez H.o.blk 1 _)
   ·exact H.o.row.mono ((Fr1.setC _).trans (Fr1.of_below ((zR _ _).alloc (zL _) _)))
   exact(Fr1.setC _).trans (Fr1.of_below ((zR _ _).alloc (zL _) _))
  have c:n≤l.length:=by omega
  obtain⟨b,off,rfl,x,y,f⟩:=H.o.row (fun e=>by rw[e] at c;simp at c;omega);by_cases hcn:cap=n
  ·have i:l.length=n:=by omega
   subst hcn;go_enter func155,ntmps155;go_wp2_with fail;go_ret;refine⟨l.take cap,l.drop cap,0,_,_,_,_,rfl,zL _,by simp;omega,(H.o.row.take cap).mono (Fr1.setC _),⟨(Xez H.o.blk 0 _).trans (by simp only[List.length_drop,i,Nat.sub_self];rfl),fun h=>absurd (by rw[List.drop_of_length_le (by omega)]) h,by simp;omega⟩,Fr1.setC _,.inl ⟨rfl,c,rfl,rfl,rfl⟩⟩
  go_enter func155,ntmps155;go_wp2_with fail;go_ret;exact⟨l.take n,l.drop n,0,_,_,_,_,rfl,by omega,by simp;omega,(H.o.row.take n).mono (Fr1.setC _),⟨(Xez H.o.blk 0 _).trans (by simp only[List.length_drop];rfl),(H.o.row.drop n c).mono (Fr1.setC _),by simp;omega⟩,Fr1.setC _,.inl ⟨rfl,c,rfl,rfl,rfl⟩⟩
 have z:((er:Int)==0)=false:=Xar (by omega);have A:((er:Int) !=0)=true:=by simp[bne,z]
 have q:Hid (er=(if er=0 then 4 else er)):=Hd (by rw[qN h0]);have p:=Hd h0;clear h0;go_enter func155,ntmps155;go_wp2_with fail;rw[k.o];simp only[Result.andThen];rw[Oper.upon_value];go_wp2_with fail;go_ret;refine⟨List.replicate n 0,l,er,_,a,_,cap,rfl,zL _,by simp,fun _=>⟨w.heap.size,0,rfl,by simp,by omega,fun j hj=>?_⟩,⟨?_,?_,H.o.cp⟩,?_,.inr ⟨rfl,q.o,rfl,fun h=>absurd h p.o⟩⟩;·rw[cell_of_row _ w.heap.size _ _ _ _ (zN w _)];simp at hj;simp[idA,hj]
 ·exact(((zR _ w).alloc (zL _) _).block B d.o).trans H.o.blk
 ·exact H.o.row.mono (Fr1.of_below ((zR _ _).alloc (zL _) _))
 exact Fr1.of_below ((zR _ _).alloc (zL _) _)
def Xlv (er:Nat)(l:List Nat):Nat:=if er≠0 then er else if l.length=0 then 0 else 5
theorem Ymo (w:World)(B:Nat)(l:List Nat)(er:Nat)(a:Option Addr)(cap:Nat)(h:RS w B l er a cap)(hl:l.length≤1000000):Calls prog 156 #[.pointer (some ⟨B,0,none⟩)] w fun e w'=>e=.returned (.int .i64 (Xlv er l:Nat))∧Fr1 B w w':=by
 have c:w.cell? ⟨B,0,none⟩=some (.slice a l.length cap):=cell_of_row w B 0 _ _ _ h.blk;have b:w.cell? ⟨B,1,none⟩=some (.int .i64 (er:Int)):=cell_of_row w B 1 _ _ _ h.blk;have f:w.frozen? ⟨B,1,none⟩=false:=by have:=h.blk;simp[World.frozen?,this]
 clear h;by_cases h0:er=0
 ·subst h0;have d:w.cell? ⟨B,1,none⟩=some (.int .i64 0):=b;clear b;by_cases hs:l.length=0;·have E:Hid (Xlv 0 l=0):=Hd (by unfold Xlv;rw[qN (by simp),qP hs]);rw[hs] at c;clear hs;go_enter func156,ntmps156;go_wp2_with fail;go_ret;exact⟨by rw[E.o];rfl,Fr1.refl _ _⟩
  have E:Hid (Xlv 0 l=5):=Hd (by unfold Xlv;rw[qN (by simp),qN hs]);have g:0<l.length:=by omega
  clear hs;go_enter func156,ntmps156;go_wp2_with fail;go_ret;exact⟨by rw[E.o];rfl,Fr1.setC _⟩
 have i:((er:Int)==0)=false:=Xar (by omega);have E:Hid (Xlv er l=er):=Hd (by unfold Xlv;rw[qP h0]);clear h0;go_enter func156,ntmps156;go_wp2_with fail;go_ret;exact⟨by rw[E.o];rfl,Fr1.refl _ _⟩
def Yht (w:World)(B:Nat)(l:List Nat)(er:Nat)(e:Ending)(w':World):Prop:=
 ∃(c:Nat) (l':List Nat) (er':Nat) (al:Option Addr) (cl:Nat),e=.returned (.int .i64 (c:Int))∧c<256∧RS w' B l' er' al cl∧Fr1 B w w'∧
  ((er=0∧1≤l.length∧l.take 1=[c]∧l'=l.drop 1∧er'=0)∨(l'=l∧er'=(if er=0 then 4 else er)∧c=0∧(er=0→l.length<1)))
theorem Yi1 (c:Nat)(h:c<256):Go.bits .or .i64 0 (c:Int)=(c:Int):=by
 have:∀q:Fin 256,Go.bits .or .i64 0 ((q.val:Nat):Int)=((q.val:Nat):Int):=by decide+kernel
 exact this ⟨c,h⟩
theorem Xz3 (w:World)(B:Nat)(l:List Nat)(er:Nat)(a:Option Addr)(cap:Nat)(h:RS w B l er a cap)(hl:l.length≤1000000)(hlt:∀x∈l,x<256):Calls prog 154 #[.pointer (some ⟨B,0,none⟩),.int .i64 1] w (Yht w B l er):=by
 have T:Hid (Calls prog 155 #[.pointer (some ⟨B,0,none⟩),.int .i64 1] w (Ycy w B 1 l er)):=Hd (Xyo w B l er a cap h hl 1 (by omega) (by omega));have r:=Hd hlt;clear h hlt;go_enter func154,ntmps154;go_wp2_with fail;refine T.o.mono ?_;rintro e w1 ⟨x,C,s,E,al,F,u,rfl,A,q,n,p,m,hrel⟩;obtain⟨c,rfl⟩:∃c,x=[c]:=by
  match x,q with
  |[c],_=>exact⟨c,rfl⟩
 obtain⟨b,off,rfl,G,v,f⟩:=n (by simp);have t:=f 0 (by simp);have z:w1.cell? ⟨b,off,none⟩=some (.int .u8 (c:Int)):=t;have d:c<256:=by
  rcases hrel with⟨_,h1,h2,_⟩|⟨_,_,h2,_⟩;·exact r.o c (List.mem_of_mem_take (i:=1) (by rw[←h2];simp))
  simp at h2;omega
 have D:=Yi1 c d;have j:Hid (Yht w B l er (.returned (.int .i64 (c:Int))) w1):=Hd ⟨c,C,s,al,u,rfl,d,p,m,by
  rcases hrel with⟨h0,h1,h2,h3,h4⟩|⟨h1,h2,h3,h4⟩;·exact .inl ⟨h0,h1,h2.symm,h3,h4⟩
  exact .inr ⟨h1,h2,by simpa using h3,h4⟩⟩
 clear T hrel p m f t q;go_wp2_with fail;go_loopg [5,7,12] 1 (fun k x y i wr=>((k=1∧x=.int .i64 0∧i=.int .i64 0)∨(k=0∧x=.int .i64 (c:Int)∧i=.int .i64 1))∧w1=wr);exact⟨.inl ⟨rfl,rfl,rfl⟩,rfl⟩;obtain⟨g,rfl⟩:=hrel;rcases g with⟨rfl,rfl,rfl⟩|⟨rfl,rfl,rfl⟩;·go_wp2_with fail;go_roundg 0;exact⟨.inr ⟨rfl,rfl,rfl⟩,rfl⟩;omega
 go_wp2_with fail;go_ret;exact j.o
theorem Xa4 {P:Program}{fn:Func}{p u:Tmp}{ty:TypeId}(h:fn.results=#[.cell p ty,.tmp u])(tmps:Array Value)(w:World)(g:Nat)(t:TypeId)(cs:Array Value)(fr:Nat×Nat)(d:TypeDesc) (hp:tmps.getD p undef=.pointer (some ⟨g,0,none⟩)) (hg:w.heap[g]?=some (.cells cs t fr)) (hu:P.underlying ty=some d) (hd:(match d with|.struct _|.array _ _=>true|_=>false)=true) (hi:(P.info? ty).map (·.size)=some cs.size):(results fn tmps).run P w=.ok (.tuple #[.agg cs,tmps.getD u undef]) w:=by
 have a:tmps[p]?.getD undef=.pointer (some ⟨g,0,none⟩):=by simpa using hp
 simp[results,h,a,asAddr,run_loadVar_row w g t ty cs fr d hg hu hd hi]
theorem Xvb (w:World)(h:Int):∀(r:List Nat),r.length=16→(Instr.build 37 #[(0,.int .i64 h),(1,.agg (idA r))]).run prog w=.ok (.agg (pkC h r)) w
 |[a0,a1,a2,a3,a4,a5,a6,a7,a8,a9,a10,a11,a12,a13,a14,a15],_=>by kernel_rfl
theorem Yf9 {h:Int}{r:List Nat}(hr:r.length=16):Cl 17 (pkC h r):=⟨Xt9 hr,by rw[Array.all_eq_true'];intro x a;unfold pkC at a;simp at a;rcases a with rfl|⟨n,_,rfl⟩<;>rfl⟩
def Ynb (l:List Nat)(w:World)(e:Ending)(w':World):Prop:=
 ∃(cs:Array Value),e=.returned (.tuple #[.agg cs,.int .i64 (Xhf l:Nat)])∧Cl 17 cs∧Bw w w'
def Xta (l:List Nat)(w:World)(e:Ending)(w':World):Prop:=
 ∃(h:Nat) (r:List Nat),e=.returned (.tuple #[.agg (pkC (h:Int) r),.int .i64 (Xhf l:Nat)])∧r.length=16∧h<256∧(∀x∈r,x<256)∧(Xhf l=0→(Xcu l).1=h::r)∧Bw w w'
theorem Yit (l:List Nat)(c:Nat)(l1:List Nat)(e1:Nat)(x l2:List Nat)(e2:Nat) (h1:((Xcu l).2.2=0∧1≤(Xcu l).1.length∧(Xcu l).1.take 1=[c]∧l1=(Xcu l).1.drop 1∧e1=0)∨(l1=(Xcu l).1∧e1=(if(Xcu l).2.2=0 then 4 else(Xcu l).2.2)∧c=0∧((Xcu l).2.2=0→(Xcu l).1.length<1))) (h2:(e1=0∧16≤l1.length∧x=l1.take 16∧l2=l1.drop 16∧e2=0)∨(l2=l1∧e2=(if e1=0 then 4 else e1)∧x=List.replicate 16 0∧(e1=0→l1.length<16))):(Xlv e2 l2≠0→Xhf l=Xlv e2 l2)∧(Xlv e2 l2=0→Xhf l=eIf (!Xau (c:Int)) 2):=by
 obtain⟨d,b⟩:=xq (Xcu l);have P:Xhf l=(if d.2.2≠0 then d.2.2 else if d.1.length<17 then 4 else if 17<d.1.length then 5 else if d.1.getD 0 0<1∨8<d.1.getD 0 0 then 2 else 0):=by rw[b];rfl
 rw[←b] at h1;obtain⟨a,i,f⟩:=d;simp only[] at h1 P;clear b;rcases h1 with⟨a1,a2,a3,a4,a5⟩|⟨a1,a2,a3,a4⟩
 ·subst a1;subst a5;subst a4;rw[qN (by simp)] at P;have g:a.getD 0 0=c:=by
   cases a with
   |nil=>simp at a2
   |cons y t=>simp at a3;simp[a3]
  rcases h2 with⟨b1,b2,b3,b4,b5⟩|⟨b1,b2,b3,b4⟩
  ·subst b4;subst b5;simp only[List.length_drop] at b2;rw[qN (by omega)] at P;by_cases hk:a.length=17
   ·have E:Xlv 0 ((a.drop 1).drop 16)=0:=by unfold Xlv;rw[qN (by simp),qP (by simp;omega)]
    rw[qN (by omega),g] at P;rw[E];refine⟨fun h=>absurd rfl h,fun _=>?_⟩;rw[P];unfold eIf Xau;by_cases hh:c<1∨8<c;·rw[qP hh,qP];simp;omega
    rw[qN hh,qN];simp;omega
   have E:Xlv 0 ((a.drop 1).drop 16)=5:=by unfold Xlv;rw[qN (by simp),qN (by simp;omega)]
   rw[qP (by omega)] at P;rw[E];exact⟨fun _=>P,fun h=>by omega⟩
  have e:=b4 rfl;rw[qP rfl] at b2;subst b2;simp only[List.length_drop] at e;have E:Xlv 4 l2=4:=by unfold Xlv;rw[qP (by simp)]
  rw[qP (by omega)] at P;rw[E];exact⟨fun _=>P,fun h=>by omega⟩
 by_cases h0:f=0
 ·have e:=a4 h0;rw[qP h0] at a2;subst a2;rw[qN (by omega),qP (by omega)] at P;rcases h2 with⟨b1,_⟩|⟨b1,b2,b3,b4⟩;·cases b1
  rw[qN (by decide)] at b2;subst b2;have E:Xlv 4 l2=4:=by unfold Xlv;rw[qP (by simp)]
  rw[E];exact⟨fun _=>P,fun h=>by omega⟩
 rw[qN h0] at a2;subst a2;rw[qP h0] at P;rcases h2 with⟨b1,_⟩|⟨b1,b2,b3,b4⟩;·exact absurd b1 h0
 rw[qN h0] at b2;subst b2;have E:Xlv e2 l2=e2:=by unfold Xlv;rw[qP h0]
 rw[E];exact⟨fun _=>P,fun h=>absurd h h0⟩
theorem Yir (l:List Nat)(c:Nat)(l1:List Nat)(e1:Nat)(x l2:List Nat)(e2:Nat) (h1:((Xcu l).2.2=0∧1≤(Xcu l).1.length∧(Xcu l).1.take 1=[c]∧l1=(Xcu l).1.drop 1∧e1=0)∨(l1=(Xcu l).1∧e1=(if(Xcu l).2.2=0 then 4 else(Xcu l).2.2)∧c=0∧((Xcu l).2.2=0→(Xcu l).1.length<1))) (h2:(e1=0∧16≤l1.length∧x=l1.take 16∧l2=l1.drop 16∧e2=0)∨(l2=l1∧e2=(if e1=0 then 4 else e1)∧x=List.replicate 16 0∧(e1=0→l1.length<16))) (h0:Xhf l=0):(Xcu l).1=c::x:=by
 unfold Xhf at h0;by_cases hd:(Xcu l).2.2≠0;·rw[qP hd] at h0;exact absurd h0 hd
 rw[qN hd] at h0;have a:(Xcu l).2.2=0:=by simpa using hd
 by_cases hl:(Xcu l).1.length<17;·rw[qP hl] at h0;cases h0
 rw[qN hl] at h0;by_cases hl2:17<(Xcu l).1.length;·rw[qP hl2] at h0;cases h0
 have b:(Xcu l).1.length=17:=by omega
 rcases h1 with⟨_,_,a3,a4,a5⟩|⟨_,_,_,a4⟩
 ·rcases h2 with⟨_,_,b3,_,_⟩|⟨_,_,_,b4⟩
  ·have:l1.length=16:=by rw[a4,List.length_drop];omega
   rw[List.take_of_length_le (by omega)] at b3;rw[b3,a4,←List.singleton_append,←a3,List.take_append_drop]
  have:=b4 a5;rw[a4,List.length_drop] at this;omega
 have:=a4 a;omega
theorem Xu6 (l:List Nat):(Xcu l).1.length≤l.length:=by
 by_cases h:(Xcu l).2.2=0;·obtain⟨a,b⟩:=Xn9 l h;have:=Xoa _ b;rw[a] at this;omega
 rw[Xfx l h];simp
theorem RS.below {w w':World}{B:Nat}{l:List Nat}{er:Nat}{a:Option Addr}{cap:Nat}(h:RS w B l er a cap)(hb:Bw w w'):RS w' B l er a cap:=
 ⟨(hb.block B (zY h.blk)).trans h.blk,h.row.mono (Fr1.of_below hb),h.cp⟩
theorem Xck:(prog.info? 22).map (·.size)=some 16:=by kernel_rfl
theorem Xpr (s:ByteArray)(w:World)(hs:s.size≤1000000)(hE:Env w):Calls prog 103 #[.string s] w (Xta (bs s) w):=by
 have k:Hid (∀w',Xhf (bs s)≠0→Bw w w'→Xta (bs s) w (.returned (.tuple #[.agg (pkC 0 (List.replicate 16 0)),.int .i64 (Xhf (bs s):Nat)])) w'):=Hd (fun w' h T=>⟨0,List.replicate 16 0,rfl,by simp,by omega,fun x A=>by rw[List.mem_replicate] at A;omega,fun D=>absurd D h,T⟩);have aI:(List.replicate 16 0:List Nat).length=16:=by simp
 obtain⟨g,z⟩:=xq (pkC 0 (List.replicate 16 0));have K:Hid (Cl 17 g):=Hd (by rw[z];exact Yf9 aI);rw[←z] at k;have BU:Hid (∀w,(Instr.build 37 #[]).run prog w=.ok (.agg g) w):=Hd (fun w=>by rw[z];kernel_rfl);have p:Hid (w.alloc (.cells g 37)=w.alloc (.cells (pkC 0 (List.replicate 16 0)) 37)):=Hd (by rw[z])
 have i:Hid (∀(w4:World) (cs:Array Value),Cl 17 cs→w4.heap[w.heap.size]?=some (.cells g 37 (0,0))→Bw w w4→
     Sv 37 ⟨w.heap.size,0,none⟩ (.agg cs) w4 (w4.setRow w.heap.size cs)∧
     (∀tmps:Array Value,tmps.getD 2 undef=.pointer (some ⟨w.heap.size,0,none⟩)→(results Tryz.f103 tmps).run prog (w4.setRow w.heap.size cs)=.ok (.tuple #[.agg cs,tmps.getD 3 undef]) (w4.setRow w.heap.size cs))∧
     Bw w (w4.setRow w.heap.size cs)):=Hd (fun w4 cs hcl hg T=>
  ⟨run_storeVar_row (P:=prog) w4 w.heap.size _ 37 g cs hg (by rw[hcl.1];exact Xda) (by rw[hcl.1,K.o.1]) hcl.2,
   fun tmps D=>Xa4 results103 tmps _ w.heap.size _ _ _ _ D (setRow_heap w4 w.heap.size g cs _ _ hg) underlying37 rfl (by rw[hcl.1];exact Xda),
   below_setRow T (zL _) cs⟩)
 have B0:Bw w (w.alloc (.cells g 37)):=(zR _ w).alloc (zL _) _;have RD:Hid (∀w0,w.alloc (.cells g 37)=w0→Calls prog 153 #[.string s] w0 fun e w'=>∃B a cap,e=.returned (.pointer (some ⟨B,0,none⟩))∧(w.alloc (.cells g 37)).heap.size≤B∧RS w' B (Xcu (bs s)).1 (Xcu (bs s)).2.2 a cap∧Below (w.alloc (.cells g 37)).heap.size (w.alloc (.cells g 37)) w'):=Hd (by rintro w0 rfl;exact Xrj s _ hs (hE.on B0));have W:=Hd B0;clear hE B0 aI;go_enter func103,ntmps103;go_wp2_with fail;refine(RD.o _ p.o).mono ?_;rintro e w1 ⟨B,a,cap,rfl,hB,aF,L⟩;have aH:w1.heap[w.heap.size]?=some (.cells g 37 (0,0)):=(L.block w.heap.size (by simp)).trans (zN w _);have aP:w.heap.size<B:=by simp at hB;omega
 have b1:Bw w w1:=W.o.trans (L.mono (by simp));have aA:=Xu6 (bs s);rw[Xac] at aA;have NU:=Hd (Xz3 w1 B _ _ a cap aF (by omega) (Xsq (bs s)));have Z1:=Hd aH;have B1:=Hd b1;have DL:=Hd (show(Xcu (bs s)).1.length≤1000000 by omega);clear L aF aH b1 hB aA RD p W z;go_wp2_with fail;refine NU.o.mono ?_;rintro e w2 ⟨c,U,e1,a1,aK,rfl,hc,I,aC,h1⟩;have N:U.length≤1000000:=by
  have:=DL.o;rcases h1 with⟨_,_,_,h,_⟩|⟨h,_⟩;·rw[h,List.length_drop];omega
  rw[h];exact this
 have TK:Hid (Calls prog 155 #[.pointer (some ⟨B,0,none⟩),.int .i64 16] w2 (Ycy w2 B 16 U e1)):=Hd (Xyo w2 B U e1 a1 aK I N 16 (by omega) (by omega));have F1:=Hd aC;have H1:=Hd h1;clear NU I aC h1;go_wp2_with fail;refine TK.o.mono ?_;rintro e f ⟨x,l2,e2,ax,a2,cx,aL,rfl,aM,A,H,v,aD,D⟩;obtain⟨b,off,rfl,T,aR,t⟩:=H (fun e=>by rw[e] at A;simp at A);have m:=Hd (Yit (bs s) c U e1 x l2 e2 H1.o D);have Z:∀y∈x,y<256:=by
  have hl:∀y∈U,y<256:=by
   rcases H1.o with⟨_,_,_,h,_⟩|⟨h,_⟩;·rw[h];exact fun y hy=>Xsq (bs s) y (List.mem_of_mem_drop hy)
   rw[h];exact Xsq (bs s)
  rcases D with⟨_,_,h,_,_⟩|⟨_,_,h,_⟩;·rw[h];exact fun y hy=>hl y (List.mem_of_mem_take hy)
  rw[h];exact fun y hy=>by rw[List.mem_replicate] at hy;omega
 have F:Hid (∀w',Bw w w'→Xta (bs s) w (.returned (.tuple #[.agg (pkC (c:Int) x),.int .i64 (Xhf (bs s):Nat)])) w'):=Hd (fun w' T=>⟨c,x,rfl,A,hc,Z,Yir (bs s) c U e1 x l2 e2 H1.o D,T⟩);have aE:l2.length≤1000000:=by
  rcases D with⟨_,_,_,h,_⟩|⟨h,_⟩;·rw[h,List.length_drop];omega
  rw[h];exact N
 have LD:Hid (Ld 22 ⟨b,off,none⟩ f (.agg (idA x))):=Hd (Xai f b off _ _ _ underlying22 rfl (by rw[Xaf,A];exact Xck) (by intro j u hu;unfold idA at hu;rw[List.getElem?_toArray] at hu;obtain⟨hj,rfl⟩:=List.getElem?_eq_some_iff.1 hu;rw[List.length_map] at hj;rw[t j hj];simp));have R:=Hd (fun w=>Xdw w (c:Int) A);have BP:=Hd (fun w=>Xvb w (c:Int) x A);obtain⟨cs,M⟩:=xq (pkC (c:Int) x);have O:Hid (Cl 17 cs):=Hd (by rw[M];exact Yf9 A);rw[←M] at R BP F;obtain⟨xs,aG⟩:=xq (idA x);rw[←aG] at LD BP;have Y:Hid (∀zz:Array Value,zz.size=17→Sv 37 ⟨f.heap.size,0,none⟩ (.agg cs) (f.alloc (.cells zz 37)) (f.alloc (.cells cs 37))):=Hd (fun zz hz=>run_storeVar_new f 37 zz cs (by rw[O.o.1];exact Xda) (by rw[hz,O.o.1]) O.o.2);have aO:B<f.heap.size:=zY v.blk;have f3:Fr1 B w1 f:=F1.o.trans aD;have aS:w.heap.size<f.heap.size:=by omega
 have b3:Bw f (f.alloc (.cells cs 37)):=(zR _ _).alloc (zL _) _;have EN:=Hd (Ymo _ B l2 e2 a2 aL (v.below b3) aE);have f4:Fr1 B w1 (f.alloc (.cells cs 37)):=f3.trans (Fr1.of_below b3);have Z4:Hid ((f.alloc (.cells cs 37)).heap[w.heap.size]?=some (.cells g 37 (0,0))):=Hd ((f4.other _ (zY Z1.o) (by omega)).trans Z1.o);have P4:=Hd (zN f (.cells cs 37));have F4:=Hd f4;have aN:w.heap.size≤w1.heap.size:=B1.o.size;have aQ:∀w,(Instr.arrayAt 22 (.slice (some ⟨b,off,none⟩) 16 cx)).run prog w=.ok (.pointer (some ⟨b,off,none⟩)) w:=fun w=>by kernel_rfl
 obtain⟨en,aB⟩:=xq (Xlv e2 l2);rw[←aB] at EN m;clear TK H v aD D t A Z M aG f3 b3 f4 N aE aM H1 F1 DL aB;go_wp2_with (first
  |((with_reducible refine Xab 22 rfl _ rfl ?_);refine⟨_,_,rfl,LD.o,?_⟩)
  |((with_reducible refine Xdn 37 rfl _ _ rfl ?_);refine⟨_,_,_,rfl,rfl,BP.o _,?_⟩)
  |((with_reducible refine Xaa 37 rfl _ _ rfl ?_);refine⟨_,_,_,rfl,rfl,Y.o _ rfl,?_⟩))
 refine EN.o.mono ?_;rintro e w5 ⟨rfl,E⟩;have z5:w5.heap[w.heap.size]?=some (.cells g 37 (0,0)):=(E.other _ (by simp;omega) (by omega)).trans Z4.o;have p5:w5.heap[f.heap.size]?=some (.cells cs 37 (0,0)):=(E.other _ (by simp) (by omega)).trans P4.o;have b5:Bw w w5:=B1.o.trans ((F4.o.trans E).below aN (by omega));have S:=Hd z5;have Q:=Hd p5;have V:=Hd b5;clear EN E z5 p5 b5 Z4 P4 F4 Y BP LD;by_cases h0:en=0
 ·have G:=Hd (m.o.2 h0);subst h0;have J:=Hd (Xap w5 f.heap.size 17 _ _ cs _ _ Q.o rfl underlying37 Xda O.o.1);obtain⟨q,hq⟩:=xq (Xau (c:Int));rw[←hq] at R G;clear m hq;go_upto_region 6 with fail;refine wp_region_list ?_;simp only[];refine Xab 37 rfl _ rfl ⟨_,_,rfl,J.o,?_⟩;go_wp2_with fail;refine(R.o _).mono ?_;rintro e w6 ⟨rfl,r⟩;have z6:=(r.block _ (zY S.o)).trans S.o;have p6:=(r.block _ (zY Q.o)).trans Q.o;have b6:Bw w w6:=bg V.o r;have X:=Hd (Xap w6 f.heap.size 17 _ _ cs _ _ p6 rfl underlying37 Xda O.o.1);cases q
  ·obtain⟨n,d,l⟩:=i.o w6 g K.o z6 b6;have n:=Hd n;have d:=Hd d;have l:=Hd l;have C:Hid (Xhf (bs s)=2):=G;clear z6 p6 b6 r R i J X G S Q V;go_wp2_with (first
    |((with_reducible refine Xah 37 rfl rfl ?_);refine⟨_,BU.o _,?_⟩)
    |((with_reducible refine Xaa 37 rfl _ _ rfl ?_);refine⟨_,_,_,rfl,rfl,n.o,?_⟩))
   exact zP (d.o _ rfl) rfl (by have:=k.o _ (by rw[C.o];decide) l.o;rw[C.o] at this;exact this)
  obtain⟨n,d,l⟩:=i.o w6 cs O.o z6 b6;have n:=Hd n;have d:=Hd d;have l:=Hd l;have C:Hid (Xhf (bs s)=0):=G;clear z6 p6 b6 r R i J G S Q V;go_upto_region 9 with fail;refine wp_region_list ?_;simp only[];refine Xab 37 rfl _ rfl ⟨_,_,rfl,X.o,?_⟩;go_wp2_with ((with_reducible refine Xaa 37 rfl _ _ rfl ?_);refine⟨_,_,_,rfl,rfl,n.o,?_⟩)
  exact zP (d.o _ rfl) rfl (by have:=F.o _ l.o;rw[C.o] at this;exact this)
 have G:=Hd (m.o.1 h0);have aJ:=Hd h0;have q0:((en:Int) !=0)=true:=Xaq (by omega);obtain⟨n,d,l⟩:=i.o w5 g K.o S.o V.o;have n:=Hd n;have d:=Hd d;have l:=Hd l;clear m h0 R i S Q V;go_wp2_with (first
  |((with_reducible refine Xah 37 rfl rfl ?_);refine⟨_,BU.o _,?_⟩)
  |((with_reducible refine Xaa 37 rfl _ _ rfl ?_);refine⟨_,_,_,rfl,rfl,n.o,?_⟩))
 exact zP (d.o _ rfl) rfl (by have:=k.o _ (by rw[G.o];exact aJ.o) l.o;rw[G.o] at this;exact this)
theorem Xrr (s:ByteArray)(w:World)(hs:s.size≤1000000)(hE:Env w):Calls prog 103 #[.string s] w (Ynb (bs s) w):=
 (Xpr s w hs hE).mono fun e w' ⟨h,r,h1,h2,_,_,_,h6⟩=>⟨_,h1,Yf9 h2,h6⟩
theorem Xwf (w:World)(b:Nat)(t:ByteArray)(st en:Nat)(at_:Int)(er:Nat)(h:WS w b t st en at_ er)(hE:Env w)(hb9:9≤b)(ht:t.size≤1000000):Calls prog 200 #[.pointer (some ⟨b,0,none⟩)] w (Xlz w b t en er Xhf fun v=>∃cs,v=.agg cs∧Cl 17 cs):=by
 obtain⟨c,p⟩:=xq (pkC 0 (List.replicate 16 0));have C:Cl 17 c:=by rw[p];exact Yf9 (by simp)
 have Y:Hid (∀w,(Instr.build 37 #[]).run prog w=.ok (.agg c) w):=Hd (fun w=>by rw[p];kernel_rfl);have aB:=h.lt;have T:Hid (∀w0,w.alloc (.cells c 37)=w0→Calls prog 239 #[.pointer (some ⟨b,0,none⟩)] w0 (Yc0 (w.alloc (.cells c 37)) b t st en er)):=Hd (by rintro w0 rfl;have B:=(zR w.heap.size w).alloc (zL _) (.cells c 37);exact Xf4 _ b t st en at_ er (h.below B) (hE.on B) hb9 ht);have g:Hid (w.alloc (.cells c 37)=w.alloc (.cells (pkC 0 (List.replicate 16 0)) 37)):=Hd (by rw[p]);have HE:=Hd hE;have i:=Hd C;clear h hE p C;go_enter func200,ntmps200;go_wp2_with fail;refine(T.o _ g.o).mono ?_;rintro e w1 ⟨x,ok,f,d,a,y,rfl,W,L,hx,h⟩;have q:w1.heap[w.heap.size]?=some (.cells c 37 (0,0)):=(L.other w.heap.size (by simp) (by omega)).trans (zN w _);have V:Fr1 b w w1:=(Fr1.of_below ((zR w.heap.size w).alloc (zL _) _)).trans L;have H:=Hd W;have G:=Hd V;have K:=Hd q;have Q:w.heap.size<w1.heap.size:=zY q;clear T W L g V q;rcases h with⟨rfl,hne,hk⟩|⟨rfl,rfl,rfl,hk⟩
 ·have D:Hid (StL t en er d y Xhf):=Hd (StL.no hne hk);have I:=Hd (run_storeVar_row (P:=prog) w1 w.heap.size _ 37 c c K.o (by rw[i.o.1];exact Xda) rfl i.o.2);have J:=Hd (setRow_heap w1 w.heap.size c c _ _ K.o);have H2:=Hd (H.o.row (show b≠w.heap.size by omega) c);have Z:=Hd (G.o.row (zL w.heap.size) c);clear hne hk;go_wp2_with (first
   |((with_reducible refine Xah 37 rfl rfl ?_);refine⟨_,Y.o _,?_⟩)
   |((with_reducible refine Xaa 37 rfl _ _ rfl ?_);refine⟨_,_,_,rfl,rfl,I.o,?_⟩))
  exact zP (results_cell_row results200 _ _ w.heap.size _ _ _ _ rfl J.o underlying37 rfl (by rw[i.o.1];exact Xda)) rfl
   ⟨_,f,d,a,y,rfl,⟨_,rfl,i.o⟩,H2.o,Z.o,D.o⟩
 have D:Hid (StL t en 0 d (Xhf (bs x)) Xhf):=Hd (StL.yes hk);have S:=Hd (Xrr x w1 (by omega) (Xbv HE.o hb9 G.o));obtain⟨m,O⟩:=xq (Xhf (bs x));have s:Hid (Calls prog 103 #[.string x] w1 fun e w'=>∃cs,e=.returned (.tuple #[.agg cs,.int .i64 (m:Int)])∧Cl 17 cs∧Bw w1 w'):=Hd (by rw[O];exact S.o);rw[←O] at D;clear hk S O;go_wp2_with fail;refine s.o.mono ?_;rintro e k ⟨cs,rfl,z,j⟩;have l:=Hd z;have u:Hid (∀zz:Array Value,zz.size=17→Sv 37 ⟨k.heap.size,0,none⟩ (.agg cs) (k.alloc (.cells zz 37)) (k.alloc (.cells cs 37))):=Hd (fun zz hz=>run_storeVar_new k 37 zz cs (by rw[l.o.1];exact Xda) (by rw[hz,l.o.1]) l.o.2);have n:Bw w1 (k.alloc (.cells cs 37)):=j.alloc j.size _;have M:=H.o.below n;have N:(k.alloc (.cells cs 37)).cell? ⟨b,1,none⟩=some (.int .i64 (f:Int)):=cell_of_row _ b 1 _ _ _ M.1;have Z3:=Hd ((n.block _ Q).trans K.o);have P3:=Hd (zN k (.cells cs 37));have F3:=Hd (G.o.trans (Fr1.of_below n));have R:=Hd (Xca _ b t f d a 0 M (f:Int) m);have aA:b≠k.heap.size:=by have:=H.o.lt;have:=j.size;omega
 have aC:w.heap.size<k.heap.size:=by have:=j.size;omega
 clear s j n M z;go_wp2_with ((with_reducible refine Xaa 37 rfl _ _ rfl ?_);refine⟨_,_,_,rfl,rfl,u.o _ rfl,?_⟩)
 refine R.o.mono ?_;rintro e F ⟨⟨v,rfl⟩,⟨U,X⟩,E⟩;have r:=(E.other w.heap.size (by simp;omega) (by omega)).trans Z3.o;have A:=(E.other k.heap.size (by simp) (by omega)).trans P3.o;have H4:Hid (WS F b t f d U m):=Hd X;have LD:=Hd (Xap F k.heap.size 17 _ _ cs _ _ A rfl underlying37 Xda l.o.1);have I:=Hd (run_storeVar_row (P:=prog) F w.heap.size _ 37 c cs r (by rw[l.o.1];exact Xda) (by rw[l.o.1,i.o.1]) l.o.2);have J:=Hd (setRow_heap F w.heap.size c cs _ _ r);have H5:=Hd (H4.o.row (show b≠w.heap.size by omega) cs);have F5:=Hd ((F3.o.trans E).row (zL w.heap.size) cs);clear X E R N r A u;go_upto_region 6 with fail;refine wp_region_list ?_;simp only[];refine Xab 37 rfl _ rfl ⟨_,_,rfl,LD.o,?_⟩;go_wp2_with ((with_reducible refine Xaa 37 rfl _ _ rfl ?_);refine⟨_,_,_,rfl,rfl,I.o,?_⟩)
 exact zP (results_cell_row results200 _ _ w.heap.size _ _ _ _ rfl J.o underlying37 rfl (by rw[l.o.1];exact Xda)) rfl
  ⟨_,f,d,U,m,rfl,⟨_,rfl,l.o⟩,H5.o,F5.o,D.o⟩
theorem Xa3:(prog.info? 139).map (·.size)=some 56:=by kernel_rfl
def Xlx (k:Int)(l:List Value):Array Value:=(([Value.int .i64 k]:List Value)++l++([.string ⟨#[]⟩,.int .i64 0,.bool false,.slice none 0 0,.string ⟨#[]⟩,.int .i64 0,.int .i64 0]:List Value)++List.replicate 16 (Value.int .u8 0)).toArray
def Xhw:List Value:=List.replicate 32 (.int .u8 0)
theorem Xxr (w:World)(k:Int):∀(l:List Value),l.length=32→(Instr.build 139 #[(0,.int .i64 k),(1,.agg l.toArray)]).run prog w=.ok (.agg (Xlx k l)) w
 |[v0,v1,v2,v3,v4,v5,v6,v7,v8,v9,v10,v11,v12,v13,v14,v15,v16,v17,v18,v19,v20,v21,v22,v23,v24,v25,v26,v27,v28,v29,v30,v31],_=>by kernel_rfl
theorem Xgd (w:World)(k:Int):(Instr.build 139 #[(0,.int .i64 k)]).run prog w=.ok (.agg (Xlx k Xhw)) w:=by kernel_rfl
theorem Xd1 (k:Int)(l:List Value)(h:l.length=32)(h1:∀v∈l,v.oneCell'=true):Cl 56 (Xlx k l):=⟨by simp[Xlx,h],by
 rw[Array.all_eq_true'];intro x a;unfold Xlx at a;rw[List.mem_toArray,List.mem_append,List.mem_append,List.mem_append] at a;rcases a with((a|a)|a)|a;·rw[List.mem_singleton] at a;rw[a];rfl
 ·exact h1 x a
 ·simp only[List.mem_cons] at a;rcases a with rfl|rfl|rfl|rfl|rfl|rfl|rfl|a<;>first|rfl|cases a
 rw[List.mem_replicate] at a;rw[a.2];rfl⟩
theorem Xqu {n:Nat}{cs:Array Value}(h:Cl n cs):∀v∈cs.toList,v.oneCell'=true:=fun v hv=>(Array.all_eq_true'.1 h.2) v (by simpa using hv)
theorem Xek:∀v∈Xhw,v.oneCell'=true:=fun v hv=>by unfold Xhw at hv;rw[List.mem_replicate] at hv;rw[hv.2];rfl
def MB (w:World)(p:Nat):Prop:=∃cs,w.heap[p]?=some (.cells cs 139 (0,0))∧Cl 56 cs
theorem MB.lt {w:World}{p:Nat}(h:MB w p):p<w.heap.size:=by obtain⟨cs,h,_⟩:=h;exact zY h
theorem MB.setCell {w:World}{p:Nat}(h:MB w p)(j:Nat){u:Value}(hu:u.oneCell'=true):MB (w.setCell ⟨p,j,none⟩ u) p:=by
 obtain⟨cs,c,d,a⟩:=h;refine⟨_,Xez c j u,by simpa using d,?_⟩;rw[Array.all_eq_true'] at a⊢;intro x b;rw[Array.mem_iff_getElem] at b;obtain⟨i,hi,rfl⟩:=b;rw[Array.getElem_setIfInBounds (by simpa using hi)];split;·exact hu
 exact a _ (Array.getElem_mem _)
theorem MB.setCells {p:Nat}:∀(vs:List Value) (o:Nat) (w:World),MB w p→(∀v∈vs,v.oneCell'=true)→MB (w.setCells p o vs) p∧Fr1 p w (w.setCells p o vs)
 |[],o,w,h,_=>⟨h,Fr1.refl _ _⟩
 |v::r,o,w,h,hv=>by obtain⟨a,b⟩:=MB.setCells r (o+1) _ (h.setCell o (hv v (List.mem_cons_self ..))) (fun x hx=>hv x (List.mem_cons_of_mem _ hx));exact⟨a,(Fr1.setC v).trans b⟩
theorem MB.fr {w w':World}{p b:Nat}(h:MB w p)(hf:Fr1 b w w')(hne:p≠b):MB w' p:=by obtain⟨cs,a,c⟩:=h;exact⟨cs,(hf.other p (zY a) hne).trans a,c⟩
theorem WS.fr {w w':World}{b p:Nat}{t:ByteArray}{st en:Nat}{at_:Int}{er:Nat}(h:WS w b t st en at_ er)(hf:Fr1 p w w')(hne:b≠p):WS w' b t st en at_ er:=⟨(hf.other b h.lt hne).trans h.1,h.2⟩
theorem Fr1.new {b p:Nat}{w0 w1 w2:World}(h:Fr1 b w0 w1)(h':Fr1 p w1 w2)(hp:w0.heap.size≤p):Fr1 b w0 w2:=
 ⟨h'.os.trans h.os,h'.tape.trans h.tape,h'.output.trans h.output,Nat.le_trans h.size h'.size,fun k hk hne=>(h'.other k (Nat.lt_of_lt_of_le hk h.size) (by omega)).trans (h.other k hk hne)⟩
theorem MB.cell {w:World}{p:Nat}(h:MB w p){j:Nat}(hj:j<56):∃u,w.cell? ⟨p,j,none⟩=some u∧w.frozen? ⟨p,j,none⟩=false:=by obtain⟨cs,a,b,c⟩:=h;exact⟨cs[j]'(by omega),by rw[cell_of_row w p j _ _ _ a];simp[b,hj],by simp[World.frozen?,a]⟩
theorem MB.store {w:World}{p:Nat}(h:MB w p)(o n:Nat)(hn:o+n≤56)(ty:TypeId){cs:Array Value}(hc:Cl n cs)(hi:(prog.info? ty).map (·.size)=some n):(storeVar ty ⟨p,o,none⟩ (.agg cs)).run prog w=.ok () (w.setCells p o cs.toList)∧MB (w.setCells p o cs.toList) p∧Fr1 p w (w.setCells p o cs.toList):=
 ⟨run_storeVar_mid w p o ty cs (fun j hj=>by obtain⟨u,a,b⟩:=h.cell (j:=o+j) (by rw[hc.1] at hj;omega);exact⟨by rw[a];rfl,b⟩) (by rw[hc.1];exact hi) hc.2,MB.setCells _ _ _ h (Xqu hc)⟩
def Xcw (w:World)(b:Nat)(t:ByteArray)(en er:Nat)(F:List Nat→Nat)(e:Ending)(w':World):Prop:=
 ∃(cs:Array Value) (st' en':Nat) (a:Int) (er':Nat),e=.returned (.agg cs)∧Cl 56 cs∧WS w' b t st' en' a er'∧Fr1 b w w'∧fe er' (fin ((bs t).drop en'))=fe er (F ((bs t).drop en))
theorem Ybc (w:World)(b:Nat)(t:ByteArray)(st en:Nat)(at_:Int)(er:Nat)(h:WS w b t st en at_ er)(hE:Env w)(hb9:9≤b)(ht:t.size≤1000000):Calls prog 190 #[.pointer (some ⟨b,0,none⟩)] w (Xcw w b t en er fun T=>nxt T fun x T=>fe (Xhx x) (fin T)):=by
 obtain⟨f,k⟩:=xq (Xlx 0 Xhw);have p:Hid (Cl 56 f):=Hd (by rw[k];exact Xd1 0 _ (by simp[Xhw]) Xek);have G:=h.lt;have A:Hid (∀w0,w.alloc (.cells f 139)=w0→Calls prog 191 #[.pointer (some ⟨b,0,none⟩)] w0 (Xlz (w.alloc (.cells f 139)) b t en er Xhx fun v=>∃cs,v=.agg cs∧Cl 32 cs)):=Hd (by rintro w0 rfl;have B:=(zR w.heap.size w).alloc (zL _) (.cells f 139);exact Xl3 _ b t st en at_ er (h.below B) (hE.on B) hb9 ht);have c:Hid (w.alloc (.cells f 139)=w.alloc (.cells (Xlx 0 Xhw) 139)):=Hd (by rw[k]);clear h hE k;go_enter func190,ntmps190;go_wp2_with fail;refine(A.o _ c.o).mono ?_;rintro e w1 ⟨v,y,q,a,r,rfl,⟨cs,rfl,g⟩,D,s,n⟩;have j:w1.heap[w.heap.size]?=some (.cells f 139 (0,0)):=(s.other w.heap.size (by simp) (by omega)).trans (zN w _);have C:Fr1 b w w1:=(Fr1.of_below ((zR w.heap.size w).alloc (zL _) _)).trans s;have u:cs.toList.length=32:=by simpa using g.1
 have z:=Hd (fun w=>Xxr w 1 cs.toList u);obtain⟨d,i⟩:=xq (Xlx 1 cs.toList);have l:Hid (Cl 56 d):=Hd (by rw[i];exact Xd1 1 _ u (Xqu g));rw[←i] at z;have E:=Hd (run_storeVar_row (P:=prog) w1 w.heap.size _ 139 f d j (by rw[l.o.1];exact Xa3) (by rw[l.o.1,p.o.1]) l.o.2);have F:=Hd (setRow_heap w1 w.heap.size f d _ _ j);have m:Hid (Xcw w b t en er (fun T=>nxt T fun x T=>fe (Xhx x) (fin T)) (.returned (.agg d)) (w1.setRow w.heap.size d)):=Hd ⟨d,y,q,a,r,rfl,l.o,D.row (by omega) d,C.row (zL _) d,(n fin).symm⟩;clear A c D s n C j i g u;go_wp2_with (first
  |((with_reducible refine Xdn 139 rfl _ _ rfl ?_);refine⟨_,_,_,rfl,rfl,z.o _,?_⟩)
  |((with_reducible refine Xaa 139 rfl _ _ rfl ?_);refine⟨_,_,_,rfl,rfl,E.o,?_⟩))
 exact zP (results_cell_row results190 _ _ w.heap.size _ _ _ _ rfl F.o underlying139 rfl (by rw[l.o.1];exact Xa3)) rfl m.o
end Go.Proofs.YtjolcnopipbkhaaGreatDoor
