/- control.AuthorText. -/
import Derived.Test.YtjolcnopipbkhaaGreatDoorVe03
namespace Go.Proofs.YtjolcnopipbkhaaGreatDoor
open Go.Proofs.Tryz
open Go.RowKit Go.Maps
set_option linter.unusedVariables false
set_option maxHeartbeats 100000000
set_option maxRecDepth 100000
theorem Xw1 {l:List Nat}(hl:l.length=16)(j:Nat)(hj:j<16)(c:Nat)(hc:c=l.getD j 0)(w:World):(Instr.index 35 (.agg (idA l)) (.int .i64 (j:Int))).run prog w=.ok (.int .u8 (c:Int)) w:=by
 have hi:(0:Int)≤(j:Int)∧(j:Int)<16:=by omega
 have a:j<l.length:=by omega
 have e:(idA l)[j]?=some (U c):=by rw[hc];unfold idA;simp[List.getD,a]
 simp[Instr.index,run_underlying underlying35,asIntOf,hi,go_sem];rw[qP hj,e];rfl
theorem Xj4:(prog.info? 35).map (·.size)=some 16:=by kernel_rfl
theorem Xkh (w:World)(g off:Nat)(t:TypeId)(cs:Array Value)(fr:Nat×Nat){l:List Nat}(h:l.length=16)(hg:w.heap[g]?=some (.cells cs t fr))(hp:∀j u,(idA l)[j]?=some u→cs[off+j]?=some u):Ld 35 ⟨g,off,none⟩ w (.agg (idA l)):=
 Xfb w g off t 35 cs (idA l) fr _ hg underlying35 rfl (by rw[Xaf,h];exact Xj4) hp
theorem Xxz (w:World){l:List Nat}(hl:B16 l):zJ 37 #[.agg (idA l)] w (.string (Xax (Xb5 l))):=by
 obtain⟨Y,s,D,E,F⟩:=info_parts Xgl;obtain⟨p,hp⟩:=xq w.heap.size;obtain⟨cs,n⟩:=xq (idA l);have r:=Hd hl;have HP:=Hd hp;have q:=Hd n;have S:=Hd (Xkh (w.alloc (.cells (idA l) 35)) w.heap.size 0 _ _ _ hl.len (heap_alloc_last w _) (Xg5 l));rw[←n] at S⊢;have B0:Hid (Bw w (w.alloc (.cells cs 35))):=Hd ((zR _ _).alloc (zL _) _);clear hl n;go_enter func37,ntmps37;go_upto_region 2 with(at_make;refine Xcc _ rfl _ _ _ rfl 5 Y _ 1 underlying82 s D E .i64 .i64 _ _ 0 32 rfl rfl rfl (by omega) (by omega) (by rw[F];omega) (by unfold maxLen;omega) ?_;intro Z u)
 have T:=World.ownsRow_made (base:=w.heap.size) (e:=5) (size:=1) (w.alloc (.cells cs 35)) Z 32 (by simp) (by unfold maxLen;omega) u;have A1:=Hd T;have K:Hid (Ld 35 ⟨w.heap.size,0,none⟩ ((w.alloc (.cells cs 35)).alloc (.cells Z 5)) (.agg cs)):=Hd (by rw[q.o];exact Xkh _ w.heap.size 0 _ _ _ r.o.len (Xad (heap_alloc_last w _)) (Xg5 l));clear T u S;refine wp_region_list ?_;simp only[];refine Xab 35 rfl _ rfl ⟨_,_,rfl,K.o,?_⟩;go_wp2_with fail;go_loopg [3,5,8] 16 (fun k v c i wr=>∃j:Nat,j≤16∧k=16-j∧i=.int .i64 (j:Int)∧OW w.heap.size (Xb5 (l.take j)) v wr∧Bw w wr);exact⟨0,by omega,rfl,rfl,by have:=A1.o;rw[World.size_alloc] at this;exact this,B0.o.alloc (by simp) _⟩;obtain⟨j,hj,rfl,rfl,a,b⟩:=hrel;by_cases h:j<16
 ·obtain⟨c,G⟩:=xq (l.getD j 0);have g:j<l.length:=by rw[r.o.len];exact h
  have O:c<256:=by rw[G,List.getD_eq_getElem?_getD,List.getElem?_eq_getElem g,Option.getD_some];exact r.o.lt _ (zG g)
  have ix:∀w,(Instr.index 35 (.agg cs) (.int .i64 (j:Int))).run prog w=.ok (.int .u8 (c:Int)) w:=fun w=>by rw[q.o];exact Xw1 r.o.len j h c G w
  have B:=Xct g G;have z:(Xb5 (l.take j)).length≤200000:=by rw[Xb9,List.length_take];omega
  have Q:w.heap.size≤wr.heap.size:=b.size;have L:=Hd B;have J:=Hd a;have I:=Hd b;clear B a b G g;obtain⟨xs,C⟩:=xq (Xb5 (l.take j));rw[←C] at L J z;clear C;obtain⟨x,W⟩:=xq (c/16);obtain⟨y,N⟩:=xq (c%16);have i1:=fun w=>Xji x (x:Int) rfl (by omega) w;have i2:=fun w=>Xji y (y:Int) rfl (by omega) w;have s1:(c:Int)/16=(x:Int):=by omega
  have s2:Go.bits .and .u8 (c:Int) 15=(y:Int):=by rw[N];exact Xij c O
  rw[←W,←N] at L;have fin:∀(v':Value) (w1:World) (o:Obj),w1.ownsRow w.heap.size 5 1 v' (xs.length+2) (xs.map U++[U (hxl x),U (hxl y)])→(wr.drew.alloc o).grownBy w1 u3.ownBlock→OW w.heap.size (Xb5 (l.take (j+1))) v' w1∧Bw w w1:=by intro v' w1 o ho hg;refine⟨?_,Xey I.o.drew Q (zL _) J.o.drew hg⟩;rw[L.o];exact OW.app (ys:=[hxl x,hxl y]) rfl rfl ho
  have H:=Hd fin;clear W N fin;go_wp2_with fail;clear ix;go_region_law ((refine step_append_lies _ (by rfl) _ _ _ (by rfl) w.heap.size 5 Y _ 1 1 underlying82 s D E F rfl (by omega) u3 xs.length (xs.map U) (by rfl) ((J.o.drew).alloc _) ⟨wr.heap.size,0,none⟩ 2 2 [.int .u8 (hxl x),.int .u8 (hxl y)] (by rfl) (by rfl) (World.news_of_block (cs:=#[.int .u8 (hxl x),.int .u8 (hxl y)]) (t:=5) (fr:=(0,0)) (zN wr _)) (by simp[Value.oneCell']) (by omega) (by unfold maxLen;omega) (by omega) (by simp;omega) (wr.heap.size+1) (by simp) ?_;intro gg V w1 f d M A))
  all_goals
   have R:=Hd (H.o _ w1 _ f d);clear f d M A;go_wp2_with fail;go_roundg (16-(j+1));exact⟨j+1,by omega,rfl,by go_num,R.o.1,R.o.2⟩;omega
 have m:l.take j=l:=List.take_of_length_le (by rw[r.o.len];omega);rw[m] at a;have X:=Xnu (P:=prog) 82 9 underlying82 underlying5 underlying9 a;have I:=Hd b;clear m a b;go_wp2_with fail;go_ret;exact⟨rfl,I.o⟩
theorem Ymf {c v:Nat} (h:hvl c=some v):v<16:=by
 unfold hvl at h;split at h;· simp at h;omega
 split at h;· simp at h;omega
 cases h
def hv (c:Nat):Nat:=(hvl c).getD 0
theorem Xp7 {c:Nat}(h:hdB c=true):hvl c=some (hv c)∧hv c<16∧hvz c=(hv c:Int):=by
 unfold hdB at h
 cases hh:hvl c with
 |none=>rw[hh] at h;cases h
 |some v=>exact⟨by simp[hv,hh],by simp[hv,hh];exact Ymf hh,by simp[hv,hvz,hh]⟩
def uh:List Nat→List Nat
 |a::b::t=>(16*hv a+hv b)::uh t
 |_=>[]
theorem Xhc:∀(n:Nat) (l:List Nat),l.length=2*n→l.all hdB=true→Xlm l=some (uh l)
 |0,l,h,_=>by obtain rfl:=List.length_eq_zero_iff.1 (by simpa using h);rfl
 |n+1,a::b::t,h,hd=>by simp only[List.all_cons,Bool.and_eq_true] at hd;have c:=Xhc n t (by simp at h;omega) hd.2.2;simp only[Xlm,(Xp7 hd.1).1,(Xp7 hd.2.1).1,c,uh]
 |n+1,[_],h,_=>by simp at h;omega
 |n+1,[],h,_=>by simp at h
theorem Xfk:∀(l:List Nat),l.all hdB=false→Xlm l=none
 |[],h=>by simp at h
 |[a],h=>rfl
 |a::b::t,h=>by
  simp only[Xlm];by_cases ha:hdB a=true
  ·by_cases hb:hdB b=true
   ·have c:t.all hdB=false:=by simpa [ha,hb] using h
    rw[Xfk t c];cases hvl a<;>cases hvl b<;>rfl
   unfold hdB at hb;simp at hb;rw[hb];cases hvl a<;>rfl
  unfold hdB at ha;simp at ha;rw[ha]
theorem Xju:∀(n:Nat) (l:List Nat),l.length=2*n→(uh l).length=n
 |0,l,h=>by obtain rfl:=List.length_eq_zero_iff.1 (by simpa using h);rfl
 |n+1,a::b::t,h=>by simp only[uh,List.length_cons];rw[Xju n t (by simp at h;omega)]
 |n+1,[_],h=>by simp at h;omega
 |n+1,[],h=>by simp at h
theorem Yia:∀(l:List Nat),l.all hdB=true→∀x∈uh l,x<256
 |[],_,x,c=>by simp[uh] at c
 |[a],_,x,c=>by simp[uh] at c
 |a::b::t,h,x,c=>by
  simp only[List.all_cons,Bool.and_eq_true] at h;simp only[uh,List.mem_cons] at c;rcases c with rfl|c;·have:=(Xp7 h.1).2.1;have:=(Xp7 h.2.1).2.1;omega
  exact Yia t h.2.2 x c
theorem Ygy:∀(n:Nat) (p:List Nat) (a b:Nat),p.length=2*n→uh (p++[a,b])=uh p++[16*hv a+hv b]
 |0,p,a,b,h=>by obtain rfl:=List.length_eq_zero_iff.1 (by simpa using h);rfl
 |n+1,x::y::t,a,b,h=>by simp only[List.cons_append,uh];rw[Ygy n t a b (by simp at h;omega)]
 |n+1,[_],_,_,h=>by simp at h;omega
 |n+1,[],_,_,h=>by simp at h
theorem Yh9 {l:List Nat}{j a b:Nat}(h:2*j+1<l.length)(ha:a=l.getD (2*j) 0)(hb:b=l.getD (2*j+1) 0):uh (l.take (2*(j+1)))=uh (l.take (2*j))++[16*hv a+hv b]:=by
 rw[List.getD_eq_getElem?_getD,List.getElem?_eq_getElem (by omega),Option.getD_some] at ha hb;have e:l.take (2*(j+1))=l.take (2*j)++[a,b]:=by rw[show 2*(j+1)=2*j+1+1 by omega,List.take_succ_eq_append_getElem h,List.take_succ_eq_append_getElem (by omega),←ha,←hb];simp
 rw[e,Ygy j _ a b (by rw[List.length_take];omega)]
theorem Yh7 (w:World)(c:Nat)(hc:c<256):Rx 207 #[.int .u8 (c:Int)] w (.bool (hdB c)):=by
 have I:=Hd (fun w=>Yar w c hc);have D:Hid (hdB c=decide (0≤hvz c)):=Hd (by unfold hdB hvz;cases hvl c<;>simp);obtain⟨r,a⟩:=xq (hvz c);rw[←a] at I D;clear a;go_enter func207,ntmps207;go_wp2_with (go_at_call 147;refine(I.o _).mono ?_;rintro e w' ⟨rfl,rfl⟩)
 go_ret;exact⟨by rw[D.o];rfl,rfl⟩
theorem Xyd (w:World)(c:Nat)(hc:c<256)(hd:hdB c=true):Rx 208 #[.int .u8 (c:Int)] w (.int .u8 (hv c:Nat)):=by
 have I:=Hd (fun w=>Yar w c hc);rw[(Xp7 hd).2.2] at I;have a:=(Xp7 hd).2.1;obtain⟨r,b⟩:=xq (hv c);rw[←b] at I a⊢;have d:IntKind.u8.wrap (r:Int)=(r:Int):=by rw[IntKind.wrap_u8];omega
 clear b hd;go_enter func208,ntmps208;go_wp2_with (go_at_call 147;refine(I.o _).mono ?_;rintro e w' ⟨rfl,rfl⟩)
 go_ret;exact⟨rfl,rfl⟩
theorem Xyx (s:ByteArray)(w:World)(hs:s.size≤1000000)(hd:(bs s).all hdB=true):Rx 148 #[.string s,.int .i64 0,.func (.func 207) #[] #[]] w (.int .i64 (s.size:Int)):=by
 have g:=Hd hd;clear hd;go_enter func148,ntmps148;go_wp2_with fail;go_loopg [1] s.size (fun k i wr=>∃j:Nat,j≤s.size∧k=s.size-j∧i=.int .i64 (j:Int)∧w=wr);exact⟨0,by omega,rfl,rfl,rfl⟩;obtain⟨j,l,rfl,rfl,rfl⟩:=hrel;by_cases hlt:j<s.size
 ·obtain⟨c,d⟩:=xq ((bs s).getD j 0);have f:c<256:=by rw[d];exact Xbd s j
  have a:hdB c=true:=by
   have b:j<(bs s).length:=by rw[Xac];exact hlt
   rw[d,List.getD_eq_getElem?_getD,List.getElem?_eq_getElem b,Option.getD_some];exact List.all_eq_true.1 g.o _ (zG b)
  have m:∀w,(Instr.index 9 (.string s) (.int .i64 (j:Int))).run prog w=.ok (.int .u8 (c:Int)) w:=fun w=>by rw[Xbj 9 underlying9 s .i64 j j rfl hlt,d]
  have U:=Hd (fun w=>Yh7 w c f);rw[a] at U;have h:decide ((j:Int)<(s.size:Int))=true:=by simpa using hlt
  clear d a;go_wp2_with (go_at_call 207;refine(U.o _).mono ?_;rintro e w' ⟨rfl,rfl⟩)
  go_roundg (s.size-(j+1));exact⟨j+1,by omega,rfl,by go_num,rfl⟩;omega
 obtain rfl:j=s.size:=by omega
 have h:decide ((s.size:Int)<(s.size:Int))=false:=by simp
 go_wp2_with fail;go_ret;exact⟨rfl,rfl⟩
def Ym8 (l:List Nat)(n:Nat)(w:World)(e:Ending)(w':World):Prop:=
 ∃v,e=.returned (.tuple #[v,.int .i64 0])∧w'.ownsRow w.heap.size 5 1 v n ((uh l).map U)∧Bw w w'
theorem Xyh (s:ByteArray)(n:Nat)(w:World)(hn:s.size=2*n)(hs:s.size≤1000000)(hd:(bs s).all hdB=true):Calls prog 152 #[.string s] w (Ym8 (bs s) n w):=by
 obtain⟨i0,I,N,O,P⟩:=info_parts Xgl;have SK:=Hd (fun w=>Xyx s w hs hd);have HD:=Hd hd;have S:=Hd hn;have q:=Hd (Xac s);have UL:Hid ((uh (bs s)).length=n):=Hd (Xju n _ (by rw[Xac];exact hn));have q0:(s.size:Int)%2=0:=by omega
 have q1:(s.size:Int)/2=(n:Int):=by omega
 have d1:decide ((s.size:Int)<(s.size:Int))=false:=by simp
 have aC:n≤500000:=by omega
 clear hd hn;go_enter func152,ntmps152;go_wp2_with (first
  |(go_at_call 148;refine(SK.o _).mono ?_;rintro e w' ⟨rfl,rfl⟩)
  |(at_make;refine Xcc _ rfl _ _ _ rfl 5 i0 _ 1 underlying82 I N O .i64 .i64 _ _ 0 n rfl rfl rfl (by omega) (by omega) (by rw[P];omega) (by unfold maxLen;omega) ?_;intro cs H))
 have a1:=World.ownsRow_made (base:=w.heap.size) (e:=5) (size:=1) w cs n (zL _) (by unfold maxLen;omega) H;have A1:=Hd a1;clear a1 H;go_loopg [6,7] n (fun k v i wr=>∃j:Nat,j≤n∧k=n-j∧i=.int .i64 ((2*j:Nat):Int)∧OW w.heap.size (uh ((bs s).take (2*j))) v wr∧Bw w wr);exact⟨0,by omega,rfl,rfl,A1.o,(zR _ _).alloc (zL _) _⟩;obtain⟨j,hj,rfl,rfl,d,f⟩:=hrel;by_cases h:j<n
 ·obtain⟨a,C⟩:=xq ((bs s).getD (2*j) 0);obtain⟨b,F⟩:=xq ((bs s).getD (2*j+1) 0);have Z:s.size=2*n:=S.o;have V:a<256:=by rw[C];exact Xbd s _
  have X:b<256:=by rw[F];exact Xbd s _
  have u:∀k c,k<s.size→c=(bs s).getD k 0→hdB c=true:=fun k c hk hc=>by
   have J:k<(bs s).length:=by rw[q.o];exact hk
   rw[hc,List.getD_eq_getElem?_getD,List.getElem?_eq_getElem J,Option.getD_some];exact List.all_eq_true.1 HD.o _ (zG J)
  have A:=u (2*j) a (by omega) C;have B:=u (2*j+1) b (by omega) F;have xa:∀w,(Instr.index 9 (.string s) (.int .i64 ((2*j:Nat):Int))).run prog w=.ok (.int .u8 (a:Int)) w:=fun w=>by rw[Xbj 9 underlying9 s .i64 _ (2*j) rfl (by omega),C]
  have aE:∀w,(Instr.index 9 (.string s) (.int .i64 (2*(j:Int)))).run prog w=.ok (.int .u8 (a:Int)) w:=fun w=>by rw[Xbj 9 underlying9 s .i64 _ (2*j) (by omega) (by omega),C]
  have xb:∀w,(Instr.index 9 (.string s) (.int .i64 (2*(j:Int)+1))).run prog w=.ok (.int .u8 (b:Int)) w:=fun w=>by rw[Xbj 9 underlying9 s .i64 _ (2*j+1) (by omega) (by omega),F]
  have UA:=Hd (fun w=>Xyd w a V A);have UB:=Hd (fun w=>Xyd w b X B);have E:=(Xp7 A).2.1;have G:=(Xp7 B).2.1;have D:=Hd (Yh9 (l:=bs s) (j:=j) (by rw[q.o];omega) C F);have K:(uh ((bs s).take (2*j))).length≤500000:=by rw[Xju j _ (by rw[List.length_take,q.o];omega)];omega
  obtain⟨x,hx⟩:=xq (hv a);obtain⟨y,hy⟩:=xq (hv b);rw[←hx] at UA E D;rw[←hy] at UB G D;obtain⟨xs,M⟩:=xq (uh ((bs s).take (2*j)));rw[←M] at D K d;have Q:=Hd d;have R:=Hd f;have L:w.heap.size≤wr.heap.size:=f.size;obtain⟨z,hz⟩:=xq (16*x+y);rw[←hz] at D;have aA:z<256:=by omega
  have s1:IntKind.u8.wrap ((x:Int)*16)=(x:Int)*16:=by rw[IntKind.wrap_u8];omega
  have s2:Go.bits .or .u8 ((x:Int)*16) (y:Int)=(z:Int):=by rw[bits_join .u8 8 (by decide) wraps_u8 4 _ _ (by omega) (by omega) (by omega) (by omega) (by omega) (by omega)];omega
  have d2:decide ((2*(j:Int))<(s.size:Int))=true:=by simp;omega
  have w1:IntKind.i64.wrap (2*(j:Int)+1)=2*(j:Int)+1:=IntWalk.i64_in _ (by omega);have aD:IntKind.i64.wrap (((2*j:Nat):Int)+1)=2*(j:Int)+1:=(IntWalk.i64_in _ (by omega)).trans (by omega);have RN:Hid (∀(v':Value) (w1:World) (o:Obj),w1.ownsRow w.heap.size 5 1 v' (xs.length+1) (xs.map U++[U z])→(wr.drew.alloc o).grownBy w1 u6.ownBlock→OW w.heap.size (uh ((bs s).take (2*(j+1)))) v' w1∧Bw w w1):=Hd (fun v' w1 o ho hg=>⟨by rw[D.o];exact OW.app (ys:=[z]) rfl rfl ho,Xey R.o.drew L (zL _) Q.o.drew hg⟩);have HZ:=Hd hz;have aB:w.heap.size≤wr.drew.heap.size:=L;have T:Hid (OW w.heap.size xs u6 wr.drew):=Q;clear hx hy M d f hz C F A B u Z;go_wp2_with fail
  go_region_held3 (fun w'=>True) (trivial) (first|((refine step_append_lies _ (by rfl) _ _ _ (by rfl) w.heap.size 5 i0 _ 1 1 underlying82 I N O P rfl (by omega) u6 xs.length (xs.map U) rfl (T.o.alloc _) ⟨wr.drew.heap.size,0,none⟩ 1 1 [.int .u8 z] rfl rfl (World.news_of_block (cs:=#[.int .u8 z]) (t:=5) (fr:=(0,0)) (zN wr.drew _)) (by simp[Value.oneCell']) (by omega) (by unfold maxLen;omega) (by omega) (by simp;omega) _ rfl ?_;intro g cap wq p m W Y))|(go_at_call 208;((with_reducible refine(UA.o _).mono ?_);rintro e w' ⟨rfl,rfl⟩))|(go_at_call 208;((with_reducible refine(UB.o _).mono ?_);rintro e w' ⟨rfl,rfl⟩)))
  all_goals
   have F1:=Hd (RN.o _ wq _ p m);clear p m W Y;go_wp2_with fail;go_roundg (n-(j+1));exact⟨j+1,by omega,rfl,by go_num,F1.o.1,F1.o.2⟩;omega
 obtain rfl:j=n:=by omega
 have d2:decide ((2*(j:Int))<(s.size:Int))=false:=by have:=S.o;simp;omega
 have r:(bs s).take (2*j)=bs s:=List.take_of_length_le (by rw[q.o,S.o];exact zL _);rw[r] at d;have Q:=Hd d;have R:=Hd f;clear r d f;go_wp2_with fail;go_ret2;refine⟨u6,rfl,?_,R.o⟩;have:=Q.o;unfold OW at this;rwa [UL.o] at this
theorem Xai {P:Program}(w:World)(g off:Nat)(ty:TypeId)(ids:Array Value)(d:TypeDesc) (hu:P.underlying ty=some d) (hd:(match d with|.struct _|.array _ _=>true|_=>false)=true) (hi:(P.info? ty).map (·.size)=some ids.size) (hp:∀j u,ids[j]?=some u→w.cell? ⟨g,off+j,none⟩=some u):(loadVar ty ⟨g,off,none⟩).run P w=.ok (.agg ids) w:=by
 have c:(loadCells ⟨g,off,none⟩ ids.toList.length).run P w=.ok ids.toList.toArray w:=
  run_loadCells_list (P:=P) w ⟨g,off,none⟩ ids.toList (fun j u hv=>by
   have a:(⟨g,off,none⟩:Addr).add j=⟨g,off+j,none⟩:=by unfold Addr.add;split<;>simp_all
   rw[a];exact hp j u (by simpa using hv))
 cases hq:P.info? ty with
 |none=>simp[hq] at hi
 |some i=>
  have e:i.size=ids.size:=by simpa [hq] using hi
  have b:(isAgg ty).run P w=.ok true w:=by unfold isAgg;rw[Sem.run_bind,run_underlying hu w];cases d<;>simp_all
  simp only[Array.length_toList,Array.toArray_toList] at c;simp[loadVar,Sem.run_bind,b,sizeOf,typeInfo,hq,e,c]
theorem Rd.cells {w:World}{b off:Nat}{l:List Nat}(h:Rd w (some ⟨b,off,none⟩) l):∀j u,(idA l)[j]?=some u→w.cell? ⟨b,off+j,none⟩=some u:=by intro j u a;unfold idA at a;rw[List.getElem?_toArray] at a;obtain⟨c,rfl⟩:=List.getElem?_eq_some_iff.1 a;rw[List.length_map] at c;obtain⟨g,d,e,_,f⟩:=h.at_ (by omega);cases e;rw[f j c];simp
theorem Yha (w:World){l:List Nat}(hl:∀x∈l,x<256){t:TypeId}{fr:Nat×Nat}{b:Nat}(hb:w.heap[b]?=some (.cells (idA l) t fr)):Rd w (some ⟨b,0,none⟩) l:=
 ⟨hl,fun _=>⟨b,0,rfl,zY hb,fun i hi=>by rw[Nat.zero_add,cell_of_row w b i _ _ _ hb];simp[idA,hi]⟩⟩
theorem Xtw:(prog.info? 184).map (·.size)=some 64:=by kernel_rfl
theorem Xec (l:List Nat):(idA l).all (·.oneCell')=true:=by rw[Array.all_eq_true'];intro x a;unfold idA at a;simp at a;obtain⟨n,_,rfl⟩:=a;rfl
theorem Xah {P:Program}{ops:Array Oper}{rest:List Oper}{o:Oper}{a:Act}{w:World}{Q:Exit→Act→World→Prop}(t:TypeId)(hgd:o.guard=none)(ho:o.op=.build t #[])(h:∃v,(Instr.build t #[]).run P w=.ok v w∧wpList P ops Q rest (a.put o.dst v) w):wpList P ops Q (o::rest) a w:=by obtain⟨v,b,c⟩:=h;exact Xaz hgd (Xdd ho (by simpa using b)) c
theorem Xus {l:List Nat}(h:IdOk l):∀x∈Xb5 l,x<256:=Ya0 h.lt
theorem Xxb (w:World){l:List Nat}(hl:IdOk l):zJ 127 #[.agg (idA l)] w (.agg (idA (Xb5 l))):=by
 obtain⟨cs,j⟩:=xq (idA l);have A:Hid (∀(w':World),w'.heap[w.heap.size]?=some (.cells cs 26 (0,0))→Calls prog 179 #[.slice (some ⟨w.heap.size,0,none⟩) 32 32] w' fun e w''=>e=.returned (.string (Xax (Xb5 l)))∧Below w'.heap.size w' w''):=Hd (fun w' h=>by have:=Yjn w' (some ⟨w.heap.size,0,none⟩) 32 l (by rw[hl.len];omega) (Yha w' hl.lt (by rw[j] at h;exact h));rw[hl.len] at this;exact this);have D:(Xax (Xb5 l)).size=64:=by rw[Xat,Xb9,hl.len]
 have z:bs (Xax (Xb5 l))=Xb5 l:=Xd2 _ (Xus hl);have q:(Xb5 l).length=64:=by rw[Xb9,hl.len]
 have p:=Hd D;have n:=Hd z;have a:=Hd q;rw[←j];clear j D z q hl;go_enter func127,ntmps127;go_wp2_with fail;refine(A.o _ (by first|exact Xad (zN w _)|exact zN w _)).mono ?_;rintro e w1 ⟨rfl,g⟩;obtain⟨s,F⟩:=xq (Xax (Xb5 l));rw[←F] at p n⊢;obtain⟨W,cap,x,k,i,J⟩:=Xqw s w1;rw[p.o] at x;obtain⟨m,c,d⟩:∃m,w1.heap[w.heap.size+1]?=some (.cells m 184 (0,0))∧m.size=64:=
  ⟨_,(g.block (w.heap.size+1) (by simp)).trans (by have:=zN (w.alloc (.cells cs 26)) (.cells (Array.replicate 64 (.int .u8 0)) 184);rw[World.size_alloc] at this;exact this),rfl⟩
 have r:Bw w w1:=(((zR _ w).alloc (zL _) _).alloc (by simp) _).trans (g.mono (by simp;omega));have K:=Hd c;have t:w.heap.size+1<w1.heap.size:=zY c;have f:W.heap[w.heap.size+1]?=some (.cells m 184 (0,0)):=(i.block _ t).trans c;have G:=Hd (r.trans (i.mono (by omega)));have B:Hid (Ld 184 ⟨w1.heap.size,0,none⟩ W (.agg (idA (Xb5 l)))):=Hd (by rw[n.o] at k;exact Xai W w1.heap.size 0 _ _ _ underlying184 rfl (by rw[Xaf,a.o];exact Xtw) k.cells);have C:=Hd (run_storeVar_row (P:=prog) W (w.heap.size+1) _ 184 m (idA (Xb5 l)) f (by rw[Xaf,a.o];exact Xtw) (by rw[Xaf,a.o,d]) (Xec _));have E:=Hd (setRow_heap W (w.heap.size+1) m (idA (Xb5 l)) _ _ f);have y:=Hd (below_setRow G.o (show w.heap.size≤w.heap.size+1 by omega) (idA (Xb5 l)));obtain⟨xs,b⟩:=xq (idA (Xb5 l));rw[←b] at B C E y;have u:=Hd b;have H:Hid (xs.size=64):=Hd (by rw[b,Xaf,a.o]);clear g r c f d k i J b A F t;have I:∀w,(Instr.arrayAt 184 (.slice (some ⟨w1.heap.size,0,none⟩) 64 cap)).run prog w=.ok (.pointer (some ⟨w1.heap.size,0,none⟩)) w:=fun w=>by kernel_rfl
 go_wp2_with (first
  |((with_reducible refine Xab 184 rfl _ rfl ?_);refine⟨_,_,rfl,B.o,?_⟩)
  |((with_reducible refine Xaa 184 rfl _ _ rfl ?_);refine⟨_,_,_,rfl,rfl,C.o,?_⟩))
 exact zP (v:=.agg xs) (results_cell_row results127 _ _ (w.heap.size+1) _ _ _ _ rfl E.o underlying184 rfl (by rw[H.o];exact Xtw)) rfl ⟨by rw[u.o],y.o⟩
theorem Xf7 (w:World){l:List Nat}(hl:IdOk l):zJ 82 #[.agg (idA l)] w (.bool (decide (l=zero32))):=by
 obtain⟨cs,a⟩:=xq (idA l);obtain⟨e,c⟩:=xq (idA zero32);have d:IdOk zero32:=⟨by simp[zero32],fun x hx=>by simp[zero32] at hx;omega⟩
 have i:Hid (Ld 26 ⟨w.heap.size,0,none⟩ (w.alloc (.cells cs 26)) (.agg cs)):=Hd (by rw[a];exact Xkg _ w.heap.size 0 _ _ _ hl.len (heap_alloc_last w _) (Xg5 l));have h:Hid (∀w,(Instr.build 26 #[]).run prog w=.ok (.agg e) w):=Hd (fun w=>by rw[c];kernel_rfl);have f:Hid (∀w,(Op.equal 26 (.agg cs) (.agg e)).run prog w=.ok (decide (l=zero32)) w):=Hd (fun w=>by rw[a,c];exact Yfq w hl d);obtain⟨b,g⟩:=xq (decide (l=zero32));rw[←g] at f⊢;rw[←a];clear a c g hl;go_enter func82,ntmps82;go_upto_region 1 with fail;refine wp_region_list ?_;simp only[];refine Xab 26 rfl _ rfl ⟨_,_,rfl,i.o,?_⟩;refine Xah 26 rfl rfl ⟨_,h.o _,?_⟩;refine Xc8 26 rfl _ _ rfl Xn6 ⟨cs,e,b,by kernel_rfl,by kernel_rfl,f.o _,?_⟩;go_wp2_with fail;go_ret;exact⟨rfl,(zR _ _).alloc (zL _) _⟩
theorem Yj2 (w:World)(b off cap:Nat)(l:List Nat)(h:Rd w (some ⟨b,off,none⟩) l):(convert 82 9 (.slice (some ⟨b,off,none⟩) l.length cap)).run prog w=.ok (.string (Xax l)) w:=by refine Xmu w 82 5 9 underlying82 underlying5 underlying9 b off cap l ?_;intro i hi;obtain⟨d,a,e,_,c⟩:=h.at_ (by omega);cases e;rw[c i hi]
theorem Xtn (a b:List Nat):Xax a++Xax b=Xax (a++b):=by apply ByteArray.ext;simp[Xax]
theorem Xmf (w:World){l:List Nat}(hl:IdOk l):zJ 79 #[.agg (idA l)] w (.string (Xax (Xfi l))):=by
 obtain⟨cs,f⟩:=xq (idA l);have D:=Hd (Xxb (w.alloc (.cells cs 26)) hl);have j:Hid (Ld 26 ⟨w.heap.size,0,none⟩ (w.alloc (.cells cs 26)) (.agg cs)):=Hd (by rw[f];exact Xkg _ w.heap.size 0 _ _ _ hl.len (heap_alloc_last w _) (Xg5 l));have c:Hid ((Xb5 l).length=64):=Hd (by rw[Xb9,hl.len]);have h:=Hd hl;have MF:Hid (Xax (Xfi l)=Xax [60]++Xax (Xb5 l)++Xax sHash):=Hd (by rw[Xtn,Xtn];rfl);rw[←f] at D⊢;clear f hl;go_enter func79,ntmps79;go_upto_region 1 with fail;refine wp_region_list ?_;simp only[];refine Xab 26 rfl _ rfl ⟨_,_,rfl,j.o,?_⟩;go_wp2_with fail;refine D.o.mono ?_;rintro e w1 ⟨rfl,d⟩;obtain⟨xs,a⟩:=xq (idA (Xb5 l));have n:=Hd a;have b:xs.size=64:=by rw[a,Xaf,c.o]
 have p:Hid (∀zz:Array Value,zz.size=64→Sv 184 ⟨w1.heap.size,0,none⟩ (.agg xs) (w1.alloc (.cells zz 184)) (w1.alloc (.cells xs 184))):=Hd (fun zz hz=>run_storeVar_new w1 184 zz xs (by rw[b];exact Xtw) (by rw[hz,b]) (by rw[a];exact Xec _));have g:=Yj2 (w1.alloc (.cells xs 184)) w1.heap.size 0 64 (Xb5 l) (Yha _ (Xus (h.o)) (by rw[a];exact zN w1 _));rw[c.o] at g;have m:Hid (Bw w (w1.alloc (.cells xs 184))):=Hd ((((zR _ w).alloc (zL _) _).trans (d.mono (by simp))).alloc (by have:=d.size;simp at this;omega) _);rw[←a];obtain⟨s,i⟩:=xq (Xax (Xb5 l));have q:s.size≤64:=by rw[i,Xat,c.o];exact zL _
 have k:((⟨#[60]⟩:ByteArray)++s).size≤65:=by simp[ByteArray.size_append];show 1+s.size≤65;omega
 rw[←i] at g MF;clear d a b i D j;go_wp2_with ((with_reducible refine Xaa 184 rfl _ _ rfl ?_);refine⟨_,_,_,rfl,rfl,p.o _ rfl,?_⟩)
 go_ret;exact⟨by rw[MF.o];rfl,m.o⟩
theorem Xkz {l:List Nat}{n j:Nat}(h:j<n):(l.take n).getD j 0=l.getD j 0:=by simp only[List.getD_eq_getElem?_getD,List.getElem?_take,qP h]
theorem Xft {l:List Nat}(n j:Nat):(l.drop n).getD j 0=l.getD (n+j) 0:=by simp only[List.getD_eq_getElem?_getD,List.getElem?_drop]
theorem Xg8 {p:Nat→Bool}{l:List Nat}(h:∀j,j<l.length→p (l.getD j 0)=true):l.all p=true:=by rw[List.all_eq_true];intro x a;obtain⟨i,hi,rfl⟩:=List.getElem_of_mem a;have:=h i hi;rwa [List.getD_eq_getElem?_getD,List.getElem?_eq_getElem hi,Option.getD_some] at this
theorem Xmg {l:List Nat}(h71:l.length=71)(h:∀j,j<71→Xgq j (l.getD j 0)=true):((l.drop 1).take 64).all hdB=true:=by refine Xg8 fun j hj=>?_;rw[List.length_take,List.length_drop] at hj;rw[Xkz (by omega),Xft];have:=h (1+j) (by omega);unfold Xgq at this;rwa [qN (by omega),qP (by omega)] at this
theorem Xui {l:List Nat}(h71:l.length=71)(h:∀j,j<71→Xgq j (l.getD j 0)=true):Xlj l=some (uh ((l.drop 1).take 64)):=by
 have a:=h 0 (by omega);unfold Xgq at a;rw[qP (by omega),decide_eq_true_iff] at a;have b:l.drop 65=sHash:=by
  apply List.ext_getElem;·rw[List.length_drop,h71];rfl
  intro j d c;have e:j<6:=c;have:=h (65+j) (by omega);unfold Xgq at this;rw[qN (by omega),qN (by omega),decide_eq_true_iff,show 65+j-65=j by omega,←Xft] at this;rw[List.getD_eq_getElem?_getD,List.getElem?_eq_getElem d,Option.getD_some,List.getD_eq_getElem?_getD,List.getElem?_eq_getElem c,Option.getD_some] at this;exact this
 unfold Xlj;rw[qP ⟨h71,a,b⟩];exact Xhc 32 _ (by rw[List.length_take,List.length_drop,h71];rfl) (Xmg h71 h)
theorem Xz9 {l:List Nat}{j:Nat}(hj:j<71)(hl:j<l.length)(h:Xgq j (l.getD j 0)=false):Xlj l=none:=by
 unfold Xlj;split
 ·rename_i hc;obtain⟨d,c,a⟩:=hc;by_cases h1:j<1
  ·obtain rfl:j=0:=by omega
   unfold Xgq at h;rw[qP (by omega),c] at h;exact absurd h (by decide)
  by_cases h2:j<65
  ·unfold Xgq at h;rw[qN h1,qP h2] at h;refine Xfk _ ?_;rw[List.all_eq_false];refine⟨l.getD j 0,?_,by rw[h];decide⟩;have b:j-1<((l.drop 1).take 64).length:=by rw[List.length_take,List.length_drop];omega
   have:((l.drop 1).take 64)[j-1]=l.getD j 0:=by have e:=Xkz (l:=l.drop 1) (n:=64) (j:=j-1) (by omega);rw[Xft,show 1+(j-1)=j by omega] at e;rw[←e,List.getD_eq_getElem?_getD,List.getElem?_eq_getElem b,Option.getD_some]
   rw[←this];exact zG b
  unfold Xgq at h;rw[qN h1,qN h2,decide_eq_false_iff_not] at h;exfalso;apply h;rw[←a,Xft,show 65+(j-65)=j by omega]
 rfl
theorem Xnz {l:List Nat}(h:l.length≠71):Xlj l=none:=by unfold Xlj;rw[qN (fun e=>h e.1)]
theorem Xuh {l id:List Nat}(h:Xlj l=some id):IdOk id:=by
 unfold Xlj at h;split at h
 ·rename_i hc;by_cases hd:((l.drop 1).take 64).all hdB=true;·rw[Xhc 32 _ (by rw[List.length_take,List.length_drop,hc.1];rfl) hd] at h;cases h;exact⟨Xju 32 _ (by rw[List.length_take,List.length_drop,hc.1];rfl),Yia _ hd⟩
  rw[Xfk _ (by simpa using hd)] at h;cases h
 cases h
def Xm4 (l:List Nat)(w:World)(e:Ending)(w':World):Prop:=
 ∃(a er:Int),(match Xlj l with
  |some id=>e=.returned (.tuple #[.agg (idA id),.int .i64 a,.int .i64 0])
  |none=>e=.returned (.tuple #[.agg (idA zero32),.int .i64 a,.int .i64 er])∧er≠0)∧Bw w w'
theorem Xay {P:Program}{fn:Func}{p u v:Tmp}{ty:TypeId}(h:fn.results=#[.cell p ty,.tmp u,.tmp v])(tmps:Array Value)(w:World)(g:Nat)(t:TypeId)(cs:Array Value)(fr:Nat×Nat)(d:TypeDesc) (hp:tmps.getD p undef=.pointer (some ⟨g,0,none⟩)) (hg:w.heap[g]?=some (.cells cs t fr)) (hu:P.underlying ty=some d) (hd:(match d with|.struct _|.array _ _=>true|_=>false)=true) (hi:(P.info? ty).map (·.size)=some cs.size):(results fn tmps).run P w=.ok (.tuple #[.agg cs,tmps.getD u undef,tmps.getD v undef]) w:=by
 have a:tmps[p]?.getD undef=.pointer (some ⟨g,0,none⟩):=by simpa using hp
 simp[results,h,a,asAddr,run_loadVar_row w g t ty cs fr d hg hu hd hi]
theorem zero_ok:IdOk zero32:=⟨by simp[zero32],fun x hx=>by simp[zero32] at hx;omega⟩
theorem Xwo (s:ByteArray)(w:World)(hs:s.size≤1000000):Calls prog 102 #[.string s] w (Xm4 (bs s) w):=by
 obtain⟨d,l⟩:=xq (idA zero32);have m:=Hd (Xac s);have Z:=Hd l;have G:d.size=32:=by rw[l];rfl
 have K:=Hd G;have R:Hid (∀w,(Instr.build 26 #[]).run prog w=.ok (.agg d) w):=Hd (fun w=>by rw[l];kernel_rfl);have y:Hid (Sv 26 ⟨w.heap.size,0,none⟩ (.agg d) (w.alloc (.cells d 26)) (w.alloc (.cells d 26))):=Hd (run_storeVar_new w 26 d d (by rw[G];exact Xbh) rfl (by rw[l];exact Xec _));have t:Hid (∀(tmps:Array Value),tmps.getD 2 undef=.pointer (some ⟨w.heap.size,0,none⟩)→(results Tryz.f102 tmps).run prog (w.alloc (.cells d 26))=.ok (.tuple #[.agg d,tmps.getD 3 undef,tmps.getD 4 undef]) (w.alloc (.cells d 26))):=Hd (fun tmps h=>
  Xay results102 tmps _ w.heap.size _ d _ _ h (heap_alloc_last w _) underlying26 rfl (by rw[K.o];exact Xbh))
 have B0:Hid (Bw w (w.alloc (.cells d 26))):=Hd ((zR _ _).alloc (zL _) _);have S:Hid (Xlj (bs s)=none→∀a er:Int,er≠0→Xm4 (bs s) w (.returned (.tuple #[.agg d,.int .i64 a,.int .i64 er])) (w.alloc (.cells d 26))):=Hd (fun h a er he=>⟨a,er,by rw[h,Z.o];exact⟨rfl,he⟩,B0.o⟩);have H:Hid (∀j,j<71→j<s.size→Xgq j ((bs s).getD j 0)=false→Xlj (bs s)=none):=Hd (fun j h1 h2 h3=>Xz9 h1 (by rw[m.o];exact h2) h3);obtain⟨r,O⟩:∃r:Nat,r=min s.size 71:=⟨_,rfl⟩
 have aC:r≤s.size:=by omega
 have aD:r≤71:=by omega
 have X:=Hd O;have mi:min (s.size:Int) 71=(r:Int):=by omega
 have n:Hid (w.alloc (.cells (Array.replicate 32 (.int .u8 0)) 26)=w.alloc (.cells d 26)):=Hd (by rw[l];rfl);clear l G O;go_enter func102,ntmps102;go_wp2_with fail;go_loopg [5,10] r (fun k x i wr=>∃j:Nat,j≤r∧k=r-j∧i=.int .i64 (j:Int)∧Hid (∀q,q<j→Xgq q ((bs s).getD q 0)=true)∧w.alloc (.cells d 26)=wr);exact⟨0,by omega,rfl,rfl,(fun q hq=>by omega),n.o.symm⟩;obtain⟨j,hj,rfl,rfl,hg,rfl⟩:=hrel;by_cases hlt:j<r
 ·obtain⟨c,T⟩:=xq ((bs s).getD j 0);have aA:c<256:=by rw[T];exact Xbd s j
  have xn:∀w,(Instr.index 9 (.string s) (.int .i64 (j:Int))).run prog w=.ok (.int .u8 (c:Int)) w:=fun w=>by rw[Xbj 9 underlying9 s .i64 j j rfl (by omega),T]
  have F:=Hd (fun w=>Yfn w j c (by omega) aA);obtain⟨b,hb⟩:=xq (Xgq j c);rw[←hb] at F;have HB:=Hd hb;have HC:=Hd T;clear T hb;cases b
  ·have I:=Hd (S.o (H.o j (by omega) (by omega) (by rw[←HC.o,←HB.o])));go_wp2_with (first
    |(go_at_call 151;refine(F.o _).mono ?_;rintro e w' ⟨rfl,rfl⟩)
    |((with_reducible refine Xah 26 rfl rfl ?_);refine⟨_,R.o _,?_⟩)
    |((with_reducible refine Xaa 26 rfl _ _ rfl ?_);refine⟨_,_,_,rfl,rfl,y.o,?_⟩))
   exact zP (t.o _ rfl) rfl (I.o _ 6 (by decide))
  have G2:Hid (∀q,q<j+1→Xgq q ((bs s).getD q 0)=true):=Hd (fun q hq=>by
   by_cases e:q=j;·rw[e,←HC.o,←HB.o]
   exact hg.o q (by omega))
  go_wp2_with (go_at_call 151;refine(F.o _).mono ?_;rintro e w' ⟨rfl,rfl⟩)
  go_roundg (r-(j+1));exact⟨j+1,by omega,rfl,by go_num,G2,rfl⟩;omega
 obtain rfl:j=r:=by omega
 by_cases h1:s.size<71
 ·have I:=Hd (S.o (Xnz (by rw[m.o];omega)));go_wp2_with (first
   |((with_reducible refine Xah 26 rfl rfl ?_);refine⟨_,R.o _,?_⟩)
   |((with_reducible refine Xaa 26 rfl _ _ rfl ?_);refine⟨_,_,_,rfl,rfl,y.o,?_⟩))
  exact zP (t.o _ rfl) rfl (I.o _ 4 (by decide))
 by_cases h2:71<s.size
 ·have I:=Hd (S.o (Xnz (by rw[m.o];omega)));go_wp2_with (first
   |((with_reducible refine Xah 26 rfl rfl ?_);refine⟨_,R.o _,?_⟩)
   |((with_reducible refine Xaa 26 rfl _ _ rfl ?_);refine⟨_,_,_,rfl,rfl,y.o,?_⟩))
  exact zP (t.o _ rfl) rfl (I.o _ 5 (by decide))
 have L:s.size=71:=by omega
 have N:j=71:=by have:=X.o;omega
 have ME:bs (s.extract 1 65)=((bs s).drop 1).take 64:=by rw[Xb3,List.drop_take]
 have W:∀q,q<71→Xgq q ((bs s).getD q 0)=true:=fun q hq=>hg.o q (by omega);have B:=Hd (Xui (by rw[m.o];exact L) W);have DG:=Xmg (by rw[m.o];exact L) W;have UX:=Hd (Xyh (s.extract 1 65) 32 (w.alloc (.cells d 26)) (by rw[ByteArray.size_extract];omega) (by rw[ByteArray.size_extract];omega) (by rw[ME];exact DG));rw[ME] at UX;have A:=Hd (Xuh B.o);clear ME W DG hg N R y;go_wp2_with fail;refine UX.o.mono ?_;rintro e w1 ⟨v,rfl,f,C⟩;obtain⟨E,Q⟩:=xq (uh (((bs s).drop 1).take 64));rw[←Q] at f B A;obtain⟨g,cap,rfl⟩:=ownsRow_succ f;have p:w1.ownsRow (w.alloc (.cells d 26)).heap.size 5 1 (.slice (some ⟨g,0,none⟩) 32 cap) 32 (E.map U):=f;have J:Hid (E.length=32):=Hd A.o.len;have LD:Hid (Ld 26 ⟨g,0,none⟩ w1 (.agg (idA E))):=Hd (Xai w1 g 0 _ _ _ underlying26 rfl (by rw[Xaf,J.o];exact Xbh) (by
  intro j u V;have hj:j<32:=by have:=(Array.getElem?_eq_some_iff.1 V).1;rw[Xaf,J.o] at this;exact this
  rw[Nat.zero_add,p.cellAt j (by omega)];unfold idA at V;rw[List.getElem?_toArray] at V;exact V))
 have D:w1.heap[w.heap.size]?=some (.cells d 26 (0,0)):=(C.block w.heap.size (by simp)).trans (zN w _);have M:Bw w w1:=B0.o.trans (C.mono (by simp));have ST:=Hd (run_storeVar_row (P:=prog) w1 w.heap.size _ 26 d (idA E) D (by rw[Xaf,J.o];exact Xbh) (by rw[Xaf,J.o,K.o]) (Xec _));have W2:=Hd (setRow_heap w1 w.heap.size d (idA E) _ _ D);have B2:=Hd (below_setRow M (zL w.heap.size) (idA E));have aB:∀w,(Instr.arrayAt 26 (.slice (some ⟨g,0,none⟩) (31+1) cap)).run prog w=.ok (.pointer (some ⟨g,0,none⟩)) w:=fun w=>by kernel_rfl
 obtain⟨xs,z⟩:=xq (idA E);have XL:Hid (xs.size=32):=Hd (by rw[z,Xaf,J.o]);rw[←z] at LD ST W2 B2;have Y:=Hd z;clear f p Q C M D z t S H n;go_wp2_with (first
  |((with_reducible refine Xab 26 rfl _ rfl ?_);refine⟨_,_,rfl,LD.o,?_⟩)
  |((with_reducible refine Xaa 26 rfl _ _ rfl ?_);refine⟨_,_,_,rfl,rfl,ST.o,?_⟩))
 exact zP (Xay results102 _ _ w.heap.size _ _ _ _ rfl W2.o underlying26 rfl (by rw[XL.o];exact Xbh)) rfl (by unfold Xm4;rw[B.o];simp only[];rw[←Y.o];exact⟨_,0,rfl,B2.o⟩)
theorem Xoq {p:Nat→Bool}{l:List Nat}{k c:Nat}(hk:k<l.length)(hc:c=l.getD k 0):(l.take (k+1)).all p=((l.take k).all p&&p c):=by rw[List.getD_eq_getElem?_getD,List.getElem?_eq_getElem hk,Option.getD_some] at hc;rw[List.take_succ_eq_append_getElem hk,List.all_append,←hc];simp
theorem Xs8 {p:Nat→Bool}{l:List Nat}{k c:Nat}(hk:k<l.length)(hc:c=l.getD k 0)(h:p c=false):l.all p=false:=by rw[List.getD_eq_getElem?_getD,List.getElem?_eq_getElem hk,Option.getD_some] at hc;rw[List.all_eq_false];exact⟨_,zG hk,by rw[←hc,h];decide⟩
theorem Ybx (s:ByteArray)(w:World)(hs:s.size≤1000000):Rx 242 #[.string s] w (.int .i64 (Xna (bs s):Nat)):=by
 have d:=Hd (Xac s);by_cases h200:200<s.size;·have T:Hid (Xna (bs s)=5):=Hd (by unfold Xna;rw[qP (by rw[d.o];exact h200)]);go_enter func242,ntmps242;go_wp2_with fail;go_ret;exact⟨by rw[T.o];rfl,rfl⟩
 have p:=Hd (fun w=>Xcn s ⟨#[32]⟩ w);have r:=Hd (fun w=>Xdl s ⟨#[32]⟩ w (by omega));rw[show(⟨#[32]⟩:ByteArray).data.toList=[32] from rfl,Ya4] at p;rw[show(⟨#[32]⟩:ByteArray).data.toList=[32] from rfl,Ya3] at r;obtain⟨a,u⟩:=xq (decide ((bs s).head?=some 32));obtain⟨b,v⟩:=xq (decide ((bs s).getLast?=some 32));have q:Hid (∀w,Ry 24 #[.string s,.string ⟨#[32]⟩] w (.bool a)):=Hd (by rw[u];exact p.o);have t:Hid (∀w,Ry 139 #[.string s,.string ⟨#[32]⟩] w (.bool b)):=Hd (by rw[v];exact r.o);have T:Hid (Xna (bs s)=if(bs s).all prC=false then 6 else if(a||b)=true then 3 else 0):=Hd (by unfold Xna;rw[qN (by rw[d.o];exact h200),u,v];simp);clear p r u v;go_enter func242,ntmps242;go_wp2_with fail;go_loopg [3,9] s.size (fun k c i wr=>∃j:Nat,j≤s.size∧k=s.size-j∧i=.int .i64 (j:Int)∧Hid (((bs s).take j).all prC=true)∧w=wr);exact⟨0,by omega,rfl,rfl,rfl,rfl⟩;obtain⟨j,z,rfl,rfl,l,rfl⟩:=hrel;by_cases hlt:j<s.size
 ·obtain⟨c,g⟩:=xq ((bs s).getD j 0);have x:c<256:=by rw[g];exact Xbd s j
  have A:∀w,(Instr.index 9 (.string s) (.int .i64 (j:Int))).run prog w=.ok (.int .u8 (c:Int)) w:=fun w=>by rw[Xbj 9 underlying9 s .i64 j j rfl hlt,g]
  have m:=Hd g;have n:Hid (j<(bs s).length):=Hd (by rw[d.o];exact hlt);clear g;rcases(by omega:c<32∨(32≤c∧c≤126)∨126<c) with h|⟨h,h2⟩|h;·have f:Hid (Xna (bs s)=6):=Hd (by rw[T.o,qP (Xs8 n.o m.o (by unfold prC;rw[zW (by omega)];rfl))]);go_wp2_with fail;go_ret;exact⟨by rw[f.o];rfl,rfl⟩
  ·have f:Hid (((bs s).take (j+1)).all prC=true):=Hd (by rw[Xoq n.o m.o,l.o];unfold prC;rw[zT h,zT h2];rfl);go_wp2_with fail;go_roundg (s.size-(j+1));exact⟨j+1,by omega,rfl,by go_num,f,rfl⟩;omega
  have f:Hid (Xna (bs s)=6):=Hd (by rw[T.o,qP (Xs8 n.o m.o (by unfold prC;rw[zW (show¬c≤126 by omega),Bool.and_false]))]);have y:¬c<32:=by omega
  go_wp2_with fail;go_ret;exact⟨by rw[f.o];rfl,rfl⟩
 obtain rfl:j=s.size:=by omega
 have f:Hid (Xna (bs s)=if(a||b)=true then 3 else 0):=Hd (by rw[T.o,qN];rw[List.take_of_length_le (by rw[d.o];exact zL _)] at l;rw[l.o];decide);clear l T;cases a<;>cases b
 all_goals
  go_wp2_with (first
   |(go_at_call 24;refine(q.o _).mono ?_;rintro e w' ⟨rfl,h⟩;cases h)
   |(go_at_call 139;refine(t.o _).mono ?_;rintro e w' ⟨rfl,h⟩;cases h))
  go_ret;exact⟨by rw[f.o];rfl,rfl⟩
def Xos (l:List Nat):Nat:=l.foldl (fun n c=>10*n+(c-48)) 0
theorem Xqi {l:List Nat}{k c:Nat}(hk:k<l.length)(hc:c=l.getD k 0):Xos (l.take (k+1))=10*Xos (l.take k)+(c-48):=by rw[List.getD_eq_getElem?_getD,List.getElem?_eq_getElem hk,Option.getD_some] at hc;rw[List.take_succ_eq_append_getElem hk,Xos,Xos,List.foldl_append,←hc];rfl
theorem Ybs {l:List Nat}:∀k,k≤7→(∀j,j<k→l.getD j 0<58)→k≤l.length→Xos (l.take k)<10^k
 |0,_,_,_=>by simp[Xos]
 |k+1,h7,h,hl=>by have a:=Ybs k (by omega) (fun j hj=>h j (by omega)) (by omega);rw[Xqi (by omega) rfl];have:=h k (by omega);rw[Nat.pow_succ];omega
theorem Yfv {l:List Nat}(k:Nat)(h7:k≤7)(h:Xos (l.take k)<10^k):Xos (l.take k)<10000000:=Nat.lt_of_lt_of_le h (by have:(10:Nat)^k≤10^7:=Nat.pow_le_pow_right (by omega) h7;simpa using this)
def Ygt (l:List Nat)(w:World)(e:Ending)(w':World):Prop:=
 (match Xli l with|none=>e=.returned (.tuple #[.int .i64 0,.bool false])|some n=>e=.returned (.tuple #[.int .i64 (n:Int),.bool true]))∧w=w'
theorem Xrz {l:List Nat}(h:l=[]∨7<l.length∨(1<l.length∧l.getD 0 0=48)∨l.all dig=false):Xli l=none:=by unfold Xli;rw[qP h]
theorem Yet {l:List Nat}(h:¬(l=[]∨7<l.length∨(1<l.length∧l.getD 0 0=48)∨l.all dig=false)):Xli l=some (Xos l):=by unfold Xli;rw[qN h];rfl
theorem Xsp (s:ByteArray)(w:World)(hs:s.size≤1000000):Calls prog 240 #[.string s] w (Ygt (bs s) w):=by
 have a:=Hd (Xac s);by_cases h0:s.size=0;·obtain rfl:=Xd9 h0;clear h0 hs;go_enter func240,ntmps240;go_wp2_with fail;go_ret2;exact⟨rfl,rfl⟩
 have P:=Xfa h0;by_cases h7:7<s.size;·have N:Hid (Xli (bs s)=none):=Hd (Xrz (.inr (.inl (by rw[a.o];exact h7))));go_enter func240,ntmps240;go_wp2_with fail;go_ret2;exact⟨by rw[N.o];rfl,rfl⟩
 obtain⟨f,t⟩:=xq ((bs s).getD 0 0);have G:f<256:=by rw[t];exact Xbd s 0
 have Q:=Yc5 s f t (by omega);have A:=Hd t;clear t;by_cases hz:1<s.size∧f=48;·have N:Hid (Xli (bs s)=none):=Hd (Xrz (.inr (.inr (.inl ⟨by rw[a.o];exact hz.1,by rw[←A.o];exact hz.2⟩))));obtain⟨J,rfl⟩:=hz;go_enter func240,ntmps240;go_wp2_with fail;go_ret2;exact⟨by rw[N.o];rfl,rfl⟩
 have E:Hid (¬(1<(bs s).length∧(bs s).getD 0 0=48)):=Hd (by rw[a.o,←A.o];exact hz);have D:Hid (bs s≠[]):=Hd (fun e=>h0 (by rw[←a.o,e];rfl));have b:Hid (∀j c,j<s.size→c=(bs s).getD j 0→dig c=false→Xli (bs s)=none):=Hd (fun j c h1 h2 v=>Xrz (.inr (.inr (.inr (Xs8 (by rw[a.o];exact h1) h2 v)))));have g:Hid ((∀j,j<s.size→dig ((bs s).getD j 0)=true)→Xli (bs s)=some (Xos (bs s))):=Hd (fun r=>Yet (by
  rintro(h|h|h|h);·exact D.o h
  ·rw[a.o] at h;exact h7 h
  ·exact E.o h
  rw[List.all_eq_false] at h;obtain⟨x,I,H⟩:=h;obtain⟨i,hi,rfl⟩:=List.getElem_of_mem I;have:=r i (by rw[←a.o];exact hi);rw[List.getD_eq_getElem?_getD,List.getElem?_eq_getElem hi,Option.getD_some] at this;exact H this))
 have K:¬1<s.size∨(1<s.size∧((f:Int)==48)=false):=by
  by_cases h:1<s.size;·exact .inr ⟨h,Xar (fun e=>hz ⟨h,by omega⟩)⟩
  exact .inl h
 clear hz;rcases K with K|⟨K,L⟩
 all_goals
  go_enter func240,ntmps240;go_wp2_with fail;go_loopg [4,5,25] s.size (fun k n c i wr=>∃j:Nat,j≤s.size∧k=s.size-j∧i=.int .i64 (j:Int)∧n=.int .i64 (Xos ((bs s).take j):Nat)∧Xos ((bs s).take j)<10000000∧Hid (∀q,q<j→dig ((bs s).getD q 0)=true)∧w=wr);exact⟨0,by omega,rfl,rfl,rfl,by simp[Xos],(fun q hq=>by omega),rfl⟩;obtain⟨j,O,rfl,rfl,rfl,r,B,rfl⟩:=hrel;by_cases hlt:j<s.size
  ·obtain⟨c,m⟩:=xq ((bs s).getD j 0);have F:c<256:=by rw[m];exact Xbd s j
   have R:∀w,(Instr.index 9 (.string s) (.int .i64 (j:Int))).run prog w=.ok (.int .u8 (c:Int)) w:=fun w=>by rw[Xbj 9 underlying9 s .i64 j j rfl hlt,m]
   have u:=Hd m;have y:Hid (Xos ((bs s).take (j+1))=10*Xos ((bs s).take j)+(c-48)):=Hd (Xqi (by rw[a.o];exact hlt) m);obtain⟨d,p⟩:=xq (Xos ((bs s).take j));rw[←p] at r y⊢;clear m p;rcases(by omega:c<48∨(48≤c∧c≤57)∨57<c) with h|⟨h,h2⟩|h;·have l:Hid (Xli (bs s)=none):=Hd (b.o j c hlt u.o (by unfold dig;rw[zW (by omega)];rfl));go_wp2_with fail;go_ret2;exact⟨by rw[l.o];rfl,rfl⟩
   ·have z:Hid (∀q,q<j+1→dig ((bs s).getD q 0)=true):=Hd (fun q hq=>by
     by_cases e:q=j;·rw[e,←u.o];unfold dig;rw[zT h,zT h2];rfl
     exact B.o q (by omega))
    have C:Hid (Xos ((bs s).take (j+1))<10000000):=Hd (Yfv (j+1) (by omega) (Ybs (j+1) (by omega) (fun q hq=>by have:=z.o q hq;unfold dig at this;simp at this;simpa using(by omega:(bs s)[q]?.getD 0<58)) (by rw[a.o];omega)));have w1:IntKind.i64.wrap (10*(d:Int)+((c:Int)-48))=10*(d:Int)+((c:Int)-48):=IntWalk.i64_in _ (by omega);have v:¬c<48:=by omega
    have M:¬57<c:=by omega
    go_wp2_with fail;go_roundg (s.size-(j+1));exact⟨j+1,by omega,rfl,by go_num,by rw[y.o];first|rfl|(congr 1;omega),C.o,z,rfl⟩;omega
   have l:Hid (Xli (bs s)=none):=Hd (b.o j c hlt u.o (by unfold dig;rw[zW (show¬c≤57 by omega),Bool.and_false]));have v:¬c<48:=by omega
   go_wp2_with fail;go_ret2;exact⟨by rw[l.o];rfl,rfl⟩
  obtain rfl:j=s.size:=by omega
  have l:Hid (Xli (bs s)=some (Xos (bs s))):=Hd (g.o B.o);rw[List.take_of_length_le (by rw[a.o];exact zL _)];clear r;go_wp2_with fail;go_ret2;exact⟨by rw[l.o];rfl,rfl⟩
def WS (w:World)(b:Nat)(t:ByteArray)(st en:Nat)(at_:Int)(er:Nat):Prop:=
 w.heap[b]?=some (.cells #[.string t,.int .i64 (st:Int),.int .i64 (en:Int),.int .i64 at_,.int .i64 (er:Int)] 207 (0,0))∧en≤t.size
theorem WS.lt {w:World}{b:Nat}{t:ByteArray}{st en:Nat}{at_:Int}{er:Nat}(h:WS w b t st en at_ er):b<w.heap.size:=zY h.1
theorem WS.below {w w':World}{b:Nat}{t:ByteArray}{st en:Nat}{at_:Int}{er:Nat}(h:WS w b t st en at_ er)(hb:Bw w w'):WS w' b t st en at_ er:=⟨(hb.block b h.lt).trans h.1,h.2⟩
theorem Fr1.setC {b j:Nat}{w:World}(u:Value):Fr1 b w (w.setCell ⟨b,j,none⟩ u):=
 ⟨rfl,rfl,rfl,by simp[World.setCell],fun k _ hne=>Below.heap_setCell _ _ _ _ hne⟩
def Ygs (w:World)(b:Nat)(t:ByteArray)(st en er n:Nat)(e:Ending)(w':World):Prop:=
 (∃v,e=.returned v)∧(∃a,WS w' b t st en a (fe er n))∧Fr1 b w w'
theorem Xca (w:World)(b:Nat)(t:ByteArray)(st en:Nat)(at_:Int)(er:Nat)(h:WS w b t st en at_ er)(k:Int)(n:Nat):Calls prog 142 #[.pointer (some ⟨b,0,none⟩),.int .i64 k,.int .i64 (n:Int)] w (Ygs w b t st en er n):=by
 have f:w.cell? ⟨b,4,none⟩=some (.int .i64 (er:Int)):=cell_of_row w b 4 _ _ _ h.1;have e:w.cell? ⟨b,3,none⟩=some (.int .i64 at_):=cell_of_row w b 3 _ _ _ h.1;have g:w.frozen? ⟨b,3,none⟩=false:=by have:=h.1;simp[World.frozen?,this]
 have i:w.frozen? ⟨b,4,none⟩=false:=by have:=h.1;simp[World.frozen?,this]
 have H:=Hd h;clear h;by_cases h0:er=0
 ·subst h0;by_cases hn:n=0;·subst hn;go_enter func142,ntmps142;go_wp2_with fail;go_end0;exact⟨⟨_,rfl⟩,⟨_,H.o⟩,Fr1.refl _ _⟩
  have a:((n:Int)==0)=false:=Xar (by omega);have j:((n:Int) !=0)=true:=by simp[bne,a]
  have l:=Hd hn;have d:Hid (WS ((w.setCell ⟨b,3,none⟩ (.int .i64 k)).setCell ⟨b,4,none⟩ (.int .i64 (n:Int))) b t st en k n):=Hd ⟨Xez (Xez H.o.1 3 _) 4 _,H.o.2⟩;clear hn;go_enter func142,ntmps142;go_wp2_with fail;go_end0;exact⟨⟨_,rfl⟩,⟨_,d.o⟩,(Fr1.setC _).trans (Fr1.setC _)⟩
 have a:((er:Int)==0)=false:=Xar (by omega);have c:Hid (fe er n=er):=Hd (by unfold fe;rw[qP h0]);clear h0;go_enter func142,ntmps142;go_wp2_with fail;go_end0;exact⟨⟨_,rfl⟩,⟨_,by rw[c.o];exact H.o⟩,Fr1.refl _ _⟩
theorem Ybw (t:ByteArray)(c:UInt8)(hs:t.size<4294967281):∃(x y:ByteArray) (b:Bool),(bs x=Xth c.toNat (bs t)∧bs y=(bs t).drop ((Xth c.toNat (bs t)).length+1)∧b=decide ((Xth c.toNat (bs t)).length<(bs t).length)∧x.size≤t.size)∧
     ∀w:World,(∃m,w.cell? ⟨2,0,none⟩=some (.int .i64 m))→Rz 51 #[.string t,.string ⟨#[c]⟩] w (.tuple #[.string x,.string y,.bool b]):=by
 refine⟨⟨(Lib.cut t.data.toList [c]).1.toArray⟩,⟨(Lib.cut t.data.toList [c]).2.1.toArray⟩,(Lib.cut t.data.toList [c]).2.2,⟨?_,?_,?_,?_⟩,?_⟩;case refine_5=>
  rintro w ⟨m,k⟩;exact(Xgo t ⟨#[c]⟩ m w hs k).mono fun e w' ⟨h1,h2⟩=>⟨h1,h2⟩
 all_goals
  have d:=Lib.index_one t.data.toList c;unfold Lib.cut;rw[d];by_cases h:Lib.indexByte t.data.toList c=-1
  ·have l:=Xeg h;rw[h];simp only[show¬(0:Int)≤-1 by decide,if_false];have a:Xth c.toNat (bs t)=bs t:=l
   first
    |(rw[Xi9];exact a.symm)
    |(rw[Xi9,a,List.drop_of_length_le (by omega)];rfl)
    |(rw[a];simp)
    |exact zL _
  have g:=Lib.index_ge t.data.toList [c];rw[d] at g;obtain⟨i,hi⟩:∃i:Nat,Lib.indexByte t.data.toList c=i:=⟨(Lib.indexByte t.data.toList c).toNat,by omega⟩
  obtain⟨j,n,o⟩:=Xef hi;rw[hi];have p:t.data.toList.length=(bs t).length:=by simp[bs]
  have a:Xth c.toNat (bs t)=(bs t).take i:=j;have f:(Xth c.toNat (bs t)).length=i:=by rw[a,List.length_take];omega
  simp only[show(0:Int)≤(i:Int) from Int.natCast_nonneg i,if_true,Int.toNat_natCast,List.length_singleton]
  first
   |(rw[Xi9,a,List.map_take];rfl)
   |(rw[Xi9,f,List.map_drop];rfl)
   |(rw[f];simp;omega)
   |(rw[←Xac,Xi9,←Xac];simp[bs];omega)
theorem Dr.fr {b:Nat}{w w':World}(h:Dr w w'):Fr1 b w w':=Fr1.of_below (Dr.below h)
theorem Xbv {b:Nat}{w w':World}(hE:Env w)(hb:9≤b)(h:Fr1 b w w'):Env w':=hE.below (h.below hE.size hb) (zL _)
def Yc0 (w:World)(b:Nat)(t:ByteArray)(st en:Nat)(er:Nat)(e:Ending)(w':World):Prop:=
 ∃(x:ByteArray) (ok:Bool) (st' en':Nat) (a:Int) (er':Nat),e=.returned (.tuple #[.string x,.bool ok])∧WS w' b t st' en' a er'∧Fr1 b w w'∧x.size≤t.size∧
  ((ok=false∧er'≠0∧∀k,fe er (nxt ((bs t).drop en) k)=er')∨
   (ok=true∧er=0∧er'=0∧∀k,nxt ((bs t).drop en) k=k (bs x) ((bs t).drop en')))
theorem Xf4 (w:World)(b:Nat)(t:ByteArray)(st en:Nat)(at_:Int)(er:Nat)(h:WS w b t st en at_ er)(hE:Env w)(hb9:9≤b)(ht:t.size≤1000000):Calls prog 239 #[.pointer (some ⟨b,0,none⟩)] w (Yc0 w b t st en er):=by
 have r:w.cell? ⟨b,0,none⟩=some (.string t):=cell_of_row w b 0 _ _ _ h.1;have g:w.cell? ⟨b,2,none⟩=some (.int .i64 (en:Int)):=cell_of_row w b 2 _ _ _ h.1;have f:w.cell? ⟨b,4,none⟩=some (.int .i64 (er:Int)):=cell_of_row w b 4 _ _ _ h.1;have d:w.cell? ⟨b,1,none⟩=some (.int .i64 (st:Int)):=cell_of_row w b 1 _ _ _ h.1;have s:w.frozen? ⟨b,1,none⟩=false:=by have:=h.1;simp[World.frozen?,this]
 have aB:=h.2;have H:=Hd h;have HE:=Hd hE;have E:=Hd (Xac t);clear h hE;by_cases h0:er=0
 ·subst h0;by_cases hq:en=t.size
  ·have U:((en:Int)==(t.size:Int))=true:=by rw[hq];simp
   have V:=Hd (fun n:Nat=>Xca (w.drewN n) b t st en at_ 0 (H.o.below (Dr.below ⟨n,rfl⟩)) (t.size:Int) 4);have Y:Hid (((bs t).drop en)=[]):=Hd (by rw[List.drop_eq_nil_iff,E.o];omega);clear hq;have i:w.cell? ⟨b,4,none⟩=some (.int .i64 0):=f;clear f;go_enter func239,ntmps239;go_upto_region 1 with fail;go_quiet (fail);go_wp2_with fail;refine(V.o _).mono ?_;rintro e w1 ⟨⟨v,rfl⟩,⟨a,K⟩,L⟩;have I:Hid (WS w1 b t st en a 4):=Hd K;have M:Hid (Fr1 b w w1):=Hd ((Dr.fr ⟨nq,rfl⟩).trans L);have aA:w1.cell? ⟨b,4,none⟩=some (.int .i64 4):=cell_of_row w1 b 4 _ _ _ K.1;clear K L V r d g i s;go_wp2_with fail;go_ret2;exact⟨⟨#[]⟩,false,st,en,a,4,rfl,I.o,M.o,Nat.zero_le _,.inl ⟨rfl,by decide,fun k=>by rw[Y.o];rfl⟩⟩
  have P:en<t.size:=by omega
  have U:((en:Int)==(t.size:Int))=false:=Xar (by omega);obtain⟨j,u⟩:=xq (t.extract (en+1) t.size);have R:j.size=t.size-(en+1):=by rw[u,ByteArray.size_extract];omega
  have F:bs j=(bs t).drop (en+1):=by rw[u,Xb3,List.take_of_length_le (by rw[E.o];exact zL _)]
  obtain⟨x,y,ok,⟨X,hy,Q,S⟩,hcut⟩:=Ybw j 32 (by omega);have i:w.cell? ⟨b,4,none⟩=some (.int .i64 0):=f;have HT:=Hd u;have hxl:(bs x).length=x.size:=Xac x;have Z:Hid (en+1+x.size≤t.size):=Hd (by omega);have G:Hid (∀k,nxt ((bs t).drop en) k=k (bs x) ((bs t).drop (en+1+x.size))):=Hd (fun k=>by
   rw[show(bs t).drop en=(bs t)[en]'(by rw[E.o];exact P)::(bs t).drop (en+1) from List.drop_eq_getElem_cons _];unfold nxt;simp only[];rw[←F];have W:(bs j).takeWhile (fun c=>!decide (c=32))=bs x:=X.symm;have e2:(bs j).dropWhile (fun c=>!decide (c=32))=(bs t).drop (en+1+x.size):=by
    have:=List.takeWhile_append_dropWhile (p:=fun c=>!decide (c=32)) (l:=bs j);rw[W] at this;have e3:(bs j).drop x.size=(bs j).dropWhile (fun c=>!decide (c=32)):=by
     conv=>lhs;rw[←this]
     rw[List.drop_append,←hxl,List.drop_length,Nat.sub_self];rfl
    rw[←e3,F,List.drop_drop]
   rw[W,e2])
  have T:x.size≤t.size:=by omega
  have J:=Hd hcut;clear f hq F R X hy Q S hcut u hxl;go_enter func239,ntmps239;go_upto_region 1 with fail;go_quiet (fail);obtain⟨w0,z⟩:=xq (w.drewN nq);have C:Hid (WS w0 b t st en at_ 0):=Hd (by rw[z];exact H.o.below (Dr.below ⟨nq,rfl⟩));have F0:Hid (Fr1 b w w0):=Hd (by rw[z];exact Dr.fr ⟨nq,rfl⟩);rw[←z];clear z r d g i s H;have g:w0.cell? ⟨b,2,none⟩=some (.int .i64 (en:Int)):=cell_of_row w0 b 2 _ _ _ C.o.1;have f:w0.cell? ⟨b,4,none⟩=some (.int .i64 0):=cell_of_row w0 b 4 _ _ _ C.o.1;have d:w0.cell? ⟨b,1,none⟩=some (.int .i64 (st:Int)):=cell_of_row w0 b 1 _ _ _ C.o.1;have s:w0.frozen? ⟨b,1,none⟩=false:=by have:=C.o.1;simp[World.frozen?,this]
  go_upto_region 6 with fail;obtain⟨w1,A⟩:=xq (w0.setCell ⟨b,1,none⟩ (.int .i64 ((en:Int)+1)));have I:Hid (WS w1 b t (en+1) en at_ 0):=Hd (by rw[A];exact⟨Xez C.o.1 1 _,C.o.2⟩);have M:Hid (Fr1 b w w1):=Hd (by rw[A];exact F0.o.trans (Fr1.setC _));rw[←A];clear A d g f s;have r:w1.cell? ⟨b,0,none⟩=some (.string t):=cell_of_row w1 b 0 _ _ _ I.o.1;have d:w1.cell? ⟨b,1,none⟩=some (.int .i64 ((en:Int)+1)):=cell_of_row w1 b 1 _ _ _ I.o.1;have O:Hid (∀n,Calls prog 51 #[.string j,.string ⟨#[32]⟩] (w1.drewN n) fun e w'=>e=.returned (.tuple #[.string x,.string y,.bool ok])∧∃m,w'=w1.drewN m):=Hd (fun n=>
   (J.o (w1.drewN n) ((Xbv HE.o hb9 M.o).on (Dr.below ⟨n,rfl⟩)).mx).mono fun e w' ⟨K,q,h2⟩=>⟨K,n+q,by rw[h2,Xd0]⟩)
  go_quiet (first|(go_at_call 51;rw[show t.extract (en+1) t.size=j from HT.o.symm];exact O.o _));obtain⟨D,B⟩:=xq (w1.drewN nq);have N:Hid (WS D b t (en+1) en at_ 0):=Hd (by rw[B];exact I.o.below (Dr.below ⟨nq,rfl⟩));have F2:Hid (Fr1 b w D):=Hd (by rw[B];exact M.o.trans (Dr.fr ⟨nq,rfl⟩));rw[←B];clear B r d;have d:D.cell? ⟨b,1,none⟩=some (.int .i64 ((en:Int)+1)):=cell_of_row D b 1 _ _ _ N.o.1;have g:D.cell? ⟨b,2,none⟩=some (.int .i64 (en:Int)):=cell_of_row D b 2 _ _ _ N.o.1;have aC:D.frozen? ⟨b,2,none⟩=false:=by have:=N.o.1;simp[World.frozen?,this]
  have H3:Hid (WS (D.setCell ⟨b,2,none⟩ (.int .i64 ((en:Int)+1+(x.size:Int)))) b t (en+1) (en+1+x.size) at_ 0):=Hd ⟨Xez N.o.1 2 _,Z.o⟩;go_wp2_with fail;go_ret2;exact⟨x,true,en+1,en+1+x.size,at_,0,rfl,H3.o,F2.o.trans (Fr1.setC _),T,.inr ⟨rfl,rfl,rfl,G.o⟩⟩
 have U:((er:Int)==0)=false:=Xar (by omega);have aD:((er:Int) !=0)=true:=by simp[bne,U]
 have HX:Hid (∀k,fe er (nxt ((bs t).drop en) k)=er):=Hd (fun k=>by unfold fe;rw[qP h0]);have C:=Hd h0;clear h0;go_enter func239,ntmps239;go_upto_region 1 with fail;go_quiet (fail);go_wp2_with fail;go_ret2;exact⟨⟨#[]⟩,false,st,en,at_,er,rfl,H.o.below (Dr.below ⟨nq,rfl⟩),Dr.fr ⟨nq,rfl⟩,Nat.zero_le _,.inl ⟨rfl,C.o,HX.o⟩⟩
theorem Xyu (c:Nat):∀l:List Nat,∀p∈spl c l,p.length≤l.length
 |[],p,h=>by simp[spl] at h;subst h;simp
 |x::t,p,h=>by
  have b:=Xyu c t;simp only[spl] at h;split at h
  ·rcases List.mem_cons.1 h with rfl|h;·simp
   have:=b p h;simp;omega
  split at h;·rename_i e;exact absurd e (Xjz c t)
  rename_i a r e;rw[e] at b;rcases List.mem_cons.1 h with rfl|h;·have:=b a (by simp);simp;omega
  have:=b p (by simp[h]);simp;omega
theorem Xj0 (c:Nat):∀l:List Nat,(spl c l).length≤l.length+1
 |[]=>by simp[spl]
 |x::t=>by
  have b:=Xj0 c t;simp only[spl];split;·simp;omega
  split;·simp
  rename_i a r e;rw[e] at b;simp at b⊢;omega
def Xim (c:Nat)(s:ByteArray)(w:World)(e:Ending)(w':World):Prop:=
 ∃(v:Value) (gs:List ByteArray),e=.returned v∧gs.map bs=spl c (bs s)∧SRow w' v gs∧(∀g∈gs,g.size≤s.size)∧gs.length≤s.size+1∧w'.ownsRow w.heap.size 9 1 v gs.length (gs.map Value.string)∧Bw w w'
theorem Xo6 (s:ByteArray)(c:UInt8)(w:World)(hs:s.size≤1000000)(hE:Env w):Calls prog 149 #[.string s,.string ⟨#[c]⟩] w (Xim c.toNat s w):=by
 obtain⟨m,k⟩:=hE.mx;refine(Xi6 s ⟨#[c]⟩ m w (by omega) k (by simp[ByteArray.size])).mono fun e w' ⟨h1,h2⟩=>?_;have b:=Lib.splitB_all ⟨#[c]⟩ (by simp[ByteArray.size]) 0 (Lib.countB s ⟨#[c]⟩) s rfl;have a:(Lib.splitB ⟨#[c]⟩ 0 (Lib.countB s ⟨#[c]⟩) s).map bs=spl c.toNat (bs s):=by
  have h:=Lib.splitB_data ⟨#[c]⟩ 0 (Lib.countB s ⟨#[c]⟩) s;have i:=Xl4 c s.data.toList;have f:(Lib.splitB ⟨#[c]⟩ 0 (Lib.countB s ⟨#[c]⟩) s).map bs=((Lib.splitB ⟨#[c]⟩ 0 (Lib.countB s ⟨#[c]⟩) s).map (·.data.toList)).map (fun p=>p.map UInt8.toNat):=by rw[List.map_map];rfl
  rw[f,h];exact i
 generalize hg:Lib.splitB ⟨#[c]⟩ 0 (Lib.countB s ⟨#[c]⟩) s=gs at h2 b a;subst h2;refine⟨_,gs,h1,a,⟨some ⟨w.heap.size,0,none⟩,gs.length,by rw[b],zL _,fun _=>⟨w.heap.size,0,rfl,by simp,fun j hj=>?_⟩⟩,?_,?_,?_,(zR _ _).alloc (zL _) _⟩;·rw[Nat.zero_add,cell_of_row _ w.heap.size j _ 9 (0,0) (zN w _)];simp[hj]
 ·intro g d;have:=Xyu c.toNat (bs s) (bs g) (by rw[←a];exact List.mem_map_of_mem d);rwa [Xac,Xac] at this
 ·have:=Xj0 c.toNat (bs s);rw[←a,List.length_map,Xac] at this;exact this
 have:=Xj0 c.toNat (bs s);rw[←a,List.length_map,Xac] at this;exact⟨by simp,.inr ⟨w.heap.size,gs.length,(gs.map Value.string).toArray,by rw[b],zL _,zN w _,zL _,by unfold maxLen;omega,by simp,by simp[List.take_of_length_le]⟩⟩
def Yku (b:Bool)(w:World)(e:Ending)(w':World):Prop:=
 ∃n:Int,e=.returned (.int .i64 n)∧(b=true→0≤n)∧(b=false→n<0)∧Bw w w'
def Xwn (g:ByteArray):Bool:=!Xej (bs g)
theorem Ygm {p:ByteArray→Bool}{l:List ByteArray}{k:Nat}(h:(l.take k).any p=false)(hk:l.length≤k):l.any p=false:=by rwa [List.take_of_length_le hk] at h
theorem Ygl {p:ByteArray→Bool}{l:List ByteArray}{k:Nat}(hk:k<l.length)(h:p l[k]=true):l.any p=true:=by rw[List.any_eq_true];exact⟨_,zG hk,h⟩
theorem Ycq {p:ByteArray→Bool}{l:List ByteArray}{k:Nat}(h0:(l.take k).any p=false)(hk:k<l.length)(h:p l[k]=false):(l.take (k+1)).any p=false:=by rw[List.take_succ_eq_append_getElem hk,List.any_append,h0];simp[h]
theorem Yl6 (w:World)(v:Value)(gs:List ByteArray)(hr:SRow w v gs)(hl:gs.length≤1000001)(hz:∀g∈gs,g.size≤1000000):Calls prog 225 #[v,.func (.func 175) #[] #[]] w (Yku (gs.any Xwn) w):=by
 obtain⟨n,y⟩:=xq gs.length;obtain⟨a,cap,rfl,l,c⟩:=hr;rw[←y] at hl l⊢;have G:=Hd c;have D:=Hd y;have H:=Hd hz;clear c y hz;go_enter func225,ntmps225;go_wp2_with fail;go_loopg [8] n (fun k i wr=>∃j:Nat,j≤n∧k=n-j∧i=.int .i64 (j:Int)∧Hid ((gs.take j).any Xwn=false)∧Hid (Bw w wr));exact⟨0,by omega,rfl,rfl,rfl,Hd (zR _ _)⟩;obtain⟨j,I,rfl,rfl,F,s⟩:=hrel;by_cases h:j<n
 ·have f:j<gs.length:=by rw[←D.o];exact h
  obtain⟨b,off,rfl,x,q⟩:=G.o (by intro e;rw[e] at f;simp at f);obtain⟨g,t⟩:=xq (gs[j]);have m:wr.cell? ⟨b,off+j,none⟩=some (.string g):=by rw[s.o.cell (p:=⟨b,off+j,none⟩) x,t];exact q j f
  have r:g.size≤1000000:=by rw[t];exact H.o _ (zG f)
  have C:=Hd (Xz6 g wr r);have A:=Hd t;have B:=Hd f;obtain⟨p,z⟩:=xq (!Xej (bs g));rw[←z] at C;have E:Hid (Xwn g=p):=Hd z.symm;clear t q z r;cases p;·go_wp2_with fail;refine C.o.mono ?_;rintro e w1 ⟨rfl,d⟩;have u:=bh s d;clear d C m;go_wp2_with fail;go_roundg (n-(j+1));exact⟨j+1,by omega,rfl,by go_num,Hd (Ycq F.o B.o (by rw[←A.o];exact E.o)),u⟩;omega
  go_wp2_with fail;refine C.o.mono ?_;rintro e w1 ⟨rfl,d⟩;have u:=bh s d;clear d C m;go_wp2_with fail;go_ret;exact⟨_,rfl,(fun _=>by omega),(fun h=>by rw[Ygl B.o (by rw[←A.o];exact E.o)] at h;cases h),u.o⟩
 go_wp2_with fail;go_ret;exact⟨_,rfl,(fun h'=>by rw[Ygm F.o (by rw[←D.o];omega)] at h';cases h'),(fun _=>by decide),s.o⟩
theorem Ymt (w:World)(v:Value)(gs:List ByteArray)(hr:SRow w v gs)(hl:gs.length≤1000001)(hz:∀g∈gs,g.size≤1000000):zJ 174 #[v,.func (.func 175) #[] #[]] w (.bool (gs.any Xwn)):=by
 have C:=Hd (Yl6 w v gs hr hl hz);obtain⟨b,a⟩:=xq (gs.any Xwn);rw[←a] at C⊢;clear a hl hr hz;go_enter func174,ntmps174;go_wp2_with fail;refine C.o.mono ?_;rintro e w' ⟨m,rfl,c,d,a⟩;have f:=Hd a;clear a;cases b;·have h:=d rfl;clear c d C;go_wp2_with fail;go_ret;exact⟨Xa5 (by simp;omega),f.o⟩
 have h:=c rfl;clear c d C;go_wp2_with fail;go_ret;exact⟨rfl,f.o⟩
theorem Xzy (s:ByteArray)(w:World)(hs:s.size≤1000000)(hE:Env w):Calls prog 173 #[.string s] w (Xim 46 s w):=by have S:=Hd (Xo6 s 46 w hs hE);rw[show(46:UInt8).toNat=46 from rfl] at S;clear hs hE;go_enter func173,ntmps173;go_wp2_with fail;refine S.o.mono ?_;rintro e w1 ⟨v,a,rfl,h⟩;have H:=Hd h;clear h S;go_wp2_with fail;go_ret;exact⟨v,a,rfl,H.o⟩
theorem Yco {gs:List ByteArray}{ls:List (List Nat)}(h:gs.map bs=ls):gs.any Xwn=ls.any (fun p=>!Xej p):=by subst h;rw[List.any_map];rfl
theorem Xmr (s:ByteArray)(w:World)(hs:s.size≤1000000)(hE:Env w):zJ 124 #[.string s] w (.int .i64 (Xbo (bs s):Nat)):=by
 have P:=Hd (Xzy s w hs hE);have d:=Hd (Xac s);by_cases h80:80<s.size;·have N:Hid (Xbo (bs s)=5):=Hd (by unfold Xbo;rw[qP (by rw[d.o];exact h80)]);clear hE P;go_enter func124,ntmps124;go_wp2_with fail;go_ret;exact⟨by rw[N.o];rfl,zR _ _⟩
 have N:Hid (Xbo (bs s)=if(spl 46 (bs s)).any (fun p=>!Xej p)=true then 12 else if 10<(spl 46 (bs s)).length then 9 else 0):=Hd (by unfold Xbo;rw[qN (by rw[d.o];exact h80)]);clear hE;go_enter func124,ntmps124;go_wp2_with fail;refine P.o.mono ?_;rintro e w1 ⟨v,i,rfl,l,m,x,z,_,r⟩;have hv:∃a cap,v=.slice a i.length cap:=by obtain⟨a,cap,h,_⟩:=m;exact⟨a,cap,h⟩
 obtain⟨a,cap,rfl⟩:=hv;have c:=Hd (Ymt w1 _ i m (by omega) (fun g hg=>by have:=x g hg;omega));have y:=Hd r;rw[Yco l] at c;have j:Hid (i.length=(spl 46 (bs s)).length):=Hd (by rw[←l,List.length_map]);obtain⟨n,t⟩:=xq i.length;rw[←t] at j c⊢;obtain⟨q,u⟩:=xq ((spl 46 (bs s)).any (fun p=>!Xej p));rw[←u] at c N;have k:Hid (Xbo (bs s)=if q=true then 12 else if 10<n then 9 else 0):=Hd (by rw[N.o,j.o]);clear l m x z r P j t u N;go_wp2_with fail;refine c.o.mono ?_;rintro e A ⟨rfl,f⟩;have b:=bh y f;clear f c;cases q
 ·by_cases h10:10<n;·go_wp2_with fail;go_ret;exact⟨by rw[k.o,qN (by decide),qP h10];rfl,b.o⟩
  go_wp2_with fail;go_ret;exact⟨by rw[k.o,qN (by decide),qN h10];rfl,b.o⟩
 go_wp2_with fail;go_ret;exact⟨by rw[k.o];rfl,b.o⟩
theorem Xmy {a b:ByteArray}(h:bs a=bs b):a=b:=by rw[←Xe3 a,h,Xe3]
theorem Ylz {x:ByteArray}{gs:List ByteArray}:bs x∈gs.map bs↔x∈gs:=
 ⟨fun h=>by obtain⟨y,a,e⟩:=List.mem_map.1 h;rw[←Xmy e];exact a,List.mem_map_of_mem⟩
theorem Ybz (w:World)(a:Option Addr)(n cap:Nat)(gs:List ByteArray)(x:ByteArray)(hn:n≤gs.length)(hl:gs.length≤1000000)(hc:gs≠[]→∃b off,a=some ⟨b,off,none⟩∧b<w.heap.size∧∀j (h:j<gs.length),w.cell? ⟨b,off+j,none⟩=some (.string gs[j])):Rx 125 #[.slice a n cap,.string x] w (.bool (decide (bs x∈(gs.map bs).take n))):=by
 by_cases h0:n=0;·subst h0;exact(Xdc a cap x w).mono fun e w' h=>⟨by rw[h.1];simp,h.2.symm⟩
 obtain⟨b,off,rfl,d,c⟩:=hc (by intro e;rw[e] at hn;simp at hn;omega);refine(Xee b off n cap gs x w hn (by omega) (fun j hj=>by rw[c j hj];simp[List.getD,hj])).mono fun e w' h=>⟨?_,h.2.symm⟩
 rw[h.1];have e:Lib.containsS (gs.take n) x=decide (bs x∈(gs.map bs).take n):=by rw[Bool.eq_iff_iff,Lib.containsS_iff,decide_eq_true_iff,←List.map_take,Ylz]
 rw[e]
theorem Xid (f:List Nat→Nat)(d:Nat)(L:List (List Nat))(j:Nat)(h:j<L.length):Xc6 f d (L.take j) (L.drop j)=if f L[j]≠0 then f L[j] else if L[j]∈L.take j then d else Xc6 f d (L.take (j+1)) (L.drop (j+1)):=by rw[List.drop_eq_getElem_cons h,Xc6,List.take_succ_eq_append_getElem h];simp only[List.contains_iff_mem]
theorem Yca (w:World)(v:Value)(gs:List ByteArray)(hr:SRow w v gs)(hl:gs.length≤1000000)(hz:∀g∈gs,g.size≤1000000)(hE:Env w):zJ 77 #[v] w (.int .i64 (Xcy Xbo (gs.map bs):Nat)):=by
 obtain⟨n,u⟩:=xq gs.length;obtain⟨a,cap,rfl,y,c⟩:=hr;rw[←u] at y hl⊢;have E:=Hd u;have N:=Hd c;have P:=Hd hz;have O:=Hd hE;by_cases h20:20<n;·have F:Hid (Xcy Xbo (gs.map bs)=9):=Hd (by unfold Xcy;rw[qP (by rw[List.length_map,←u];exact h20)]);clear c u hz hE;go_enter func77,ntmps77;go_wp2_with fail;go_ret;exact⟨by rw[F.o];rfl,zR _ _⟩
 have F:Hid (Xcy Xbo (gs.map bs)=Xc6 Xbo 7 ((gs.map bs).take 0) ((gs.map bs).drop 0)):=Hd (by unfold Xcy;rw[qN (by rw[List.length_map,←u];exact h20)];rfl);clear c u hz hE;go_enter func77,ntmps77;go_wp2_with fail;go_loopg [3,4,5,11] n (fun k s3 s4 s5 i wr=>∃j:Nat,j≤n∧k=n-j∧i=.int .i64 (j:Int)∧Hid (Xcy Xbo (gs.map bs)=Xc6 Xbo 7 ((gs.map bs).take j) ((gs.map bs).drop j))∧Hid (Bw w wr));exact⟨0,by omega,rfl,rfl,F,Hd (zR _ _)⟩;obtain⟨j,S,rfl,rfl,A,t⟩:=hrel;by_cases h:j<n
 ·have f:j<gs.length:=by rw[←E.o];exact h
  obtain⟨b,off,rfl,r,s⟩:=N.o (by intro e;rw[e] at f;simp at f);obtain⟨g,B⟩:=xq (gs[j]);have H:wr.cell? ⟨b,off+j,none⟩=some (.string g):=by rw[t.o.cell (p:=⟨b,off+j,none⟩) r,B];exact s j f
  have z:g.size≤1000000:=by rw[B];exact P.o _ (zG f)
  have C:=Hd (Xmr g wr z (O.o.on t.o));have x:=Hd (Xid Xbo 7 (gs.map bs) j (by simpa using f));simp only[List.getElem_map,←B] at x;have G:Hid (∀w',Bw wr w'→Calls prog 125 #[.slice (some ⟨b,off,none⟩) j cap,.string g] w' fun e w''=>e=.returned (.bool (decide (bs g∈(gs.map bs).take j)))∧w'=w''):=Hd (fun w' hw=>
   Ybz w' _ j cap gs g (by omega) (by rw[←E.o];omega) (fun _=>⟨b,off,rfl,Nat.lt_of_lt_of_le r (Nat.le_trans t.o.size hw.size),fun k hk=>((bg t.o hw).cell (p:=⟨b,off+k,none⟩) r).trans (s k hk)⟩))
  obtain⟨m,M⟩:=xq (Xbo (bs g));rw[←M] at C x;obtain⟨q,I⟩:=xq (decide (bs g∈(gs.map bs).take j));rw[←I] at G;have J:=Hd I;clear B s M z I;go_wp2_with fail;refine C.o.mono ?_;rintro e w1 ⟨rfl,l⟩;have R:=Hd l;have D:=bh t l;have K:=Hd (G.o w1 l);clear l C H G;by_cases m0:m=0
  ·have Q:((m:Int) !=0)=false:=Xaw (by omega);have L:=Hd m0;clear m0;cases q
   ·have d:Hid (Xcy Xbo (gs.map bs)=Xc6 Xbo 7 ((gs.map bs).take (j+1)) ((gs.map bs).drop (j+1))):=Hd (by rw[A.o,x.o,qN (by rw[L.o];decide),qN (of_decide_eq_false J.o.symm)]);go_wp2_with (go_at_call 125;refine K.o.mono ?_;rintro e w' ⟨rfl,rfl⟩)
    go_roundg (n-(j+1));exact⟨j+1,by omega,rfl,by go_num,d,D⟩;omega
   have d:Hid (Xcy Xbo (gs.map bs)=7):=Hd (by rw[A.o,x.o,qN (by rw[L.o];decide),qP (of_decide_eq_true J.o.symm)]);go_wp2_with (go_at_call 125;refine K.o.mono ?_;rintro e w' ⟨rfl,rfl⟩)
   go_ret;exact⟨by rw[d.o];rfl,D.o⟩
  have Q:((m:Int) !=0)=true:=Xaq (by omega);have d:Hid (Xcy Xbo (gs.map bs)=m):=Hd (by rw[A.o,x.o,qP m0]);clear m0;go_wp2_with fail;go_ret;exact⟨by rw[d.o];rfl,D.o⟩
 obtain rfl:j=n:=by omega
 have d:Hid (Xcy Xbo (gs.map bs)=0):=Hd (by rw[A.o,List.drop_of_length_le (by rw[List.length_map,E.o];exact zL _)];rfl);go_wp2_with fail;go_ret;exact⟨by rw[d.o];rfl,t.o⟩
def StL (t:ByteArray)(en er en' er':Nat)(f:List Nat→Nat):Prop:=
 ∀k:List Nat→Nat,fe er (nxt ((bs t).drop en) fun x T=>fe (f x) (k T))=fe er' (k ((bs t).drop en'))
theorem StL.no {t:ByteArray}{en er en' er':Nat}{f:List Nat→Nat}(h:er'≠0)(hk:∀k,fe er (nxt ((bs t).drop en) k)=er'):StL t en er en' er' f:=by intro k;rw[hk];unfold fe;rw[qP h]
theorem StL.yes {t:ByteArray}{en en':Nat}{f:List Nat→Nat}{x:List Nat}(hk:∀k,nxt ((bs t).drop en) k=k x ((bs t).drop en')):StL t en 0 en' (f x) f:=by intro k;rw[hk];rfl
def Xlz (w:World)(b:Nat)(t:ByteArray)(en er:Nat)(f:List Nat→Nat)(R:Value→Prop)(e:Ending)(w':World):Prop:=
 ∃(v:Value) (st' en':Nat) (a:Int) (er':Nat),e=.returned v∧R v∧WS w' b t st' en' a er'∧Fr1 b w w'∧StL t en er en' er' f
theorem Xky (w:World)(b:Nat)(t:ByteArray)(st en:Nat)(at_:Int)(er:Nat)(h:WS w b t st en at_ er)(hE:Env w)(hb9:9≤b)(ht:t.size≤1000000):Calls prog 193 #[.pointer (some ⟨b,0,none⟩)] w (Xlz w b t en er Xih fun v=>∃s,v=.string s∧s.size≤t.size):=by
 have C:=Hd (Xf4 w b t st en at_ er h hE hb9 ht);have M:=Hd hE;clear h hE;go_enter func193,ntmps193;go_wp2_with fail;refine C.o.mono ?_;rintro e w1 ⟨x,P,f,c,a,l,rfl,F,u,A,h⟩;have r:=Hd F;have p:=Hd u;have I:=Hd (Xbv M.o hb9 u);clear C F u;rcases h with⟨rfl,hne,hk⟩|⟨rfl,rfl,rfl,hk⟩;·have i:Hid (StL t en er c l Xih):=Hd (StL.no hne hk);clear hne hk;go_wp2_with fail;go_ret;exact⟨_,f,c,a,l,rfl,⟨x,rfl,A⟩,r.o,p.o,i.o⟩
 have i:Hid (StL t en 0 c (Xih (bs x)) Xih):=Hd (StL.yes hk);have j:=Hd (Xmr x w1 (by omega) I.o);have k:Hid (Xih (bs x)=if Xbo (bs x)=0 then 0 else 12):=Hd rfl;obtain⟨m,H⟩:=xq (Xbo (bs x));rw[←H] at j k;clear hk H;by_cases m0:m=0
 ·have N:((m:Int) !=0)=false:=by rw[m0];rfl
  have g:Hid (StL t en 0 c 0 Xih):=Hd (by have:=i.o;rw[k.o,qP m0] at this;exact this);clear m0 i k;go_wp2_with fail;refine j.o.mono ?_;rintro e n ⟨rfl,d⟩;have K:=Hd (r.o.below d);have q:=Hd (p.o.trans (Fr1.of_below d));clear d j;go_wp2_with fail;go_ret;exact⟨_,f,c,a,0,rfl,⟨x,rfl,A⟩,K.o,q.o,g.o⟩
 have N:((m:Int) !=0)=true:=Xaq (by omega);have g:Hid (StL t en 0 c 12 Xih):=Hd (by have:=i.o;rw[k.o,qN m0] at this;exact this);clear m0 i k;go_wp2_with fail;refine j.o.mono ?_;rintro e n ⟨rfl,d⟩;have y:=r.o.below d;have z:n.cell? ⟨b,1,none⟩=some (.int .i64 (f:Int)):=cell_of_row n b 1 _ _ _ y.1;have q:=Hd (p.o.trans (Fr1.of_below d));have B:=Hd (Xca n b t f c a 0 y (f:Int) 12);clear d j y;go_wp2_with fail;refine B.o.mono ?_;rintro e O ⟨⟨v,rfl⟩,⟨D,G⟩,E⟩;have L:Hid (WS O b t f c D 12):=Hd G;have J:=Hd (q.o.trans E);clear B G E z;go_wp2_with fail;go_ret;exact⟨_,f,c,D,12,rfl,⟨x,rfl,A⟩,L.o,J.o,g.o⟩
theorem Xia (w:World)(b:Nat)(t:ByteArray)(st en:Nat)(at_:Int)(er:Nat)(h:WS w b t st en at_ er)(hE:Env w)(hb9:9≤b)(ht:t.size≤1000000)(lo hi:Nat)(hlo:lo≤1000000)(hhi:hi≤1000000):Calls prog 195 #[.pointer (some ⟨b,0,none⟩),.int .i64 (lo:Int),.int .i64 (hi:Int)] w (Xlz w b t en er (Xfe lo hi) fun v=>∃n:Int,v=.int .i64 n):=by
 have E:=Hd (Xf4 w b t st en at_ er h hE hb9 ht);have I:=Hd hE;clear h hE;go_enter func195,ntmps195;go_wp2_with fail;refine E.o.mono ?_;rintro e w1 ⟨x,K,d,c,a,z,rfl,C,F,J,h⟩;have m:w1.cell? ⟨b,1,none⟩=some (.int .i64 (d:Int)):=cell_of_row w1 b 1 _ _ _ C.1;have B:=Hd C;have s:=Hd F;clear E C F;rcases h with⟨rfl,hne,hk⟩|⟨rfl,rfl,rfl,hk⟩;·have g:Hid (StL t en er c z (Xfe lo hi)):=Hd (StL.no hne hk);clear hne hk;go_wp2_with fail;go_ret;exact⟨_,d,c,a,z,rfl,⟨_,rfl⟩,B.o,s.o,g.o⟩
 have g:Hid (StL t en 0 c (Xfe lo hi (bs x)) (Xfe lo hi)):=Hd (StL.yes hk);have p:=Hd (Xsp x w1 (by omega));have q:=Hd (fun n=>Xca w1 b t d c a 0 B.o (d:Int) n);have r:Hid (Xfe lo hi (bs x)=match Xli (bs x) with|none=>3|some n=>if n<lo∨hi<n then 2 else 0):=Hd rfl;clear hk
 cases hp:Xli (bs x) with
 |none=>have f:Hid (StL t en 0 c 3 (Xfe lo hi)):=Hd (by have:=g.o;rw[r.o,hp] at this;exact this);clear g r;go_wp2_with fail;refine p.o.mono ?_;rintro e G ⟨l,rfl⟩;rw[hp] at l;obtain rfl:=l;clear p hp;go_wp2_with fail;refine(q.o 3).mono ?_;rintro e A ⟨⟨v,rfl⟩,⟨i,k⟩,j⟩;have y:Hid (WS A b t d c i 3):=Hd k;have u:=Hd (s.o.trans j);clear q k j m;go_wp2_with fail;go_ret;exact⟨_,d,c,i,3,rfl,⟨_,rfl⟩,y.o,u.o,f.o⟩
 |some n=>
  by_cases hb:n<lo∨hi<n
  ·have f:Hid (StL t en 0 c 2 (Xfe lo hi)):=Hd (by have:=g.o;rw[r.o,hp] at this;simp only[qP hb] at this;exact this);clear g r;go_wp2_with fail;refine p.o.mono ?_;rintro e G ⟨l,rfl⟩;rw[hp] at l;obtain rfl:=l;clear p hp;by_cases H:n<lo;·clear hb;go_wp2_with fail;refine(q.o 2).mono ?_;rintro e A ⟨⟨v,rfl⟩,⟨i,k⟩,j⟩;have y:Hid (WS A b t d c i 2):=Hd k;have u:=Hd (s.o.trans j);clear q k j m;go_wp2_with fail;go_ret;exact⟨_,d,c,i,2,rfl,⟨_,rfl⟩,y.o,u.o,f.o⟩
   have D:hi<n:=by omega
   clear hb;go_wp2_with fail;refine(q.o 2).mono ?_;rintro e A ⟨⟨v,rfl⟩,⟨i,k⟩,j⟩;have y:Hid (WS A b t d c i 2):=Hd k;have u:=Hd (s.o.trans j);clear q k j m;go_wp2_with fail;go_ret;exact⟨_,d,c,i,2,rfl,⟨_,rfl⟩,y.o,u.o,f.o⟩
  have f:Hid (StL t en 0 c 0 (Xfe lo hi)):=Hd (by have:=g.o;rw[r.o,hp] at this;simp only[qN hb] at this;exact this);have H:¬n<lo:=by omega
  have D:¬hi<n:=by omega
  clear g r hb;go_wp2_with fail;refine p.o.mono ?_;rintro e G ⟨l,rfl⟩;rw[hp] at l;obtain rfl:=l;clear p hp;go_wp2_with fail;go_ret;exact⟨_,d,c,a,0,rfl,⟨_,rfl⟩,B.o,s.o,f.o⟩
theorem WS.row {w:World}{b:Nat}{t:ByteArray}{st en:Nat}{at_:Int}{er:Nat}(h:WS w b t st en at_ er){g:Nat}(hg:b≠g)(cs:Array Value):WS (w.setRow g cs) b t st en at_ er:=⟨(setRow_other w g b cs hg).trans h.1,h.2⟩
theorem Fr1.row {b g:Nat}{w w':World}(h:Fr1 b w w')(hg:w.heap.size≤g)(cs:Array Value):Fr1 b w (w'.setRow g cs):=
 have B:=below_setRow (zR g w') (zL g) cs
 ⟨B.os.trans h.os,B.tape.trans h.tape,B.output.trans h.output,Nat.le_trans h.size B.size,fun k hk hne=>(setRow_other w' g k cs (by omega)).trans (h.other k hk hne)⟩
def Cl (n:Nat)(cs:Array Value):Prop:=cs.size=n∧cs.all (·.oneCell')=true
theorem Yga {l:List Nat}(h:IdOk l):Cl 32 (idA l):=⟨by rw[Xaf,h.len],Xec _⟩
theorem Xap (w:World)(g n:Nat)(ty:TypeId)(d:TypeDesc)(cs:Array Value)(T:TypeId)(fr:Nat×Nat)(hg:w.heap[g]?=some (.cells cs T fr))(hd:(match d with|.struct _|.array _ _=>true|_=>false)=true)(hu:prog.underlying ty=some d)(hi:(prog.info? ty).map (·.size)=some n)(hc:cs.size=n):(loadVar ty ⟨g,0,none⟩).run prog w=.ok (.agg cs) w:=
 by
 have a:(prog.info? ty).map (·.size)=some cs.size:=by rw[hi,hc]
 cases d<;>first|exact run_loadVar_row w g T ty cs fr _ hg hu rfl a|exact absurd hd (by simp)
theorem Xl3 (w:World)(b:Nat)(t:ByteArray)(st en:Nat)(at_:Int)(er:Nat)(h:WS w b t st en at_ er)(hE:Env w)(hb9:9≤b)(ht:t.size≤1000000):Calls prog 191 #[.pointer (some ⟨b,0,none⟩)] w (Xlz w b t en er Xhx fun v=>∃cs,v=.agg cs∧Cl 32 cs):=by
 obtain⟨s,L⟩:=xq (idA zero32);have Z:Cl 32 s:=by rw[L];exact Yga zero_ok
 have BU:Hid (∀w,(Instr.build 26 #[]).run prog w=.ok (.agg s) w):=Hd (fun w=>by rw[L];kernel_rfl);have aC:=h.lt;have NX:Hid (∀w0,w.alloc (.cells s 26)=w0→Calls prog 239 #[.pointer (some ⟨b,0,none⟩)] w0 (Yc0 (w.alloc (.cells s 26)) b t st en er)):=Hd (by rintro w0 rfl;have B:=(zR w.heap.size w).alloc (zL _) (.cells s 26);exact Xf4 _ b t st en at_ er (h.below B) (hE.on B) hb9 ht);have D:Hid (w.alloc (.cells s 26)=w.alloc (.cells (Array.replicate 32 (.int .u8 0)) 26)):=Hd (by rw[L];rfl);have HE:=Hd hE;have E:=Hd Z;clear h hE L Z;go_enter func191,ntmps191;go_wp2_with fail;refine(NX.o _ D.o).mono ?_;rintro e w1 ⟨x,ok,d,k,a,V,rfl,h1,f1,hx,h⟩;have N:w1.heap[w.heap.size]?=some (.cells s 26 (0,0)):=(f1.other w.heap.size (by simp) (by omega)).trans (zN w _);have f0:Fr1 b w w1:=(Fr1.of_below ((zR w.heap.size w).alloc (zL _) _)).trans f1;have R:=Hd h1;have F1:=Hd f0;have Z1:=Hd N;have Y:w.heap.size<w1.heap.size:=zY N;clear NX h1 f1 D f0 N;rcases h with⟨rfl,hne,hk⟩|⟨rfl,rfl,rfl,hk⟩
 ·have Q:Hid (StL t en er k V Xhx):=Hd (StL.no hne hk);have y:=Hd (run_storeVar_row (P:=prog) w1 w.heap.size _ 26 s s Z1.o (by rw[E.o.1];exact Xbh) rfl E.o.2);have W2:=Hd (setRow_heap w1 w.heap.size s s _ _ Z1.o);have H2:=Hd (R.o.row (show b≠w.heap.size by omega) s);have F2:=Hd (F1.o.row (zL w.heap.size) s);clear hne hk;go_wp2_with (first
   |((with_reducible refine Xah 26 rfl rfl ?_);refine⟨_,BU.o _,?_⟩)
   |((with_reducible refine Xaa 26 rfl _ _ rfl ?_);refine⟨_,_,_,rfl,rfl,y.o,?_⟩))
  exact zP (results_cell_row results191 _ _ w.heap.size _ _ _ _ rfl W2.o underlying26 rfl (by rw[E.o.1];exact Xbh)) rfl
   ⟨_,d,k,a,V,rfl,⟨_,rfl,E.o⟩,H2.o,F2.o,Q.o⟩
 have Q:Hid (StL t en 0 k (Xhx (bs x)) Xhx):=Hd (StL.yes hk);have MP:=Hd (Xwo x w1 (by omega));have TF:Hid (Xhx (bs x)=match Xlj (bs x) with|none=>3|some i=>if i=zero32 then 1 else 0):=Hd rfl;clear hk
 have u:Hid (∀(q:World) (cs:Array Value) (p:Nat) (d:Nat) (a:Int) (n:Nat),Cl 32 cs→q.heap[w.heap.size]?=some (.cells s 26 (0,0))→q.heap[p]?=some (.cells cs 26 (0,0))→WS q b t d k a n→Fr1 b w q→StL t en 0 k n Xhx→
     Ld 26 ⟨p,0,none⟩ q (.agg cs)∧Sv 26 ⟨w.heap.size,0,none⟩ (.agg cs) q (q.setRow w.heap.size cs)∧
     (∀tmps:Array Value,tmps.getD 2 undef=.pointer (some ⟨w.heap.size,0,none⟩)→(results Tryz.f191 tmps).run prog (q.setRow w.heap.size cs)=.ok (.agg cs) (q.setRow w.heap.size cs))∧
     Xlz w b t en 0 Xhx (fun v=>∃cs,v=.agg cs∧Cl 32 cs) (.returned (.agg cs)) (q.setRow w.heap.size cs)):=Hd (fun q cs p d a n hcl hg hp hw hf hsl=>
  ⟨Xap q p 32 _ _ cs _ _ hp rfl underlying26 Xbh hcl.1,
   run_storeVar_row (P:=prog) q w.heap.size _ 26 s cs hg (by rw[hcl.1];exact Xbh) (by rw[hcl.1,E.o.1]) hcl.2,
   fun tmps h2=>results_cell_row results191 tmps _ w.heap.size _ _ _ _ h2 (setRow_heap q w.heap.size s cs _ _ hg) underlying26 rfl (by rw[hcl.1];exact Xbh),
   ⟨_,d,k,a,n,rfl,⟨_,rfl,hcl⟩,hw.row (by omega) cs,hf.row (zL _) cs,hsl⟩⟩)
 cases hp:Xlj (bs x) with
 |none=>
  have H:Hid (StL t en 0 k 3 Xhx):=Hd (by have:=Q.o;rw[TF.o,hp] at this;exact this);clear Q TF;go_wp2_with fail;refine MP.o.mono ?_;rintro e f ⟨a2,W,hv,j⟩;rw[hp] at hv;obtain⟨rfl,X⟩:=hv;obtain⟨cs,r⟩:=xq (idA zero32);have A:Hid (Cl 32 cs):=Hd (by rw[r];exact Yga zero_ok);rw[←r];have q0:(W !=0)=true:=Xaq X;have I:Hid (∀zz:Array Value,zz.size=32→Sv 26 ⟨f.heap.size,0,none⟩ (.agg cs) (f.alloc (.cells zz 26)) (f.alloc (.cells cs 26))):=Hd (fun zz M=>run_storeVar_new f 26 zz cs (by rw[A.o.1];exact Xbh) (by rw[M,A.o.1]) A.o.2);have m:Bw w1 (f.alloc (.cells cs 26)):=j.alloc j.size _;have h3:=R.o.below m;have K:(f.alloc (.cells cs 26)).cell? ⟨b,1,none⟩=some (.int .i64 (d:Int)):=cell_of_row _ b 1 _ _ _ h3.1;have Z3:=Hd ((m.block _ Y).trans Z1.o);have U:=Hd (zN f (.cells cs 26));have F3:=Hd (F1.o.trans (Fr1.of_below m));have O:=Hd (Xca _ b t d k a 0 h3 (d:Int) 3);have aA:b≠f.heap.size:=by have:=R.o.lt;have:=j.size;omega
  have aB:w.heap.size<f.heap.size:=by have:=j.size;omega
  clear MP hp X j m h3 r;go_wp2_with ((with_reducible refine Xaa 26 rfl _ _ rfl ?_);refine⟨_,_,_,rfl,rfl,I.o _ rfl,?_⟩)
  refine O.o.mono ?_;rintro e q ⟨⟨v,rfl⟩,⟨a',G⟩,J⟩;obtain⟨C,y,g,c⟩:=u.o q cs f.heap.size d a' 3 A.o ((J.other _ (by simp;omega) (by omega)).trans Z3.o) ((J.other _ (by simp) (by omega)).trans U.o) G (F3.o.trans J) H.o;have C:=Hd C;have y:=Hd y;have g:=Hd g;have c:=Hd c;clear G J O u K;go_upto_region 9 with fail;refine wp_region_list ?_;simp only[];refine Xab 26 rfl _ rfl ⟨_,_,rfl,C.o,?_⟩;go_wp2_with ((with_reducible refine Xaa 26 rfl _ _ rfl ?_);refine⟨_,_,_,rfl,rfl,y.o,?_⟩)
  exact zP (g.o _ rfl) rfl c.o
 |some l=>
  have S:=Hd (Xuh hp);obtain⟨z,M⟩:=xq (decide (l=zero32));have H:Hid (StL t en 0 k (if z=true then 1 else 0) Xhx):=Hd (by have:=Q.o;rw[TF.o,hp] at this;simp only[M,decide_eq_true_eq];exact this);clear Q TF;go_wp2_with fail;refine MP.o.mono ?_;rintro e f ⟨a2,W,hv,j⟩;rw[hp] at hv;obtain rfl:=hv;obtain⟨cs,r⟩:=xq (idA l);have A:Hid (Cl 32 cs):=Hd (by rw[r];exact Yga S.o);have IZ:Hid (∀w,zJ 82 #[.agg cs] w (.bool z)):=Hd (fun w=>by rw[M,r];exact Xf7 w S.o);rw[←r];have I:Hid (∀zz:Array Value,zz.size=32→Sv 26 ⟨f.heap.size,0,none⟩ (.agg cs) (f.alloc (.cells zz 26)) (f.alloc (.cells cs 26))):=Hd (fun zz M=>run_storeVar_new f 26 zz cs (by rw[A.o.1];exact Xbh) (by rw[M,A.o.1]) A.o.2);have m:Bw w1 (f.alloc (.cells cs 26)):=j.alloc j.size _;have H3:=Hd (R.o.below m);have Z3:=Hd ((m.block _ Y).trans Z1.o);have U:=Hd (zN f (.cells cs 26));have F3:=Hd (F1.o.trans (Fr1.of_below m));have T:Hid (Ld 26 ⟨f.heap.size,0,none⟩ (f.alloc (.cells cs 26)) (.agg cs)):=Hd (Xap _ f.heap.size 32 _ _ cs _ _ U.o rfl underlying26 Xbh A.o.1);have aA:b<f.heap.size:=by have:=R.o.lt;have:=j.size;omega
  have aB:w.heap.size<f.heap.size:=by have:=j.size;omega
  clear MP hp j m r M;go_upto_region 7 with((with_reducible refine Xaa 26 rfl _ _ rfl ?_);refine⟨_,_,_,rfl,rfl,I.o _ rfl,?_⟩)
  refine wp_region_list ?_;simp only[];refine Xab 26 rfl _ rfl ⟨_,_,rfl,T.o,?_⟩;go_wp2_with fail;refine(IZ.o _).mono ?_;rintro e w3 ⟨rfl,F⟩;have G:=H3.o.below F;have K:w3.cell? ⟨b,1,none⟩=some (.int .i64 (d:Int)):=cell_of_row _ b 1 _ _ _ G.1;have Z4:=Hd ((F.block _ (by simp;omega)).trans Z3.o);have P4:=Hd ((F.block _ (by simp)).trans U.o);have F4:=Hd (F3.o.trans (Fr1.of_below F));have H4:=Hd G;have aD:f.heap.size<w3.heap.size:=zY P4.o;have O:=Hd (Xca _ b t d k a 0 G (d:Int) 1);clear F G IZ T I Z3 U;cases z
  ·obtain⟨C,y,g,c⟩:=u.o w3 cs f.heap.size d a 0 A.o Z4.o P4.o H4.o F4.o H.o;have C:=Hd C;have y:=Hd y;have g:=Hd g;have c:=Hd c;clear O u K;go_upto_region 9 with fail;refine wp_region_list ?_;simp only[];refine Xab 26 rfl _ rfl ⟨_,_,rfl,C.o,?_⟩;go_wp2_with ((with_reducible refine Xaa 26 rfl _ _ rfl ?_);refine⟨_,_,_,rfl,rfl,y.o,?_⟩)
   exact zP (g.o _ rfl) rfl c.o
  go_wp2_with fail;refine O.o.mono ?_;rintro e q ⟨⟨v,rfl⟩,⟨a',G⟩,J⟩;obtain⟨C,y,g,c⟩:=u.o q cs f.heap.size d a' 1 A.o ((J.other _ (by omega) (by omega)).trans Z4.o) ((J.other _ (by omega) (by omega)).trans P4.o) G (F4.o.trans J) H.o;have C:=Hd C;have y:=Hd y;have g:=Hd g;have c:=Hd c;clear G J O u K;go_upto_region 9 with fail;refine wp_region_list ?_;simp only[];refine Xab 26 rfl _ rfl ⟨_,_,rfl,C.o,?_⟩;go_wp2_with ((with_reducible refine Xaa 26 rfl _ _ rfl ?_);refine⟨_,_,_,rfl,rfl,y.o,?_⟩)
  exact zP (g.o _ rfl) rfl c.o
def Xvh (w:World)(b:Nat)(t:ByteArray)(en er:Nat)(e:Ending)(w':World):Prop:=
 ∃(s:ByteArray) (st' en':Nat) (a:Int) (er':Nat),e=.returned (.string s)∧s.size≤t.size∧WS w' b t st' en' a er'∧Fr1 b w w'∧fe er' (fin ((bs t).drop en'))=fe er (Xd3 ((bs t).drop en))
theorem Yjq {t:ByteArray}{en:Nat}(h:t.size≤en):fin ((bs t).drop en)=0:=by unfold fin;rw[List.drop_of_length_le (by rw[Xac];exact h),qP rfl]
theorem Xqf (n:Nat):fe n 0=n:=by unfold fe;split<;>simp_all
theorem Yd8 (w:World)(b:Nat)(t:ByteArray)(st en:Nat)(at_:Int)(er:Nat)(h:WS w b t st en at_ er)(hb9:9≤b)(ht:t.size≤1000000):Calls prog 197 #[.pointer (some ⟨b,0,none⟩)] w (Xvh w b t en er):=by
 have j:w.cell? ⟨b,0,none⟩=some (.string t):=cell_of_row w b 0 _ _ _ h.1;have x:w.cell? ⟨b,2,none⟩=some (.int .i64 (en:Int)):=cell_of_row w b 2 _ _ _ h.1;have B:w.cell? ⟨b,4,none⟩=some (.int .i64 (er:Int)):=cell_of_row w b 4 _ _ _ h.1;have aA:=h.2;have H:=Hd h;have s:=Hd (Xac t);clear h;by_cases h0:er=0
 ·subst h0;have C:w.cell? ⟨b,4,none⟩=some (.int .i64 0):=B;clear B;by_cases hq:en=t.size
  ·have T:((en:Int)==(t.size:Int))=true:=by rw[hq];simp
   have d:Hid (fe 0 (fin ((bs t).drop en))=fe 0 (Xd3 ((bs t).drop en))):=Hd (by rw[List.drop_of_length_le (by rw[s.o];omega)];rfl);clear hq;go_enter func197,ntmps197;go_upto_region 1 with fail;go_quiet (fail);go_wp2_with fail;go_ret;exact⟨⟨#[]⟩,st,en,at_,0,rfl,Nat.zero_le _,H.o.below (Dr.below ⟨nq,rfl⟩),Dr.fr ⟨nq,rfl⟩,d.o⟩
  have Q:en<t.size:=by omega
  have T:((en:Int)==(t.size:Int))=false:=Xar (by omega);obtain⟨c,k⟩:=xq (t.extract (en+1) t.size);have R:c.size=t.size-(en+1):=by rw[k,ByteArray.size_extract];omega
  have A:bs c=(bs t).drop (en+1):=by rw[k,Xb3,List.take_of_length_le (by rw[s.o];exact zL _)]
  have X:=Hd k;have d:Hid (∀m,(m=if bs c=[] then 4 else Xna (bs c))→fe m (fin ((bs t).drop t.size))=fe 0 (Xd3 ((bs t).drop en))):=Hd (fun m I=>by rw[Yjq (zL _),Xqf,show(bs t).drop en=(bs t)[en]'(by rw[s.o];exact Q)::(bs t).drop (en+1) from List.drop_eq_getElem_cons _,I,A];rfl);have S:c.size≤t.size:=by omega
  clear hq R A k;go_enter func197,ntmps197;go_upto_region 1 with fail;go_quiet (fail);obtain⟨w0,l⟩:=xq (w.drewN nq);have y:Hid (WS w0 b t st en at_ 0):=Hd (by rw[l];exact H.o.below (Dr.below ⟨nq,rfl⟩));have F0:Hid (Fr1 b w w0):=Hd (by rw[l];exact Dr.fr ⟨nq,rfl⟩);rw[←l];clear l j x C H;have j:w0.cell? ⟨b,0,none⟩=some (.string t):=cell_of_row w0 b 0 _ _ _ y.o.1;have i:w0.cell? ⟨b,1,none⟩=some (.int .i64 (st:Int)):=cell_of_row w0 b 1 _ _ _ y.o.1;have x:w0.cell? ⟨b,2,none⟩=some (.int .i64 (en:Int)):=cell_of_row w0 b 2 _ _ _ y.o.1;have O:w0.frozen? ⟨b,1,none⟩=false:=by have:=y.o.1;simp[World.frozen?,this]
  have P:w0.frozen? ⟨b,2,none⟩=false:=by have:=y.o.1;simp[World.frozen?,this]
  go_upto_region 3 with fail;go_region;obtain⟨w1,p⟩:=xq (((w0.setCell ⟨b,1,none⟩ (.int .i64 ((en:Int)+1))).setCell ⟨b,2,none⟩ (.int .i64 (t.size:Int))).drew);have K:Hid (WS w1 b t (en+1) t.size at_ 0):=Hd (by rw[p];exact⟨Xez (Xez y.o.1 1 _) 2 _,zL _⟩);have F1:Hid (Fr1 b w w1):=Hd (by rw[p];exact((F0.o.trans (Fr1.setC _)).trans (Fr1.setC _)).trans (Dr.fr ⟨1,rfl⟩));rw[←p];clear p j i x O P;have j:w1.cell? ⟨b,0,none⟩=some (.string t):=cell_of_row w1 b 0 _ _ _ K.o.1;have i:w1.cell? ⟨b,1,none⟩=some (.int .i64 ((en:Int)+1)):=cell_of_row w1 b 1 _ _ _ K.o.1;go_upto_region 4 with fail;go_quiet (fail);obtain⟨q,f⟩:=xq (w1.drewN nq);have L:Hid (WS q b t (en+1) t.size at_ 0):=Hd (by rw[f];exact K.o.below (Dr.below ⟨nq,rfl⟩));have V:Hid (Fr1 b w q):=Hd (by rw[f];exact F1.o.trans (Dr.fr ⟨nq,rfl⟩));rw[←f];clear f j i;have i:q.cell? ⟨b,1,none⟩=some (.int .i64 ((en:Int)+1)):=cell_of_row q b 1 _ _ _ L.o.1;go_upto_region 5 with fail;rw[show t.extract (en+1) t.size=c from X.o.symm];clear X;have J:Hid (∀w,Calls prog 242 #[.string c] w fun e w''=>e=.returned (.int .i64 (Xna (bs c):Nat))∧w''=w):=Hd (fun w=>(Ybx c w (by omega)).mono fun e w' h=>⟨h.1,h.2.symm⟩);obtain⟨m,I⟩:=xq (Xna (bs c));rw[←I] at J d;clear I;have g:Hid (∀(wX:World) (a:Int) (n:Nat),WS wX b t (en+1) t.size a n→Fr1 b w wX→fe n m=(if bs c=[] then 4 else m)→∃E,E=wX.drew∧E.cell? ⟨b,1,none⟩=some (.int .i64 ((en:Int)+1))∧Calls prog 142 #[.pointer (some ⟨b,0,none⟩),.int .i64 ((en:Int)+1),.int .i64 (m:Int)] E (fun e w'=>(∃v,e=.returned v)∧Xvh w b t en 0 (.returned (.string c)) w')):=Hd (fun wX a n hw hf hfe=>by have Y:Bw wX wX.drew:=Dr.below ⟨1,rfl⟩;have f:=hw.below Y;refine⟨_,rfl,cell_of_row wX.drew b 1 _ _ _ f.1,(Xca wX.drew b t (en+1) t.size a n f _ m).mono ?_⟩;rintro e w' ⟨⟨v,rfl⟩,⟨u,G⟩,F⟩;exact⟨⟨_,rfl⟩,c,en+1,t.size,u,_,rfl,S,G,(hf.trans (Fr1.of_below Y)).trans F,d.o _ hfe⟩);by_cases he:c=⟨#[]⟩
  ·have qe:c.toList.isEmpty=true:=by rw[he,ByteArray.toList_eq];rfl
   have W:=Hd (Xca q b t (en+1) t.size at_ 0 L.o ((en:Int)+1) 4);have Z:Hid (bs c=[]):=Hd (by rw[he];rfl);clear he;go_upto_region 6 with fail;go_wp2_with fail;refine W.o.mono ?_;rintro e U ⟨⟨v,rfl⟩,⟨u,G⟩,F⟩;obtain⟨E,z,N,r⟩:=g.o U u 4 G (V.o.trans F) (by rw[qP Z.o];rfl);have r:=Hd r;clear W F i G g d;go_upto_region 7 with fail;refine wp_region_still_tail 7 (by kernel_rfl) (by kernel_rfl) ?_;simp only[List.take_succ_cons,List.take_zero,List.drop_succ_cons,List.drop_zero];change wpStill _ _ U.drew (fun u=>wpList _ _ _ _ u U.drew) _ _;rw[←z];clear z;repeat still_step
   still_call (J.o _)
   refine wpStill_nil ?_;go_wp2_with fail;refine r.o.mono ?_;rintro e w4 ⟨⟨v,rfl⟩,D⟩;have M:=Hd D;clear D;go_wp2_with fail;go_ret;exact M.o
  have qe:c.toList.isEmpty=false:=Xfa (fun h=>he (ByteArray.ext (Array.eq_empty_of_size_eq_zero h)))
  obtain⟨E,z,N,r⟩:=g.o q at_ 0 L.o V.o (by rw[qN (fun h=>he (by
   have:c.size=0:=by rw[←Xac,h];rfl
   exact ByteArray.ext (Array.eq_empty_of_size_eq_zero this)))];rfl)
  have r:=Hd r;clear g d i he;go_upto_region 7 with fail;refine wp_region_still_tail 7 (by kernel_rfl) (by kernel_rfl) ?_;simp only[List.take_succ_cons,List.take_zero,List.drop_succ_cons,List.drop_zero];change wpStill _ _ q.drew (fun u=>wpList _ _ _ _ u q.drew) _ _;rw[←z];clear z;repeat still_step
  still_call (J.o _)
  refine wpStill_nil ?_;go_wp2_with fail;refine r.o.mono ?_;rintro e w4 ⟨⟨v,rfl⟩,D⟩;have M:=Hd D;clear D;go_wp2_with fail;go_ret;exact M.o
 have T:((er:Int)==0)=false:=Xar (by omega);have aB:((er:Int) !=0)=true:=by simp[bne,T]
 have d:Hid (fe er (fin ((bs t).drop en))=fe er (Xd3 ((bs t).drop en))):=Hd (by unfold fe;rw[qP h0,qP h0]);clear h0;go_enter func197,ntmps197;go_upto_region 1 with fail;go_quiet (fail);go_wp2_with fail;go_ret;exact⟨⟨#[]⟩,st,en,at_,er,rfl,Nat.zero_le _,H.o.below (Dr.below ⟨nq,rfl⟩),Dr.fr ⟨nq,rfl⟩,d.o⟩
end Go.Proofs.YtjolcnopipbkhaaGreatDoor
