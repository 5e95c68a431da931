/- sha256: digest. -/
import Derived.Test.YtjolcnopipbkhaaGreatDoorVe02
import Derived.Shelf.Strings.Builder1
import Derived.Shelf.Strings.Builder2
import Derived.Shelf.Strings.OnBuilder
import Derived.Shelf.Small.Strs
import Derived.Shelf.Small.Wraps
import Derived.Shelf.Strings.BuilderF
import Derived.Shelf.Utf8.RuneCount
import Derived.Shelf.Strconv.Itoa0
import Derived.Shelf.Strconv.Itoa1
import Derived.Shelf.LaysM
import Derived.Shelf.Strconv.Itoa2
import Derived.Shelf.Strconv.Itoa3
import Derived.Shelf.Strings.Search1
import Derived.Shelf.Strings.Search2
import Derived.Shelf.Strings.Search3
import Derived.Shelf.Strings.Cut
import Derived.Shelf.Strings.Count
import Derived.Shelf.Strings.Shaped
import Derived.Shelf.Strings.Prefix
import Derived.Shelf.Strings.Split
import Derived.Shelf.Strings.SplitShaped
import Derived.Shelf.Unicode.Decode
import Derived.Shelf.Strings.RuneCount
import Derived.Shelf.Strings.Explode
import Derived.Shelf.Unicode.DecodeSlow
import Derived.Shelf.Unicode.DecodeAny
import Derived.Shelf.Slices.Turned
import Derived.Shelf.Slices.Equal
import Derived.Shelf.Slices.Empties2
import Derived.Lib.Split
import Derived.Lib.SplitLaws
import Derived.Lib.Join
import Derived.Lib.IndexBytes
import Derived.Lib.ItoaMem
import Derived.Laws.IdiomStrings
import Derived.Laws.AppendOwn
namespace Go.Proofs.YtjolcnopipbkhaaGreatDoor
open Go.Proofs.Tryz
open Go.RowKit Go.Maps
set_option linter.unusedVariables false
set_option maxHeartbeats 100000000
set_option maxRecDepth 100000
def wL (v:W8):List Nat:=[v.a,v.b,v.c,v.d,v.e,v.f,v.g,v.i]
theorem Ynm (v:W8):wC v=wA (wL v):=rfl
theorem Yjx (x:Nat):(dgW x).length=4:=by simp[dgW]
theorem Ymk (f:Nat→List Nat)(hf:∀x,(f x).length=4):∀(l:List Nat) (i k:Nat),i<l.length→k<4→(l.flatMap f)[4*i+k]?=(f (l.getD i 0))[k]?
 |[],i,k,h,_=>by simp at h
 |x::l,0,k,_,hk=>by rw[List.flatMap_cons,List.getElem?_append_left (by rw[hf];omega)];simp
 |x::l,i+1,k,h,hk=>by rw[List.flatMap_cons,List.getElem?_append_right (by rw[hf];omega),hf,show 4*(i+1)+k-4=4*i+k by omega,Ymk f hf l i k (by simpa using h) hk];simp
theorem Xbm (v:W8):(dgF v).length=32:=by simp[dgF,dgW]
theorem Yhp (v:W8)(i k:Nat)(hi:i<8)(hk:k<4):(dgF v)[4*i+k]?=some ((wL v).getD i 0/2^(24-8*k)%256):=by have:=Ymk dgW Yjx (wL v) i k hi hk;show((wL v).flatMap dgW)[4*i+k]?=_;rw[this];simp[dgW,hk]
theorem Yho (v:W8):∀x∈dgF v,x<256:=by intro x a;obtain⟨y,_,b⟩:=List.mem_flatMap.1 a;obtain⟨k,_,rfl⟩:=List.mem_map.1 b;omega
def lay (L:List Nat)(n m:Nat):List Nat:=L.take n++List.replicate (m-n) 0
theorem Yaj {L:List Nat}{n m:Nat}(h:n≤m)(hL:L.length=m):(lay L n m).length=m:=by simp[lay,hL];omega
theorem Yjf {L:List Nat}{n m x:Nat}(h:n<m)(hL:L.length=m)(hx:L[n]?=some x):(lay L n m).set n x=lay L (n+1) m:=by
 have b:(L.take n).length=n:=by simp[hL];omega
 have a:n<L.length:=by omega
 have e:L[n]=x:=by rw[List.getElem?_eq_getElem a] at hx;exact Option.some.inj hx
 unfold lay;rw[List.set_append_right _ _ (by omega),b,Nat.sub_self,show m-n=(m-(n+1))+1 by omega,List.replicate_succ,List.set_cons_zero,List.take_succ_eq_append_getElem a,e,List.append_assoc];rfl
theorem Yjg {L:List Nat}{m:Nat}(hL:L.length=m):lay L m m=L:=by simp[lay,←hL]
theorem Yfg (l:List Nat)(q x:Nat):(idA l).setIfInBounds q (.int .u8 ((x:Nat):Int))=idA (l.set q x):=by simp[idA,List.map_set];rfl
theorem Xeh (l:List Nat):(idA l).all (·.oneCell')=true:=by rw[Array.all_eq_true'];intro x a;unfold idA at a;rw[List.mem_toArray,List.mem_map] at a;obtain⟨y,_,rfl⟩:=a;rfl
def IB (w:World)(b:Nat)(T:TypeId)(l:List Nat):Prop:=w.heap[b]?=some (.cells (idA l) T (0,0))
theorem IB.lt {w:World}{b:Nat}{T:TypeId}{l:List Nat}(h:IB w b T l):b<w.heap.size:=zY h
theorem IB.below {w w':World}{b:Nat}{T:TypeId}{l:List Nat}(h:IB w b T l)(hb:Bw w w'):IB w' b T l:=(hb.block b h.lt).trans h
theorem IB.cell {w:World}{b:Nat}{T:TypeId}{l:List Nat}(h:IB w b T l){q:Nat}(hq:q<l.length):w.cell? ⟨b,q,none⟩=some (.int .u8 ((l.getD q 0:Nat):Int)):=by rw[cell_of_row w b q _ _ _ h];simp[idA,List.getD,hq];rfl
theorem IB.set {w:World}{b:Nat}{T:TypeId}{l:List Nat}(h:IB w b T l)(q x:Nat):IB (w.setCell ⟨b,q,none⟩ (.int .u8 ((x:Nat):Int))) b T (l.set q x):=by have:=Xez h q (.int .u8 ((x:Nat):Int));rw[Yfg] at this;exact this
theorem IB.setC {w:World}{b k:Nat}{T:TypeId}{l:List Nat}(h:IB w k T l)(j:Nat)(u:Value)(hne:k≠b):IB (w.setCell ⟨b,j,none⟩ u) k T l:=(Xet w b j k u hne).trans h
theorem Xfm:(prog.info? 90).map (·.size)=some 32:=by kernel_rfl
theorem Ymd (v:W8)(j:Nat)(hj:j<8)(c:Nat)(hc:c=(wL v).getD j 0)(w:World):(Instr.index 164 (.agg (wC v)) (.int .i64 (j:Int))).run prog w=.ok (.int .u32 (c:Int)) w:=by
 have hi:(0:Int)≤(j:Int)∧(j:Int)<8:=by omega
 have a:j<(wL v).length:=by simpa [wL] using hj
 have e:(wC v)[j]?=some (.int .u32 ((c:Nat):Int)):=by rw[hc,Ynm];unfold wA;simp[List.getD,a]
 simp[Instr.index,run_underlying underlying164,asIntOf,hi,go_sem];rw[qP hj,e];rfl
theorem VB.cells {w:World}{b:Nat}{v:W8}(h:VB w b v)(j:Nat)(u:Value)(hu:(wC v)[j]?=some u):w.cell? ⟨b,j,none⟩=some u:=by rw[cell_of_row w b j _ _ _ h];exact hu
theorem Xxc (w:World){v:W8}(hv:v.Ok):zJ 135 #[.agg (wC v)] w (.agg (idA (dgF v))):=by
 obtain⟨G,p⟩:=xq (wC v);obtain⟨D,u⟩:=xq (idA (List.replicate 32 0));have Z0:Hid (D=#[.int .u8 0,.int .u8 0,.int .u8 0,.int .u8 0,.int .u8 0,.int .u8 0,.int .u8 0,.int .u8 0,.int .u8 0,.int .u8 0,.int .u8 0,.int .u8 0,.int .u8 0,.int .u8 0,.int .u8 0,.int .u8 0,.int .u8 0,.int .u8 0,.int .u8 0,.int .u8 0,.int .u8 0,.int .u8 0,.int .u8 0,.int .u8 0,.int .u8 0,.int .u8 0,.int .u8 0,.int .u8 0,.int .u8 0,.int .u8 0,.int .u8 0,.int .u8 0]):=Hd (by rw[u];rfl);obtain⟨w0,h⟩:=xq (((w.alloc (.cells G 191)).alloc (.cells D 90)).alloc (.cells D 90));have t:VB w0 w.heap.size v:=by unfold VB;rw[h,←p];exact Xad (Xad (heap_alloc_last w _))
 have Y:IB w0 (w.heap.size+1) 90 (List.replicate 32 0):=by unfold IB;rw[h,←u];have:=heap_alloc_last (w.alloc (.cells G 191)) (.cells D 90);rw[World.size_alloc] at this;exact Xad this
 have Z:IB w0 (w.heap.size+2) 90 (lay (dgF v) 0 32):=by unfold IB;show _=some (Obj.cells (idA (List.replicate 32 0)) _ _);rw[h,←u];have:=heap_alloc_last ((w.alloc (.cells G 191)).alloc (.cells D 90)) (.cells D 90);rw[World.size_alloc,World.size_alloc] at this;exact this
 have S:Hid (Bw w w0):=Hd (by rw[h];exact(((zR _ _).alloc (zL _) _).alloc (by simp) _).alloc (by simp;omega) _);have W:=Hd h;have c0:w0.cell? ⟨w.heap.size,0,none⟩=some (.int .u32 (v.a:Int)):=t.cells 0 _ rfl;have c1:w0.cell? ⟨w.heap.size,1,none⟩=some (.int .u32 (v.b:Int)):=t.cells 1 _ rfl;have c2:w0.cell? ⟨w.heap.size,2,none⟩=some (.int .u32 (v.c:Int)):=t.cells 2 _ rfl;have c3:w0.cell? ⟨w.heap.size,3,none⟩=some (.int .u32 (v.d:Int)):=t.cells 3 _ rfl;have c4:w0.cell? ⟨w.heap.size,4,none⟩=some (.int .u32 (v.e:Int)):=t.cells 4 _ rfl;have c5:w0.cell? ⟨w.heap.size,5,none⟩=some (.int .u32 (v.f:Int)):=t.cells 5 _ rfl;have c6:w0.cell? ⟨w.heap.size,6,none⟩=some (.int .u32 (v.g:Int)):=t.cells 6 _ rfl;have c7:w0.cell? ⟨w.heap.size,7,none⟩=some (.int .u32 (v.i:Int)):=t.cells 7 _ rfl;have O:=Hd Y;have Q:=Hd Z;have H:=Hd p;have T:Hid (∀j,j<8→∀c,c=(wL v).getD j 0→∀w,(Instr.index 164 (.agg G) (.int .i64 (j:Int))).run prog w=.ok (.int .u32 ((c:Nat):Int)) w):=Hd (fun j hj c hc w=>by rw[p];exact Ymd v j hj c hc w);have HV:=Hd hv;rw[←p];clear h t Y Z u p hv;go_enter func135,ntmps135;go_upto_region 2 with fail;have B:=W.o;rw[Z0.o] at B;rw[←B,show w.heap.size+1+1=w.heap.size+2 from rfl];clear B W;go_wp2_with fail;have l:=H.o;unfold wC at l;rw[←l];clear l c0 c1 c2 c3 c4 c5 c6 c7;go_loopg [4,5,6,24,28] 8 (fun k v4 v5 v6 i v28 wr=>∃j:Nat,j≤8∧k=8-j∧i=.int .i64 (j:Int)∧IB wr (w.heap.size+1) 90 (List.replicate 32 0)∧IB wr (w.heap.size+2) 90 (lay (dgF v) (4*j) 32)∧Bw w wr);exact⟨0,by omega,rfl,rfl,O.o,Q.o,S.o⟩;clear O Q S;obtain⟨j,hj,rfl,rfl,E,F,n⟩:=hrel;have A:=Hd n;have z:=Hd E;have s:=Hd F;clear E F n;by_cases hlt:j<8
 ·obtain⟨x,M⟩:=xq ((wL v).getD j 0);have ix:=T.o j hlt x M;have DA:Hid (∀k,k<4→(dgF v)[4*j+k]?=some (x/2^(24-8*k)%256)):=Hd (fun k hk=>by rw[M];exact Yhp v j k hlt hk);clear M;go_wp2_with fail;go_loopg [6,28] 4 (fun k v6 i wi=>∃m:Nat,m≤4∧k=4-m∧i=.int .i64 (m:Int)∧IB wi (w.heap.size+1) 90 (List.replicate 32 0)∧IB wi (w.heap.size+2) 90 (lay (dgF v) (4*j+m) 32)∧Bw w wi);exact⟨0,by omega,rfl,rfl,z.o,s.o,A.o⟩;clear z s A;rename_i wr0 _ _ _ _ _ _ _ _;obtain⟨m,hm,rfl,rfl,E,F,n⟩:=hrel;have A:=Hd n;have z:=Hd E;have s:=Hd F;clear E F n ix;by_cases hm4:m<4
  ·obtain⟨q,hq⟩:=xq (4*j+m);have L:q<32:=by omega
   obtain⟨r,hr⟩:=xq (24-8*m);have aA:r≤24:=by omega
   have K:(4:Int)*(j:Int)+(m:Int)=(q:Int):=by omega
   have e2:(24:Int)-8*(m:Int)=(r:Int):=by omega
   have q0:(0:Int)≤(q:Int):=by omega
   have q1:(q:Int)<32:=by omega
   have cq:wr.cell? ⟨w.heap.size+2,q,none⟩=some (.int .u8 (((lay (dgF v) (4*j+m) 32).getD q 0:Nat):Int)):=s.o.cell (by rw[Yaj (by omega) (Xbm v)];exact L);have fq:wr.frozen? ⟨w.heap.size+2,q,none⟩=false:=Xby s.o q;obtain⟨y,N⟩:=xq (x/2^r%256);have YI:Hid (((y:Nat):Int)=(x:Int)/2^r%256):=Hd (by rw[N,Int.natCast_emod,Int.natCast_ediv,Int.natCast_pow];rfl);have DY:Hid ((lay (dgF v) (4*j+m) 32).set q y=lay (dgF v) (4*j+(m+1)) 32):=Hd (by rw[hq];exact Yjf (by omega) (Xbm v) (by rw[DA.o m hm4,N,hr]));clear hq hr N;go_wp2_with fail;rw[←YI.o];go_roundg (4-(m+1));exact⟨m+1,by omega,rfl,by go_num,z.o.setC _ _ (by omega),by rw[←DY.o];exact s.o.set q y,A.o.setCell (Nat.le_add_right _ 2) _⟩;omega
  obtain rfl:m=4:=by omega
  go_wp2_with fail;go_roundg (8-(j+1));exact⟨j+1,by omega,rfl,by go_num,z.o,s.o,A.o⟩;omega
 obtain rfl:j=8:=by omega
 have J:=Hd (run_loadVar_row (P:=prog) wr (w.heap.size+2) _ 90 _ _ _ s.o underlying90 rfl (by rw[Xaf,Yaj (by omega) (Xbm v)];exact Xfm));have K:lay (dgF v) (4*8) 32=dgF v:=Yjg (Xbm v);rw[K] at J;have U:=Hd (run_storeVar_row (P:=prog) wr (w.heap.size+1) _ 90 (idA (List.replicate 32 0)) (idA (dgF v)) z.o (by rw[Xaf,Xbm];exact Xfm) (by rw[Xaf,Xaf,Xbm];simp) (Xeh _));have X:=Hd (setRow_heap wr (w.heap.size+1) _ (idA (dgF v)) _ _ z.o);have V:Hid ((prog.info? 90).map (·.size)=some (idA (dgF v)).size):=Hd (by rw[Xaf,Xbm];exact Xfm);have R:=Hd (below_setRow A.o (Nat.le_succ _) (idA (dgF v)));obtain⟨rs,C⟩:=xq (idA (dgF v));rw[←C] at J U X V R;have I:=Hd C;clear C K hlt A T z s;go_wp2_with (first
  |((with_reducible refine Xab 90 rfl _ rfl ?_);refine⟨_,_,rfl,J.o,?_⟩)
  |((with_reducible refine Xaa 90 rfl _ _ rfl ?_);refine⟨_,_,_,rfl,rfl,U.o,?_⟩))
 exact zP (results_cell_row results135 _ _ (w.heap.size+1) _ _ _ _ rfl X.o underlying90 rfl V.o) rfl ⟨by rw[I.o],R.o⟩
structure Hs.Ok (h:Hs):Prop where
 st:h.st.Ok
 blk:B64 h.blk
def hC (h:Hs):Array Value:=((wC h.st).toList++(h.blk.map U++[Value.int .i64 (h.len:Int)])).toArray
theorem Xkv {h:Hs}(hb:h.blk.length=64):(hC h).size=73:=by simp[hC,hb,wC]
theorem Ymh (h:Hs):(hC h).all (·.oneCell')=true:=by
 rw[Array.all_eq_true'];intro x a;unfold hC at a;rw[List.mem_toArray,List.mem_append,List.mem_append] at a;rcases a with a|a|a;·have:=(Array.all_eq_true'.1 (Xx9 h.st)) x (by simpa using a);exact this
 ·obtain⟨y,_,rfl⟩:=List.mem_map.1 a;rfl
 rw[List.mem_singleton] at a;rw[a];rfl
theorem Xfo {P:Program}(w:World)(g o:Nat)(ty t:TypeId)(X Y Z vs:List Value)(hg:w.heap[g]?=some (.cells (X++(Y++Z)).toArray t (0,0)))(hX:X.length=o)(hY:Y.length=vs.length) (hi:(P.info? ty).map (·.size)=some vs.length) (h1:∀v∈vs,v.oneCell'=true):(storeVar ty ⟨g,o,none⟩ (.agg vs.toArray)).run P w=.ok () (w.setRow g (X++(vs++Z)).toArray):=by
 have a:=run_storeCells_at P g o t vs 0 _ w hg (by simp;omega) h1;have e:(X++(Y++Z)).toArray.toList.take (o+0)++vs++(X++(Y++Z)).toArray.toList.drop (o+0+vs.length)=X++(vs++Z):=by subst hX;rw[←hY];simp
 rw[e] at a
 cases hq:P.info? ty with
 |none=>simp[hq] at hi
 |some i=>
  have c:vs.length=i.size:=by simp[hq] at hi;omega
  simp[storeVar,sizeOf,typeInfo,hq,Value.cells,c,a]
def HK (w:World)(b:Nat)(h:Hs):Prop:=w.heap[b]?=some (.cells (hC h) 193 (0,0))
theorem HK.lt {w:World}{b:Nat}{h:Hs}(hk:HK w b h):b<w.heap.size:=zY hk
theorem HK.below {w w':World}{b:Nat}{h:Hs}(hk:HK w b h)(hb:Bw w w'):HK w' b h:=(hb.block b hk.lt).trans hk
theorem Xo7:(prog.info? 193).map (·.size)=some 73:=by kernel_rfl
section
variable {w:World} {b:Nat} {h:Hs} (hk:HK w b h)
include hk
theorem HK.len (hb:h.blk.length=64):w.cell? ⟨b,72,none⟩=some (.int .i64 (h.len:Int)):=by rw[cell_of_row w b 72 _ _ _ hk];simp[hC,wC,hb]
theorem HK.st:Ld 191 ⟨b,0,none⟩ w (.agg (wC h.st)):=by have:=run_loadVar_mid (P:=prog) w b 0 191 (wC h.st).toList _ (fun j v hv=>by rw[cell_of_row w b (0+j) _ _ _ hk,Nat.zero_add];unfold hC;rw[List.getElem?_toArray,List.getElem?_append_left (List.getElem?_eq_some_iff.1 hv).1];exact hv) underlying191 rfl (by rw[Array.length_toList,Xgu];exact Xc9);rwa [Array.toArray_toList] at this
theorem HK.blk (hb:h.blk.length=64):Ld 184 ⟨b,8,none⟩ w (.agg (idA h.blk)):=
 run_loadVar_mid (P:=prog) w b 8 184 (h.blk.map U) _ (fun j v hv=>by rw[cell_of_row w b (8+j) _ _ _ hk];unfold hC;rw[List.getElem?_toArray,List.getElem?_append_right (by simp[wC]),show 8+j-(wC h.st).toList.length=j by simp[wC],List.getElem?_append_left (List.getElem?_eq_some_iff.1 hv).1];exact hv) underlying184 rfl (by rw[List.length_map,hb];exact Xts)
theorem HK.all (hb:h.blk.length=64):Ld 193 ⟨b,0,none⟩ w (.agg (hC h)):=
 run_loadVar_row w b _ 193 _ _ _ hk underlying193 rfl (by rw[Xkv hb];exact Xo7)
theorem HK.setSt (v:W8):Sv 191 ⟨b,0,none⟩ (.agg (wC v)) w (w.setRow b (hC ⟨v,h.blk,h.len⟩))∧HK (w.setRow b (hC ⟨v,h.blk,h.len⟩)) b ⟨v,h.blk,h.len⟩:=by have:=Xfo (P:=prog) w b 0 191 _ [] (wC h.st).toList (h.blk.map U++[Value.int .i64 (h.len:Int)]) (wC v).toList hk rfl rfl (by rw[Array.length_toList,Xgu];exact Xc9) (fun x hx=>(Array.all_eq_true'.1 (Xx9 v)) x (by simpa using hx));rw[Array.toArray_toList] at this;exact⟨this,setRow_heap w b _ _ _ _ hk⟩
theorem HK.setLen (hb:h.blk.length=64)(n:Nat):HK (w.setCell ⟨b,72,none⟩ (.int .i64 (n:Int))) b ⟨h.st,h.blk,n⟩:=by
 have:=Xez hk 72 (.int .i64 (n:Int));have e:(hC h).setIfInBounds 72 (.int .i64 (n:Int))=hC ⟨h.st,h.blk,n⟩:=by unfold hC;rw[List.setIfInBounds_toArray];rw[List.set_append_right _ _ (by simp[wC]),List.set_append_right _ _ (by simp[wC,hb])];simp[wC,hb]
 rw[e] at this;exact this
end
theorem Xxf {h:Hs}(hb:h.blk.length=64){p:Nat}{cs:List Nat}(hp:p+cs.length≤64):((hC h).toList.take (8+p)++(cs.map U++(hC h).toList.drop (8+p+(cs.map U).length))).toArray=hC ⟨h.st,h.blk.take p++cs++h.blk.drop (p+cs.length),h.len⟩:=by
 have a:(wC h.st).toList.length=8:=rfl;unfold hC;simp only[List.length_map];rw[List.take_append,List.drop_append,List.take_of_length_le (by omega),show(wC h.st).toList.drop (8+p+cs.length)=[] from List.drop_of_length_le (by omega),a,show 8+p-8=p by omega,show 8+p+cs.length-8=p+cs.length by omega,
  List.take_append_of_le_length (by simp[hb];omega),List.drop_append_of_le_length (by simp[hb];omega)]
 simp
theorem Xtd:∀(k k':Nat) (h:Hs) (l:List Nat),l.length≤k→l.length≤k'→wrN k h l=wrN k' h l
 |0,0,_,_,_,_=>rfl
 |0,k'+1,h,l,hk,_=>by obtain rfl:l=[]:=List.eq_nil_of_length_eq_zero (by omega);simp[wrN]
 |k+1,0,h,l,_,hk=>by obtain rfl:l=[]:=List.eq_nil_of_length_eq_zero (by omega);simp[wrN]
 |k+1,k'+1,h,l,hk,hk'=>by
  unfold wrN;by_cases e:l=[]
  ·rw[qP e,qP e]
  rw[qN e,qN e];have a:0<l.length:=List.length_pos_iff.2 e;exact Xtd k k' _ _ (by rw[List.length_drop];omega) (by rw[List.length_drop];omega)
theorem Yc9 (h:Hs)(l:List Nat)(h0:0<l.length):wrN l.length h l=wrN (l.drop (min (64-h.len%64) l.length)).length (Xcl h l) (l.drop (min (64-h.len%64) l.length)):=by
 obtain⟨k,hk⟩:∃k,l.length=k+1:=⟨l.length-1,by omega⟩
 have e:l≠[]:=fun e=>by rw[e] at h0;simp at h0
 conv=>lhs;rw[hk];unfold wrN;rw[qN e]
 exact Xtd _ _ _ _ (by rw[List.length_drop];omega) (zL _)
theorem Xov {h:Hs}(ho:h.Ok){l:List Nat}(hl:∀x∈l,x<256):(Xcl h l).Ok∧B64 (h.blk.take (h.len%64)++l.take (min (64-h.len%64) l.length)++h.blk.drop (h.len%64+min (64-h.len%64) l.length)):=by
 have a:B64 (h.blk.take (h.len%64)++l.take (min (64-h.len%64) l.length)++h.blk.drop (h.len%64+min (64-h.len%64) l.length)):=by
  refine⟨by simp[ho.blk.len];omega,fun x hx=>?_⟩;rw[List.mem_append,List.mem_append] at hx;rcases hx with(hx|hx)|hx;·exact ho.blk.lt x (List.mem_of_mem_take hx)
  ·exact hl x (List.mem_of_mem_take hx)
  exact ho.blk.lt x (List.mem_of_mem_drop hx)
 refine⟨⟨?_,a⟩,a⟩;show W8.Ok (if _ then _ else _);split;·exact Xzw _ _
 exact ho.st
theorem Ygu:∀(k:Nat) {h:Hs} {l:List Nat},h.Ok→(∀x∈l,x<256)→(wrN k h l).Ok
 |0,_,_,ho,_=>ho
 |k+1,h,l,ho,hl=>by
  unfold wrN;split;·exact ho
  exact Ygu k (Xov ho hl).1 (fun x hx=>hl x (List.mem_of_mem_drop hx))
theorem Ygv {h:Hs}(ho:h.Ok){l:List Nat}(hl:∀x∈l,x<256):(wrF h l).Ok:=Ygu _ ⟨by show W8.Ok (if _ then _ else _);split;exact Xty;exact ho.st,ho.blk⟩ hl
theorem Yhj:hs0.Ok:=⟨⟨by decide,by decide,by decide,by decide,by decide,by decide,by decide,by decide⟩,⟨by simp[hs0],fun x hx=>by unfold hs0 at hx;simp at hx;omega⟩⟩
theorem Xx8:∀(k:Nat) (h:Hs) (l:List Nat),l.length≤k→(wrN k h l).len=h.len+l.length
 |0,h,l,hk=>by obtain rfl:l=[]:=List.eq_nil_of_length_eq_zero (by omega);rfl
 |k+1,h,l,hk=>by
  unfold wrN;by_cases e:l=[]
  ·rw[qP e,e];rfl
  have a:0<l.length:=List.length_pos_iff.2 e;rw[qN e,Xx8 k _ _ (by rw[List.length_drop];omega),List.length_drop];show h.len+min (64-h.len%64) l.length+_=_;omega
end Go.Proofs.YtjolcnopipbkhaaGreatDoor
/- utf8.Printable. -/
namespace Go.Proofs.YtjolcnopipbkhaaGreatDoor
open Go.Proofs.Tryz
open Go.RowKit Go.Shelf
attribute [local go_sem] Oper.semAt_some
set_option linter.unusedVariables false
set_option maxHeartbeats 100000000
set_option maxRecDepth 100000
theorem Yg6 (F:Fence)(n:Nat)(h37:F.fn 137)(hro:F.round=none)(s:ByteArray)(w:World):CallsIn F n prog 137 #[.string s] w fun e w'=>e=.returned (.func (.func 185) #[] #[.pointer (some ⟨w.heap.size,0,none⟩)])∧w'=w.alloc (.cells #[.string s] 9):=by refine callsIn_of_wp func137 rfl h37 ?_ hro;simp only[ntmps137,List.size_toArray,List.length_cons,List.length_nil,Nat.reduceAdd,Nat.reduceSub,Array.replicate_succ,Array.replicate_zero,List.push_toArray,List.append_toArray,List.nil_append,List.cons_append];gi_wp2;go_ret;exact⟨rfl,rfl⟩
theorem Xph (n:Nat)(hn:1≤n)(Bs:Nat)(s:ByteArray)(hs:s.size≤maxLen)(w:World)(hB:Bs<w.heap.size)(hc:w.cell? ⟨Bs,0,none⟩=some (.string s)):SeqStopsK Fence.wide n prog 185 #[.pointer (some ⟨Bs,0,none⟩)] rnV (KeepB Bs) (fun ys=>ys=rns (bs s)) (fun pre=>∃q,pre++q=rns (bs s)) (s.size+1) w:=fun l J Jx W hW hJ _ hY h0=>
 Yio n hn l Bs W.heap.size s hs J Jx hJ hY W ((hW.cell (p:=⟨Bs,0,none⟩) hB).trans hc) h0
theorem Xr8 {W w2:World}(hb:Bw W w2)(B:Nat):KeepsFrom B W w2:=⟨hb.size,fun k o _ hk _=>(hb.block k (zY hk)).trans hk⟩
theorem Xcz {W w2:World}{B:Nat}{t:TypeId}{v:Value}(h:Boxed W B t v)(hb:Bw W w2):Boxed w2 B t v:=(hb.block B h.lt).trans h
theorem Xdb (B:Nat){β:Type}(p:β→Prop):OwnFrom B (fun s (_:World)=>Hid (p s)):=fun _ _ _ _ hs _ _=>hs
theorem Xxs {W:World}{B:Nat}{t:TypeId}{v:Value}(h:Boxed W B t v):Boxed (W.setCell ⟨B,0,none⟩ v) B t v:=Xez h 0 v
def PrI (w:World)(p:Nat)(s:ByteArray)(pre:List (Nat×Nat))(W:World):Prop:=
 Boxed W p 4 (.bool false)∧(Boxed W (p+1) 9 (.string s)∧(Hid (pre.all (fun x=>gd false x.2)=true)∧Below p w W))
def PrX (w:World)(p:Nat)(s:ByteArray)(c:Code)(pre:List (Nat×Nat))(W:World):Prop:=
 Boxed W p 4 (.bool false)∧(Hid (c=.ret∧pre.all (fun x=>gd false x.2)=false)∧Below p w W)
theorem PrI.own (w:World)(p:Nat)(s:ByteArray)(hp:p≤w.heap.size)(B:Nat)(hB:p≤B):OwnFrom B (PrI w p s):=
 OwnFrom.and (Own.from (boxed_own p 4 (fun _=>.bool false)) _) (OwnFrom.and (Own.from (boxed_own (p+1) 9 (fun _=>.string s)) _) (OwnFrom.and (Xdb B _) (ownFrom_below hp hB)))
theorem PrX.own (w:World)(p:Nat)(s:ByteArray)(c:Code)(hp:p≤w.heap.size)(B:Nat)(hB:p≤B):OwnFrom B (PrX w p s c):=
 OwnFrom.and (Own.from (boxed_own p 4 (fun _=>.bool false)) _) (OwnFrom.and (Xdb B _) (ownFrom_below hp hB))
theorem Xvt (s:ByteArray)(w:World)(hs:s.size≤maxLen):zJ 87 #[.string s] w (.bool (Xhz false (bs s))):=by
 have V:=Hd (Xvs s (w.alloc (.cells #[.bool false] 4)) hs);obtain⟨N,u⟩:=xq (vld (bs s));rw[←u] at V;have G:Hid (Xhz false (bs s)=(N&&(rns (bs s)).all fun x=>gd false x.2)):=Hd (by rw[u];rfl);have O:=Hd hs;clear u hs;cases N
 ·go_enter func87,ntmps87;go_wp2_with (go_at_call 136;refine V.o.mono ?_;rintro e w1 ⟨rfl,I⟩;obtain⟨q,rfl⟩:=I)
  have E:=((Boxed.new w 4 (.bool false)).cell)
  refine zP (v:=.bool false) (by simp[results,Tryz.f87,go_sem]) rfl ⟨by rw[G.o];rfl,?_⟩;exact(((zR _ w).alloc (zL _) _).trans ((Dr.below ⟨q,rfl⟩).mono (by simp))).setCell (p:=⟨w.heap.size,0,none⟩) (zL _) _
 refine(callsIn_wide (n:=5)).1 ?_;refine callsIn_of_wp_marks func87 rfl trivial ?_ rfl;simp only[ntmps87,List.size_toArray,List.length_cons,List.length_nil,Nat.reduceAdd,Nat.reduceSub,Array.replicate_succ,Array.replicate_zero,List.push_toArray,List.append_toArray,List.nil_append,List.cons_append];gi_wp2_with (refine⟨trivial,?_⟩;gi_at_call 136;refine(callsIn_wide.2 V.o).mono ?_;rintro e w1 ⟨rfl,I⟩;obtain⟨q,rfl⟩:=I)
 refine⟨trivial,?_⟩;gi_at_call 137;refine(Yg6 Fence.wide _ trivial rfl _ _).mono ?_;rintro e w' ⟨rfl,rfl⟩;gi_wp2;obtain⟨p,A⟩:=xq w.heap.size;obtain⟨y,f⟩:∃y,(((w.alloc (.cells #[.bool false] 4)).drewN q).alloc (.cells #[.string s] 9))=y:=⟨_,rfl⟩
 have z0:y.heap.size=p+2:=by rw[←f,A];simp
 have B:PrI w p s [] y:=by
  rw[←f,A];refine⟨?_,?_,Hd rfl,?_⟩;·exact Xcz (Xcz (Boxed.new w 4 (.bool false)) (Dr.below ⟨q,rfl⟩)) ((zR _ _).alloc (zL _) _)
  ·have:=Boxed.new ((w.alloc (.cells #[.bool false] 4)).drewN q) 9 (.string s);simpa using this
  exact(((zR _ w).alloc (zL _) _).trans ((Dr.below ⟨q,rfl⟩).mono (by simp))).alloc (by simp) _
 rw[f,←A];have H:y.cell? ⟨p+1,0,none⟩=some (.string s):=B.2.1.cell;have g:=Hd A;clear f A V;refine wpIn_rangeFunc_ownF (F:=Fence.wide) (n:=5) rfl (by omega) (gf:=185) (lb:=#[.pointer (some ⟨p+1,0,none⟩)]) rfl trivial (enters_of func185 (by kernel_rfl) rfl)
  (Xph 4 (by omega) (p+1) s O.o y (by omega) H) (fun h k=>Eq.trans k h) ?keep (zR _ _) (fun _=>rfl)
  (PrI w p s) (PrX w p s) (PrI.own w p s (by rw[g.o];exact zL _) _ (by omega)) (fun c=>PrX.own w p s c (by rw[g.o];exact zL _) _ (by omega)) B
  (fun x=>{tmps:=#[.string s,undef,.pointer (some ⟨p,0,none⟩),undef,.int .i32 (x.2:Int),.string s,.bool true,.bool false,.string s,.func (.func 185) #[] #[.pointer (some ⟨p+1,0,none⟩)],.int .i64 (x.1:Int),.int .i32 (x.2:Int),undef,undef],defers:=[]})
  ?assign ?body ?done ?stop
 case keep=>intro W l o M hl _ _ _;show(W.putObj l M).heap[p+1]?=W.heap[p+1]?;exact(grownBy_putObj' W l M).block _ (by have:=zY ‹_›;omega) (fun e=>by cases e;omega)
 case assign=>rintro l x W K i;unfold rnV;gi_wp2;exact i
 case body=>
  rintro l J x W a Y;have E:=a.1.cell;have X:=a.1.frozen;have d:=Hd a;have C:=Hd (fun w=>Ydj w x.2);have z:∃b,b=Xu8 x.2:=⟨_,rfl⟩
  obtain⟨b,m⟩:=z;rw[←m] at C;have L:=Hd m;clear m a;cases b
  ·gi_wp2_with (refine⟨trivial,?_⟩;gi_at_call 138;refine(CallsIn.inRound l (callsIn_wide.2 (C.o _))).mono ?_;rintro e w1 ⟨rfl,rfl⟩)
   refine⟨KeepsOthers.refl _,rfl,d.o.1,d.o.2.1,Hd ?_,d.o.2.2.2⟩;rw[List.all_append,d.o.2.2.1.o];simp[gd,←L.o]
  gi_wp2_with (refine⟨trivial,?_⟩;gi_at_call 138;refine(CallsIn.inRound l (callsIn_wide.2 (C.o _))).mono ?_;rintro e w1 ⟨rfl,rfl⟩)
  refine⟨KeepsOthers.setCell _ _ _,⟨Xxs d.o.1,Hd ⟨rfl,?_⟩,d.o.2.2.2.setCell (p:=⟨p,0,none⟩) (zL _) _⟩⟩;rw[List.all_append,Bool.and_eq_false_iff];exact .inr (by simp[gd,←L.o])
 case done=>rintro D ys W U rfl a i;have E:=a.1.cell;have X:=a.1.frozen;have d:=Hd a;clear a;gi_wp2;have j:=(KeepsOthers.setCell W ⟨p,0,none⟩ (.bool true)).same D _ i rfl;refine⟨by simp,.inl ⟨_,_,rfl,run_takeDeferred j,?_⟩⟩;have t:=cell_kept (World.cell?_setCell_same' W ⟨p,0,none⟩ (.bool true) (by rw[E];rfl)) (grownBy_putObj' _ D (.deferred none)) (fun r e=>by cases e;exact⟨_,j,rfl⟩);refine⟨.bool true,?_,by rw[G.o,d.o.2.2.1.o];rfl,((d.o.2.2.2.mono (Nat.le_of_eq g.o.symm)).setCell (p:=⟨p,0,none⟩) (Nat.le_of_eq g.o.symm) _).trans (belowK_b (w:=w) (zL _) _ D _ _ (by have:=g.o;omega) j rfl rfl)⟩;simp[results,Tryz.f87,go_sem,t]
 case stop=>
  rintro D c J W U ⟨q,Z⟩ a i;obtain⟨P,Q,R⟩:=a;obtain⟨rfl,S⟩:=Q.o;have T:=P.cell;have GF:Xhz false (bs s)=false:=by rw[G.o,←Z,List.all_append,S];rfl
  gi_wp2;refine⟨by simp,.inl ⟨_,_,rfl,run_takeDeferred i,?_⟩⟩;have t:=cell_kept T (grownBy_putObj' _ D (.deferred none)) (fun r e=>by cases e;exact⟨_,i,rfl⟩);refine⟨.bool false,?_,rfl,(R.mono (Nat.le_of_eq g.o.symm)).trans (belowK_b (w:=w) (zL _) _ D _ _ (by have:=g.o;omega) i rfl rfl)⟩;simp[results,Tryz.f87,go_sem,t]
end Go.Proofs.YtjolcnopipbkhaaGreatDoor
/- The library's contracts on texts at this seat (laid by the shelf's tools): IndexByte, HasPrefix, HasSuffix, Contains, Cut, CutPrefix. -/
namespace Go.Proofs.YtjolcnopipbkhaaGreatDoor
open Go.Proofs.Tryz
open Go.Shelf Go.RowKit
set_option linter.unusedVariables false
set_option maxRecDepth 100000
set_option maxHeartbeats 100000000
def Xlr:Go.Shelf.Ren:=⟨fun|137=>147|217=>201|266=>243|n=>n,fun|9=>9|5=>5|3=>3|n=>n,fun|n=>n⟩
theorem Xwx:Go.Proofs.Lays.n137 prog Xlr:={
 mixed:=by kernel_rfl
 f137:=func147.trans (congrArg some (by kernel_rfl))
 f217:=func201.trans (congrArg some (by kernel_rfl))
 f266:=func243.trans (congrArg some (by kernel_rfl))
 t3:=underlying3
 a3:=Tryz.isAgg3
 z3:=Tryz.sizeOf3
 v3:=Tryz.zeroValue3
 t5:=underlying5
 a5:=Tryz.isAgg5
 z5:=Tryz.sizeOf5
 v5:=Tryz.zeroValue5
 t9:=underlying9
 a9:=Tryz.isAgg9
 z9:=Tryz.sizeOf9
 v9:=Tryz.zeroValue9}
theorem Xgk (s:ByteArray)(c:Int)(w:World):Ry 147 #[.string s,.int .u8 c] w (.int .i64 (Lib.indexByte s.data.toList c.toNat.toUInt8)):=Any.strings_IndexByte Xwx s c w
def Xlq:Go.Shelf.Ren:=⟨fun|144=>140|143=>188|219=>146|217=>201|225=>202|224=>203|267=>204|266=>243|314=>244|n=>n,fun|9=>9|4=>4|3=>3|5=>5|46=>128|146=>296|51=>163|n=>n,fun|1=>2|n=>n⟩
theorem Xww:Go.Proofs.Lays.n144 prog Xlq:={
 mixed:=by kernel_rfl
 f143:=func188.trans (congrArg some (by kernel_rfl))
 f144:=func140.trans (congrArg some (by kernel_rfl))
 f217:=func201.trans (congrArg some (by kernel_rfl))
 f219:=func146.trans (congrArg some (by kernel_rfl))
 f224:=func203.trans (congrArg some (by kernel_rfl))
 f225:=func202.trans (congrArg some (by kernel_rfl))
 f266:=func243.trans (congrArg some (by kernel_rfl))
 f267:=func204.trans (congrArg some (by kernel_rfl))
 f314:=func244.trans (congrArg some (by kernel_rfl))
 t3:=underlying3
 a3:=Tryz.isAgg3
 z3:=Tryz.sizeOf3
 v3:=Tryz.zeroValue3
 t4:=underlying4
 a4:=Tryz.isAgg4
 z4:=Tryz.sizeOf4
 v4:=Tryz.zeroValue4
 t5:=underlying5
 a5:=Tryz.isAgg5
 z5:=Tryz.sizeOf5
 v5:=Tryz.zeroValue5
 t9:=underlying9
 a9:=Tryz.isAgg9
 z9:=Tryz.sizeOf9
 v9:=Tryz.zeroValue9
 t46:=underlying128
 a46:=Tryz.isAgg128
 z46:=Tryz.sizeOf128
 v46:=Tryz.zeroValue128
 t51:=underlying163
 a51:=Tryz.isAgg163
 z51:=Tryz.sizeOf163
 v51:=Tryz.zeroValue163
 t146:=underlying296
 a146:=Tryz.isAgg296
 z146:=Tryz.sizeOf296
 v146:=Tryz.zeroValue296
 g1:=by kernel_rfl}
theorem Xg1 (s sub:ByteArray)(m:Int)(w:World)(hs:s.size<4294967281)(hm:w.cell? ⟨2,0,none⟩=some (.int .i64 m)):Ry 140 #[.string s,.string sub] w (.bool (Lib.contains s.data.toList sub.data.toList)):=Any.strings_Contains Xww s sub m w hs hm
def Xlp:Go.Shelf.Ren:=⟨fun|145=>51|220=>96|219=>146|217=>201|225=>202|224=>203|267=>204|266=>243|314=>244|n=>n,fun|9=>9|4=>4|59=>100|3=>3|5=>5|46=>128|146=>296|51=>163|n=>n,fun|1=>2|n=>n⟩
theorem Xwv:Go.Proofs.Lays.n145 prog Xlp:={
 mixed:=by kernel_rfl
 f145:=func51.trans (congrArg some (by kernel_rfl))
 f217:=func201.trans (congrArg some (by kernel_rfl))
 f219:=func146.trans (congrArg some (by kernel_rfl))
 f220:=func96.trans (congrArg some (by kernel_rfl))
 f224:=func203.trans (congrArg some (by kernel_rfl))
 f225:=func202.trans (congrArg some (by kernel_rfl))
 f266:=func243.trans (congrArg some (by kernel_rfl))
 f267:=func204.trans (congrArg some (by kernel_rfl))
 f314:=func244.trans (congrArg some (by kernel_rfl))
 t3:=underlying3
 a3:=Tryz.isAgg3
 z3:=Tryz.sizeOf3
 v3:=Tryz.zeroValue3
 t4:=underlying4
 a4:=Tryz.isAgg4
 z4:=Tryz.sizeOf4
 v4:=Tryz.zeroValue4
 t5:=underlying5
 a5:=Tryz.isAgg5
 z5:=Tryz.sizeOf5
 v5:=Tryz.zeroValue5
 t9:=underlying9
 a9:=Tryz.isAgg9
 z9:=Tryz.sizeOf9
 v9:=Tryz.zeroValue9
 t46:=underlying128
 a46:=Tryz.isAgg128
 z46:=Tryz.sizeOf128
 v46:=Tryz.zeroValue128
 t51:=underlying163
 a51:=Tryz.isAgg163
 z51:=Tryz.sizeOf163
 v51:=Tryz.zeroValue163
 t59:=underlying100
 a59:=Tryz.isAgg100
 z59:=Tryz.sizeOf100
 v59:=Tryz.zeroValue100
 t146:=underlying296
 a146:=Tryz.isAgg296
 z146:=Tryz.sizeOf296
 v146:=Tryz.zeroValue296
 g1:=by kernel_rfl}
theorem Xgo (s sep:ByteArray)(m:Int)(w:World)(hs:s.size<4294967281)(hm:w.cell? ⟨2,0,none⟩=some (.int .i64 m)):Calls prog 51 #[.string s,.string sep] w fun e w'=>e=.returned (.tuple #[.string ⟨(Lib.cut s.data.toList sep.data.toList).1.toArray⟩,.string ⟨(Lib.cut s.data.toList sep.data.toList).2.1.toArray⟩,.bool (Lib.cut s.data.toList sep.data.toList).2.2])∧∃n,w'=w.drewN n:=Any.strings_Cut Xwv s sep m w hs hm
def Xn3:Go.Shelf.Ren:=⟨fun|99=>24|206=>66|n=>n,fun|9=>9|4=>4|3=>3|n=>n,fun|n=>n⟩
theorem Yai:Go.Proofs.Lays.n99 prog Xn3:={
 mixed:=by kernel_rfl
 f99:=func24.trans (congrArg some (by kernel_rfl))
 f206:=func66.trans (congrArg some (by kernel_rfl))
 t3:=underlying3
 a3:=Tryz.isAgg3
 z3:=Tryz.sizeOf3
 v3:=Tryz.zeroValue3
 t4:=underlying4
 a4:=Tryz.isAgg4
 z4:=Tryz.sizeOf4
 v4:=Tryz.zeroValue4
 t9:=underlying9
 a9:=Tryz.isAgg9
 z9:=Tryz.sizeOf9
 v9:=Tryz.zeroValue9}
theorem Xcn (s p:ByteArray)(w:World):Ry 24 #[.string s,.string p] w (.bool (Lib.hasPrefix s.data.toList p.data.toList)):=Any.strings_HasPrefix Yai s p w
def Xlt:Go.Shelf.Ren:=⟨fun|100=>139|207=>187|n=>n,fun|9=>9|4=>4|3=>3|n=>n,fun|n=>n⟩
theorem Xwy:Go.Proofs.Lays.n100 prog Xlt:={
 mixed:=by kernel_rfl
 f100:=func139.trans (congrArg some (by kernel_rfl))
 f207:=func187.trans (congrArg some (by kernel_rfl))
 t3:=underlying3
 a3:=Tryz.isAgg3
 z3:=Tryz.sizeOf3
 v3:=Tryz.zeroValue3
 t4:=underlying4
 a4:=Tryz.isAgg4
 z4:=Tryz.sizeOf4
 v4:=Tryz.zeroValue4
 t9:=underlying9
 a9:=Tryz.isAgg9
 z9:=Tryz.sizeOf9
 v9:=Tryz.zeroValue9}
theorem Xdl (s p:ByteArray)(w:World)(hs:s.size≤9223372036854775807):Ry 139 #[.string s,.string p] w (.bool (Lib.hasSuffix s.data.toList p.data.toList)):=Any.strings_HasSuffix Xwy s p w hs
end Go.Proofs.YtjolcnopipbkhaaGreatDoor
/- Plain: the library's texts functions and this seat's: split, join, cut, decimal digits. -/
namespace Go.Proofs.YtjolcnopipbkhaaGreatDoor
open Go.Proofs.Tryz
open Go.RowKit Go.Maps
set_option linter.unusedVariables false
set_option maxRecDepth 100000
set_option maxHeartbeats 100000000
theorem Xiq {a b:UInt8}(h:a.toNat=b.toNat):a=b:=UInt8.toNat_inj.1 h
theorem Xl4 (c:UInt8):∀l:List UInt8,(Lib.splitK [c] 0 (Lib.count l [c]) l).map (fun p=>p.map UInt8.toNat)=spl c.toNat (l.map UInt8.toNat)
 |[]=>by rw[Lib.count_miss (by simp[Lib.index])];rfl
 |b::l=>by
  have i:=Xl4 c l;by_cases h:b=c
  ·subst h;have a:Lib.index (b::l) [b]=0:=by rw[Lib.index];simp[List.isPrefixOf]
   rw[Lib.count_cons_eq,Nat.add_comm,Lib.splitK,a];simp only[List.map_cons,spl,if_true];rw[←i];simp
  have o:¬b.toNat=c.toNat:=fun e=>h (Xiq e);rw[Lib.count_cons_ne b c l h];simp only[List.map_cons,spl,qN o];rw[←i];have a:Lib.index (b::l) [c]=if Lib.index l [c]==-1 then -1 else Lib.index l [c]+1:=by rw[Lib.index];simp[List.isPrefixOf,Ne.symm h]
  cases hn:Lib.count l [c] with
  |zero=>rfl
  |succ k=>
   have f:Lib.index l [c]≠-1:=fun e=>by rw[Lib.count_miss e] at hn;omega
   have q:=Lib.index_ge l [c];obtain⟨j,g⟩:∃j:Nat,Lib.index l [c]=j:=⟨(Lib.index l [c]).toNat,by omega⟩
   have d:(Lib.index l [c]==-1)=false:=beq_eq_false_iff_ne.2 f;rw[g] at a d;rw[d] at a;simp only[Lib.splitK,a,g,d];have m:(((j:Int)+1)==-1)=false:=beq_eq_false_iff_ne.2 (by omega);have n:((j:Int)+1).toNat=j+1:=by omega
   simp[m,n]
theorem Xmn (sep:List Nat):∀(r:List (List Nat)) (x:List Nat),Xa9 sep (x::r)=x++(r.map (sep++·)).flatten
 |[],x=>by simp[Xa9]
 |y::r,x=>by rw[Xa9,Xmn sep r y];simp
theorem Xwz (sep:List UInt8)(xs:List (List UInt8)):(Lib.join xs sep).map UInt8.toNat=Xa9 (sep.map UInt8.toNat) (xs.map fun x=>x.map UInt8.toNat):=by
 cases xs with
 |nil=>rfl
 |cons x r=>
  rw[Lib.join_cons,List.map_cons,Xmn,List.map_append];congr 1
  induction r with
  |nil=>rfl
  |cons y r ih=>simp only[Lib.joinTail,List.map_cons,List.flatten_cons,List.map_append] at ih⊢;rw[ih]
theorem Xod:∀(k u:Nat),u<10^(k+1)→(Lib.decDigits u).map UInt8.toNat=Xiw k u
 |0,u,h=>by
  have h:u<10:=by simpa using h
  rw[Lib.decDigits_one h];simp only[Xiw,List.map_cons,List.map_nil,List.cons.injEq,and_true];rw[UInt8.toNat_ofNat'];omega
 |k+1,u,h=>by
  by_cases h1:u<10;·rw[Lib.decDigits_one h1,Xiw,qP h1];simp only[List.map_cons,List.map_nil,List.cons.injEq,and_true];rw[UInt8.toNat_ofNat'];omega
  rw[Lib.decDigits,dif_neg h1,Xiw,qN h1,List.map_append,Xod k (u/10) (by rw[Nat.pow_succ] at h;omega)];simp only[List.map_cons,List.map_nil];rw[UInt8.toNat_ofNat'];congr 2;omega
theorem Yas (n:Int)(h0:-9223372036854775808≤n)(h1:n≤9223372036854775807):(Lib.itoa n).map UInt8.toNat=Xfh n:=by
 unfold Lib.itoa Xfh;split;·rw[List.map_cons,Xod 20 _ (by omega)];rfl
 rw[Xod 20 _ (by omega)]
theorem Xeg {c:UInt8}:∀{l:List UInt8},Lib.indexByte l c=-1→(l.map UInt8.toNat).takeWhile (fun x=>!decide (x=c.toNat))=l.map UInt8.toNat
 |[],_=>rfl
 |b::l,h=>by
  rw[Lib.indexByte] at h;by_cases hb:b=c;·simp[hb] at h
  have g:¬b.toNat=c.toNat:=fun e=>hb (Xiq e);have d:(b==c)=false:=beq_eq_false_iff_ne.2 hb;rw[d] at h;by_cases h3:Lib.indexByte l c=-1;·rw[List.map_cons,List.takeWhile_cons,zW g];simp only[Bool.not_false,if_true];rw[Xeg h3]
  have a:=Lib.index_ge l [c];rw[Lib.index_one] at a;have f:(Lib.indexByte l c==-1)=false:=beq_eq_false_iff_ne.2 h3;rw[f] at h;simp at h;omega
theorem Xef {c:UInt8}:∀{l:List UInt8} {i:Nat},Lib.indexByte l c=i→(l.map UInt8.toNat).takeWhile (fun x=>!decide (x=c.toNat))=(l.map UInt8.toNat).take i∧i<l.length∧(l.map UInt8.toNat).dropWhile (fun x=>!decide (x=c.toNat))=(l.map UInt8.toNat).drop i
 |[],i,h=>by rw[Lib.indexByte] at h;omega
 |b::l,i,h=>by
  rw[Lib.indexByte] at h;by_cases hb:b=c
  ·rw[hb] at h⊢;simp at h;have:i=0:=by omega
   subst this;simp
  have n:¬b.toNat=c.toNat:=fun e=>hb (Xiq e);have k:(b==c)=false:=beq_eq_false_iff_ne.2 hb;rw[k] at h;by_cases h3:Lib.indexByte l c=-1;·rw[h3] at h;simp at h
  have a:=Lib.index_ge l [c];rw[Lib.index_one] at a;have m:(Lib.indexByte l c==-1)=false:=beq_eq_false_iff_ne.2 h3;rw[m] at h;simp at h;obtain⟨j,rfl⟩:∃j,i=j+1:=⟨i-1,by omega⟩
  obtain⟨d,f,g⟩:=Xef (c:=c) (l:=l) (i:=j) (by omega);rw[List.map_cons,List.takeWhile_cons,List.dropWhile_cons,zW n];simp only[Bool.not_false,if_true];rw[d,g];exact⟨rfl,by simpa using f,rfl⟩
def Xth (c:Nat)(l:List Nat):List Nat:=l.takeWhile fun x=>!decide (x=c)
def Ykw (c:Nat)(t:ByteArray)(w:World)(e:Ending)(w':World):Prop:=
 ∃(x y:ByteArray) (b:Bool),e=.returned (.tuple #[.string x,.string y,.bool b])∧bs x=Xth c (bs t)∧bs y=(bs t).drop ((Xth c (bs t)).length+1)∧b=decide ((Xth c (bs t)).length<(bs t).length)∧x.size≤t.size∧Dr w w'
theorem Xi9 (l:List UInt8):bs ⟨l.toArray⟩=l.map UInt8.toNat:=by simp[bs]
theorem Yjz (t:ByteArray)(c:UInt8)(w:World)(hs:t.size<4294967281)(g:∃m,w.cell? ⟨2,0,none⟩=some (.int .i64 m)):Calls prog 51 #[.string t,.string ⟨#[c]⟩] w (Ykw c.toNat t w):=by
 obtain⟨m,g⟩:=g;refine(Xgo t ⟨#[c]⟩ m w hs g).mono fun e w' ⟨h1,q,h2⟩=>?_;refine⟨_,_,_,h1,?_,?_,?_,?_,⟨q,h2⟩⟩
 all_goals
  have j:(⟨#[c]⟩:ByteArray).data.toList=[c]:=rfl;have b:=Lib.index_one t.data.toList c;unfold Lib.cut;rw[j,b];by_cases h:Lib.indexByte t.data.toList c=-1
  ·have l:=Xeg h;rw[h];simp only[show¬(0:Int)≤-1 by decide,if_false];have a:Xth c.toNat (bs t)=bs t:=l
   first
    |(rw[Xi9];exact a.symm)
    |(rw[Xi9,a,List.drop_of_length_le (by omega)];rfl)
    |(rw[a];simp)
    |exact zL _
  have f:=Lib.index_ge t.data.toList [c];rw[b] at f;obtain⟨i,hi⟩:∃i:Nat,Lib.indexByte t.data.toList c=i:=⟨(Lib.indexByte t.data.toList c).toNat,by omega⟩
  obtain⟨k,n,o⟩:=Xef hi;rw[hi];have p:t.data.toList.length=(bs t).length:=by simp[bs]
  have a:Xth c.toNat (bs t)=(bs t).take i:=k;have d:(Xth c.toNat (bs t)).length=i:=by rw[a,List.length_take];omega
  simp only[show(0:Int)≤(i:Int) from Int.natCast_nonneg i,if_true,Int.toNat_natCast,List.length_singleton]
  first
   |(rw[Xi9,a,List.map_take];rfl)
   |(rw[Xi9,d,List.map_drop];rfl)
   |(rw[d];simp;omega)
   |(rw[←Xac,Xi9,←Xac];simp[bs];omega)
theorem Ya4 (l:List UInt8):Lib.hasPrefix l [32]=decide ((l.map UInt8.toNat).head?=some 32):=by
 cases l with
 |nil=>rfl
 |cons a l=>
  simp only[Lib.hasPrefix,List.map_cons,List.head?_cons];rw[Bool.eq_iff_iff];simp[List.isPrefixOf];constructor;·intro h;rw[←h];rfl
  intro h;exact(Xiq h).symm
theorem Ya3 (l:List UInt8):Lib.hasSuffix l [32]=decide ((l.map UInt8.toNat).getLast?=some 32):=by
 rw[Bool.eq_iff_iff];simp only[Lib.hasSuffix,decide_eq_true_eq];rcases List.eq_nil_or_concat l with rfl|⟨t,a,rfl⟩;·simp[List.isSuffixOf]
 simp[List.isSuffixOf,List.isPrefixOf];constructor;·intro h;rw[←h];rfl
 intro h;exact(Xiq h).symm
theorem Yhh:∀l:List UInt8,(Lib.index l [32,32]=-1↔dbl (l.map UInt8.toNat)=false)
 |[]=>by simp[Lib.index,dbl]
 |[b]=>by simp[Lib.index,dbl,List.isPrefixOf]
 |a::b::t=>by
  have c:=Yhh (b::t);have i:=Lib.index_ge (b::t) [32,32];rw[Lib.index];simp only[List.map_cons,dbl] at c⊢;by_cases h:a=32∧b=32;·obtain⟨rfl,rfl⟩:=h;simp[List.isPrefixOf]
  have d:([32,32].isPrefixOf (a::b::t))=false:=by rw[Bool.eq_false_iff];intro e;simp[List.isPrefixOf] at e;exact h ⟨e.1.symm,e.2.symm⟩
  have f:(decide (a.toNat=32)&&decide (b.toNat=32))=false:=by rw[Bool.eq_false_iff];intro e;simp at e;exact h ⟨Xiq e.1,Xiq e.2⟩
  rw[d,f];simp only[Bool.false_or,Bool.false_eq_true,if_false];rw[←c];by_cases h3:Lib.index (b::t) [32,32]=-1;·simp[h3]
  have g:(Lib.index (b::t) [32,32]==-1)=false:=beq_eq_false_iff_ne.2 h3;rw[g];simp only[Bool.false_eq_true,if_false];constructor<;>intro j<;>omega
theorem Yoe (l:List UInt8):Lib.contains l [32,32]=dbl (l.map UInt8.toNat):=by
 unfold Lib.contains;have a:=Lib.index_ge l [32,32];have:=Yhh l;cases hd:dbl (l.map UInt8.toNat);·rw[this.2 hd];rfl
 rw[hd] at this;simp at this;simp;omega
theorem Xys (s:ByteArray)(w:World)(hs:s.size≤1000000)(hE:Env w):Rx 88 #[.string s] w (.bool (sqz (bs s))):=by
 obtain⟨m,q⟩:=hE.mx;have d:=Hd (fun w=>Xcn s ⟨#[32]⟩ w);have g:=Hd (fun w=>Xdl s ⟨#[32]⟩ w (by omega));have j:=Hd (Xg1 s ⟨#[32,32]⟩ m w (by omega) q);rw[show(⟨#[32]⟩:ByteArray).data.toList=[32] from rfl,Ya4] at d;rw[show(⟨#[32]⟩:ByteArray).data.toList=[32] from rfl,Ya3] at g;rw[show(⟨#[32,32]⟩:ByteArray).data.toList=[32,32] from rfl,Yoe] at j;have S:Hid (sqz (bs s)=(!decide ((bs s).head?=some 32)&&!decide ((bs s).getLast?=some 32)&&!dbl (bs s))):=Hd rfl;obtain⟨a,l⟩:=xq (decide ((bs s).head?=some 32));obtain⟨b,n⟩:=xq (decide ((bs s).getLast?=some 32));obtain⟨c,p⟩:=xq (dbl (bs s));rw[←l,←n,←p] at S;have f:Hid (∀w,Ry 24 #[.string s,.string ⟨#[32]⟩] w (.bool a)):=Hd (by rw[l];exact d.o);have i:Hid (∀w,Ry 139 #[.string s,.string ⟨#[32]⟩] w (.bool b)):=Hd (by rw[n];exact g.o);have k:Hid (Ry 140 #[.string s,.string ⟨#[32,32]⟩] w (.bool c)):=Hd (by rw[p];exact j.o);clear d g j l n p q hE;cases a<;>cases b
 all_goals
  go_enter func88,ntmps88;go_wp2_with (first
   |(go_at_call 24;refine(f.o _).mono ?_;rintro e w' ⟨rfl,h⟩;cases h)
   |(go_at_call 139;refine(i.o _).mono ?_;rintro e w' ⟨rfl,h⟩;cases h)
   |(go_at_call 140;refine k.o.mono ?_;rintro e w' ⟨rfl,h⟩;cases h))
  go_ret;exact⟨by rw[S.o];cases c<;>rfl,rfl⟩
theorem Xtk (w:World)(b n:Nat)(h:Ck w b n)(s:ByteArray)(most:Nat)(hs:s.size≤1000000)(hmost:most≤1000000)(hE:Env w)(h9:9≤b):Calls prog 43 #[.pointer (some ⟨b,0,none⟩),.string s,.int .i64 (most:Int)] w (Xb7 w b (fe n (Xfl (bs s) most))):=by
 have W:=Hd (Xbs w b n h (decide (most<s.size)) 5);have I:Hid (most<s.size↔most<(bs s).length):=Hd (by rw[Xac]);have d:Hid (∀w',Fr1 b w w'→Env w'):=Hd (fun w' hf=>hE.below (hf.below (Nat.le_trans (by decide) hE.size) h9) (zL _));obtain⟨q,c⟩:=xq (decide (most<s.size));have T:Hid (Xfl (bs s) most=fe (eIf q 5) (fe (eIf (!Xhz false (bs s)) 6) (eIf (!sqz (bs s)) 3))):=Hd (by rw[c];unfold Xfl;simp only[Xac]);have G:decide ((most:Int)<(s.size:Int))=q:=by rw[c];simp
 have j:decide (most<s.size)=q:=c.symm;rw[←c] at W;clear h hE c;go_enter func43,ntmps43;go_wp2_with fail;refine W.o.mono ?_;rintro e w1 ⟨⟨v,rfl⟩,t,m⟩;have P:=Hd (Xvt s w1 (by unfold maxLen;omega));have E:=Hd t;have B:=Hd m;clear t m W G j;go_wp2_with fail;refine P.o.mono ?_;rintro e H ⟨rfl,a⟩;have C:=Hd (B.o.trans (Fr1.of_below a));have f:=Hd (Xbs H b _ (E.o.below a) (!Xhz false (bs s)) 6);obtain⟨g,y⟩:=xq (Xhz false (bs s));rw[←y] at f T⊢;clear a y P;go_wp2_with fail;refine f.o.mono ?_;rintro e A ⟨⟨v,rfl⟩,u,p⟩;have l:=Hd (C.o.trans p);have S:=Hd (Xys s A hs (d.o _ l.o));have i:=Hd (Xbs A b _ u (!sqz (bs s)) 3);obtain⟨k,z⟩:=xq (sqz (bs s));rw[←z] at i T S;clear u p z f;go_wp2_with (go_at_call 88;refine S.o.mono ?_;rintro e w' ⟨rfl,rfl⟩)
 refine i.o.mono ?_;rintro e J ⟨⟨v,rfl⟩,x,r⟩;have F:=Hd x;have D:=Hd (l.o.trans r);clear x r i S;go_wp2_with fail;go_end0;refine⟨⟨_,rfl⟩,?_,D.o⟩;have e:fe n (Xfl (bs s) most)=fe (fe (fe n (eIf q 5)) (eIf (!g) 6)) (eIf (!k) 3):=by
  rw[T.o];unfold fe;by_cases hn:n=0;·subst hn;cases q<;>simp[eIf]
  simp[hn]
 rw[e];exact F.o
theorem Yat (w:World)(c:Nat)(hc:c<256):Rx 91 #[.int .u8 (c:Int)] w (.bool (low c)):=by
 obtain⟨b,a⟩:=xq (low c);rw[←a];have d:=Hd a;clear a;rcases(by omega:c<97∨(97≤c∧c≤122)∨122<c) with h|⟨h,h2⟩|h
 all_goals
  go_enter func91,ntmps91;go_wp2_with fail;go_ret;exact⟨Xa5 (by rw[d.o,Bool.eq_iff_iff];simp[low];try omega),rfl⟩
theorem Xp4 (w:World)(c:Nat)(hc:c<256):Rx 92 #[.int .u8 (c:Int)] w (.bool (dig c)):=by
 obtain⟨b,a⟩:=xq (dig c);rw[←a];have d:=Hd a;clear a;rcases(by omega:c<48∨(48≤c∧c≤57)∨57<c) with h|⟨h,h2⟩|h
 all_goals
  go_enter func92,ntmps92;go_wp2_with fail;go_ret;exact⟨Xa5 (by rw[d.o,Bool.eq_iff_iff];simp[dig];try omega),rfl⟩
def dsB (c:Nat):Bool:=!low c&&!dig c&&!decide (c=45)
theorem Xop {p:Nat→Bool}{l:List Nat}{k c:Nat}(hk:k<l.length)(hc:c=l.getD k 0):(l.take (k+1)).any p=((l.take k).any p||p c):=by rw[List.getD_eq_getElem?_getD,List.getElem?_eq_getElem hk,Option.getD_some] at hc;rw[List.take_succ_eq_append_getElem hk,List.any_append,←hc];simp
theorem Yml (n:Nat)(p q:Bool)(e:Nat):fe (fe n (eIf p e)) (eIf q e)=fe n (eIf (p||q) e):=by unfold fe eIf;by_cases h:n=0<;>by_cases h2:e=0<;>cases p<;>cases q<;>simp[h,h2]
theorem Xjm (a b c:Nat):fe (fe a b) c=fe a (fe b c):=by unfold fe;split<;>simp_all
theorem Yjt (n:Nat):fe n 0=n:=by unfold fe;split<;>simp_all
theorem Yfx (w:World)(b n:Nat)(h:Ck w b n)(s:ByteArray)(hs:s.size≤1000000):Calls prog 47 #[.pointer (some ⟨b,0,none⟩),.string s] w (Xb7 w b (fe n (Xk4 (bs s)))):=by
 obtain⟨q,x⟩:=xq (decide (20<s.size));have W:=Hd (Xbs w b n h q 5);have T:Hid (Xk4 (bs s)=fe (eIf q 5) (eIf ((bs s).any dsB) 6)):=Hd (by rw[x];unfold Xk4;simp only[Xac];rfl);have M:decide ((20:Int)<(s.size:Int))=q:=by rw[x];simp;omega
 clear h x;go_enter func47,ntmps47;go_wp2_with fail;refine W.o.mono ?_;rintro e w1 ⟨⟨v,rfl⟩,t,A⟩;obtain⟨m,u⟩:=xq (fe n (eIf q 5));rw[←u] at t;have H:=Hd u;have G:=Hd t;have F:=Hd A;clear t A W M u;go_wp2_with fail;go_loopg [4,12] s.size (fun k c i wr=>∃j:Nat,j≤s.size∧k=s.size-j∧i=.int .i64 (j:Int)∧Hid (Ck wr b (fe m (eIf (((bs s).take j).any dsB) 6))∧Fr1 b w wr));exact⟨0,by omega,rfl,rfl,Hd ⟨by simp[eIf,Yjt];exact G.o,F.o⟩⟩;obtain⟨j,Q,rfl,rfl,r⟩:=hrel;by_cases hlt:j<s.size
 ·obtain⟨c,p⟩:=xq ((bs s).getD j 0);have d:c<256:=by rw[p];exact Xbd s j
  have S:∀w,(Instr.index 9 (.string s) (.int .i64 (j:Int))).run prog w=.ok (.int .u8 (c:Int)) w:=fun w=>by rw[Xbj 9 underlying9 s .i64 j j rfl hlt,p]
  have J:Hid (((bs s).take (j+1)).any dsB=(((bs s).take j).any dsB||dsB c)):=Hd (Xop (by rw[Xac];exact hlt) p);have L:=Hd (fun w=>Yat w c d);have D:=Hd (fun w=>Xp4 w c d);have X:Hid (dsB c=(!low c&&!dig c&&!decide (c=45))):=Hd rfl;have a:Hid (((c:Int) !=45)=!decide (c=45)):=Hd (by by_cases h:c=45<;>simp[h];omega);obtain⟨O,g⟩:=xq (low c);obtain⟨N,f⟩:=xq (dig c);obtain⟨P,l⟩:=xq (decide (c=45));rw[←g] at L X;rw[←f] at D X;rw[←l] at a X;clear p g f l;have y:=a.o;have K:=Hd (fun bad=>Xbs wr b _ r.o.1 bad 6);cases O<;>cases N<;>cases P
  all_goals
   simp only[Bool.not_true,Bool.not_false] at y;go_wp2_with (first
    |(go_at_call 91;refine(L.o _).mono ?_;rintro e w' ⟨rfl,rfl⟩)
    |(go_at_call 92;refine(D.o _).mono ?_;rintro e w' ⟨rfl,rfl⟩))
   refine(K.o _).mono ?_;rintro e E ⟨⟨v,rfl⟩,C,B⟩;have I:Hid (Ck E b (fe m (eIf (((bs s).take (j+1)).any dsB) 6))∧Fr1 b w E):=Hd ⟨by rw[J.o,←Yml,X.o];exact C,r.o.2.trans B⟩;clear C B;go_wp2_with fail;go_roundg (s.size-(j+1));exact⟨j+1,by omega,rfl,by go_num,I⟩;omega
 obtain rfl:j=s.size:=by omega
 have R:=r.o;rw[List.take_of_length_le (by rw[Xac];exact zL _)] at R;have z:=Hd R;clear R r;go_wp2_with fail;go_end0;exact⟨⟨_,rfl⟩,by rw[T.o,←Xjm,←H.o];exact z.o.1,z.o.2⟩
theorem Xmq (w:World)(n:Int):Rx 93 #[.int .i64 n] w (.int .i64 (eIf (!Xau n) 2:Nat)):=by
 obtain⟨b,a⟩:=xq (Xau n);rw[←a];have c:Hid (b=(decide (1≤n)&&decide (n≤8))):=Hd a;clear a;rcases(by omega:n<1∨(1≤n∧n≤8)∨8<n) with h|⟨h,h2⟩|h
 ·have a:b=false:=by rw[c.o,zW (by omega)];rfl
  subst a;go_enter func93,ntmps93;go_wp2_with fail;go_ret;exact⟨rfl,rfl⟩
 ·have a:b=true:=by rw[c.o,zT h,zT h2];rfl
  subst a;go_enter func93,ntmps93;go_wp2_with fail;go_ret;exact⟨rfl,rfl⟩
 have a:b=false:=by rw[c.o,zW (show¬n≤8 by omega),Bool.and_false]
 subst a;have d:¬n<1:=by omega
 go_enter func93,ntmps93;go_wp2_with fail;go_ret;exact⟨rfl,rfl⟩
def hvz (c:Nat):Int:=match hvl c with|some v=>(v:Int)|none=>-1
def hdB (c:Nat):Bool:=(hvl c).isSome
theorem Xw0:∀c:Fin 256,Lib.indexByte [48,49,50,51,52,53,54,55,56,57,97,98,99,100,101,102] (UInt8.ofNat c.val)=hvz c.val:=by decide+kernel
theorem Ymg (c:Nat):hdB c=(dig c||(decide (97≤c)&&decide (c≤102))):=by
 unfold hdB hvl dig;rw[Bool.eq_iff_iff];by_cases h1:48≤c∧c≤57;·simp[h1]
 by_cases h2:97≤c∧c≤102;·simp[h1,h2]
 rw[qN h1,qN h2];simp;omega
theorem Yar (w:World)(c:Nat)(hc:c<256):Rx 147 #[.string ⟨#[48,49,50,51,52,53,54,55,56,57,97,98,99,100,101,102]⟩,.int .u8 (c:Int)] w (.int .i64 (hvz c)):=by refine(Xgk _ (c:Int) w).mono ?_;rintro e w' ⟨rfl,rfl⟩;refine⟨?_,rfl⟩;rw[Int.toNat_natCast,←Xw0 ⟨c,hc⟩]
theorem Xwp (w:World)(c:Nat)(hc:c<256):Rx 206 #[.int .u8 (c:Int)] w (.bool (hdB c)):=by
 have D:=Hd (fun w=>Xp4 w c hc);have E:Hid (hdB c=(dig c||(decide (97≤c)&&decide (c≤102)))):=Hd (Ymg c);obtain⟨b,a⟩:=xq (hdB c);obtain⟨d,f⟩:=xq (dig c);rw[←a] at E⊢;rw[←f] at D E;clear a f;cases d
 ·rcases(by omega:c<97∨(97≤c∧c≤102)∨102<c) with h|⟨h,h2⟩|h
  all_goals
   go_enter func206,ntmps206;go_wp2_with (go_at_call 92;refine(D.o _).mono ?_;rintro e w' ⟨rfl,rfl⟩)
   go_ret;exact⟨Xa5 (by rw[E.o,Bool.eq_iff_iff];simp;try omega),rfl⟩
 go_enter func206,ntmps206;go_wp2_with (go_at_call 92;refine(D.o _).mono ?_;rintro e w' ⟨rfl,rfl⟩)
 go_ret;exact⟨Xa5 (by rw[E.o];rfl),rfl⟩
def Xgq (k c:Nat):Bool:=if k<1 then decide (c=60) else if k<65 then hdB c else decide (c=sHash.getD (k-65) 0)
theorem Yfn (w:World)(k c:Nat)(hk:k<71)(hc:c<256):Rx 151 #[.int .i64 (k:Int),.int .u8 (c:Int)] w (.bool (Xgq k c)):=by
 have D:=Hd (fun w=>Xwp w c hc);by_cases h1:k<1
 ·obtain rfl:k=0:=by omega
  have g:=Yc5 ⟨#[60]⟩ 60 rfl (by decide);go_enter func151,ntmps151;go_wp2_with fail;go_ret;exact⟨Xa5 (by unfold Xgq;rw[qP (by omega),Bool.eq_iff_iff];simp;omega),rfl⟩
 by_cases h2:k<65
 ·have F:Hid (Xgq k c=hdB c):=Hd (by unfold Xgq;rw[qN h1,qP h2]);obtain⟨b,f⟩:=xq (hdB c);rw[←f] at F D;clear f;go_enter func151,ntmps151;go_wp2_with (go_at_call 206;refine(D.o _).mono ?_;rintro e w' ⟨rfl,rfl⟩)
  go_ret;exact⟨by rw[F.o];rfl,rfl⟩
 have F:Hid (Xgq k c=decide (c=sHash.getD (k-65) 0)):=Hd (by unfold Xgq;rw[qN h1,qN h2]);obtain⟨d,a⟩:=xq (sHash.getD (k-65) 0);have h:∀w,(Instr.index 9 (.string ⟨#[64,104,97,115,104,62]⟩) (.int .i64 ((k:Int)-1-64))).run prog w=.ok (.int .u8 (d:Int)) w:=fun w=>by rw[Xbj 9 underlying9 ⟨#[64,104,97,115,104,62]⟩ .i64 ((k:Int)-1-64) (k-65) (by omega) (by show k-65<6;omega),a];rfl
 rw[←a] at F;clear a;go_enter func151,ntmps151;go_wp2_with fail;go_ret;exact⟨Xa5 (by rw[F.o,Bool.eq_iff_iff];simp;omega),rfl⟩
structure Rd (w:World) (a:Option Addr) (l:List Nat):Prop where
 lt:∀x∈l,x<256
 at_:0<l.length→∃b off,a=some ⟨b,off,none⟩∧b<w.heap.size∧∀i (h:i<l.length),w.cell? ⟨b,off+i,none⟩=some (U l[i])
def TX (B:Nat)(xs:List Nat)(w:World):Prop:=∃v,w.heap[B+1]?=some (.cells #[v] 82 (0,0))∧w.ownsRow B 5 1 v xs.length (xs.map U)
theorem TX.close {w wA w1:World}{base gg cap n:Nat}{v:Value}{xs:List Nat}{y:Nat}(hn:n=xs.length) (hown1:w1.ownsRow base 5 1 (.slice (some ⟨gg,0,none⟩) (n+1) cap) (n+1) (xs.map U++[.int .u8 y])) (hgrow:wA.grownBy w1 v.ownBlock) (hA:Bw w wA) (hT1:w1.heap[base+1]?=some (.cells #[v] 82 (0,0))) (hbase:base≤w.heap.size) (hv:w.ownsRow base 5 1 v n (xs.map U)):TX base (xs++[y]) (w1.setCell ⟨base+1,0,none⟩ (.slice (some ⟨gg,0,none⟩) (n+1) cap))∧Below base w (w1.setCell ⟨base+1,0,none⟩ (.slice (some ⟨gg,0,none⟩) (n+1) cap)):=by subst hn;have:=Xlf hown1 hgrow hA hT1 (by decide) (by omega) hbase hv;refine⟨?_,this.2.below⟩;obtain⟨v',a,b⟩:=this.1;exact⟨v',a,by rw[List.map_append,List.length_append];exact b⟩
theorem Xw8 (w:World)(a:Option Addr)(cap:Nat)(l:List Nat)(hl:l.length≤400000)(hrd:Rd w a l)(ht:Tab w):zJ 180 #[.slice a l.length cap] w (.string (Xax (Xi8 l))):=by
 obtain⟨i0,R,V,W,X⟩:=info_parts Xgl;obtain⟨n,hn⟩:=xq l.length;have aM:i0.bytes*((n+2)/3*4)≤281474976710656:=by rw[X];omega
 have R0:=fun(cs:Array Value) (h:cs.size=((n+2)/3*4)*1)=>Xt5 w cs ((n+2)/3*4) 8 6 231 (by unfold maxLen;omega) h;have TB:=Hd ht;have P0:=Hd (Yei w w.heap.size ht ht.size (zL _));have HC:=Hd hrd.at_;have H2:=Hd hrd.lt;have HN:=Hd hn;have RR:=Hd R0;rw[←hn];have aY:n≤400000:=by omega
 clear hrd R0 hl hn ht;go_enter func180,ntmps180;go_wp2_with (first|(at_make;refine Xcc _ rfl _ _ _ rfl 5 i0 _ 1 underlying82 R V W .i64 .i64 _ _ 0 ((n+2)/3*4) rfl rfl rfl (by omega) (by omega) aM (by unfold maxLen;omega) ?_;intro cs aC;have CS:=Hd aC;clear aC)|(go_at_call 230;refine(Xka _ 8 6 _ _ w.heap.size (by simp)).mono ?_;rintro e w1 ⟨rfl,rfl⟩))
 go_loopg [23] n (fun k i wr=>∃j y s xs,j≤n∧k=n-j∧i=.int .i64 (j:Int)∧Xgm (l.take j)=(y,s,xs)∧RG w.heap.size 8 6 231 y s xs wr∧Bw w wr);exact⟨0,0,0,[],by omega,by omega,rfl,rfl,RR.o cs CS.o,Xld _ _ _ _ _ _ _ _⟩;obtain⟨j,y,s,xs,hj,rfl,rfl,z,G,C⟩:=hrel;have I:=Xhn (l.take j) (fun x hx=>H2.o x (List.mem_of_mem_take hx));rw[z] at I;obtain⟨i1,i2,Y⟩:=I;simp only[List.length_take] at i1 i2 Y;have hxl:xs.length≤900000:=by omega
 by_cases hlt:j<n
 ·have S:j<l.length:=by rw[←HN.o];exact hlt
  obtain⟨b,off,rfl,aN,F⟩:=HC.o (by omega);have hx:w.cell? ⟨b,off+j,none⟩=some (U l[j]):=F j S;clear F;have aI:wr.cell? ⟨b,off+j,none⟩=some (U l[j]):=(C.cell (by exact aN)).trans hx;have hg:l[j]<256:=H2.o _ (zG S);obtain⟨g,Q⟩:=xq (l[j]);rw[←Q] at aI hg;unfold U at aI;have C1:=Hd (Yo1 w wr w.heap.size 8 6 y s g al xs G C P0.o (by omega) (by omega) (by omega) i1 i2 (by omega) hxl);have ST:=Hd z;have HG:=Hd Q;clear z G C i2 hx Q Y;go_wp2_with (go_at_call 261;refine C1.o.mono ?_;rintro e w1 ⟨rfl,aL,aX,b1,c1,ys,hd,aR⟩;have HD:=Hd hd;clear hd)
  go_roundg (n-(j+1));·refine⟨j+1,b1,c1,ys,by omega,by omega,by go_num,?_,aR,aL⟩;rw[List.take_succ_eq_append_getElem S,Xms,ST.o,←HG.o];exact HD.o
  omega
 have aQ:j=n:=by omega
 subst aQ;have L1:=Hd (Xum wr w.heap.size 8 6 231 y s xs G);obtain⟨v,hv,c⟩:=G.txt;have aA:Hid (TX w.heap.size xs wr):=⟨v,hv,c⟩
 rw[List.take_of_length_le (by rw[HN.o];exact zL _)] at z;have ST:=Hd z;have BL:=Hd C;have I2:=Hd i2;have I3:=Hd Y;have HV:=Hd hv;clear z G C i2 Y hv
 go_upto_if 38 with(go_at_call 262;refine L1.o.mono ?_;rintro e w1 ⟨rfl,nq,rfl⟩)
 go_cut [] (fun wx=>TX w.heap.size (Xbp (y,s,xs)) wx∧Bw w wx)
 ·have tx:TX w.heap.size xs (wr.drewN nq):=aA.o;have bx:Bw w (wr.drewN nq):=below_drewN BL.o nq;generalize wr.drewN nq=wx at*;have tb:=TB.o.below bx TB.o.size;obtain⟨vx,r,H⟩:=tx;have hc:=cell_of_one r;have hf:=free_of_one r;have lt:=zY r;by_cases hcz:0<s
  ·obtain⟨d,hd⟩:=xq (6-s);obtain⟨q,hq⟩:=xq (y*2^d);have aE:q<64:=by have h1:y*2^d<2^s*2^d:=Nat.mul_lt_mul_of_pos_right I2.o (Nat.pow_pos (by omega));rw[←Nat.pow_add,show s+d=6 by omega] at h1;omega
   have ed:(6:Int)-(s:Int)=(d:Int):=by omega
   have e1:((y:Int)*2^d)=(q:Int):=by rw[hq];push_cast;rfl
   have q0:(0:Int)≤(q:Int):=by omega
   have q1:(q:Int)<64:=by omega
   have qc:wx.cell? ⟨3,q,none⟩=some (U (al q)):=tb.cell q aE;unfold U at qc;have B:(wx.drew.alloc (.cells #[.int .u8 (al q)] 5)).heap[w.heap.size+1]?=some (.cells #[vx] 82 (0,0)):=Xad r;have M:=Hd B;have L:=Hd (Xd6 (b:=w.heap.size+1) (t:=82) H r (by decide));have HB:=Hd bx;have HQ:=Hd hq;have D:=Hd hd;have HX:=Hd r;clear B bx tb hq hd r;have N:w.heap.size≤wx.heap.size:=HB.o.size;have aW:d≤6:=by omega
   have ew:IntKind.i64.wrap (d:Int)=(d:Int):=IntWalk.i64_in _ (by omega);have aV:IntKind.i64.wrap (q:Int)=(q:Int):=IntWalk.i64_in _ (by omega);have d0:(0:Int)≤(d:Int):=by omega
   have d1:(d:Int)≤64:=by omega
   go_wp2_with fail;go_region_law ((refine step_append_lies _ (by rfl) _ _ _ (by rfl) w.heap.size 5 i0 _ 1 1 underlying82 R V W X rfl (by omega) vx xs.length (xs.map U) (by rfl) ((H.drew).alloc _) ⟨wx.heap.size,0,none⟩ 1 1 [.int .u8 (al q)] (by rfl) (by rfl) (World.news_of_block (cs:=#[.int .u8 (al q)]) (t:=5) (fr:=(0,0)) (zN wx _)) (by simp[Value.oneCell']) (by omega) (by unfold maxLen;omega) (by omega) (by simp;omega) (wx.heap.size+1) (by simp) ?_;intro gg A w1 u f aK aD;have p:=Xdh f M.o L.o;have aO:=cell_of_one p;have aP:=free_of_one p;have K:=Hd p;clear p));all_goals go_wp2_with fail
   all_goals go_meet
   all_goals
    have fin:=TX.close rfl u f (((zR _ _).alloc (zL _) _).drew) K.o N H;have et:Xbp (y,s,xs)=xs++[al q]:=by simp only[Xbp];rw[qP hcz,HQ.o,D.o]
    rw[et];exact⟨fin.1,HB.o.trans fin.2⟩
  have aU:decide (0<s)=false:=by simp;omega
  go_wp2_with fail;go_meet;have et:Xbp (y,s,xs)=xs:=by simp only[Xbp];rw[qN hcz]
  rw[et];exact⟨⟨vx,r,H⟩,bx⟩
 obtain⟨T,aB⟩:=hcut;have Y:=I3.o;have aF:=Xk3 y s xs j (by rw[Y,←HN.o];simp);have ef:=Ybq ST.o;have EF:=Hd ef;clear ef Y;obtain⟨ts,aG⟩:=xq (Xbp (y,s,xs));rw[←aG] at T aF EF;clear I2 I3 ST BL aA L1 P0 HC H2 RR aG;go_wp2_with fail;go_loopg [] ((4-ts.length%4)%4) (fun k wr=>∃ys,TX w.heap.size ys wr∧Bw w wr∧ys.length+k≤900000∧k=(4-ys.length%4)%4∧Xq4 ys=Xi8 l);exact⟨ts,T,aB,by omega,rfl,EF.o⟩;obtain⟨ys,aH,E,aS,rfl,J⟩:=hrel;have HP:=Hd J;clear J T aB hxl aF;obtain⟨v,hv,c⟩:=aH;have hc:=cell_of_one hv;have hf:=free_of_one hv;have lt:=zY hv;obtain⟨m,hm⟩:=xq ys.length;have O:=Xnu (P:=prog) 82 9 underlying82 underlying5 underlying9 c;rw[←hm] at c aS;obtain⟨a',A,rfl⟩:=Xer c;have Z:=Hd hm;by_cases h4:m%4=0
 ·have aJ:((m:Int)%4 !=0)=false:=by simp;omega
  clear hm;go_wp2_with fail;go_ret;exact⟨by rw[←HP.o,Xpy _ (by rw[←Z.o];exact h4)];rfl,E⟩
 have aJ:((m:Int)%4 !=0)=true:=by simp;omega
 have B:(wr.alloc (.cells #[.int .u8 61] 5)).heap[w.heap.size+1]?=some (.cells #[.slice a' m A] 82 (0,0)):=Xad hv;have M:=Hd B;have L:=Hd (Xd6 (b:=w.heap.size+1) (t:=82) c hv (by decide));have HV:=Hd hv;have HB:=Hd E;have N:w.heap.size≤wr.heap.size:=HB.o.size;clear hm B hv E O;go_wp2_with ((at_builtin;refine wpList_append_lies _ rfl _ _ _ rfl w.heap.size 5 i0 _ 1 1 underlying82 R V W X rfl (by omega) (.slice a' m A) m (ys.map U) rfl (c.alloc _) ⟨wr.heap.size,0,none⟩ 1 1 [.int .u8 61] rfl rfl (World.news_of_block (cs:=#[.int .u8 61]) (t:=5) (fr:=(0,0)) (zN wr _)) (by simp[Value.oneCell']) (by omega) (by unfold maxLen;omega) (by omega) (by simp;omega) (wr.heap.size+1) (by simp) ?_;intro gg aT w1 u f aK aD;have p:=Xdh f M.o L.o;have aO:=cell_of_one p;have aP:=free_of_one p;have K:=Hd p;clear p))
 go_roundg ((4-(m+1)%4)%4);case measure=>rw[←Z.o];omega
 case rel=>
  have fin:=TX.close Z.o u f ((zR _ _).alloc (zL _) _) K.o N c;refine⟨ys++[61],fin.1,HB.o.trans fin.2,?_,?_,?_⟩;·simp;rw[←Z.o];omega
  ·simp;rw[←Z.o]
  rw[Xpx _ (by rw[←Z.o];exact h4)];exact HP.o
end Go.Proofs.YtjolcnopipbkhaaGreatDoor
/- The library's contracts on lists of texts at this seat (laid by the shelf's tools): Split, Join, Contains, Equal. -/
namespace Go.Proofs.YtjolcnopipbkhaaGreatDoor
open Go.Proofs.Tryz
open Go.Shelf Go.RowKit
set_option linter.unusedVariables false
set_option maxRecDepth 100000
set_option maxHeartbeats 100000000
def Xgp:Go.Shelf.Ren:=⟨fun|156=>78|165=>126|166=>40|169=>41|240=>83|241=>178|276=>131|277=>229|n=>n,fun|31=>23|9=>9|3=>3|4=>4|0=>0|20=>20|72=>84|76=>87|70=>81|37=>82|75=>86|127=>130|164=>188|5=>5|80=>89|n=>n,fun|n=>n⟩
theorem Xmj:Go.Proofs.Lays.n156 prog Xgp:={
 mixed:=by kernel_rfl
 f156:=func78.trans (congrArg some (by kernel_rfl))
 f165:=func126.trans (congrArg some (by kernel_rfl))
 f166:=func40.trans (congrArg some (by kernel_rfl))
 f169:=func41.trans (congrArg some (by kernel_rfl))
 f240:=func83.trans (congrArg some (by kernel_rfl))
 f241:=func178.trans (congrArg some (by kernel_rfl))
 f276:=func131.trans (congrArg some (by kernel_rfl))
 f277:=func229.trans (congrArg some (by kernel_rfl))
 t0:=underlying0
 a0:=Tryz.isAgg0
 z0:=Tryz.sizeOf0
 v0:=Tryz.zeroValue0
 t3:=underlying3
 a3:=Tryz.isAgg3
 z3:=Tryz.sizeOf3
 v3:=Tryz.zeroValue3
 t4:=underlying4
 a4:=Tryz.isAgg4
 z4:=Tryz.sizeOf4
 v4:=Tryz.zeroValue4
 t9:=underlying9
 a9:=Tryz.isAgg9
 z9:=Tryz.sizeOf9
 v9:=Tryz.zeroValue9
 t20:=underlying20
 a20:=Tryz.isAgg20
 z20:=Tryz.sizeOf20
 v20:=Tryz.zeroValue20
 t31:=underlying23
 a31:=Tryz.isAgg23
 z31:=Tryz.sizeOf23
 v31:=Tryz.zeroValue23
 t37:=underlying82
 a37:=Tryz.isAgg82
 z37:=Tryz.sizeOf82
 v37:=Tryz.zeroValue82
 t70:=underlying81
 a70:=Tryz.isAgg81
 z70:=Tryz.sizeOf81
 v70:=Tryz.zeroValue81
 t72:=underlying84
 a72:=Tryz.isAgg84
 z72:=Tryz.sizeOf84
 v72:=Tryz.zeroValue84
 t75:=underlying86
 a75:=Tryz.isAgg86
 z75:=Tryz.sizeOf86
 v75:=Tryz.zeroValue86
 t76:=underlying87
 a76:=Tryz.isAgg87
 z76:=Tryz.sizeOf87
 v76:=Tryz.zeroValue87
 t127:=underlying130
 a127:=Tryz.isAgg130
 z127:=Tryz.sizeOf130
 v127:=Tryz.zeroValue130
 t164:=underlying188
 a164:=Tryz.isAgg188
 z164:=Tryz.sizeOf188
 v164:=Tryz.zeroValue188}
theorem Xdm:Builder.Extra prog Xgp:={
 sizeBuilder:=by kernel_rfl
 liesBuilder:=by kernel_rfl
 t5:=underlying5
 a5:=Tryz.isAgg5
 z5:=Tryz.sizeOf5
 v5:=Tryz.zeroValue5
 infoByte:=by kernel_rfl
 cellsByte:=by kernel_rfl
 sizeByte:=by kernel_rfl
 neB5:=by decide}
theorem Xgj (a:Option Addr)(c:Nat)(sep:ByteArray)(w:World):Ry 78 #[.slice a 0 c,.string sep] w (.string ⟨#[]⟩):=Any.strings_Join_none Xmj Xdm a c sep w
theorem Xkk (bk o c:Nat)(xs:List ByteArray)(sep:ByteArray)(w:World)(hcells:∀(j:Nat) x,xs[j]?=some x→w.cell? ⟨bk,o+j,none⟩=some (.string x))(hbk:bk<w.heap.size)(hN:xs.length≤140737488355328)(hcap:xs.length≤c)(hlen:(Lib.join (xs.map (·.data.toList)) sep.data.toList).length≤140737488355328):zJ 78 #[.slice (some ⟨bk,o,none⟩) xs.length c,.string sep] w (.string ⟨(Lib.join (xs.map (·.data.toList)) sep.data.toList).toArray⟩):=Any.strings_Join Xmj Xdm bk o c xs sep w hcells hbk hN hcap hlen
def Xlo:Go.Shelf.Ren:=⟨fun|146=>149|221=>205|268=>245|138=>246|143=>188|195=>271|197=>272|218=>273|219=>146|260=>281|217=>201|225=>202|224=>203|267=>204|266=>243|314=>244|n=>n,fun|9=>9|31=>23|3=>3|4=>4|0=>0|105=>315|21=>21|5=>5|46=>128|119=>320|139=>323|138=>322|146=>296|51=>163|n=>n,fun|1=>2|3=>7|4=>8|n=>n⟩
theorem Xwu:Go.Proofs.Lays.n146 prog Xlo:={
 mixed:=by kernel_rfl
 f138:=func246.trans (congrArg some (by kernel_rfl))
 f143:=func188.trans (congrArg some (by kernel_rfl))
 f146:=func149.trans (congrArg some (by kernel_rfl))
 f195:=func271.trans (congrArg some (by kernel_rfl))
 f197:=func272.trans (congrArg some (by kernel_rfl))
 f217:=func201.trans (congrArg some (by kernel_rfl))
 f218:=func273.trans (congrArg some (by kernel_rfl))
 f219:=func146.trans (congrArg some (by kernel_rfl))
 f221:=func205.trans (congrArg some (by kernel_rfl))
 f224:=func203.trans (congrArg some (by kernel_rfl))
 f225:=func202.trans (congrArg some (by kernel_rfl))
 f260:=func281.trans (congrArg some (by kernel_rfl))
 f266:=func243.trans (congrArg some (by kernel_rfl))
 f267:=func204.trans (congrArg some (by kernel_rfl))
 f268:=func245.trans (congrArg some (by kernel_rfl))
 f314:=func244.trans (congrArg some (by kernel_rfl))
 t0:=underlying0
 a0:=Tryz.isAgg0
 z0:=Tryz.sizeOf0
 v0:=Tryz.zeroValue0
 t3:=underlying3
 a3:=Tryz.isAgg3
 z3:=Tryz.sizeOf3
 v3:=Tryz.zeroValue3
 t4:=underlying4
 a4:=Tryz.isAgg4
 z4:=Tryz.sizeOf4
 v4:=Tryz.zeroValue4
 t5:=underlying5
 a5:=Tryz.isAgg5
 z5:=Tryz.sizeOf5
 v5:=Tryz.zeroValue5
 t9:=underlying9
 a9:=Tryz.isAgg9
 z9:=Tryz.sizeOf9
 v9:=Tryz.zeroValue9
 t21:=underlying21
 a21:=Tryz.isAgg21
 z21:=Tryz.sizeOf21
 v21:=Tryz.zeroValue21
 t31:=underlying23
 a31:=Tryz.isAgg23
 z31:=Tryz.sizeOf23
 v31:=Tryz.zeroValue23
 t46:=underlying128
 a46:=Tryz.isAgg128
 z46:=Tryz.sizeOf128
 v46:=Tryz.zeroValue128
 t51:=underlying163
 a51:=Tryz.isAgg163
 z51:=Tryz.sizeOf163
 v51:=Tryz.zeroValue163
 t105:=underlying315
 a105:=Tryz.isAgg315
 z105:=Tryz.sizeOf315
 v105:=Tryz.zeroValue315
 t119:=underlying320
 a119:=Tryz.isAgg320
 z119:=Tryz.sizeOf320
 t138:=underlying322
 a138:=Tryz.isAgg322
 z138:=Tryz.sizeOf322
 v138:=Tryz.zeroValue322
 t139:=underlying323
 a139:=Tryz.isAgg323
 z139:=Tryz.sizeOf323
 v139:=Tryz.zeroValue323
 t146:=underlying296
 a146:=Tryz.isAgg296
 z146:=Tryz.sizeOf296
 v146:=Tryz.zeroValue296
 g1:=by kernel_rfl
 g3:=by kernel_rfl
 g4:=by kernel_rfl}
theorem Xi6 (s sep:ByteArray)(m:Int)(w:World)(hs:s.size<4294967281)(hm:w.cell? ⟨2,0,none⟩=some (.int .i64 m))(h1:1≤sep.size):Calls prog 149 #[.string s,.string sep] w fun e w'=>
     e=.returned (.slice (some ⟨w.heap.size,0,none⟩) (Lib.countB s sep+1) (Lib.countB s sep+1))∧w'=w.alloc (.cells ((Lib.splitB sep 0 (Lib.countB s sep) s).map Value.string).toArray 9):=Any.strings_Split Xwu (by kernel_rfl) s sep m w hs hm h1
def Xls:Go.Shelf.Ren:=⟨fun|110=>125|109=>177|n=>n,fun|31=>23|9=>9|4=>4|3=>3|0=>0|n=>n,fun|n=>n⟩
theorem Xmk:Go.Proofs.Lays.n110 prog Xls:={
 mixed:=by kernel_rfl
 f109:=func177.trans (congrArg some (by kernel_rfl))
 f110:=func125.trans (congrArg some (by kernel_rfl))
 t0:=underlying0
 a0:=Tryz.isAgg0
 z0:=Tryz.sizeOf0
 v0:=Tryz.zeroValue0
 t3:=underlying3
 a3:=Tryz.isAgg3
 z3:=Tryz.sizeOf3
 v3:=Tryz.zeroValue3
 t4:=underlying4
 a4:=Tryz.isAgg4
 z4:=Tryz.sizeOf4
 v4:=Tryz.zeroValue4
 t9:=underlying9
 a9:=Tryz.isAgg9
 z9:=Tryz.sizeOf9
 v9:=Tryz.zeroValue9
 t31:=underlying23
 a31:=Tryz.isAgg23
 z31:=Tryz.sizeOf23
 v31:=Tryz.zeroValue23}
theorem Xee (b off n c:Nat)(zs:List ByteArray)(x:ByteArray)(w:World)(hz:n≤zs.length)(hbig:n≤9223372036854775807)(hc:∀j,j<zs.length→w.cell? ⟨b,off+j,none⟩=some (.string (zs.getD j ByteArray.empty))):Ry 125 #[.slice (some ⟨b,off,none⟩) n c,.string x] w (.bool (Lib.containsS (zs.take n) x)):=Any.slices_Contains_string Xmk b off n c zs x w hz hbig hc
theorem Xdc (a:Option Addr)(c:Nat)(x:ByteArray)(w:World):Ry 125 #[.slice a 0 c,.string x] w (.bool false):=Any.slices_Contains_string_empty Xmk a c x w
end Go.Proofs.YtjolcnopipbkhaaGreatDoor
/- Names of groups. -/
namespace Go.Proofs.YtjolcnopipbkhaaGreatDoor
open Go.Proofs.Tryz
open Go.RowKit Go.Maps
set_option linter.unusedVariables false
set_option maxHeartbeats 100000000
set_option maxRecDepth 100000
def Ynd (b:Bool)(w:World)(e:Ending)(w':World):Prop:=
 ∃n:Int,e=.returned (.int .i64 n)∧(b=true→0≤n)∧(b=false→n<0)∧w=w'
theorem Yed (w:World)(s:ByteArray)(cap:Nat)(fz:Nat×Nat):Rd (w.alloc (.cells (bytesRow s cap) 5 fz)) (some ⟨w.heap.size,0,none⟩) (bs s):=by
 refine⟨Xhs s,fun _=>⟨w.heap.size,0,rfl,by simp,fun i hi=>?_⟩⟩;rw[Nat.zero_add,cell_of_row _ w.heap.size i _ 5 fz (zN w _)];have a:i<s.size:=by rw[Xac] at hi;exact hi
 have c:i<(s.data.map (fun b=>Value.int .u8 b.toNat)).size:=by simpa using a
 unfold bytesRow;rw[Array.getElem?_append_left c];rw[Ymw s i a];rw[Array.getElem?_map,Array.getElem?_eq_getElem (show i<s.data.size from a)];rfl
theorem Xi0 {p:Nat→Bool}{l:List Nat}{k:Nat}(h:(l.take k).any p=false)(hk:l.length≤k):l.any p=false:=by rwa [List.take_of_length_le hk] at h
theorem Xiz {p:Nat→Bool}{l:List Nat}{k c:Nat}(hk:k<l.length)(hc:c=l.getD k 0)(h:p c=true):l.any p=true:=by rw[List.any_eq_true];rw[List.getD_eq_getElem?_getD,List.getElem?_eq_getElem hk,Option.getD_some] at hc;exact⟨_,zG hk,by rw[←hc];exact h⟩
theorem Xhv {p:Nat→Bool}{l:List Nat}{k c:Nat}(h0:(l.take k).any p=false)(hk:k<l.length)(hc:c=l.getD k 0)(h:p c=false):(l.take (k+1)).any p=false:=by rw[List.getD_eq_getElem?_getD,List.getElem?_eq_getElem hk,Option.getD_some] at hc;rw[List.take_succ_eq_append_getElem hk,List.any_append,h0,←hc];simp[h]
def nmB (c:Nat):Bool:=!nmC c
theorem Xuy (w:World)(c:Nat)(hc:c<256):Rx 226 #[.int .u8 (c:Int)] w (.bool (low c)):=by
 obtain⟨b,a⟩:=xq (low c);rw[←a];have d:=Hd a;clear a;rcases(by omega:c<97∨(97≤c∧c≤122)∨122<c) with h|⟨h,h2⟩|h
 all_goals
  go_enter func226,ntmps226;go_wp2_with fail;go_ret;exact⟨Xa5 (by rw[d.o,Bool.eq_iff_iff];simp[low];try omega),rfl⟩
theorem Xz5 (w:World)(c:Nat)(hc:c<256):Rx 228 #[.int .u8 (c:Int)] w (.bool (nmB c)):=by
 obtain⟨b,i⟩:=xq (nmB c);rw[←i];have d:=Hd i;have L:=Hd (fun w=>Xuy w c hc);obtain⟨g,a⟩:=xq (low c);rw[←a] at L;have f:=Hd a;clear i a;rcases(by omega:c=45∨c=43∨c=95∨(c≠45∧c≠43∧c≠95)) with rfl|rfl|rfl|⟨h1,h2,h3⟩
 ·have e:g=false:=by rw[f.o];decide
  subst e;go_enter func228,ntmps228;go_wp2_with (go_at_call 226;refine(L.o _).mono ?_;rintro e w' ⟨rfl,rfl⟩)
  go_ret;exact⟨Xa5 (by rw[d.o];decide),rfl⟩
 ·have e:g=false:=by rw[f.o];decide
  subst e;go_enter func228,ntmps228;go_wp2_with (go_at_call 226;refine(L.o _).mono ?_;rintro e w' ⟨rfl,rfl⟩)
  go_ret;exact⟨Xa5 (by rw[d.o];decide),rfl⟩
 ·have e:g=false:=by rw[f.o];decide
  subst e;go_enter func228,ntmps228;go_wp2_with (go_at_call 226;refine(L.o _).mono ?_;rintro e w' ⟨rfl,rfl⟩)
  go_ret;exact⟨Xa5 (by rw[d.o];decide),rfl⟩
 have j:((c:Int) !=45)=true:=Xaq (by omega);have k:((c:Int) !=43)=true:=Xaq (by omega);have l:((c:Int) !=95)=true:=Xaq (by omega);have X:Hid (nmB c=(!low c&&!dig c)):=Hd (by unfold nmB nmC;rw[zW h1,zW h2,zW h3];cases low c<;>cases dig c<;>rfl);clear h1 h2 h3;cases g
 ·rcases(by omega:c<48∨(48≤c∧c≤57)∨57<c) with h|⟨h,h'⟩|h
  all_goals
   go_enter func228,ntmps228;go_wp2_with (go_at_call 226;refine(L.o _).mono ?_;rintro e w' ⟨rfl,rfl⟩)
   go_ret;exact⟨Xa5 (by rw[d.o,X.o,←f.o,Bool.eq_iff_iff];simp[dig];try omega),rfl⟩
 go_enter func228,ntmps228;go_wp2_with (go_at_call 226;refine(L.o _).mono ?_;rintro e w' ⟨rfl,rfl⟩)
 go_ret;exact⟨Xa5 (by rw[d.o,X.o,←f.o];rfl),rfl⟩
theorem Yn2 (w:World)(a:Option Addr)(cap:Nat)(l:List Nat)(hl:l.length≤maxLen)(hrd:Rd w a l):Calls prog 260 #[.slice a l.length cap,.func (.func 228) #[] #[]] w (Ynd (l.any nmB) w):=by
 unfold maxLen at hl;obtain⟨n,r⟩:=xq l.length;rw[←r] at hl⊢;have v:=Hd hrd;have u:=Hd r;clear hrd r;go_enter func260,ntmps260;go_wp2_with fail;go_loopg [8] n (fun k i wr=>∃j:Nat,j≤n∧k=n-j∧i=.int .i64 (j:Int)∧Hid ((l.take j).any nmB=false)∧w=wr);exact⟨0,by omega,rfl,rfl,rfl,rfl⟩;obtain⟨j,A,rfl,rfl,x,rfl⟩:=hrel;by_cases h:j<n
 ·have d:j<l.length:=by rw[←u.o];exact h
  obtain⟨b,off,rfl,y,m⟩:=v.o.at_ (by omega);obtain⟨c,p⟩:=xq (l.getD j 0);have f:l.getD j 0=l[j]:=by rw[List.getD_eq_getElem?_getD,List.getElem?_eq_getElem d,Option.getD_some]
  have z:w.cell? ⟨b,off+j,none⟩=some (.int .u8 (c:Int)):=by rw[p,f];exact m j d
  have g:c<256:=by rw[p,f];exact v.o.lt _ (zG d)
  have s:=Hd p;have t:=Hd d;clear p m f d;cases hp:nmB c
  ·have C:Hid (∀w,Rx 228 #[.int .u8 (c:Int)] w (.bool false)):=fun w=>by rw[←hp];exact Xz5 w c g
   have q:=Hd hp;clear hp;go_wp2_with (go_at_call 228;refine(C.o _).mono ?_;rintro e w' ⟨rfl,rfl⟩)
   go_roundg (n-(j+1));exact⟨j+1,by omega,rfl,by go_num,Xhv x.o t.o s.o q.o,rfl⟩;omega
  have C:Hid (∀w,Rx 228 #[.int .u8 (c:Int)] w (.bool true)):=fun w=>by rw[←hp];exact Xz5 w c g
  have q:=Hd hp;clear hp;go_wp2_with (go_at_call 228;refine(C.o _).mono ?_;rintro e w' ⟨rfl,rfl⟩)
  go_ret;exact⟨_,rfl,(fun _=>by omega),(fun h=>by rw[Xiz t.o s.o q.o] at h;cases h),rfl⟩
 go_wp2_with fail;go_ret;exact⟨_,rfl,(fun h'=>by rw[Xi0 x.o (by rw[←u.o];omega)] at h';cases h'),(fun _=>by decide),rfl⟩
theorem Yof (w:World)(a:Option Addr)(cap:Nat)(l:List Nat)(hl:l.length≤maxLen)(hrd:Rd w a l):Rx 227 #[.slice a l.length cap,.func (.func 228) #[] #[]] w (.bool (l.any nmB)):=by
 have C:=Hd (Yn2 w a cap l hl hrd);obtain⟨b,f⟩:=xq (l.any nmB);obtain⟨n,g⟩:=xq l.length;rw[←f,←g] at C⊢;clear f g hl hrd;go_enter func227,ntmps227;go_wp2_with fail;refine C.o.mono ?_;rintro e w' ⟨m,rfl,c,d,rfl⟩;cases b;·have h:=d rfl;clear c d C;go_wp2_with fail;go_ret;exact⟨Xa5 (by simp;omega),rfl⟩
 have h:=c rfl;clear c d C;go_wp2_with fail;go_ret;exact⟨rfl,rfl⟩
theorem Yce (s:ByteArray) (w:World):(convert 9 82 (.string s)).run Tryz.prog w=.ok (.slice (some ⟨w.heap.size,0,none⟩) s.size (grownCap w s.size 0 5))
      (w.drew.alloc (.cells (bytesRow s (grownCap w s.size 0 5)) 5 ((bytesRow s (grownCap w s.size 0 5)).size,(bytesRow s (grownCap w s.size 0 5)).size+1))):=
 run_bytes_of_string w 9 82 5 s underlying9 underlying82 underlying5
theorem Yiq (w:World)(s:ByteArray)(cap:Nat)(fz:Nat×Nat):Rd (w.drew.alloc (.cells (bytesRow s cap) 5 fz)) (some ⟨w.heap.size,0,none⟩) (bs s):=Yed w.drew s cap fz
theorem Xxy {B:Nat}{w w1:World}(h:Below B w w1)(hB:B≤w1.heap.size)(o:Obj):Below B w (w1.drew.alloc o):=h.drew.alloc hB o
theorem Xqw (s:ByteArray)(w:World):∃(W:World) (cap:Nat),(convert 9 82 (.string s)).run prog w=.ok (.slice (some ⟨w.heap.size,0,none⟩) s.size cap) W∧Rd W (some ⟨w.heap.size,0,none⟩) (bs s)∧Bw w W∧W.heap.size=w.heap.size+1:=
 ⟨_,_,Yce s w,Yiq w s _ _,Xxy (zR _ _) (zL _) _,by simp⟩
theorem Xs7 (l:List Nat):(!l.any nmB)=l.all nmC:=by
 induction l with
 |nil=>rfl
 |cons a l ih=>simp only[List.any_cons,List.all_cons,←ih,nmB];cases nmC a<;>simp
theorem Yf6 (s:ByteArray)(w:World)(hs:s.size≤1000000):zJ 176 #[.string s] w (.bool (Xej (bs s))):=by
 by_cases h0:s.size=0;·obtain rfl:=Xd9 h0;clear h0 hs;go_enter func176,ntmps176;go_wp2_with fail;go_ret;exact⟨rfl,zR _ _⟩
 have u:=Xfa h0;have k:(bs s).isEmpty=false:=by rw[List.isEmpty_eq_false_iff];intro e;apply h0;rw[←Xac,e];rfl
 by_cases h20:20<s.size;·have C:Hid (Xej (bs s)=false):=Hd (by unfold Xej;rw[Xac,zW (show¬s.size≤20 by omega)];simp);clear k;go_enter func176,ntmps176;go_wp2_with fail;go_ret;exact⟨by rw[C.o];rfl,zR _ _⟩
 obtain⟨c,j⟩:=xq ((bs s).getD 0 0);have m:c<256:=by rw[j];exact Xbd s 0
 have v:=Yc5 s c j (by omega);have L:=Hd (fun w=>Xuy w c m);have i:Hid (Xej (bs s)=(low c&&!(bs s).any nmB)):=Hd (by unfold Xej;rw[k,Xac,zT (show s.size≤20 by omega),←j,Xs7];simp);have q:Hid (∀(w:World) (a:Option Addr) (cap:Nat),Rd w a (bs s)→Rx 227 #[.slice a s.size cap,.func (.func 228) #[] #[]] w (.bool ((bs s).any nmB))):=fun w a cap h=>by rw[←Xac];exact Yof w a cap (bs s) (by rw[Xac];unfold maxLen;omega) h
 obtain⟨t,f⟩:=xq (low c);obtain⟨pa,d⟩:=xq ((bs s).any nmB);rw[←f] at L i;rw[←d] at q i;obtain⟨W,cap,n,g,b,p⟩:=Xqw s w;have r:=Hd g;have l:=Hd b;clear j f d k h0 hs g b p;cases t
 ·go_enter func176,ntmps176;go_wp2_with (go_at_call 226;refine(L.o _).mono ?_;rintro e w' ⟨rfl,rfl⟩)
  go_ret;exact⟨by rw[i.o];rfl,zR _ _⟩
 go_enter func176,ntmps176;go_wp2_with (first
  |(go_at_call 226;refine(L.o _).mono ?_;rintro e w' ⟨rfl,rfl⟩)
  |(go_at_call 227;refine(q.o _ _ _ r.o).mono ?_;rintro e w' ⟨rfl,rfl⟩))
 go_ret;exact⟨by rw[i.o];cases pa<;>rfl,l.o⟩
theorem Xz6 (s:ByteArray)(w:World)(hs:s.size≤1000000):zJ 175 #[.string s] w (.bool (!Xej (bs s))):=by have C:=Hd (Yf6 s w hs);obtain⟨b,c⟩:=xq (Xej (bs s));rw[←c] at C⊢;clear c;go_enter func175,ntmps175;go_wp2_with fail;refine C.o.mono ?_;rintro e w1 ⟨rfl,a⟩;have d:=Hd a;clear a C;go_wp2_with fail;go_ret;exact⟨rfl,d.o⟩
structure Cn where
 name:ByteArray
 author:List Nat
 date:Int
 groups:List ByteArray
 subject:ByteArray
 refs:List (List Nat)
 sup:List Nat
 ctl:ByteArray
 dist:ByteArray
 number:Int
 height:Int
 root:List Nat
 leaf:Int
 body:ByteArray
def Cn.p (c:Cn):Cont:=⟨bs c.name,c.author,c.date,c.groups.map bs,bs c.subject,c.refs,c.sup,bs c.ctl,bs c.dist,c.number,c.height,c.root,c.leaf,bs c.body⟩
structure B16 (l:List Nat):Prop where
 len:l.length=16
 lt:∀x∈l,x<256
structure Cn.Ok (c:Cn):Prop where
 author:B16 c.author
 root:B16 c.root
 sup:IdOk c.sup
 refs:∀x∈c.refs,IdOk x
 date:(Lit.int .i64 c.date).wf=true
 number:(Lit.int .i64 c.number).wf=true
 height:(Lit.int .i64 c.height).wf=true
 leaf:(Lit.int .i64 c.leaf).wf=true
def Cn.cells (c:Cn)(gv rv:Value):Array Value:=
 (([.string c.name]:List Value)++(c.author.map U++(([.int .i64 c.date,gv,.string c.subject,rv]:List Value)++(c.sup.map U++(([.string c.ctl,.string c.dist,.int .i64 c.number,.int .i64 c.height]:List Value)++(c.root.map U++([.int .i64 c.leaf,.string c.body]:List Value))))))).toArray
theorem Xs5 (X:List Value)(l:List Nat)(Y:List Value)(n:Nat)(hn:X.length=n):∀j u,(idA l)[j]?=some u→(X++(l.map U++Y)).toArray[n+j]?=some u:=by have:=Ym5 X l Y n hn;simpa [List.append_assoc] using this
theorem Yk0 (c:Cn)(gv rv:Value):(c.cells gv rv)[0]?=some (.string c.name):=rfl
theorem Xqr (c:Cn)(gv rv:Value):∀j u,(idA c.author)[j]?=some u→(c.cells gv rv)[1+j]?=some u:=Xs5 _ _ _ 1 rfl
section
variable {c:Cn} (h:c.Ok) (gv rv:Value)
include h
theorem Xci:(c.cells gv rv).size=75:=by simp[Cn.cells,h.author.len,h.root.len,h.sup.len]
theorem Yb5:(c.cells gv rv)[17]?=some (.int .i64 c.date):=by simp[Cn.cells,h.author.len,h.root.len,h.sup.len]
theorem Xxk:(c.cells gv rv)[18]?=some gv:=by simp[Cn.cells,h.author.len,h.root.len,h.sup.len]
theorem Xxj:(c.cells gv rv)[19]?=some (.string c.subject):=by simp[Cn.cells,h.author.len,h.root.len,h.sup.len]
theorem Xxi:(c.cells gv rv)[20]?=some rv:=by simp[Cn.cells,h.author.len,h.root.len,h.sup.len]
theorem Xsy:(c.cells gv rv)[53]?=some (.string c.ctl):=by simp[Cn.cells,h.author.len,h.root.len,h.sup.len]
theorem Xxh:(c.cells gv rv)[54]?=some (.string c.dist):=by simp[Cn.cells,h.author.len,h.root.len,h.sup.len]
theorem Yb4:(c.cells gv rv)[55]?=some (.int .i64 c.number):=by simp[Cn.cells,h.author.len,h.root.len,h.sup.len]
theorem Yb3:(c.cells gv rv)[56]?=some (.int .i64 c.height):=by simp[Cn.cells,h.author.len,h.root.len,h.sup.len]
theorem Xoe:(c.cells gv rv)[73]?=some (.int .i64 c.leaf):=by simp[Cn.cells,h.author.len,h.root.len,h.sup.len]
theorem Xsx:(c.cells gv rv)[74]?=some (.string c.body):=by simp[Cn.cells,h.author.len,h.root.len,h.sup.len]
theorem Yms:∀j u,(idA c.sup)[j]?=some u→(c.cells gv rv)[21+j]?=some u:=by have:=Xs5 (([.string c.name]:List Value)++(c.author.map U++([.int .i64 c.date,gv,.string c.subject,rv]:List Value))) c.sup (([.string c.ctl,.string c.dist,.int .i64 c.number,.int .i64 c.height]:List Value)++(c.root.map U++([.int .i64 c.leaf,.string c.body]:List Value))) 21 (by simp[h.author.len]);simpa [Cn.cells,List.append_assoc] using this
theorem Yb1:∀j u,(idA c.root)[j]?=some u→(c.cells gv rv)[57+j]?=some u:=by have:=Xs5 (([.string c.name]:List Value)++(c.author.map U++(([.int .i64 c.date,gv,.string c.subject,rv]:List Value)++(c.sup.map U++([.string c.ctl,.string c.dist,.int .i64 c.number,.int .i64 c.height]:List Value))))) c.root ([.int .i64 c.leaf,.string c.body]:List Value) 57 (by simp[h.author.len,h.sup.len]);simpa [Cn.cells,List.append_assoc] using this
theorem Yb2:∀j u,((.int .i64 c.height::c.root.map U:List Value).toArray)[j]?=some u→(c.cells gv rv)[56+j]?=some u:=by
 intro j u a
 cases j with
 |zero=>rw[←a];exact Yb3 h gv rv
 |succ j=>have:=Yb1 h gv rv j u (by simpa [idA] using a);rw[show 56+(j+1)=57+j by omega];exact this
end
def SRow (w:World)(v:Value)(gs:List ByteArray):Prop:=
 ∃a cap,v=.slice a gs.length cap∧gs.length≤cap∧(gs≠[]→∃b off,a=some ⟨b,off,none⟩∧b<w.heap.size∧∀j (h:j<gs.length),w.cell? ⟨b,off+j,none⟩=some (.string gs[j]))
def IRow (w:World)(v:Value)(ids:List (List Nat)):Prop:=
 ∃a cap,v=.slice a ids.length cap∧ids.length≤cap∧(ids≠[]→∃b off,a=some ⟨b,off,none⟩∧b<w.heap.size∧∀j (h:j<ids.length) k u,(idA ids[j])[k]?=some u→w.cell? ⟨b,off+j*32+k,none⟩=some u)
theorem SRow.below {w w':World}{v:Value}{gs:List ByteArray}(h:SRow w v gs)(hb:Bw w w'):SRow w' v gs:=by obtain⟨a,cap,e,f,g⟩:=h;refine⟨a,cap,e,f,fun hne=>?_⟩;obtain⟨b,off,i,d,k⟩:=g hne;exact⟨b,off,i,Nat.lt_of_lt_of_le d hb.size,fun j hj=>(hb.cell (p:=⟨b,off+j,none⟩) d).trans (k j hj)⟩
theorem IRow.below {w w':World}{v:Value}{ids:List (List Nat)}(h:IRow w v ids)(hb:Bw w w'):IRow w' v ids:=by obtain⟨a,cap,e,f,g⟩:=h;refine⟨a,cap,e,f,fun hne=>?_⟩;obtain⟨b,off,i,d,l⟩:=g hne;exact⟨b,off,i,Nat.lt_of_lt_of_le d hb.size,fun j hj k u hu=>(hb.cell (p:=⟨b,off+j*32+k,none⟩) d).trans (l j hj k u hu)⟩
def OW (B:Nat)(xs:List Nat)(v:Value)(w:World):Prop:=w.ownsRow B 5 1 v xs.length (xs.map U)
theorem OW.app {B:Nat}{xs ys:List Nat}{v':Value}{w1:World}{m:Nat}{news:List Value}(hm:m=ys.length)(hn:news=ys.map U)(h:w1.ownsRow B 5 1 v' (xs.length+m) (xs.map U++news)):OW B (xs++ys) v' w1:=by subst hm hn;unfold OW;rw[List.length_append,List.map_append];exact h
theorem Xey {B B':Nat}{w wr w1:World}{xs:List Nat}{v:Value}{o:Obj}(hb:Below B w wr)(hB:B≤wr.heap.size)(hBB:B≤B')(hown:OW B' xs v wr)(hg:(wr.alloc o).grownBy w1 v.ownBlock):Below B w w1:=
 Below.grown (hb.alloc hB o) hg (by simp;omega) (fun k hk=>Nat.le_trans hBB (hown.lt k hk).1)
theorem Xct {l:List Nat}{k c:Nat}(hk:k<l.length)(hc:c=l.getD k 0):Xb5 (l.take (k+1))=Xb5 (l.take k)++[hxl (c/16),hxl (c%16)]:=by rw[List.getD_eq_getElem?_getD,List.getElem?_eq_getElem hk,Option.getD_some] at hc;rw[List.take_succ_eq_append_getElem hk,Xb5,Xb5,List.flatMap_append,←hc];simp
theorem Xb9 (l:List Nat):(Xb5 l).length=2*l.length:=by
 induction l with
 |nil=>rfl
 |cons a l ih=>simp only[Xb5,List.flatMap_cons,List.length_append,List.length_cons,List.length_nil] at ih⊢;omega
theorem Yme {k:Nat}(h:k<16):hxl k<256:=by unfold hxl;split<;>omega
theorem Ya0 {l:List Nat}(h:∀x∈l,x<256):∀x∈Xb5 l,x<256:=by intro x a;obtain⟨b,c,a⟩:=List.mem_flatMap.1 a;have:=h b c;simp at a;rcases a with rfl|rfl<;>exact Yme (by omega)
theorem Xji (k:Nat)(i:Int)(hi:i=k)(hk:k<16)(w:World):(Instr.index 9 (.string ⟨#[48,49,50,51,52,53,54,55,56,57,97,98,99,100,101,102]⟩) (.int .u8 i)).run prog w=.ok (.int .u8 ((hxl k:Nat):Int)) w:=by
 rw[Xbj 9 underlying9 ⟨#[48,49,50,51,52,53,54,55,56,57,97,98,99,100,101,102]⟩ .u8 i k hi hk];have:∀k:Fin 16,(bs ⟨#[48,49,50,51,52,53,54,55,56,57,97,98,99,100,101,102]⟩).getD k.val 0=hxl k.val:=by decide+kernel
 rw[this ⟨k,hk⟩]
theorem Xij (q:Nat)(h:q<256):Go.bits .and .u8 (q:Int) 15=((q%16:Nat):Int):=by
 have:∀q:Fin 256,Go.bits .and .u8 ((q.val:Nat):Int) 15=((q.val%16:Nat):Int):=by decide+kernel
 exact this ⟨q,h⟩
theorem Yjn (w:World)(a:Option Addr)(cap:Nat)(l:List Nat)(hl:l.length≤100000)(hrd:Rd w a l):zJ 179 #[.slice a l.length cap] w (.string (Xax (Xb5 l))):=by
 obtain⟨i0,A,G,H,I⟩:=info_parts Xgl;obtain⟨n,W⟩:=xq l.length;obtain⟨p,X⟩:=xq w.heap.size;rw[←W] at hl⊢;have HR:=Hd hrd;have Z:=Hd W;have HP:=Hd X;clear hrd W;go_enter func179,ntmps179;go_wp2_with (at_make;refine Xcc _ rfl _ _ _ rfl 5 i0 _ 1 underlying82 A G H .i64 .i64 _ _ 0 (2*n) rfl rfl rfl (by omega) (by omega) (by rw[I];omega) (by unfold maxLen;omega) ?_;intro cs z)
 have O:=World.ownsRow_made (base:=w.heap.size) (e:=5) (size:=1) w cs (2*n) (zL _) (by unfold maxLen;omega) z;rw[←X] at O⊢;have A1:=Hd O;clear O X z;go_loopg [3,5,12] n (fun k v c i wr=>∃j:Nat,j≤n∧k=n-j∧i=.int .i64 (j:Int)∧OW p (Xb5 (l.take j)) v wr∧Bw w wr);exact⟨0,by omega,rfl,rfl,A1.o,(zR _ _).alloc (zL _) _⟩;obtain⟨j,hj,rfl,rfl,d,f⟩:=hrel;by_cases h:j<n
 ·have m:j<l.length:=by rw[←Z.o];exact h
  obtain⟨c,J⟩:=xq (l.getD j 0);have s:l.getD j 0=l[j]:=by rw[List.getD_eq_getElem?_getD,List.getElem?_eq_getElem m,Option.getD_some]
  obtain⟨b,off,rfl,S,u⟩:=HR.o.at_ (by omega);have T:c<256:=by rw[J,s];exact HR.o.lt _ (zG m)
  have V:wr.cell? ⟨b,off+j,none⟩=some (.int .u8 (c:Int)):=by rw[f.cell (p:=⟨b,off+j,none⟩) S,J,s];exact u j m
  have D:=Xct m J;have B:(Xb5 (l.take j)).length≤200000:=by rw[Xb9,List.length_take];omega
  have E:w.heap.size≤wr.heap.size:=f.size;have N:=Hd D;have M:=Hd d;have L:=Hd f;clear D d f J u s m;obtain⟨xs,F⟩:=xq (Xb5 (l.take j));rw[←F] at N M B;clear F;obtain⟨x,ha⟩:=xq (c/16);obtain⟨y,R⟩:=xq (c%16);have i1:=fun w=>Xji x (x:Int) rfl (by omega) w;have i2:=fun w=>Xji y (y:Int) rfl (by omega) w;have s1:(c:Int)/16=(x:Int):=by omega
  have s2:Go.bits .and .u8 (c:Int) 15=(y:Int):=by rw[R];exact Xij c T
  rw[←ha,←R] at N;have fin:∀(v':Value) (w1:World) (o:Obj),w1.ownsRow p 5 1 v' (xs.length+2) (xs.map U++[U (hxl x),U (hxl y)])→(wr.drew.alloc o).grownBy w1 u3.ownBlock→OW p (Xb5 (l.take (j+1))) v' w1∧Bw w w1:=by intro v' w1 o ho hg;refine⟨?_,Xey L.o.drew E (by rw[HP.o];exact zL _) M.o.drew hg⟩;rw[N.o];exact OW.app (ys:=[hxl x,hxl y]) rfl rfl ho
  have K:=Hd fin;have aC:p≤wr.heap.size:=by rw[HP.o];exact E
  clear ha R fin;go_wp2_with fail;clear V;go_region_law ((refine step_append_lies _ (by rfl) _ _ _ (by rfl) p 5 i0 _ 1 1 underlying82 A G H I rfl (by omega) u3 xs.length (xs.map U) (by rfl) ((M.o.drew).alloc _) ⟨wr.heap.size,0,none⟩ 2 2 [.int .u8 (hxl x),.int .u8 (hxl y)] (by rfl) (by rfl) (World.news_of_block (cs:=#[.int .u8 (hxl x),.int .u8 (hxl y)]) (t:=5) (fr:=(0,0)) (zN wr _)) (by simp[Value.oneCell']) (by omega) (by unfold maxLen;omega) (by omega) (by simp;omega) (wr.heap.size+1) (by simp) ?_;intro gg aA w1 q g Q C))
  all_goals
   have Y:=Hd (K.o _ w1 _ q g);clear q g Q C;go_wp2_with fail;go_roundg (n-(j+1));exact⟨j+1,by omega,rfl,by go_num,Y.o.1,Y.o.2⟩;omega
 have r:l.take j=l:=List.take_of_length_le (by rw[←Z.o];omega);rw[r] at d;have aB:=Xnu (P:=prog) 82 9 underlying82 underlying5 underlying9 d;have L:=Hd f;clear r d f;go_wp2_with fail;go_ret;exact⟨rfl,L.o⟩
end Go.Proofs.YtjolcnopipbkhaaGreatDoor
