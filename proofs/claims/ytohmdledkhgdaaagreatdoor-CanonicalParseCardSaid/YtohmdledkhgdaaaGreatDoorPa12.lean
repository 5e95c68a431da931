/- The reader of signer: read, take, number, end. -/
import Derived.Test.YtohmdledkhgdaaaGreatDoorPa11
namespace Go.Proofs.YtohmdledkhgdaaaGreatDoor
open Go.RowKit
set_option linter.unusedVariables false
set_option maxRecDepth 100000
def BRow (w:World) (B:Nat) (a:Option Addr) (l:List Nat):Prop:=
 l≠[]→∃b off,a=some ⟨b,off,none⟩∧b<w.heap.size∧b≠B∧∀j (h:j<l.length),w.cell? ⟨b,off+j,none⟩=some (U l[j])
structure RS (w:World) (B:Nat) (l:List Nat) (er:Nat) (a:Option Addr) (cap:Nat):Prop where
 blk:w.heap[B]?=some (.cells #[.slice a l.length cap,.int .i64 (er:Int)] 248 (0,0))
 row:BRow w B a l
 cp:l.length≤cap
theorem BRow.mono {w w':World} {B:Nat} {a:Option Addr} {l:List Nat} (h:BRow w B a l) (hf:Fr1 B w w'):BRow w' B a l:=by
 intro hne
 obtain⟨b,off,h1,h2,h3,h4⟩:=h hne
 exact⟨b,off,h1,Nat.lt_of_lt_of_le h2 hf.size,h3,fun j hj=>by
  have:=hf.other b h2 h3
  have h5:=h4 j hj
  unfold World.cell? at h5⊢
  simp only[this]
  exact h5⟩
theorem Xpv (s:ByteArray) (w:World) (hs:s.size≤1000000) (hE:Env w):
    Calls Tryz.prog 157 #[.string s] w fun e w'=>∃B a cap,e=.returned (.pointer (some ⟨B,0,none⟩))∧w.heap.size≤B∧RS w' B (Xcj (bs s)).1 (Xcj (bs s)).2.2 a cap∧Below w.heap.size w w':=by
 have D:Hid (Calls Tryz.prog 203 #[.string s] w (Xni w (Xcj (bs s)))):=Hd (by
  by_cases h:174764<s.size
  ·exact Xqy s w (by unfold maxLen;omega) h
  ·exact Xo4 s w (by omega) hE.tab)
 obtain⟨r,hr⟩:∃r,r=Xcj (bs s):=⟨_,rfl⟩
 rw[←hr] at D⊢
 clear hE hr
 go_enter Tryz.func157,Tryz.ntmps157
 go_wp2_with fail
 refine D.out.mono ?_
 rintro e w1 ⟨v,rfl,hown,hb⟩
 have hsh:∃a cap,v=.slice a r.1.length cap∧r.1.length≤cap∧(r.1≠[]→∃b off,a=some ⟨b,off,none⟩∧b<w1.heap.size∧∀j (h:j<r.1.length),w1.cell? ⟨b,off+j,none⟩=some (U r.1[j])):=by
  rcases hown.2 with⟨rfl,h0⟩|⟨g,cap,cur,rfl,hb,hg,hc,_,hs,ht⟩
  ·exact⟨none,0,by rw[h0],by rw[h0];exact Nat.le_refl _,fun hne=>absurd (List.length_eq_zero_iff.1 h0) hne⟩
  ·refine⟨some ⟨g,0,none⟩,cap,rfl,hc,fun _=>⟨g,0,rfl,lt_of_block hg,fun j hj=>?_⟩⟩
   rw[Nat.zero_add,cell_of_row w1 g j _ _ _ hg]
   have e1:(cur.toList.take (r.1.length*1))[j]?=some (U r.1[j]):=by rw[ht];simp[hj]
   rw[List.getElem?_take,if_pos (by omega)] at e1
   simpa using e1
 obtain⟨a,cap,rfl,hcap,hrow⟩:=hsh
 have HR:=Hd hrow;have HB:=Hd hb
 clear hrow hb hown D
 go_wp2_with fail
 go_ret
 refine⟨w1.heap.size,a,cap,rfl,HB.out.size,⟨heap_alloc_new w1 _,fun hne=>?_,hcap⟩,HB.out.alloc HB.out.size _⟩
 obtain⟨b,off,h1,h2,h3⟩:=HR.out hne
 exact⟨b,off,h1,by simp;omega,by omega,fun j hj=>by rw[←h3 j hj];exact(((Below.refl _ w1).alloc (Nat.le_refl _) _).cell (p:=⟨b,off+j,none⟩) h2)⟩
def Xzk (w:World) (B n:Nat) (l:List Nat) (er:Nat) (e:Ending) (w':World):Prop:=
 ∃(x l':List Nat) (er':Nat) (ax al:Option Addr) (cx cl:Nat),e=.returned (.slice ax n cx)∧n≤cx∧x.length=n∧BRow w' B ax x∧RS w' B l' er' al cl∧Fr1 B w w'∧
  ((er=0∧n≤l.length∧x=l.take n∧l'=l.drop n∧er'=0)∨(l'=l∧er'=(if er=0 then 4 else er)∧x=List.replicate n 0∧(er=0→l.length<n)))
theorem BRow.drop {w:World} {B b off:Nat} {l:List Nat} (n:Nat) (hn:n≤l.length) (h:BRow w B (some ⟨b,off,none⟩) l):BRow w B (some ⟨b,off+n,none⟩) (l.drop n):=by
 intro hne
 have hl:n<l.length:=by
  rcases Nat.lt_or_ge n l.length with h|h
  ·exact h
  ·exact absurd (List.drop_of_length_le h) hne
 obtain⟨b',off',e,h2,h3,h4⟩:=h (fun e=>by rw[e] at hl;simp at hl)
 cases e
 exact⟨b,off+n,rfl,h2,h3,fun j hj=>by rw[Nat.add_assoc,h4 (n+j) (by simp at hj;omega)];simp⟩
theorem BRow.take {w:World} {B:Nat} {a:Option Addr} {l:List Nat} (n:Nat) (h:BRow w B a l):BRow w B a (l.take n):=by
 intro hne
 obtain⟨b',off',e,h2,h3,h4⟩:=h (fun e=>by rw[e] at hne;simp at hne)
 exact⟨b',off',e,h2,h3,fun j hj=>by rw[h4 j (by simp at hj;omega)];simp⟩
theorem Xue (W:World) (n:Nat) (hn:n≤16):(Instr.makeSlice 62 (.int .i64 (n:Int)) (.int .i64 (n:Int))).run Tryz.prog W=.ok (.slice (some ⟨W.heap.size,0,none⟩) n n) (W.alloc (.cells (idA (List.replicate n 0)) 5)):=by
 obtain⟨i0,hi0,hz0,hz1,hz2⟩:=info_parts Xio
 have:=run_makeSlice (P:=Tryz.prog) (w:=W) 62 5 i0 (.int .u8 0) Tryz.underlying62 hi0 hz0 .i64 .i64 (n:Int) (n:Int) (by omega) (by omega) (by rw[hz1];simp;omega) (by rw[hz2];omega) (by omega)
 rw[this,hz1]
 have e:madeCells (Value.cells (.int .u8 0)) ((n:Int).toNat*1)=idA (List.replicate n 0):=by
  simp only[Int.toNat_natCast,Nat.mul_one]
  unfold madeCells idA
  apply Array.ext
  ·simp
  ·intro i h1 h2
   simp[Value.cells,Nat.mod_one]
   rfl
 rw[e]
 simp
theorem Xfi (l:List Nat) (h:(Xcj l).2.2≠0):(Xcj l).1=[]:=by
 unfold Xcj at h⊢
 by_cases h1:174764<l.length
 ·rw[if_pos h1]
 ·rw[if_neg h1] at h⊢
  cases hv:Xhi (l.take (Xbi l)) with
  |none=>rfl
  |some vs=>
   rw[hv] at h
   simp only[] at h⊢
   by_cases h2:l.length%4≠0
   ·rw[if_pos h2]
   ·rw[if_neg h2] at h⊢
    by_cases h3:(Xeh vs).1≠0
    ·rw[if_pos h3]
    ·rw[if_neg h3] at h;exact absurd rfl h
theorem Xq0 (l:List Nat):∀x∈(Xcj l).1,x<256:=by
 by_cases h:(Xcj l).2.2=0
 ·exact(Xm4 l h).2
 ·rw[Xfi l h];simp
set_option maxHeartbeats 1000000 in
theorem Xv1 (w:World) (B:Nat) (l:List Nat) (er:Nat) (a:Option Addr) (cap:Nat) (h:RS w B l er a cap) (hl:l.length≤1000000) (n:Nat) (hn0:0<n) (hn:n≤16):
    Calls Tryz.prog 159 #[.pointer (some ⟨B,0,none⟩),.int .i64 (n:Int)] w (Xzk w B n l er):=by
 have hc0:w.cell? ⟨B,0,none⟩=some (.slice a l.length cap):=cell_of_row w B 0 _ _ _ h.blk
 have hc1:w.cell? ⟨B,1,none⟩=some (.int .i64 (er:Int)):=cell_of_row w B 1 _ _ _ h.blk
 have hf0:w.frozen? ⟨B,0,none⟩=false:=by have:=h.blk;simp[World.frozen?,this]
 have hf1:w.frozen? ⟨B,1,none⟩=false:=by have:=h.blk;simp[World.frozen?,this]
 have hcp:=h.cp
 have HBW:Hid (B<w.heap.size):=Hd (lt_of_block h.blk)
 have hbw:=HBW.out
 have H:=Hd h
 have MK:=Hd (fun W=>Xue W n hn)
 clear h
 by_cases h0:er=0
 ·subst h0
  have hc1':w.cell? ⟨B,1,none⟩=some (.int .i64 0):=hc1
  by_cases hs:l.length<n
  ·go_enter Tryz.func159,Tryz.ntmps159
   go_wp2_with fail
   rw[MK.out]
   simp only[Result.andThen]
   rw[Oper.upon_value]
   go_wp2_with fail
   go_ret
   refine⟨List.replicate n 0,l,4,_,a,_,cap,rfl,Nat.le_refl _,by simp,fun _=>⟨w.heap.size,0,rfl,by simp,by omega,fun j hj=>?_⟩,⟨?_,?_,H.out.cp⟩,?_,.inr ⟨rfl,rfl,rfl,fun _=>hs⟩⟩
   ·rw[cell_of_row _ w.heap.size _ _ _ _ (by have:=heap_alloc_new (w.setCell ⟨B,1,none⟩ (.int .i64 4)) (.cells (idA (List.replicate n 0)) 5);simpa using this)]
    simp at hj
    simp[idA,hj]
   ·exact(((Below.refl _ (w.setCell ⟨B,1,none⟩ (.int .i64 4))).alloc (Nat.le_refl _) _).block B (by simp;exact HBW.out)).trans (Xd0 H.out.blk 1 _)
   ·exact H.out.row.mono ((Fr1.setC _).trans (Fr1.of_below ((Below.refl _ _).alloc (Nat.le_refl _) _)))
   ·exact(Fr1.setC _).trans (Fr1.of_below ((Below.refl _ _).alloc (Nat.le_refl _) _))
  ·have hge:n≤l.length:=by omega
   obtain⟨b,off,rfl,hlt,hne,hcells⟩:=H.out.row (fun e=>by rw[e] at hge;simp at hge;omega)
   by_cases hcn:cap=n
   ·have hl2:l.length=n:=by omega
    subst hcn
    go_enter Tryz.func159,Tryz.ntmps159
    go_wp2_with fail
    go_ret
    refine⟨l.take cap,l.drop cap,0,_,_,_,_,rfl,Nat.le_refl _,by simp;omega,(H.out.row.take cap).mono (Fr1.setC _),⟨(Xd0 H.out.blk 0 _).trans (by simp only[List.length_drop,hl2,Nat.sub_self];rfl),fun h=>absurd (by rw[List.drop_of_length_le (by omega)]) h,by simp;omega⟩,Fr1.setC _,.inl ⟨rfl,hge,rfl,rfl,rfl⟩⟩
   ·go_enter Tryz.func159,Tryz.ntmps159
    go_wp2_with fail
    go_ret
    exact⟨l.take n,l.drop n,0,_,_,_,_,rfl,by omega,by simp;omega,(H.out.row.take n).mono (Fr1.setC _),⟨(Xd0 H.out.blk 0 _).trans (by simp only[List.length_drop];rfl),(H.out.row.drop n hge).mono (Fr1.setC _),by simp;omega⟩,Fr1.setC _,.inl ⟨rfl,hge,rfl,rfl,rfl⟩⟩
 ·have hz:((er:Int)==0)=false:=Xak (by omega)
  have hz2:((er:Int) !=0)=true:=by simp[bne,hz]
  have HE:Hid (er=(if er=0 then 4 else er)):=Hd (by rw[if_neg h0])
  have H0:=Hd h0
  clear h0
  go_enter Tryz.func159,Tryz.ntmps159
  go_wp2_with fail
  rw[MK.out]
  simp only[Result.andThen]
  rw[Oper.upon_value]
  go_wp2_with fail
  go_ret
  refine⟨List.replicate n 0,l,er,_,a,_,cap,rfl,Nat.le_refl _,by simp,fun _=>⟨w.heap.size,0,rfl,by simp,by omega,fun j hj=>?_⟩,⟨?_,?_,H.out.cp⟩,?_,.inr ⟨rfl,HE.out,rfl,fun h=>absurd h H0.out⟩⟩
  ·rw[cell_of_row _ w.heap.size _ _ _ _ (heap_alloc_new w _)]
   simp at hj
   simp[idA,hj]
  ·exact(((Below.refl _ w).alloc (Nat.le_refl _) _).block B HBW.out).trans H.out.blk
  ·exact H.out.row.mono (Fr1.of_below ((Below.refl _ _).alloc (Nat.le_refl _) _))
  ·exact Fr1.of_below ((Below.refl _ _).alloc (Nat.le_refl _) _)
def Xk8 (er:Nat) (l:List Nat):Nat:=if er≠0 then er else if l.length=0 then 0 else 5
theorem Yie (w:World) (B:Nat) (l:List Nat) (er:Nat) (a:Option Addr) (cap:Nat) (h:RS w B l er a cap) (hl:l.length≤1000000):
    Calls Tryz.prog 160 #[.pointer (some ⟨B,0,none⟩)] w fun e w'=>e=.returned (.int .i64 (Xk8 er l:Nat))∧Fr1 B w w':=by
 have hc0:w.cell? ⟨B,0,none⟩=some (.slice a l.length cap):=cell_of_row w B 0 _ _ _ h.blk
 have hc1:w.cell? ⟨B,1,none⟩=some (.int .i64 (er:Int)):=cell_of_row w B 1 _ _ _ h.blk
 have hf1:w.frozen? ⟨B,1,none⟩=false:=by have:=h.blk;simp[World.frozen?,this]
 clear h
 by_cases h0:er=0
 ·subst h0
  have hc1':w.cell? ⟨B,1,none⟩=some (.int .i64 0):=hc1
  clear hc1
  by_cases hs:l.length=0
  ·have E:Hid (Xk8 0 l=0):=Hd (by unfold Xk8;rw[if_neg (by simp),if_pos hs])
   rw[hs] at hc0
   clear hs
   go_enter Tryz.func160,Tryz.ntmps160
   go_wp2_with fail
   go_ret
   exact⟨by rw[E.out];rfl,Fr1.refl _ _⟩
  ·have E:Hid (Xk8 0 l=5):=Hd (by unfold Xk8;rw[if_neg (by simp),if_neg hs])
   have hp:0<l.length:=by omega
   clear hs
   go_enter Tryz.func160,Tryz.ntmps160
   go_wp2_with fail
   go_ret
   exact⟨by rw[E.out];rfl,Fr1.setC _⟩
 ·have hz:((er:Int)==0)=false:=Xak (by omega)
  have E:Hid (Xk8 er l=er):=Hd (by unfold Xk8;rw[if_pos h0])
  clear h0
  go_enter Tryz.func160,Tryz.ntmps160
  go_wp2_with fail
  go_ret
  exact⟨by rw[E.out];rfl,Fr1.refl _ _⟩
def Ydv (w:World) (B:Nat) (l:List Nat) (er:Nat) (e:Ending) (w':World):Prop:=
 ∃(c:Nat) (l':List Nat) (er':Nat) (al:Option Addr) (cl:Nat),e=.returned (.int .i64 (c:Int))∧c<256∧RS w' B l' er' al cl∧Fr1 B w w'∧
  ((er=0∧1≤l.length∧l.take 1=[c]∧l'=l.drop 1∧er'=0)∨(l'=l∧er'=(if er=0 then 4 else er)∧c=0∧(er=0→l.length<1)))
theorem Yet (c:Nat) (h:c<256):Go.bits .or .i64 0 (c:Int)=(c:Int):=by
 have:∀q:Fin 256,Go.bits .or .i64 0 ((q.val:Nat):Int)=((q.val:Nat):Int):=by decide+kernel
 exact this ⟨c,h⟩
set_option maxHeartbeats 1000000 in
theorem Xw7 (w:World) (B:Nat) (l:List Nat) (er:Nat) (a:Option Addr) (cap:Nat) (h:RS w B l er a cap) (hl:l.length≤1000000) (hlt:∀x∈l,x<256):
    Calls Tryz.prog 158 #[.pointer (some ⟨B,0,none⟩),.int .i64 1] w (Ydv w B l er):=by
 have T:Hid (Calls Tryz.prog 159 #[.pointer (some ⟨B,0,none⟩),.int .i64 1] w (Xzk w B 1 l er)):=Hd (Xv1 w B l er a cap h hl 1 (by omega) (by omega))
 have HLT:=Hd hlt
 clear h hlt
 go_enter Tryz.func158,Tryz.ntmps158
 go_wp2_with fail
 refine T.out.mono ?_
 rintro e w1 ⟨x,l',er',ax,al,cx,cl,rfl,hcx,hx1,hrow,hrs,hfr,hrel⟩
 obtain⟨c,rfl⟩:∃c,x=[c]:=by
  match x,hx1 with
  |[c],_=>exact⟨c,rfl⟩
 obtain⟨b,off,rfl,hb,hbB,hcell⟩:=hrow (by simp)
 have hc:=hcell 0 (by simp)
 have hc':w1.cell? ⟨b,off,none⟩=some (.int .u8 (c:Int)):=hc
 have hc256:c<256:=by
  rcases hrel with⟨_,h1,h2,_⟩|⟨_,_,h2,_⟩
  ·exact HLT.out c (List.mem_of_mem_take (i:=1) (by rw[←h2];simp))
  ·simp at h2;omega
 have orz:=Yet c hc256
 have POST:Hid (Ydv w B l er (.returned (.int .i64 (c:Int))) w1):=Hd ⟨c,l',er',al,cl,rfl,hc256,hrs,hfr,by
  rcases hrel with⟨h0,h1,h2,h3,h4⟩|⟨h1,h2,h3,h4⟩
  ·exact .inl ⟨h0,h1,h2.symm,h3,h4⟩
  ·exact .inr ⟨h1,h2,by simpa using h3,h4⟩⟩
 clear T hrel hrs hfr hcell hc hx1
 go_wp2_with fail
 go_loopg [5,7,12] 1 (fun k x y i wr=>((k=1∧x=.int .i64 0∧i=.int .i64 0)∨(k=0∧x=.int .i64 (c:Int)∧i=.int .i64 1))∧w1=wr)
 case atStart=>exact⟨.inl ⟨rfl,rfl,rfl⟩,rfl⟩
 case round=>
  obtain⟨hcase,rfl⟩:=hrel
  rcases hcase with⟨rfl,rfl,rfl⟩|⟨rfl,rfl,rfl⟩
  ·go_wp2_with fail
   go_roundg 0
   case measure=>omega
   case rel=>exact⟨.inr ⟨rfl,rfl,rfl⟩,rfl⟩
  ·go_wp2_with fail
   go_ret
   exact POST.out
theorem Xa5 {P:Program} {fn:Func} {p u:Tmp} {ty:TypeId} (h:fn.results=#[.cell p ty,.tmp u]) (tmps:Array Value) (w:World) (g:Nat) (t:TypeId) (cs:Array Value) (fr:Nat×Nat) (d:TypeDesc)
    (hp:tmps.getD p undef=.pointer (some ⟨g,0,none⟩)) (hg:w.heap[g]?=some (.cells cs t fr))
    (hu:P.underlying ty=some d) (hd:(match d with|.struct _|.array _ _=>true|_=>false)=true) (hi:(P.info? ty).map (·.size)=some cs.size):
    (results fn tmps).run P w=.ok (.tuple #[.agg cs,tmps.getD u undef]) w:=by
 have hp':tmps[p]?.getD undef=.pointer (some ⟨g,0,none⟩):=by simpa using hp
 simp[results,h,hp',asAddr,run_loadVar_row w g t ty cs fr d hg hu hd hi]
theorem Yck (w:World) (h:Int):∀(r:List Nat),r.length=16→(Instr.build 35 #[(0,.int .i64 h),(1,.agg (idA r))]).run Tryz.prog w=.ok (.agg (pkC h r)) w
 |[a0,a1,a2,a3,a4,a5,a6,a7,a8,a9,a10,a11,a12,a13,a14,a15],_=>by kernel_rfl
theorem Xy4 {h:Int} {r:List Nat} (hr:r.length=16):Cl 17 (pkC h r):=⟨Xis hr,by
 rw[Array.all_eq_true']
 intro x hx
 unfold pkC at hx
 simp at hx
 rcases hx with rfl|⟨n,_,rfl⟩<;>rfl⟩
def Yiy (l:List Nat) (w:World) (e:Ending) (w':World):Prop:=
 ∃(cs:Array Value),e=.returned (.tuple #[.agg cs,.int .i64 (Xf5 l:Nat)])∧Cl 17 cs∧Below w.heap.size w w'
def Xri (l:List Nat) (w:World) (e:Ending) (w':World):Prop:=
 ∃(h:Nat) (r:List Nat),e=.returned (.tuple #[.agg (pkC (h:Int) r),.int .i64 (Xf5 l:Nat)])∧r.length=16∧h<256∧(∀x∈r,x<256)∧(Xf5 l=0→(Xcj l).1=h::r)∧Below w.heap.size w w'
theorem Yen (l:List Nat) (c:Nat) (l1:List Nat) (e1:Nat) (x l2:List Nat) (e2:Nat)
    (h1:((Xcj l).2.2=0∧1≤(Xcj l).1.length∧(Xcj l).1.take 1=[c]∧l1=(Xcj l).1.drop 1∧e1=0)∨(l1=(Xcj l).1∧e1=(if(Xcj l).2.2=0 then 4 else(Xcj l).2.2)∧c=0∧((Xcj l).2.2=0→(Xcj l).1.length<1)))
    (h2:(e1=0∧16≤l1.length∧x=l1.take 16∧l2=l1.drop 16∧e2=0)∨(l2=l1∧e2=(if e1=0 then 4 else e1)∧x=List.replicate 16 0∧(e1=0→l1.length<16))):
    (Xk8 e2 l2≠0→Xf5 l=Xk8 e2 l2)∧(Xk8 e2 l2=0→Xf5 l=eIf (!Xau (c:Int)) 2):=by
 obtain⟨d,hd⟩:∃d,d=Xcj l:=⟨_,rfl⟩
 have P:Xf5 l=(if d.2.2≠0 then d.2.2 else if d.1.length<17 then 4 else if 17<d.1.length then 5 else if d.1.getD 0 0<1∨8<d.1.getD 0 0 then 2 else 0):=by rw[hd];rfl
 rw[←hd] at h1
 obtain⟨dl,dn,de⟩:=d
 simp only[] at h1 P
 clear hd
 rcases h1 with⟨a1,a2,a3,a4,a5⟩|⟨a1,a2,a3,a4⟩
 ·subst a1;subst a5;subst a4
  rw[if_neg (by simp)] at P
  have hc:dl.getD 0 0=c:=by
   cases dl with
   |nil=>simp at a2
   |cons y t=>simp at a3;simp[a3]
  rcases h2 with⟨b1,b2,b3,b4,b5⟩|⟨b1,b2,b3,b4⟩
  ·subst b4;subst b5
   simp only[List.length_drop] at b2
   rw[if_neg (by omega)] at P
   by_cases hk:dl.length=17
   ·have E:Xk8 0 ((dl.drop 1).drop 16)=0:=by unfold Xk8;rw[if_neg (by simp),if_pos (by simp;omega)]
    rw[if_neg (by omega),hc] at P
    rw[E]
    refine⟨fun h=>absurd rfl h,fun _=>?_⟩
    rw[P]
    unfold eIf Xau
    by_cases hh:c<1∨8<c
    ·rw[if_pos hh,if_pos]
     simp;omega
    ·rw[if_neg hh,if_neg]
     simp;omega
   ·have E:Xk8 0 ((dl.drop 1).drop 16)=5:=by unfold Xk8;rw[if_neg (by simp),if_neg (by simp;omega)]
    rw[if_pos (by omega)] at P
    rw[E]
    exact⟨fun _=>P,fun h=>by omega⟩
  ·have hl:=b4 rfl
   rw[if_pos rfl] at b2
   subst b2
   simp only[List.length_drop] at hl
   have E:Xk8 4 l2=4:=by unfold Xk8;rw[if_pos (by simp)]
   rw[if_pos (by omega)] at P
   rw[E]
   exact⟨fun _=>P,fun h=>by omega⟩
 ·by_cases h0:de=0
  ·have hl:=a4 h0
   rw[if_pos h0] at a2
   subst a2
   rw[if_neg (by omega),if_pos (by omega)] at P
   rcases h2 with⟨b1,_⟩|⟨b1,b2,b3,b4⟩
   ·cases b1
   ·rw[if_neg (by decide)] at b2
    subst b2
    have E:Xk8 4 l2=4:=by unfold Xk8;rw[if_pos (by simp)]
    rw[E]
    exact⟨fun _=>P,fun h=>by omega⟩
  ·rw[if_neg h0] at a2
   subst a2
   rw[if_pos h0] at P
   rcases h2 with⟨b1,_⟩|⟨b1,b2,b3,b4⟩
   ·exact absurd b1 h0
   ·rw[if_neg h0] at b2
    subst b2
    have E:Xk8 e2 l2=e2:=by unfold Xk8;rw[if_pos h0]
    rw[E]
    exact⟨fun _=>P,fun h=>absurd h h0⟩
theorem Yel (l:List Nat) (c:Nat) (l1:List Nat) (e1:Nat) (x l2:List Nat) (e2:Nat)
    (h1:((Xcj l).2.2=0∧1≤(Xcj l).1.length∧(Xcj l).1.take 1=[c]∧l1=(Xcj l).1.drop 1∧e1=0)∨(l1=(Xcj l).1∧e1=(if(Xcj l).2.2=0 then 4 else(Xcj l).2.2)∧c=0∧((Xcj l).2.2=0→(Xcj l).1.length<1)))
    (h2:(e1=0∧16≤l1.length∧x=l1.take 16∧l2=l1.drop 16∧e2=0)∨(l2=l1∧e2=(if e1=0 then 4 else e1)∧x=List.replicate 16 0∧(e1=0→l1.length<16))) (h0:Xf5 l=0):(Xcj l).1=c::x:=by
 unfold Xf5 at h0
 by_cases hd:(Xcj l).2.2≠0
 ·rw[if_pos hd] at h0;exact absurd h0 hd
 rw[if_neg hd] at h0
 have hd0:(Xcj l).2.2=0:=by simpa using hd
 by_cases hl:(Xcj l).1.length<17
 ·rw[if_pos hl] at h0;cases h0
 rw[if_neg hl] at h0
 by_cases hl2:17<(Xcj l).1.length
 ·rw[if_pos hl2] at h0;cases h0
 have h17:(Xcj l).1.length=17:=by omega
 rcases h1 with⟨_,_,a3,a4,a5⟩|⟨_,_,_,a4⟩
 ·rcases h2 with⟨_,_,b3,_,_⟩|⟨_,_,_,b4⟩
  ·have:l1.length=16:=by rw[a4,List.length_drop];omega
   rw[List.take_of_length_le (by omega)] at b3
   rw[b3,a4,←List.singleton_append,←a3,List.take_append_drop]
  ·have:=b4 a5
   rw[a4,List.length_drop] at this;omega
 ·have:=a4 hd0;omega
theorem Xs2 (l:List Nat):(Xcj l).1.length≤l.length:=by
 by_cases h:(Xcj l).2.2=0
 ·obtain⟨h1,h2⟩:=Xm4 l h
  have:=Xi1 _ h2
  rw[h1] at this
  omega
 ·rw[Xfi l h];simp
theorem RS.below {w w':World} {B:Nat} {l:List Nat} {er:Nat} {a:Option Addr} {cap:Nat} (h:RS w B l er a cap) (hb:Below w.heap.size w w'):RS w' B l er a cap:=
 ⟨(hb.block B (lt_of_block h.blk)).trans h.blk,h.row.mono (Fr1.of_below hb),h.cp⟩
theorem Xcf:(Tryz.prog.info? 22).map (·.size)=some 16:=by kernel_rfl
set_option maxHeartbeats 4000000 in
theorem Xfd (s:ByteArray) (w:World) (hs:s.size≤1000000) (hE:Env w):
    Calls Tryz.prog 116 #[.string s] w (Xri (bs s) w):=by
 have ANSZ:Hid (∀w',Xf5 (bs s)≠0→Below w.heap.size w w'→Xri (bs s) w (.returned (.tuple #[.agg (pkC 0 (List.replicate 16 0)),.int .i64 (Xf5 (bs s):Nat)])) w'):=Hd (fun w' h hb=>⟨0,List.replicate 16 0,rfl,by simp,by omega,fun x hx=>by rw[List.mem_replicate] at hx;omega,fun h2=>absurd h2 h,hb⟩)
 have z16:(List.replicate 16 0:List Nat).length=16:=by simp
 obtain⟨zs,hzs⟩:∃zs,zs=pkC 0 (List.replicate 16 0):=⟨_,rfl⟩
 have ZCL:Hid (Cl 17 zs):=Hd (by rw[hzs];exact Xy4 z16)
 rw[←hzs] at ANSZ
 have BU:Hid (∀w,(Instr.build 35 #[]).run Tryz.prog w=.ok (.agg zs) w):=Hd (fun w=>by rw[hzs];kernel_rfl)
 have START:Hid (w.alloc (.cells zs 35)=w.alloc (.cells (pkC 0 (List.replicate 16 0)) 35)):=Hd (by rw[hzs])
 have FIN:Hid (∀(w4:World) (cs:Array Value),Cl 17 cs→w4.heap[w.heap.size]?=some (.cells zs 35 (0,0))→Below w.heap.size w w4→
     (storeVar 35 ⟨w.heap.size,0,none⟩ (.agg cs)).run Tryz.prog w4=.ok () (w4.setRow w.heap.size cs)∧
     (∀tmps:Array Value,tmps.getD 2 undef=.pointer (some ⟨w.heap.size,0,none⟩)→(results Tryz.f116 tmps).run Tryz.prog (w4.setRow w.heap.size cs)=.ok (.tuple #[.agg cs,tmps.getD 3 undef]) (w4.setRow w.heap.size cs))∧
     Below w.heap.size w (w4.setRow w.heap.size cs)):=Hd (fun w4 cs hcl hg hb=>
  ⟨run_storeVar_row (P:=Tryz.prog) w4 w.heap.size _ 35 zs cs hg (by rw[hcl.1];exact Xcw) (by rw[hcl.1,ZCL.out.1]) hcl.2,
   fun tmps h2=>Xa5 Tryz.results116 tmps _ w.heap.size _ _ _ _ h2 (setRow_heap w4 w.heap.size zs cs _ _ hg) Tryz.underlying35 rfl (by rw[hcl.1];exact Xcw),
   below_setRow hb (Nat.le_refl _) cs⟩)
 have B0:Below w.heap.size w (w.alloc (.cells zs 35)):=(Below.refl _ w).alloc (Nat.le_refl _) _
 have RD:Hid (∀w0,w.alloc (.cells zs 35)=w0→Calls Tryz.prog 157 #[.string s] w0 fun e w'=>∃B a cap,e=.returned (.pointer (some ⟨B,0,none⟩))∧(w.alloc (.cells zs 35)).heap.size≤B∧RS w' B (Xcj (bs s)).1 (Xcj (bs s)).2.2 a cap∧Below (w.alloc (.cells zs 35)).heap.size (w.alloc (.cells zs 35)) w'):=Hd (by rintro w0 rfl;exact Xpv s _ hs (hE.on B0))
 have BB0:=Hd B0
 clear hE B0 z16
 go_enter Tryz.func116,Tryz.ntmps116
 go_wp2_with fail
 refine(RD.out _ START.out).mono ?_
 rintro e w1 ⟨B,a,cap,rfl,hB,hrs,hb1⟩
 have hz1:w1.heap[w.heap.size]?=some (.cells zs 35 (0,0)):=(hb1.block w.heap.size (by simp)).trans (heap_alloc_new w _)
 have hBw:w.heap.size<B:=by simp at hB;omega
 have b1:Below w.heap.size w w1:=BB0.out.trans (hb1.mono (by simp))
 have hdl:=Xs2 (bs s)
 rw[Xaa] at hdl
 have NU:=Hd (Xw7 w1 B _ _ a cap hrs (by omega) (Xq0 (bs s)))
 have Z1:=Hd hz1;have B1:=Hd b1
 have DL:=Hd (show(Xcj (bs s)).1.length≤1000000 by omega)
 clear hb1 hrs hz1 b1 hB hdl RD START BB0 hzs
 go_wp2_with fail
 refine NU.out.mono ?_
 rintro e w2 ⟨c,l1,e1,a1,cp1,rfl,hc,hrs1,hf1,h1⟩
 have hl1:l1.length≤1000000:=by
  have:=DL.out
  rcases h1 with⟨_,_,_,h,_⟩|⟨h,_⟩
  ·rw[h,List.length_drop];omega
  ·rw[h];exact this
 have TK:Hid (Calls Tryz.prog 159 #[.pointer (some ⟨B,0,none⟩),.int .i64 16] w2 (Xzk w2 B 16 l1 e1)):=Hd (Xv1 w2 B l1 e1 a1 cp1 hrs1 hl1 16 (by omega) (by omega))
 have F1:=Hd hf1;have H1:=Hd h1
 clear NU hrs1 hf1 h1
 go_wp2_with fail
 refine TK.out.mono ?_
 rintro e w3 ⟨x,l2,e2,ax,a2,cx,cp2,rfl,hcx,hx,hrow,hrs2,hf2,h2⟩
 obtain⟨b,off,rfl,hb,hbB,hcell⟩:=hrow (fun e=>by rw[e] at hx;simp at hx)
 have LAW:=Hd (Yen (bs s) c l1 e1 x l2 e2 H1.out h2)
 have XLT:∀y∈x,y<256:=by
  have hl:∀y∈l1,y<256:=by
   rcases H1.out with⟨_,_,_,h,_⟩|⟨h,_⟩
   ·rw[h];exact fun y hy=>Xq0 (bs s) y (List.mem_of_mem_drop hy)
   ·rw[h];exact Xq0 (bs s)
  rcases h2 with⟨_,_,h,_,_⟩|⟨_,_,h,_⟩
  ·rw[h];exact fun y hy=>hl y (List.mem_of_mem_take hy)
  ·rw[h];exact fun y hy=>by rw[List.mem_replicate] at hy;omega
 have ANSC:Hid (∀w',Below w.heap.size w w'→Xri (bs s) w (.returned (.tuple #[.agg (pkC (c:Int) x),.int .i64 (Xf5 (bs s):Nat)])) w'):=Hd (fun w' hb=>⟨c,x,rfl,hx,hc,XLT,Yel (bs s) c l1 e1 x l2 e2 H1.out h2,hb⟩)
 have hl2:l2.length≤1000000:=by
  rcases h2 with⟨_,_,_,h,_⟩|⟨h,_⟩
  ·rw[h,List.length_drop];omega
  ·rw[h];exact hl1
 have LD:Hid ((loadVar 22 ⟨b,off,none⟩).run Tryz.prog w3=.ok (.agg (idA x)) w3):=Hd (Xai w3 b off _ _ _ Tryz.underlying22 rfl (by rw[Xag,hx];exact Xcf) (by
  intro j u hu
  unfold idA at hu
  rw[List.getElem?_toArray] at hu
  obtain⟨hj,rfl⟩:=List.getElem?_eq_some_iff.1 hu
  rw[List.length_map] at hj
  rw[hcell j hj];simp))
 have PC:=Hd (fun w=>Xet w (c:Int) hx)
 have BP:=Hd (fun w=>Yck w (c:Int) x hx)
 obtain⟨cs,hcs⟩:∃cs,cs=pkC (c:Int) x:=⟨_,rfl⟩
 have CL:Hid (Cl 17 cs):=Hd (by rw[hcs];exact Xy4 hx)
 rw[←hcs] at PC BP ANSC
 obtain⟨xs,hxs⟩:∃xs,xs=idA x:=⟨_,rfl⟩
 rw[←hxs] at LD BP
 have STN:Hid (∀zz:Array Value,zz.size=17→(storeVar 35 ⟨w3.heap.size,0,none⟩ (.agg cs)).run Tryz.prog (w3.alloc (.cells zz 35))=.ok () (w3.alloc (.cells cs 35))):=Hd (fun zz hz=>run_storeVar_new w3 35 zz cs (by rw[CL.out.1];exact Xcw) (by rw[hz,CL.out.1]) CL.out.2)
 have hBs:B<w3.heap.size:=lt_of_block hrs2.blk
 have f3:Fr1 B w1 w3:=F1.out.trans hf2
 have hg3:w.heap.size<w3.heap.size:=by omega
 have b3:Below w3.heap.size w3 (w3.alloc (.cells cs 35)):=(Below.refl _ _).alloc (Nat.le_refl _) _
 have EN:=Hd (Yie _ B l2 e2 a2 cp2 (hrs2.below b3) hl2)
 have f4:Fr1 B w1 (w3.alloc (.cells cs 35)):=f3.trans (Fr1.of_below b3)
 have Z4:Hid ((w3.alloc (.cells cs 35)).heap[w.heap.size]?=some (.cells zs 35 (0,0))):=Hd ((f4.other _ (lt_of_block Z1.out) (by omega)).trans Z1.out)
 have P4:=Hd (heap_alloc_new w3 (.cells cs 35))
 have F4:=Hd f4
 have hw1:w.heap.size≤w1.heap.size:=B1.out.size
 have hat:∀w,(Instr.arrayAt 22 (.slice (some ⟨b,off,none⟩) 16 cx)).run Tryz.prog w=.ok (.pointer (some ⟨b,off,none⟩)) w:=fun w=>by kernel_rfl
 obtain⟨en,hen⟩:∃en,en=Xk8 e2 l2:=⟨_,rfl⟩
 rw[←hen] at EN LAW
 clear TK hrow hrs2 hf2 h2 hcell hx XLT hcs hxs f3 b3 f4 hl1 hl2 hcx H1 F1 DL hen
 go_wp2_with (first
  |((with_reducible refine Xac 22 rfl _ rfl ?_);refine⟨_,_,rfl,LD.out,?_⟩)
  |((with_reducible refine Xgz 35 rfl _ _ rfl ?_);refine⟨_,_,_,rfl,rfl,BP.out _,?_⟩)
  |((with_reducible refine Xab 35 rfl _ _ rfl ?_);refine⟨_,_,_,rfl,rfl,STN.out _ rfl,?_⟩))
 refine EN.out.mono ?_
 rintro e w5 ⟨rfl,hf5⟩
 have z5:w5.heap[w.heap.size]?=some (.cells zs 35 (0,0)):=(hf5.other _ (by simp;omega) (by omega)).trans Z4.out
 have p5:w5.heap[w3.heap.size]?=some (.cells cs 35 (0,0)):=(hf5.other _ (by simp) (by omega)).trans P4.out
 have b5:Below w.heap.size w w5:=B1.out.trans ((F4.out.trans hf5).below hw1 (by omega))
 have Z5:=Hd z5;have P5:=Hd p5;have B5:=Hd b5
 clear EN hf5 z5 p5 b5 Z4 P4 F4 STN BP LD
 by_cases h0:en=0
 ·have PV:=Hd (LAW.out.2 h0)
  subst h0
  have LD2:=Hd (Xal w5 w3.heap.size 17 _ _ cs _ _ P5.out rfl Tryz.underlying35 Xcw CL.out.1)
  obtain⟨q,hq⟩:∃q,q=Xau (c:Int):=⟨_,rfl⟩
  rw[←hq] at PC PV
  clear LAW hq
  go_upto_region 6 with fail
  refine wp_region_list ?_
  simp only[]
  refine Xac 35 rfl _ rfl ⟨_,_,rfl,LD2.out,?_⟩
  go_wp2_with fail
  refine(PC.out _).mono ?_
  rintro e w6 ⟨rfl,hb6⟩
  have z6:=(hb6.block _ (lt_of_block Z5.out)).trans Z5.out
  have p6:=(hb6.block _ (lt_of_block P5.out)).trans P5.out
  have b6:Below w.heap.size w w6:=B5.out.trans (hb6.mono B5.out.size)
  have LD6:=Hd (Xal w6 w3.heap.size 17 _ _ cs _ _ p6 rfl Tryz.underlying35 Xcw CL.out.1)
  cases q
  ·obtain⟨ST,RES,BB⟩:=FIN.out w6 zs ZCL.out z6 b6
   have ST:=Hd ST;have RES:=Hd RES;have BB:=Hd BB
   have PV2:Hid (Xf5 (bs s)=2):=PV
   clear z6 p6 b6 hb6 PC FIN LD2 LD6 PV Z5 P5 B5
   go_wp2_with (first
    |((with_reducible refine Xae 35 rfl rfl ?_);refine⟨_,BU.out _,?_⟩)
    |((with_reducible refine Xab 35 rfl _ _ rfl ?_);refine⟨_,_,_,rfl,rfl,ST.out,?_⟩))
   exact bodyPost_ret (RES.out _ rfl) rfl (by have:=ANSZ.out _ (by rw[PV2.out];decide) BB.out;rw[PV2.out] at this;exact this)
  ·obtain⟨ST,RES,BB⟩:=FIN.out w6 cs CL.out z6 b6
   have ST:=Hd ST;have RES:=Hd RES;have BB:=Hd BB
   have PV2:Hid (Xf5 (bs s)=0):=PV
   clear z6 p6 b6 hb6 PC FIN LD2 PV Z5 P5 B5
   go_upto_region 9 with fail
   refine wp_region_list ?_
   simp only[]
   refine Xac 35 rfl _ rfl ⟨_,_,rfl,LD6.out,?_⟩
   go_wp2_with ((with_reducible refine Xab 35 rfl _ _ rfl ?_);refine⟨_,_,_,rfl,rfl,ST.out,?_⟩)
   exact bodyPost_ret (RES.out _ rfl) rfl (by have:=ANSC.out _ BB.out;rw[PV2.out] at this;exact this)
 ·have PV:=Hd (LAW.out.1 h0)
  have HN0:=Hd h0
  have q0:((en:Int) !=0)=true:=Xam (by omega)
  obtain⟨ST,RES,BB⟩:=FIN.out w5 zs ZCL.out Z5.out B5.out
  have ST:=Hd ST;have RES:=Hd RES;have BB:=Hd BB
  clear LAW h0 PC FIN Z5 P5 B5
  go_wp2_with (first
   |((with_reducible refine Xae 35 rfl rfl ?_);refine⟨_,BU.out _,?_⟩)
   |((with_reducible refine Xab 35 rfl _ _ rfl ?_);refine⟨_,_,_,rfl,rfl,ST.out,?_⟩))
  exact bodyPost_ret (RES.out _ rfl) rfl (by have:=ANSZ.out _ (by rw[PV.out];exact HN0.out) BB.out;rw[PV.out] at this;exact this)
theorem Xp4 (s:ByteArray) (w:World) (hs:s.size≤1000000) (hE:Env w):
    Calls Tryz.prog 116 #[.string s] w (Yiy (bs s) w):=
 (Xfd s w hs hE).mono fun e w' ⟨h,r,h1,h2,_,_,_,h6⟩=>⟨_,h1,Xy4 h2,h6⟩
set_option maxHeartbeats 2000000 in
theorem Xt5 (w:World) (b:Nat) (t:ByteArray) (st en:Nat) (at_:Int) (er:Nat) (h:WS w b t st en at_ er) (hE:Env w) (hb9:9≤b) (ht:t.size≤1000000):
    Calls Tryz.prog 194 #[.pointer (some ⟨b,0,none⟩)] w (Xlc w b t en er Xf5 fun v=>∃cs,v=.agg cs∧Cl 17 cs):=by
 obtain⟨zs,hzs⟩:∃zs,zs=pkC 0 (List.replicate 16 0):=⟨_,rfl⟩
 have zcl:Cl 17 zs:=by rw[hzs];exact Xy4 (by simp)
 have BU:Hid (∀w,(Instr.build 35 #[]).run Tryz.prog w=.ok (.agg zs) w):=Hd (fun w=>by rw[hzs];kernel_rfl)
 have hbw:=h.lt
 have NX:Hid (∀w0,w.alloc (.cells zs 35)=w0→Calls Tryz.prog 224 #[.pointer (some ⟨b,0,none⟩)] w0 (Xzm (w.alloc (.cells zs 35)) b t st en er)):=Hd (by
  rintro w0 rfl
  have B:=(Below.refl w.heap.size w).alloc (Nat.le_refl _) (.cells zs 35)
  exact Xfo _ b t st en at_ er (h.below B) (hE.on B) hb9 ht)
 have START:Hid (w.alloc (.cells zs 35)=w.alloc (.cells (pkC 0 (List.replicate 16 0)) 35)):=Hd (by rw[hzs])
 have HE:=Hd hE
 have ZCL:=Hd zcl
 clear h hE hzs zcl
 go_enter Tryz.func194,Tryz.ntmps194
 go_wp2_with fail
 refine(NX.out _ START.out).mono ?_
 rintro e w1 ⟨x,ok,st',en',a,er',rfl,h1,f1,hx,h⟩
 have hz1:w1.heap[w.heap.size]?=some (.cells zs 35 (0,0)):=(f1.other w.heap.size (by simp) (by omega)).trans (heap_alloc_new w _)
 have f0:Fr1 b w w1:=(Fr1.of_below ((Below.refl w.heap.size w).alloc (Nat.le_refl _) _)).trans f1
 have H1:=Hd h1;have F1:=Hd f0;have Z1:=Hd hz1
 have hs1:w.heap.size<w1.heap.size:=lt_of_block hz1
 clear NX h1 f1 START f0 hz1
 rcases h with⟨rfl,hne,hk⟩|⟨rfl,rfl,rfl,hk⟩
 ·have SL:Hid (StL t en er en' er' Xf5):=Hd (StL.no hne hk)
  have ST:=Hd (run_storeVar_row (P:=Tryz.prog) w1 w.heap.size _ 35 zs zs Z1.out (by rw[ZCL.out.1];exact Xcw) rfl ZCL.out.2)
  have W2:=Hd (setRow_heap w1 w.heap.size zs zs _ _ Z1.out)
  have H2:=Hd (H1.out.row (show b≠w.heap.size by omega) zs)
  have F2:=Hd (F1.out.row (Nat.le_refl w.heap.size) zs)
  clear hne hk
  go_wp2_with (first
   |((with_reducible refine Xae 35 rfl rfl ?_);refine⟨_,BU.out _,?_⟩)
   |((with_reducible refine Xab 35 rfl _ _ rfl ?_);refine⟨_,_,_,rfl,rfl,ST.out,?_⟩))
  exact bodyPost_ret (results_cell_row Tryz.results194 _ _ w.heap.size _ _ _ _ rfl W2.out Tryz.underlying35 rfl (by rw[ZCL.out.1];exact Xcw)) rfl
   ⟨_,st',en',a,er',rfl,⟨_,rfl,ZCL.out⟩,H2.out,F2.out,SL.out⟩
 ·have SL:Hid (StL t en 0 en' (Xf5 (bs x)) Xf5):=Hd (StL.yes hk)
  have MP:=Hd (Xp4 x w1 (by omega) (Xbr HE.out hb9 F1.out))
  obtain⟨m,hm⟩:∃m,m=Xf5 (bs x):=⟨_,rfl⟩
  have MP2:Hid (Calls Tryz.prog 116 #[.string x] w1 fun e w'=>∃cs,e=.returned (.tuple #[.agg cs,.int .i64 (m:Int)])∧Cl 17 cs∧Below w1.heap.size w1 w'):=Hd (by rw[hm];exact MP.out)
  rw[←hm] at SL
  clear hk MP hm
  go_wp2_with fail
  refine MP2.out.mono ?_
  rintro e w2 ⟨cs,rfl,hcl,hb2⟩
  have CL:=Hd hcl
  have STN:Hid (∀zz:Array Value,zz.size=17→(storeVar 35 ⟨w2.heap.size,0,none⟩ (.agg cs)).run Tryz.prog (w2.alloc (.cells zz 35))=.ok () (w2.alloc (.cells cs 35))):=Hd (fun zz hz=>run_storeVar_new w2 35 zz cs (by rw[CL.out.1];exact Xcw) (by rw[hz,CL.out.1]) CL.out.2)
  have hb3:Below w1.heap.size w1 (w2.alloc (.cells cs 35)):=hb2.alloc hb2.size _
  have h3:=H1.out.below hb3
  have hc1:(w2.alloc (.cells cs 35)).cell? ⟨b,1,none⟩=some (.int .i64 (st':Int)):=cell_of_row _ b 1 _ _ _ h3.1
  have Z3:=Hd ((hb3.block _ hs1).trans Z1.out)
  have P3:=Hd (heap_alloc_new w2 (.cells cs 35))
  have F3:=Hd (F1.out.trans (Fr1.of_below hb3))
  have FL:=Hd (Xb7 _ b t st' en' a 0 h3 (st':Int) m)
  have hbp:b≠w2.heap.size:=by have:=H1.out.lt;have:=hb2.size;omega
  have hgp:w.heap.size<w2.heap.size:=by have:=hb2.size;omega
  clear MP2 hb2 hb3 h3 hcl
  go_wp2_with ((with_reducible refine Xab 35 rfl _ _ rfl ?_);refine⟨_,_,_,rfl,rfl,STN.out _ rfl,?_⟩)
  refine FL.out.mono ?_
  rintro e w4 ⟨⟨v,rfl⟩,⟨a',h4⟩,f4⟩
  have hz4:=(f4.other w.heap.size (by simp;omega) (by omega)).trans Z3.out
  have hp4:=(f4.other w2.heap.size (by simp) (by omega)).trans P3.out
  have H4:Hid (WS w4 b t st' en' a' m):=Hd h4
  have LD:=Hd (Xal w4 w2.heap.size 17 _ _ cs _ _ hp4 rfl Tryz.underlying35 Xcw CL.out.1)
  have ST:=Hd (run_storeVar_row (P:=Tryz.prog) w4 w.heap.size _ 35 zs cs hz4 (by rw[CL.out.1];exact Xcw) (by rw[CL.out.1,ZCL.out.1]) CL.out.2)
  have W2:=Hd (setRow_heap w4 w.heap.size zs cs _ _ hz4)
  have H5:=Hd (H4.out.row (show b≠w.heap.size by omega) cs)
  have F5:=Hd ((F3.out.trans f4).row (Nat.le_refl w.heap.size) cs)
  clear h4 f4 FL hc1 hz4 hp4 STN
  go_upto_region 6 with fail
  refine wp_region_list ?_
  simp only[]
  refine Xac 35 rfl _ rfl ⟨_,_,rfl,LD.out,?_⟩
  go_wp2_with ((with_reducible refine Xab 35 rfl _ _ rfl ?_);refine⟨_,_,_,rfl,rfl,ST.out,?_⟩)
  exact bodyPost_ret (results_cell_row Tryz.results194 _ _ w.heap.size _ _ _ _ rfl W2.out Tryz.underlying35 rfl (by rw[CL.out.1];exact Xcw)) rfl
   ⟨_,st',en',a',m,rfl,⟨_,rfl,CL.out⟩,H5.out,F5.out,SL.out⟩
theorem Xa1:(Tryz.prog.info? 152).map (·.size)=some 56:=by kernel_rfl
def Xla (k:Int) (l:List Value):Array Value:=(([Value.int .i64 k]:List Value)++l++([.string ⟨#[]⟩,.int .i64 0,.bool false,.slice none 0 0,.string ⟨#[]⟩,.int .i64 0,.int .i64 0]:List Value)++List.replicate 16 (Value.int .u8 0)).toArray
def Xhd:List Value:=List.replicate 32 (.int .u8 0)
theorem Xu9 (w:World) (k:Int):∀(l:List Value),l.length=32→(Instr.build 152 #[(0,.int .i64 k),(1,.agg l.toArray)]).run Tryz.prog w=.ok (.agg (Xla k l)) w
 |[v0,v1,v2,v3,v4,v5,v6,v7,v8,v9,v10,v11,v12,v13,v14,v15,v16,v17,v18,v19,v20,v21,v22,v23,v24,v25,v26,v27,v28,v29,v30,v31],_=>by kernel_rfl
theorem Xfz (w:World) (k:Int):(Instr.build 152 #[(0,.int .i64 k)]).run Tryz.prog w=.ok (.agg (Xla k Xhd)) w:=by kernel_rfl
theorem Xdz (k:Int) (l:List Value) (h:l.length=32) (h1:∀v∈l,v.oneCell'=true):Cl 56 (Xla k l):=⟨by simp[Xla,h],by
 rw[Array.all_eq_true']
 intro x hx
 unfold Xla at hx
 rw[List.mem_toArray,List.mem_append,List.mem_append,List.mem_append] at hx
 rcases hx with((hx|hx)|hx)|hx
 ·rw[List.mem_singleton] at hx;rw[hx];rfl
 ·exact h1 x hx
 ·simp only[List.mem_cons] at hx
  rcases hx with rfl|rfl|rfl|rfl|rfl|rfl|rfl|hx<;>first|rfl|cases hx
 ·rw[List.mem_replicate] at hx;rw[hx.2];rfl⟩
theorem Xpb {n:Nat} {cs:Array Value} (h:Cl n cs):∀v∈cs.toList,v.oneCell'=true:=fun v hv=>(Array.all_eq_true'.1 h.2) v (by simpa using hv)
theorem Xej:∀v∈Xhd,v.oneCell'=true:=fun v hv=>by unfold Xhd at hv;rw[List.mem_replicate] at hv;rw[hv.2];rfl
def MB (w:World) (p:Nat):Prop:=∃cs,w.heap[p]?=some (.cells cs 152 (0,0))∧Cl 56 cs
theorem MB.lt {w:World} {p:Nat} (h:MB w p):p<w.heap.size:=by obtain⟨cs,h,_⟩:=h;exact lt_of_block h
theorem MB.setCell {w:World} {p:Nat} (h:MB w p) (j:Nat) {u:Value} (hu:u.oneCell'=true):MB (w.setCell ⟨p,j,none⟩ u) p:=by
 obtain⟨cs,h1,h2,h3⟩:=h
 refine⟨_,Xd0 h1 j u,by simpa using h2,?_⟩
 rw[Array.all_eq_true'] at h3⊢
 intro x hx
 rw[Array.mem_iff_getElem] at hx
 obtain⟨i,hi,rfl⟩:=hx
 rw[Array.getElem_setIfInBounds (by simpa using hi)]
 split
 ·exact hu
 ·exact h3 _ (Array.getElem_mem _)
theorem MB.setCells {p:Nat}:∀(vs:List Value) (o:Nat) (w:World),MB w p→(∀v∈vs,v.oneCell'=true)→MB (w.setCells p o vs) p∧Fr1 p w (w.setCells p o vs)
 |[],o,w,h,_=>⟨h,Fr1.refl _ _⟩
 |v::r,o,w,h,hv=>by
  obtain⟨h1,h2⟩:=MB.setCells r (o+1) _ (h.setCell o (hv v (List.mem_cons_self ..))) (fun x hx=>hv x (List.mem_cons_of_mem _ hx))
  exact⟨h1,(Fr1.setC v).trans h2⟩
theorem MB.fr {w w':World} {p b:Nat} (h:MB w p) (hf:Fr1 b w w') (hne:p≠b):MB w' p:=by
 obtain⟨cs,h1,h2⟩:=h
 exact⟨cs,(hf.other p (lt_of_block h1) hne).trans h1,h2⟩
theorem WS.fr {w w':World} {b p:Nat} {t:ByteArray} {st en:Nat} {at_:Int} {er:Nat} (h:WS w b t st en at_ er) (hf:Fr1 p w w') (hne:b≠p):WS w' b t st en at_ er:=⟨(hf.other b h.lt hne).trans h.1,h.2⟩
theorem Fr1.new {b p:Nat} {w0 w1 w2:World} (h:Fr1 b w0 w1) (h':Fr1 p w1 w2) (hp:w0.heap.size≤p):Fr1 b w0 w2:=
 ⟨h'.os.trans h.os,h'.tape.trans h.tape,h'.output.trans h.output,Nat.le_trans h.size h'.size,fun k hk hne=>(h'.other k (Nat.lt_of_lt_of_le hk h.size) (by omega)).trans (h.other k hk hne)⟩
theorem MB.cell {w:World} {p:Nat} (h:MB w p) {j:Nat} (hj:j<56):∃u,w.cell? ⟨p,j,none⟩=some u∧w.frozen? ⟨p,j,none⟩=false:=by
 obtain⟨cs,h1,h2,h3⟩:=h
 exact⟨cs[j]'(by omega),by rw[cell_of_row w p j _ _ _ h1];simp[h2,hj],by simp[World.frozen?,h1]⟩
theorem MB.store {w:World} {p:Nat} (h:MB w p) (o n:Nat) (hn:o+n≤56) (ty:TypeId) {cs:Array Value} (hc:Cl n cs) (hi:(Tryz.prog.info? ty).map (·.size)=some n):
    (storeVar ty ⟨p,o,none⟩ (.agg cs)).run Tryz.prog w=.ok () (w.setCells p o cs.toList)∧MB (w.setCells p o cs.toList) p∧Fr1 p w (w.setCells p o cs.toList):=
 ⟨run_storeVar_mid w p o ty cs (fun j hj=>by
     obtain⟨u,h1,h2⟩:=h.cell (j:=o+j) (by rw[hc.1] at hj;omega)
     exact⟨by rw[h1];rfl,h2⟩) (by rw[hc.1];exact hi) hc.2,MB.setCells _ _ _ h (Xpb hc)⟩
def Xcp (w:World) (b:Nat) (t:ByteArray) (en er:Nat) (F:List Nat→Nat) (e:Ending) (w':World):Prop:=
 ∃(cs:Array Value) (st' en':Nat) (a:Int) (er':Nat),e=.returned (.agg cs)∧Cl 56 cs∧WS w' b t st' en' a er'∧Fr1 b w w'∧fe er' (fin ((bs t).drop en'))=fe er (F ((bs t).drop en))
set_option maxHeartbeats 2000000 in
theorem Xyb (w:World) (b:Nat) (t:ByteArray) (st en:Nat) (at_:Int) (er:Nat) (h:WS w b t st en at_ er) (hE:Env w) (hb9:9≤b) (ht:t.size≤1000000):
    Calls Tryz.prog 184 #[.pointer (some ⟨b,0,none⟩)] w (Xcp w b t en er fun T=>nxt T fun x T=>fe (Xhe x) (fin T)):=by
 obtain⟨zs,hzs⟩:∃zs,zs=Xla 0 Xhd:=⟨_,rfl⟩
 have ZCL:Hid (Cl 56 zs):=Hd (by rw[hzs];exact Xdz 0 _ (by simp[Xhd]) Xej)
 have hbw:=h.lt
 have TG:Hid (∀w0,w.alloc (.cells zs 152)=w0→Calls Tryz.prog 185 #[.pointer (some ⟨b,0,none⟩)] w0 (Xlc (w.alloc (.cells zs 152)) b t en er Xhe fun v=>∃cs,v=.agg cs∧Cl 32 cs)):=Hd (by
  rintro w0 rfl
  have B:=(Below.refl w.heap.size w).alloc (Nat.le_refl _) (.cells zs 152)
  exact Xlg _ b t st en at_ er (h.below B) (hE.on B) hb9 ht)
 have START:Hid (w.alloc (.cells zs 152)=w.alloc (.cells (Xla 0 Xhd) 152)):=Hd (by rw[hzs])
 clear h hE hzs
 go_enter Tryz.func184,Tryz.ntmps184
 go_wp2_with fail
 refine(TG.out _ START.out).mono ?_
 rintro e w1 ⟨v,st',en',a,er',rfl,⟨cs,rfl,hcl⟩,h1,f1,hsl⟩
 have hz1:w1.heap[w.heap.size]?=some (.cells zs 152 (0,0)):=(f1.other w.heap.size (by simp) (by omega)).trans (heap_alloc_new w _)
 have f0:Fr1 b w w1:=(Fr1.of_below ((Below.refl w.heap.size w).alloc (Nat.le_refl _) _)).trans f1
 have hl:cs.toList.length=32:=by simpa using hcl.1
 have BC:=Hd (fun w=>Xu9 w 1 cs.toList hl)
 obtain⟨ds,hds⟩:∃ds,ds=Xla 1 cs.toList:=⟨_,rfl⟩
 have DC:Hid (Cl 56 ds):=Hd (by rw[hds];exact Xdz 1 _ hl (Xpb hcl))
 rw[←hds] at BC
 have ST:=Hd (run_storeVar_row (P:=Tryz.prog) w1 w.heap.size _ 152 zs ds hz1 (by rw[DC.out.1];exact Xa1) (by rw[DC.out.1,ZCL.out.1]) DC.out.2)
 have W2:=Hd (setRow_heap w1 w.heap.size zs ds _ _ hz1)
 have POST:Hid (Xcp w b t en er (fun T=>nxt T fun x T=>fe (Xhe x) (fin T)) (.returned (.agg ds)) (w1.setRow w.heap.size ds)):=Hd ⟨ds,st',en',a,er',rfl,DC.out,h1.row (by omega) ds,f0.row (Nat.le_refl _) ds,(hsl fin).symm⟩
 clear TG START h1 f1 hsl f0 hz1 hds hcl hl
 go_wp2_with (first
  |((with_reducible refine Xgz 152 rfl _ _ rfl ?_);refine⟨_,_,_,rfl,rfl,BC.out _,?_⟩)
  |((with_reducible refine Xab 152 rfl _ _ rfl ?_);refine⟨_,_,_,rfl,rfl,ST.out,?_⟩))
 exact bodyPost_ret (results_cell_row Tryz.results184 _ _ w.heap.size _ _ _ _ rfl W2.out Tryz.underlying152 rfl (by rw[DC.out.1];exact Xa1)) rfl POST.out
end Go.Proofs.YtohmdledkhgdaaaGreatDoor
