/- bulletinref17.ParseAuthor; bulletinref11.Parse. -/
import Derived.Test.YtjolcnopipbkhaaGreatDoorFo14
namespace Go.Proofs.YtjolcnopipbkhaaGreatDoor
open Go.Proofs.Tryz
open Go.RowKit Go.Maps
set_option linter.unusedVariables false
set_option maxHeartbeats 100000000
set_option maxRecDepth 100000
def pn (n:Nat)(l:List Nat)(j:Nat):List Nat:=(List.range n).map fun k=>if 2*k+1<j then 16*hv (l.getD (2*k) 0)+hv (l.getD (2*k+1) 0) else if 2*k<j then hv (l.getD (2*k) 0) else 0
theorem Xpp (n:Nat)(l:List Nat)(j:Nat):(pn n l j).length=n:=by simp[pn]
theorem Xpq {n:Nat}{l:List Nat}{j k:Nat}(hk:k<n):(pn n l j)[k]?=some (if 2*k+1<j then 16*hv (l.getD (2*k) 0)+hv (l.getD (2*k+1) 0) else if 2*k<j then hv (l.getD (2*k) 0) else 0):=by
 simp[pn,hk]
theorem Xy0 (n:Nat)(l:List Nat):pn n l 0=List.replicate n 0:=by
 apply List.ext_getElem?
 intro k
 by_cases hk:k<n
 ·rw[Xpq hk,qN (by omega),qN (by omega),List.getElem?_replicate,qP hk]
 ·rw[List.getElem?_eq_none (by rw[Xpp];omega),List.getElem?_eq_none (by simp;omega)]
theorem Xy1 {n:Nat}{l:List Nat}{j k v:Nat}(hk:k=j/2)(hj:j<2*n)(hv':(pn n l j)[k]?=some v):pn n l (j+1)=(pn n l j).set k (v*16+hv (l.getD j 0))∧v<16:=by
 rw[Xpq (by omega)] at hv'
 have hv2:=Option.some.inj hv'
 rw[qN (by omega)] at hv2
 have h16:v<16:=by
  rw[←hv2];split
  ·exact Xz6 _
  ·decide
 refine⟨?_,h16⟩
 apply List.ext_getElem?
 intro m
 by_cases hn:m<n
 ·rw[List.getElem?_set]
  by_cases e:k=m
  ·subst e
   rw[qP rfl,qP (by rw[Xpp];exact hn),Xpq hn]
   by_cases hp:j=2*k
   ·rw[qN (by omega),qP (by omega)]
    rw[qN (by omega)] at hv2
    rw[←hv2,←hp];simp
   ·have e2:j=2*k+1:=by omega
    rw[qP (by omega)]
    rw[qP (by omega)] at hv2
    rw[hv2,Nat.mul_comm,e2]
  ·rw[qN e,Xpq hn,Xpq hn]
   by_cases c1:2*m+1<j
   ·rw[qP (by omega),qP c1]
   ·rw[qN (by omega),qN c1]
    by_cases c2:2*m<j
    ·rw[qP (by omega),qP c2]
    ·rw[qN (by omega),qN c2]
 ·rw[List.getElem?_eq_none (by rw[Xpp];omega),List.getElem?_eq_none (by rw[List.length_set,Xpp];omega)]
theorem Yf3 {n:Nat}{l:List Nat}(h:l.length=2*n):pn n l (2*n)=uh l:=by
 apply List.ext_getElem?
 intro k
 by_cases hk:k<n
 ·rw[Xpq hk,Ygz n l k h hk,qP (by omega)]
 ·rw[List.getElem?_eq_none (by rw[Xpp];omega),List.getElem?_eq_none (by rw[Xj8 n l h];omega)]
theorem Xyh (s:ByteArray)(w:World)(hs:s.size≤10000000):
    Calls prog 170 #[.string s] w (Xna (bs s) w):=by
 obtain⟨zs,hzs⟩:=xq (idA Xdm)
 have LEN:=Hd (Xaa s)
 have HZS:=Hd hzs
 have ZCL:Hid (Cl 16 zs):=Hd (by rw[hzs];exact Xsu Xfm)
 have BU:Hid (∀w,(Instr.build 22 #[]).run prog w=.ok (.agg zs) w):=Hd (fun w=>by rw[hzs];kernel_rfl)
 have START:Hid ((w.alloc (.cells (Array.replicate 16 (.int .u8 0)) 22)).alloc (.cells (Array.replicate 16 (.int .u8 0)) 22)=(w.alloc (.cells zs 22)).alloc (.cells zs 22)):=Hd (by rw[hzs];rfl)
 have FIN:Hid (∀(w4:World) (cs:Array Value),Cl 16 cs→w4.heap[w.heap.size]?=some (.cells zs 22 (0,0))→Bw w w4→
     Sv 22 ⟨w.heap.size,0,none⟩ (.agg cs) w4 (w4.setRow w.heap.size cs)∧
     (∀tmps:Array Value,tmps.getD 2 undef=.pointer (some ⟨w.heap.size,0,none⟩)→(results Tryz.f170 tmps).run prog (w4.setRow w.heap.size cs)=.ok (.tuple #[.agg cs,tmps.getD 3 undef,tmps.getD 4 undef]) (w4.setRow w.heap.size cs))∧
     Bw w (w4.setRow w.heap.size cs)):=Hd (fun w4 cs hcl hg hb=>
  ⟨run_storeVar_row (P:=prog) w4 w.heap.size _ 22 zs cs hg (by rw[hcl.1];exact Xcm) (by rw[hcl.1,ZCL.o.1]) hcl.2,
   fun tmps h2=>Xat results170 tmps _ w.heap.size _ _ _ _ h2 (setRow_heap w4 w.heap.size zs cs _ _ hg) underlying22 rfl (by rw[hcl.1];exact Xcm),
   below_setRow hb (zL _) cs⟩)
 have NO:Hid (Xe2 (bs s)=none→∀a er:Int,er≠0→∀w',Bw w w'→Xna (bs s) w (.returned (.tuple #[.agg zs,.int .i64 a,.int .i64 er])) w'):=Hd (fun h a er he w' hb=>⟨a,er,by rw[h,HZS.o];exact⟨rfl,he⟩,hb⟩)
 obtain⟨mn,hmn⟩:∃mn:Nat,mn=min s.size 32:=⟨_,rfl⟩
 have hm1:mn≤s.size:=by omega
 have hm2:mn≤32:=by omega
 have HMN:=Hd hmn
 have PZ:Hid (zs=idA (pn 16 (bs s) 0)):=Hd (by rw[hzs,Xy0];rfl)
 clear hzs hmn
 go_enter func170,ntmps170
 go_wp2_with fail
 go_loopg [6] mn (fun k i wr=>∃j:Nat,j≤mn∧k=mn-j∧i=.int .i64 (j:Int)∧Hid (∀q,q<j→hdB ((bs s).getD q 0)=true)∧Hid (wr.heap[w.heap.size]?=some (.cells zs 22 (0,0)))∧Hid (wr.heap[w.heap.size+1]?=some (.cells (idA (pn 16 (bs s) j)) 22 (0,0)))∧Hid (Bw w wr))
 case atStart=>
  refine⟨0,by omega,rfl,rfl,Hd (fun q hq=>by omega),Hd ?_,Hd ?_,Hd (((zR _ _).alloc (zL _) _).alloc (by simp) _)⟩
  ·have h:((w.alloc (.cells zs 22)).alloc (.cells zs 22)).heap[w.heap.size]?=some (.cells zs 22 (0,0)):=Xae (heap_alloc_last w _)
   rw[←START.o] at h
   exact h
  ·have h:=heap_alloc_last (w.alloc (.cells zs 22)) (.cells zs 22)
   rw[World.size_alloc,←START.o] at h
   rw[←PZ.o]
   exact h
 case round=>
  obtain⟨j,hj,rfl,rfl,hg,hres,hcell,hbel⟩:=hrel
  by_cases hlt:j<mn
  ·obtain⟨c,hc⟩:=xq ((bs s).getD j 0)
   have hc2:c<256:=by rw[hc];exact Xba s j
   have y1:=fun w=>Xhc s w j j rfl (by omega) c hc
   have IX:=Hd (fun w=>Xvw w c hc2)
   by_cases hd:hdB c=true
   ·rw[Xn9 hd] at IX
    obtain⟨y,hy⟩:=xq (hv c)
    have hy16:y<16:=by rw[hy];exact Xz6 c
    rw[←hy] at IX
    obtain⟨k,hk⟩:=xq (j/2)
    have hk16:k<16:=by omega
    obtain⟨v,hv'⟩:∃v,(pn 16 (bs s) j)[k]?=some v:=⟨_,Xpq hk16⟩
    obtain⟨hst,hv16⟩:=Xy1 hk (by omega) hv'
    rw[←hc,←hy] at hst
    have hck:∀w2:World,w2.heap[w.heap.size+1]?=wr.heap[w.heap.size+1]?→w2.cell? ⟨w.heap.size+1,k,none⟩=some (.int .u8 (v:Int)):=fun w2 h2=>by rw[cell_of_row w2 _ k _ _ _ (h2.trans hcell.o)];unfold idA;rw[List.getElem?_toArray,List.getElem?_map,hv'];rfl
    have hc1:=hck wr rfl
    have hc1d:=hck wr.drew rfl
    have hfk:wr.frozen? ⟨w.heap.size+1,k,none⟩=false:=by have:=hcell.o;simp[World.frozen?,this]
    have hfkd:wr.drew.frozen? ⟨w.heap.size+1,k,none⟩=false:=hfk
    obtain⟨z,hz⟩:=xq (v*16+y)
    rw[←hz] at hst
    have s1:IntKind.u8.wrap ((v:Int)*16)=(v:Int)*16:=by rw[IntKind.wrap_u8];omega
    have s3:IntKind.u8.wrap (y:Int)=(y:Int):=by rw[IntKind.wrap_u8];omega
    have s2:IntKind.u8.wrap ((v:Int)*16+(y:Int))=(z:Int):=by rw[IntKind.wrap_u8];omega
    have hdv:Int.tdiv (j:Int) 2=(k:Int):=by rw[Int.tdiv_eq_ediv_of_nonneg (by omega)];omega
    have wk:IntKind.i64.wrap (k:Int)=(k:Int):=IntWalk.i64_in _ (by omega)
    have HW:Hid (∀w2:World,w2.heap[w.heap.size+1]?=wr.heap[w.heap.size+1]?→(w2.setCell ⟨w.heap.size+1,k,none⟩ (.int .u8 (z:Int))).heap[w.heap.size+1]?=some (.cells (idA (pn 16 (bs s) (j+1))) 22 (0,0))):=Hd (fun w2 h2=>by rw[hst,←Xr5];exact Xd8 (h2.trans hcell.o) k _)
    have RW:Hid (∀w2:World,w2.heap[w.heap.size]?=wr.heap[w.heap.size]?→(w2.setCell ⟨w.heap.size+1,k,none⟩ (.int .u8 (z:Int))).heap[w.heap.size]?=some (.cells zs 22 (0,0))):=Hd (fun w2 h2=>by
     rw[Below.heap_setCell _ _ _ _ (show w.heap.size≠w.heap.size+1 by omega)];exact h2.trans hres.o)
    have BW:Hid (∀w2:World,Bw w w2→Bw w (w2.setCell ⟨w.heap.size+1,k,none⟩ (.int .u8 (z:Int)))):=Hd (fun w2 h2=>h2.setCell (p:=⟨w.heap.size+1,k,none⟩) (Nat.le_succ _) _)
    have BD:=Hd hbel.o.drew
    have G2:Hid (∀q,q<j+1→hdB ((bs s).getD q 0)=true):=Hd (fun q hq=>by
     by_cases e:q=j
     ·rw[e,←hc];exact hd
     ·exact hg.o q (by omega))
    have HK:=Hd hk
    clear hd hc hy hv' hst hz hg hcell hres FIN NO BU START HK hk PZ hck
    go_upto_region 7 with(go_at_call 222;refine(IX.o _).mono ?_;rintro e w' ⟨rfl,rfl⟩)
    refine wp_region_held (S:=fun _=>True) (by kernel_rfl) ?_
    change wpAnyH _ _ _ _ _ _ _ _ wr.drew
    have hB:(fun _:World=>True) wr.drew:=trivial
    refine Xad 0 (.int .i64 (j:Int)) rfl (fun _ _=>by go_simp) hB ?_
    refine Xad 1 (.int .i64 (k:Int)) rfl (fun _ _=>by go_simp) hB ?_
    refine Xad 2 (.int .i64 (j:Int)) rfl (fun _ _=>by go_simp) hB ?_
    refine Xad 3 (.int .i64 (k:Int)) rfl (fun _ _=>by go_simp) hB ?_
    refine Xad 4 (.pointer (some ⟨w.heap.size+1,k,none⟩)) rfl (fun _ _=>by go_simp;exact fun hh=>absurd hh (by omega)) hB ?_
    refine Xad 7 (.string s) rfl (fun _ _=>by go_simp) hB ?_
    refine Xad 8 (.int .i64 (j:Int)) rfl (fun _ _=>by go_simp) hB ?_
    refine Xad 9 (.int .u8 (c:Int)) rfl (fun _ _=>by go_simp) hB ?_
    refine Xef (i:=5) (k:=10) (by kernel_rfl) ?_ ?_
    ·skip
     refine Xbp (v:=.int .u8 (v:Int)) rfl rfl (by go_simp) ?_
     refine⟨trivial,?_⟩
     refine Xad 6 (.int .u8 ((v:Int)*16)) rfl (fun _ _=>by go_simp) hB ?_
     refine Xak (i:=10) (by kernel_rfl) ?_
     refine Xao (f:=222) (args:=#[.int .u8 (c:Int)]) rfl rfl (by go_simp) ?_
     refine(IX.o _).mono ?_
     rintro e w' ⟨rfl,rfl⟩
     refine⟨_,rfl,trivial,?_⟩
     refine Xad 11 (.int .u8 (y:Int)) rfl (fun _ _=>by go_simp) hB ?_
     refine Xad 12 (.int .u8 (z:Int)) rfl (fun _ _=>by go_simp) hB ?_
     refine Xad 13 (.pointer (some ⟨w.heap.size+1,k,none⟩)) rfl (fun _ _=>by go_simp;exact fun hh=>absurd hh (by omega)) hB ?_
     refine Xak (i:=14) (by kernel_rfl) ?_
     refine Xco (w':=wr.drew.setCell ⟨w.heap.size+1,k,none⟩ (.int .u8 (z:Int))) rfl rfl (by go_simp) ?_
     refine⟨trivial,?_⟩
     refine wpAnyH_done (by kernel_rfl) ?_ _
     go_simp
     refine‹∀(a:Act) (w_1:World),_→_› _ _ ?_
     clear hB
     go_wp2_with fail
     go_roundg (mn-(j+1))
     case measure=>omega
     case rel=>exact⟨j+1,by omega,rfl,by go_num,G2,Hd (RW.o _ rfl),Hd (HW.o _ rfl),Hd (BW.o _ BD.o)⟩
    ·skip
     refine Xao (f:=222) (args:=#[.int .u8 (c:Int)]) rfl rfl (by go_simp) ?_
     refine(IX.o _).mono ?_
     rintro e w' ⟨rfl,rfl⟩
     refine⟨_,rfl,trivial,?_⟩
     refine Xad 11 (.int .u8 (y:Int)) rfl (fun _ _=>by go_simp) hB ?_
     refine Xak (i:=5) (by kernel_rfl) ?_
     refine Xbp (v:=.int .u8 (v:Int)) rfl rfl (by go_simp) ?_
     refine⟨trivial,?_⟩
     refine Xad 6 (.int .u8 ((v:Int)*16)) rfl (fun _ _=>by go_simp) hB ?_
     refine Xad 12 (.int .u8 (z:Int)) rfl (fun _ _=>by go_simp) hB ?_
     refine Xad 13 (.pointer (some ⟨w.heap.size+1,k,none⟩)) rfl (fun _ _=>by go_simp;exact fun hh=>absurd hh (by omega)) hB ?_
     refine Xak (i:=14) (by kernel_rfl) ?_
     refine Xco (w':=wr.drew.setCell ⟨w.heap.size+1,k,none⟩ (.int .u8 (z:Int))) rfl rfl (by go_simp) ?_
     refine⟨trivial,?_⟩
     refine wpAnyH_done (by kernel_rfl) ?_ _
     go_simp
     refine‹∀(a:Act) (w_1:World),_→_› _ _ ?_
     clear hB
     go_wp2_with fail
     go_roundg (mn-(j+1))
     case measure=>omega
     case rel=>exact⟨j+1,by omega,rfl,by go_num,G2,Hd (RW.o _ rfl),Hd (HW.o _ rfl),Hd (BW.o _ BD.o)⟩
   ·have hd':hdB c=false:=by simpa using hd
    rw[Xr6 hd'] at IX
    have NN:=Hd (NO.o (Ybp (j:=j) (by rw[LEN.o];omega) (by rw[←hc];exact hd')))
    obtain⟨ST,RES,BB⟩:=FIN.o wr zs ZCL.o hres.o hbel.o
    have ST:=Hd ST;have RES:=Hd RES;have BB:=Hd BB
    clear hd hd' hc FIN NO
    go_wp2_with (first
     |(go_at_call 222;refine(IX.o _).mono ?_;rintro e w' ⟨rfl,rfl⟩)
     |((with_reducible refine Xaf 22 rfl rfl ?_);refine⟨_,BU.o _,?_⟩)
     |((with_reducible refine Xab 22 rfl _ _ rfl ?_);refine⟨_,_,_,rfl,rfl,ST.o,?_⟩))
    exact zP (RES.o _ rfl) rfl (NN.o _ 6 (by decide) _ BB.o)
  ·obtain rfl:j=mn:=by omega
   by_cases h1:s.size<32
   ·have e1:j=s.size:=by have:=HMN.o;omega
    have NN:=Hd (NO.o (Xoq (by rw[LEN.o];omega)))
    obtain⟨ST,RES,BB⟩:=FIN.o wr zs ZCL.o hres.o hbel.o
    have ST:=Hd ST;have RES:=Hd RES;have BB:=Hd BB
    clear FIN NO
    go_wp2_with (first
     |((with_reducible refine Xaf 22 rfl rfl ?_);refine⟨_,BU.o _,?_⟩)
     |((with_reducible refine Xab 22 rfl _ _ rfl ?_);refine⟨_,_,_,rfl,rfl,ST.o,?_⟩))
    exact zP (RES.o _ rfl) rfl (NN.o _ 4 (by decide) _ BB.o)
   ·have e32:j=32:=by have:=HMN.o;omega
    by_cases h2:32<s.size
    ·have NN:=Hd (NO.o (Xoq (by rw[LEN.o];omega)))
     obtain⟨ST,RES,BB⟩:=FIN.o wr zs ZCL.o hres.o hbel.o
     have ST:=Hd ST;have RES:=Hd RES;have BB:=Hd BB
     clear FIN NO
     go_wp2_with (first
      |((with_reducible refine Xaf 22 rfl rfl ?_);refine⟨_,BU.o _,?_⟩)
      |((with_reducible refine Xab 22 rfl _ _ rfl ?_);refine⟨_,_,_,rfl,rfl,ST.o,?_⟩))
     exact zP (RES.o _ rfl) rfl (NN.o _ 5 (by decide) _ BB.o)
    ·have h32:s.size=32:=by omega
     have GG:(bs s).all hdB=true:=Xhh (fun q hq=>hg.o q (by rw[LEN.o] at hq;omega))
     have YES:=Hd (Xu3 (by rw[LEN.o];exact h32) GG)
     have OK:=Xu2 YES.o
     have hcell':=hcell.o
     rw[e32,show pn 16 (bs s) 32=uh (bs s) from Yf3 (n:=16) (by rw[LEN.o];exact h32)] at hcell'
     obtain⟨cs,hcs⟩:=xq (idA (uh (bs s)))
     have CL:Cl 16 cs:=by rw[hcs];exact Xsu OK
     rw[←hcs] at hcell'
     obtain⟨ST,RES,BB⟩:=FIN.o wr cs CL hres.o hbel.o
     have ST:=Hd ST;have RES:=Hd RES;have BB:=Hd BB
     have LD:=Hd (Xal wr (w.heap.size+1) 16 _ _ cs _ _ hcell' rfl underlying22 Xcm CL.1)
     have HCS:=Hd hcs
     clear FIN NO OK hcell' CL GG hcs hcell hres hbel hg BU START
     go_wp2_with (first
      |((with_reducible refine Xac 22 rfl _ rfl ?_);refine⟨_,_,rfl,LD.o,?_⟩)
      |((with_reducible refine Xab 22 rfl _ _ rfl ?_);refine⟨_,_,_,rfl,rfl,ST.o,?_⟩))
     exact zP (RES.o _ rfl) rfl (by unfold Xna;rw[YES.o];simp only[];rw[←HCS.o];exact⟨_,0,rfl,BB.o⟩)
def Yng:ByteArray:=⟨#[64,104,97,115,104,62]⟩
theorem Yig:bs Yng=sHash:=by decide
theorem Xvs (s:ByteArray)(w:World)(hs:s.size≤10000000):
    Calls prog 168 #[.string s] w (Xnb (bs s) w):=by
 obtain⟨zs,hzs⟩:=xq (idA zero32)
 have LEN:=Hd (Xaa s)
 have HZS:=Hd hzs
 have zc:Cl 32 zs:=by rw[hzs];exact⟨by rw[Xag];rfl,Xek _⟩
 have ZCL:=Hd zc
 have BU:Hid (∀w,(Instr.build 160 #[]).run prog w=.ok (.agg zs) w):=Hd (fun w=>by rw[hzs];kernel_rfl)
 have START:Hid ((w.alloc (.cells (Array.replicate 32 (.int .u8 0)) 160)).alloc (.cells (Array.replicate 32 (.int .u8 0)) 160)=(w.alloc (.cells zs 160)).alloc (.cells zs 160)):=Hd (by rw[hzs];rfl)
 have SZ:(prog.info? 160).map (·.size)=some 32:=by kernel_rfl
 have FIN:Hid (∀(w4:World) (cs:Array Value),Cl 32 cs→w4.heap[w.heap.size]?=some (.cells zs 160 (0,0))→Bw w w4→
     Sv 160 ⟨w.heap.size,0,none⟩ (.agg cs) w4 (w4.setRow w.heap.size cs)∧
     (∀tmps:Array Value,tmps.getD 2 undef=.pointer (some ⟨w.heap.size,0,none⟩)→(results Tryz.f168 tmps).run prog (w4.setRow w.heap.size cs)=.ok (.tuple #[.agg cs,tmps.getD 3 undef,tmps.getD 4 undef]) (w4.setRow w.heap.size cs))∧
     Bw w (w4.setRow w.heap.size cs)):=Hd (fun w4 cs hcl hg hb=>
  ⟨run_storeVar_row (P:=prog) w4 w.heap.size _ 160 zs cs hg (by rw[hcl.1];exact SZ) (by rw[hcl.1,ZCL.o.1]) hcl.2,
   fun tmps h2=>Xat results168 tmps _ w.heap.size _ _ _ _ h2 (setRow_heap w4 w.heap.size zs cs _ _ hg) underlying160 rfl (by rw[hcl.1];exact SZ),
   below_setRow hb (zL _) cs⟩)
 have NO:Hid (Xfl (bs s)=none→∀a er:Int,er≠0→∀w',Bw w w'→Xnb (bs s) w (.returned (.tuple #[.agg zs,.int .i64 a,.int .i64 er])) w'):=Hd (fun h a er he w' hb=>⟨a,er,by rw[h,HZS.o];exact⟨rfl,he⟩,hb⟩)
 have BAD:Hid (∀j,j<71→j<s.size→Xgu j ((bs s).getD j 0)=false→Xfl (bs s)=none):=Hd (fun j h1 h2 h3=>Xzb h1 (by rw[LEN.o];exact h2) h3)
 obtain⟨mn,hmn⟩:∃mn:Nat,mn=min s.size 71:=⟨_,rfl⟩
 have hm1:mn≤s.size:=by omega
 have hm2:mn≤71:=by omega
 have HMN:=Hd hmn
 obtain⟨D,hD⟩:=xq (((bs s).drop 1).take 64)
 have DAT:Hid (∀j,j<64→D.getD j 0=(bs s).getD (1+j) 0):=Hd (fun j hj=>by rw[hD,Xld hj,Xfw])
 have HD:=Hd hD
 have PZ:Hid (zs=idA (pn 32 D 0)):=Hd (by rw[hzs,Xy0];rfl)
 have SZh:=Hd SZ
 clear hzs hmn hD zc SZ
 go_enter func168,ntmps168
 go_wp2_with fail
 go_loopg [7] mn (fun k i wr=>∃j:Nat,j≤mn∧k=mn-j∧i=.int .i64 (j:Int)∧Hid (∀q,q<j→Xgu q ((bs s).getD q 0)=true)∧Hid (wr.heap[w.heap.size]?=some (.cells zs 160 (0,0)))∧Hid (wr.heap[w.heap.size+1]?=some (.cells (idA (pn 32 D (min (j-1) 64))) 160 (0,0)))∧Hid (Bw w wr))
 case atStart=>
  refine⟨0,by omega,rfl,rfl,Hd (fun q hq=>by omega),Hd ?_,Hd ?_,Hd (((zR _ _).alloc (zL _) _).alloc (by simp) _)⟩
  ·have h:((w.alloc (.cells zs 160)).alloc (.cells zs 160)).heap[w.heap.size]?=some (.cells zs 160 (0,0)):=Xae (heap_alloc_last w _)
   rw[←START.o] at h
   exact h
  ·have h:=heap_alloc_last (w.alloc (.cells zs 160)) (.cells zs 160)
   rw[World.size_alloc,←START.o] at h
   show _=some (Obj.cells (idA (pn 32 D 0)) _ _)
   rw[←PZ.o]
   exact h
 case round=>
  obtain⟨j,hj,rfl,rfl,hg,hres,hcell,hbel⟩:=hrel
  by_cases hlt:j<mn
  ·obtain⟨c,hc⟩:=xq ((bs s).getD j 0)
   have hc2:c<256:=by rw[hc];exact Xba s j
   have y1:=fun w=>Xhc s w j j rfl (by omega) c hc
   have HC:=Hd hc
   have G2:Hid (Xgu j c=true→∀q,q<j+1→Xgu q ((bs s).getD q 0)=true):=Hd (fun h q hq=>by
    by_cases e:q=j
    ·rw[e,←hc];exact h
    ·exact hg.o q (by omega))
   have NN:=Hd (fun h:Xgu j c=false=>NO.o (BAD.o j (by omega) (by omega) (by rw[←hc];exact h)))
   clear hc hg
   rcases(by omega:j=0∨(1≤j∧j≤64)∨64<j) with h0|⟨h0,h64⟩|h64
   ·have y0:=fun w=>Xhc s w 0 0 rfl (by omega) c (by rw[HC.o,h0])
    have n0:((j:Int)==0)=true:=Xa4 (by omega)
    clear y1
    by_cases e:c=60
    ·have q1:((c:Int) !=60)=false:=Xau (by omega)
     have G3:=Hd (G2.o (by unfold Xgu;rw[qP (by omega),zT e]))
     have CL2:Hid (wr.heap[w.heap.size+1]?=some (.cells (idA (pn 32 D (min (j+1-1) 64))) 160 (0,0))):=Hd (by
      have:=hcell.o
      rw[show min (j-1) 64=0 by omega] at this
      rw[show min (j+1-1) 64=0 by omega]
      exact this)
     clear e G2 NN NO FIN BU START PZ
     go_wp2_with fail
     go_roundg (mn-(j+1))
     case measure=>omega
     case rel=>exact⟨j+1,by omega,rfl,by go_num,G3,by(first|exact hres|exact Hd hres.o),by(first|exact CL2|exact Hd CL2.o),by(first|exact hbel|exact Hd hbel.o.drew)⟩
    ·have q1:((c:Int) !=60)=true:=Xam (by omega)
     have N3:=Hd (NN.o (by unfold Xgu;rw[qP (by omega),zW e]))
     obtain⟨ST,RES,BB⟩:=FIN.o wr zs ZCL.o hres.o hbel.o
     have ST:=Hd ST;have RES:=Hd RES;have BB:=Hd BB
     clear e G2 NN NO FIN
     go_wp2_with (first
      |((with_reducible refine Xaf 160 rfl rfl ?_);refine⟨_,BU.o _,?_⟩)
      |((with_reducible refine Xab 160 rfl _ _ rfl ?_);refine⟨_,_,_,rfl,rfl,ST.o,?_⟩))
     exact zP (RES.o _ rfl) rfl (N3.o _ 6 (by decide) _ BB.o)
   ·have n0:((j:Int)==0)=false:=Xaj (by omega)
    have IX:=Hd (fun w=>Xvx w c hc2)
    by_cases hd:hdB c=true
    ·rw[Xn9 hd] at IX
     obtain⟨y,hy⟩:=xq (hv c)
     have hy16:y<16:=by rw[hy];exact Xz6 c
     rw[←hy] at IX
     obtain⟨k,hk⟩:=xq ((j-1)/2)
     have hk16:k<32:=by omega
     have emin:min (j-1) 64=j-1:=by omega
     have hcl:=hcell.o
     rw[emin] at hcl
     obtain⟨v,hv'⟩:∃v,(pn 32 D (j-1))[k]?=some v:=⟨_,Xpq hk16⟩
     obtain⟨hst,hv16⟩:=Xy1 hk (by omega) hv'
     rw[DAT.o (j-1) (by omega),show 1+(j-1)=j by omega,←HC.o,←hy] at hst
     have hc1:wr.cell? ⟨w.heap.size+1,k,none⟩=some (.int .u8 (v:Int)):=by rw[cell_of_row wr _ k _ _ _ hcl];unfold idA;rw[List.getElem?_toArray,List.getElem?_map,hv'];rfl
     have hc1d:wr.drew.cell? ⟨w.heap.size+1,k,none⟩=some (.int .u8 (v:Int)):=hc1
     have hfk:wr.frozen? ⟨w.heap.size+1,k,none⟩=false:=by simp[World.frozen?,hcl]
     have hfkd:wr.drew.frozen? ⟨w.heap.size+1,k,none⟩=false:=hfk
     obtain⟨z,hz⟩:=xq (v*16+y)
     rw[←hz] at hst
     have s1:IntKind.u8.wrap ((v:Int)*16)=(v:Int)*16:=by rw[IntKind.wrap_u8];omega
     have s3:IntKind.u8.wrap (y:Int)=(y:Int):=by rw[IntKind.wrap_u8];omega
     have s2:IntKind.u8.wrap ((v:Int)*16+(y:Int))=(z:Int):=by rw[IntKind.wrap_u8];omega
     have hdv:Int.tdiv ((j:Int)-1) 2=(k:Int):=by rw[Int.tdiv_eq_ediv_of_nonneg (by omega)];omega
     have wk:IntKind.i64.wrap (k:Int)=(k:Int):=IntWalk.i64_in _ (by omega)
     have HW:Hid (∀w2:World,w2.heap[w.heap.size+1]?=wr.heap[w.heap.size+1]?→(w2.setCell ⟨w.heap.size+1,k,none⟩ (.int .u8 (z:Int))).heap[w.heap.size+1]?=some (.cells (idA (pn 32 D (min (j+1-1) 64))) 160 (0,0))):=Hd (fun w2 h2=>by
      rw[show min (j+1-1) 64=j-1+1 by omega,hst,←Xr5];exact Xd8 (h2.trans hcl) k _)
     have RW:Hid (∀w2:World,w2.heap[w.heap.size]?=wr.heap[w.heap.size]?→(w2.setCell ⟨w.heap.size+1,k,none⟩ (.int .u8 (z:Int))).heap[w.heap.size]?=some (.cells zs 160 (0,0))):=Hd (fun w2 h2=>by
      rw[Below.heap_setCell _ _ _ _ (show w.heap.size≠w.heap.size+1 by omega)];exact h2.trans hres.o)
     have BW:Hid (∀w2:World,Bw w w2→Bw w (w2.setCell ⟨w.heap.size+1,k,none⟩ (.int .u8 (z:Int)))):=Hd (fun w2 h2=>h2.setCell (p:=⟨w.heap.size+1,k,none⟩) (Nat.le_succ _) _)
     have BD:=Hd hbel.o.drew
     have G3:=Hd (G2.o (by unfold Xgu;rw[qN (by omega),qP (by omega)];exact hd))
     clear hd hy hv' hst hz hcell hres FIN NO BU START hk PZ hcl emin G2 NN
     go_wp2_with (go_at_call 221;refine(IX.o _).mono ?_;rintro e w' ⟨rfl,rfl⟩)
     go_roundg (mn-(j+1))
     case measure=>omega
     case rel=>exact⟨j+1,by omega,rfl,by go_num,G3,Hd (RW.o _ rfl),Hd (HW.o _ rfl),Hd (BW.o _ (by first|exact hbel.o|exact BD.o))⟩
    ·have hd':hdB c=false:=by simpa using hd
     rw[Xr6 hd'] at IX
     have N3:=Hd (NN.o (by unfold Xgu;rw[qN (by omega),qP (by omega)];exact hd'))
     obtain⟨ST,RES,BB⟩:=FIN.o wr zs ZCL.o hres.o hbel.o
     have ST:=Hd ST;have RES:=Hd RES;have BB:=Hd BB
     clear hd hd' FIN NO G2 NN
     go_wp2_with (first
      |(go_at_call 221;refine(IX.o _).mono ?_;rintro e w' ⟨rfl,rfl⟩)
      |((with_reducible refine Xaf 160 rfl rfl ?_);refine⟨_,BU.o _,?_⟩)
      |((with_reducible refine Xab 160 rfl _ _ rfl ?_);refine⟨_,_,_,rfl,rfl,ST.o,?_⟩))
     exact zP (RES.o _ rfl) rfl (N3.o _ 6 (by decide) _ BB.o)
   ·have n0:((j:Int)==0)=false:=Xaj (by omega)
    obtain⟨x,hx⟩:=xq (sHash.getD (j-65) 0)
    generalize hE:({data:=#[64,104,97,115,104,62]}:ByteArray)=E
    have hE2:E=Yng:=hE.symm
    have es:E.size=6:=by rw[hE2];rfl
    have y2:=fun w=>Xhc E w ((j:Int)-65) (j-65) (by omega) (by omega) x (by rw[hE2,Yig];exact hx)
    have HE:=Hd hE
    clear hE hE2
    have wk:IntKind.i64.wrap ((j:Int)-65)=(j:Int)-65:=IntWalk.i64_in _ (by omega)
    by_cases e:c=x
    ·subst e
     have q1:((c:Int) !=(c:Int))=false:=Xau rfl
     have G3:=Hd (G2.o (by unfold Xgu;rw[qN (by omega),qN (by omega),←hx,zT rfl]))
     have CL2:Hid (wr.heap[w.heap.size+1]?=some (.cells (idA (pn 32 D (min (j+1-1) 64))) 160 (0,0))):=Hd (by
      have:=hcell.o
      rw[show min (j-1) 64=64 by omega] at this
      rw[show min (j+1-1) 64=64 by omega]
      exact this)
     clear G2 NN NO FIN BU START PZ hx hcell
     go_upto_region 6 with fail
     refine wp_region_still_lit (by kernel_rfl) (by kernel_rfl) ?_
     repeat still_step
     refine wpStill_nil ?_
     go_wp2_with fail
     have hE:=HE.o
     subst hE
     go_roundg (mn-(j+1))
     case measure=>omega
     case rel=>exact⟨j+1,by omega,rfl,by go_num,G3,by(first|exact hres|exact Hd hres.o),by(first|exact CL2|exact Hd CL2.o),by(first|exact hbel|exact Hd hbel.o.drew)⟩
    ·have q1:((c:Int) !=(x:Int))=true:=Xam (by omega)
     have N3:=Hd (NN.o (by unfold Xgu;rw[qN (by omega),qN (by omega),←hx,zW e]))
     obtain⟨ST,RES,BB⟩:=FIN.o wr zs ZCL.o hres.o hbel.o
     obtain⟨ST2,RES2,BB2⟩:=FIN.o wr.drew zs ZCL.o hres.o hbel.o.drew
     have ST2:=Hd ST2;have RES2:=Hd RES2;have BB2:=Hd BB2
     have ST:=Hd ST;have RES:=Hd RES;have BB:=Hd BB
     clear e G2 NN NO FIN hx
     go_upto_region 6 with fail
     refine wp_region_still_lit (by kernel_rfl) (by kernel_rfl) ?_
     repeat still_step
     refine wpStill_nil ?_
     go_wp2_with (first
      |((with_reducible refine Xaf 160 rfl rfl ?_);refine⟨_,BU.o _,?_⟩)
      |((with_reducible refine Xab 160 rfl _ _ rfl ?_);first|(refine⟨_,_,_,rfl,rfl,ST.o,?_⟩)|(refine⟨_,_,_,rfl,rfl,ST2.o,?_⟩)))
     first
      |exact zP (RES.o _ rfl) rfl (N3.o _ 6 (by decide) _ BB.o)
      |exact zP (RES2.o _ rfl) rfl (N3.o _ 6 (by decide) _ BB2.o)
  ·obtain rfl:j=mn:=by omega
   by_cases h1:s.size<71
   ·have e1:j=s.size:=by have:=HMN.o;omega
    have NN:=Hd (NO.o (Xn2 (by rw[LEN.o];omega)))
    obtain⟨ST,RES,BB⟩:=FIN.o wr zs ZCL.o hres.o hbel.o
    have ST:=Hd ST;have RES:=Hd RES;have BB:=Hd BB
    clear FIN NO
    go_wp2_with (first
     |((with_reducible refine Xaf 160 rfl rfl ?_);refine⟨_,BU.o _,?_⟩)
     |((with_reducible refine Xab 160 rfl _ _ rfl ?_);refine⟨_,_,_,rfl,rfl,ST.o,?_⟩))
    exact zP (RES.o _ rfl) rfl (NN.o _ 4 (by decide) _ BB.o)
   ·have e71:j=71:=by have:=HMN.o;omega
    by_cases h2:71<s.size
    ·have NN:=Hd (NO.o (Xn2 (by rw[LEN.o];omega)))
     obtain⟨ST,RES,BB⟩:=FIN.o wr zs ZCL.o hres.o hbel.o
     have ST:=Hd ST;have RES:=Hd RES;have BB:=Hd BB
     clear FIN NO
     go_wp2_with (first
      |((with_reducible refine Xaf 160 rfl rfl ?_);refine⟨_,BU.o _,?_⟩)
      |((with_reducible refine Xab 160 rfl _ _ rfl ?_);refine⟨_,_,_,rfl,rfl,ST.o,?_⟩))
     exact zP (RES.o _ rfl) rfl (NN.o _ 5 (by decide) _ BB.o)
    ·have h71:s.size=71:=by omega
     have GG:∀q,q<71→Xgu q ((bs s).getD q 0)=true:=fun q hq=>hg.o q (by omega)
     have YES:=Hd (Xud (by rw[LEN.o];exact h71) GG)
     have OK:=Xmp YES.o
     have hcell':=hcell.o
     have DL:D.length=2*32:=by rw[HD.o,List.length_take,List.length_drop,LEN.o,h71];rfl
     rw[show min (j-1) 64=2*32 by omega,Yf3 DL,HD.o] at hcell'
     obtain⟨cs,hcs⟩:=xq (idA (uh (((bs s).drop 1).take 64)))
     have CL:Cl 32 cs:=by rw[hcs];exact⟨by rw[Xag,OK.len],Xek _⟩
     rw[←hcs] at hcell'
     obtain⟨ST,RES,BB⟩:=FIN.o wr cs CL hres.o hbel.o
     have ST:=Hd ST;have RES:=Hd RES;have BB:=Hd BB
     have LD:=Hd (Xal wr (w.heap.size+1) 32 _ _ cs _ _ hcell' rfl underlying160 SZh.o CL.1)
     have HCS:=Hd hcs
     clear FIN NO OK hcell' CL GG hcs hcell hres hbel hg BU START DL
     go_wp2_with (first
      |((with_reducible refine Xac 160 rfl _ rfl ?_);refine⟨_,_,rfl,LD.o,?_⟩)
      |((with_reducible refine Xab 160 rfl _ _ rfl ?_);refine⟨_,_,_,rfl,rfl,ST.o,?_⟩))
     exact zP (RES.o _ rfl) rfl (by unfold Xnb;rw[YES.o];simp only[];rw[←HCS.o];exact⟨_,0,rfl,BB.o⟩)
theorem Xrg (w:World)(v:Value)(gs:List ByteArray)(hr:SRow w v gs)(hl:gs.length≤1000000)(hz:∀g∈gs,g.size≤1000000):
    zJ 27 #[v] w (.int .i64 (Xbt (gs.map bs):Nat)):=by
 obtain⟨T,hT⟩:=xq (Xbt (gs.map bs))
 rw[←hT]
 have C:=Hd (Xvt w v gs hr hl hz)
 obtain⟨a,cap,rfl,hc,_⟩:=hr
 obtain⟨m,hm⟩:=xq gs.length
 rw[←hm] at hc C hl⊢
 by_cases h0:m=0
 ·have T4:Hid (T=4):=Hd (by rw[hT];unfold Xbt;rw[qP];rw[hm] at h0;rw[List.length_eq_zero_iff.1 h0];rfl)
  have q1:((m:Int)==0)=true:=Xa4 (by omega)
  clear hT hm hz C
  go_enter func27,ntmps27
  go_wp2_with fail
  go_ret
  exact⟨by rw[T4.o];rfl,zR _ _⟩
 ·have TL:Hid (T=Xcd Xbf (gs.map bs)):=Hd (by rw[hT];unfold Xbt;rw[qN];intro e;exact h0 (by rw[hm,←List.length_map (f:=bs),e];rfl))
  have q1:((m:Int)==0)=false:=Xaj (by omega)
  clear hT hm hz
  go_enter func27,ntmps27
  go_wp2_with fail
  refine C.o.mono ?_
  rintro e w2 ⟨rfl,hb2⟩
  have B2:=Hd hb2
  clear hb2 C
  go_wp2_with fail
  go_ret
  exact⟨by rw[TL.o];rfl,B2.o⟩
theorem Xuf (k:Nat):∀(a b:List Nat),a.take k=b.take k→k≤a.length→k≤b.length→ltL a b=ltL (a.drop k) (b.drop k):=by
 induction k with
 |zero=>intros;simp
 |succ k ih=>
  intro a b h ha hb
  match a,b with
  |[],_=>simp at ha
  |_::_,[]=>simp at hb
  |x::a,y::b=>
   simp only[List.take_succ_cons,List.cons.injEq] at h
   obtain⟨rfl,h⟩:=h
   simp only[List.drop_succ_cons]
   rw[←ih a b h (by simpa using ha) (by simpa using hb)]
   simp[ltL]
theorem Yd2 {a b:List Nat}(h:a.take 16=b.take 16)(ha:a.length=16)(hb:b.length=16):ltL a b=false:=by
 rw[Xuf 16 a b h (by omega) (by omega),List.drop_of_length_le (by omega),List.drop_of_length_le (by omega)]
 rfl
theorem Ykj {a b:List Nat}{k x y:Nat}(h:a.take k=b.take k)(ha:a.length=16)(hb:b.length=16)(hk:k<16)(hx:x=a.getD k 0)(hy:y=b.getD k 0)(hne:x≠y):ltL a b=decide (x<y):=by
 rw[Xuf k a b h (by omega) (by omega),List.drop_eq_getElem_cons (by omega:k<a.length),List.drop_eq_getElem_cons (by omega:k<b.length)]
 have e1:a[k]=x:=by rw[hx];simp[List.getD,show k<a.length by omega]
 have e2:b[k]=y:=by rw[hy];simp[List.getD,show k<b.length by omega]
 simp[ltL,e1,e2,hne]
theorem Xx1 {a b:List Nat}{k x:Nat}(h:a.take k=b.take k)(ha:a.length=16)(hb:b.length=16)(hk:k<16)(hx:x=a.getD k 0)(hy:x=b.getD k 0):a.take (k+1)=b.take (k+1):=by
 rw[List.take_succ_eq_append_getElem (by omega),List.take_succ_eq_append_getElem (by omega),h]
 have e1:a[k]=x:=by rw[hx];simp[List.getD,show k<a.length by omega]
 have e2:b[k]=x:=by rw[hy];simp[List.getD,show k<b.length by omega]
 rw[e1,e2]
theorem Xym (w:World)(a:Option Addr)(cap:Nat)(ids:List (List Nat))(hn:ids.length≤1000000)(hA:Yjl w a ids)(hok:∀x∈ids,AuOk x):
    Rz 223 #[.slice a ids.length cap] w (.bool (Xmy ids)):=by
 obtain⟨n,hn'⟩:=xq ids.length
 have HN:=Hd hn'
 rw[←hn'] at hn⊢
 have HA:=Hd hA;have HOK:=Hd hok
 clear hn' hA hok
 go_enter func223,ntmps223
 go_wp2_with fail
 go_loopg [3,4] n (fun k i _ wr=>∃j:Nat,(j+1≤n∨j=0)∧k=n-j∧i=.int .i64 ((j:Int)+1)∧Hid (∀q (h:q+1<ids.length),q<j→ltL ids[q] ids[q+1]=true)∧Hid (Dr w wr))
 case atStart=>exact⟨0,.inr rfl,rfl,rfl,Hd (fun q h hq=>by omega),Hd (Dr.refl w)⟩
 case round=>
  obtain⟨j,hj,rfl,rfl,hg,hdr⟩:=hrel
  by_cases hlt:j+1<n
  ·have hl:j+1<ids.length:=by rw[←HN.o];exact hlt
   obtain⟨b,off,rfl,hcells⟩:=HA.o (fun e=>by rw[e] at hl;simp at hl)
   obtain⟨xa,hxa⟩:=xq (ids[j]'(by omega))
   obtain⟨xb,hxb⟩:=xq (ids[j+1])
   have o1:=HOK.o xa (by rw[hxa];exact zG _)
   have o2:=HOK.o xb (by rw[hxb];exact zG _)
   have CA:=Hd (fun k u (hu:(idA xa)[k]?=some u)=>hcells j (by omega) k u (by rw[←hxa];exact hu))
   have CB:=Hd (fun k u (hu:(idA xb)[k]?=some u)=>hcells (j+1) hl k u (by rw[←hxb];exact hu))
   have NO:Hid (ltL xa xb=false→Xmy ids=false):=Hd (fun h=>Xzz ids j hl (by rw[←hxa,←hxb];exact h))
   have G2:Hid (ltL xa xb=true→∀q (h:q+1<ids.length),q<j+1→ltL ids[q] ids[q+1]=true):=Hd (fun ht q h hq=>by
    by_cases e:q=j
    ·subst e;rw[←hxa,←hxb];exact ht
    ·exact hg.o q h (by omega))
   have O1:=Hd o1;have O2:=Hd o2
   have w1:IntKind.i64.wrap ((j:Int)+1-1)=(j:Int):=by rw[show(j:Int)+1-1=(j:Int) by omega];exact IntWalk.i64_in _ (by omega)
   have w2:IntKind.i64.wrap ((j:Int)+1+1)=(j:Int)+1+1:=IntWalk.i64_in _ (by omega)
   have w0:IntKind.i64.wrap (j:Int)=(j:Int):=IntWalk.i64_in _ (by omega)
   have p0:(0:Int)≤(j:Int)+1:=by omega
   have p1:(j:Int)+1<(n:Int):=by omega
   have p2:(j:Int)<(n:Int):=by omega
   clear hcells hl o1 o2 HA HOK hg hj hxa hxb
   go_wp2_with fail
   go_loopg [4] 16 (fun kk v wr=>∃k:Nat,k≤16∧kk=16-k∧v=.int .i64 (k:Int)∧Hid (xa.take k=xb.take k)∧Hid (Dr w wr))
   case atStart=>exact⟨0,by omega,rfl,rfl,Hd (by simp),hdr⟩
   case round=>
    clear hdr
    obtain⟨k,hk,rfl,rfl,hs,hdr⟩:=hrel
    by_cases hk16:k<16
    ·obtain⟨x,hx⟩:=xq (xa.getD k 0)
     obtain⟨y,hy⟩:=xq (xb.getD k 0)
     have hka:k<xa.length:=by rw[O1.o.len];exact hk16
     have hki:(k:Int)<16:=by omega
     have hki0:(0:Int)≤(k:Int):=by omega
     have hkb:k<xb.length:=by rw[O2.o.len];exact hk16
     have cA:wr.cell? ⟨b,off+j*16+k,none⟩=some (.int .u8 (x:Int)):=by
      obtain⟨p,hp⟩:=hdr.o
      rw[hp]
      exact CA.o k _ (by unfold idA;rw[List.getElem?_toArray,List.getElem?_map,List.getElem?_eq_getElem hka,hx];simp[List.getD,hka];rfl)
     have cB:wr.cell? ⟨b,off+(j+1)*16+k,none⟩=some (.int .u8 (y:Int)):=by
      obtain⟨p,hp⟩:=hdr.o
      rw[hp]
      exact CB.o k _ (by unfold idA;rw[List.getElem?_toArray,List.getElem?_map,List.getElem?_eq_getElem hkb,hy];simp[List.getD,hkb];rfl)
     obtain⟨wq,hwq⟩:=xq wr.drew
     obtain⟨wp,hwp⟩:=xq wq.drew
     have cAd:wq.cell? ⟨b,off+j*16+k,none⟩=some (.int .u8 (x:Int)):=by rw[hwq];exact cA
     have cBd:wq.cell? ⟨b,off+(j+1)*16+k,none⟩=some (.int .u8 (y:Int)):=by rw[hwq];exact cB
     have cAe:wp.cell? ⟨b,off+j*16+k,none⟩=some (.int .u8 (x:Int)):=by rw[hwp];exact cAd
     have cBe:wp.cell? ⟨b,off+(j+1)*16+k,none⟩=some (.int .u8 (y:Int)):=by rw[hwp];exact cBd
     have HQ:=Hd hwq;have HP:=Hd hwp
     have DQ:Hid (Dr w wq):=Hd (by rw[hwq];exact hdr.o.drewN 1)
     have DP:Hid (Dr w wp):=Hd (by rw[hwp];exact DQ.o.drewN 1)
     clear hwq hwp cA cB
     by_cases e:x=y
     ·subst e
      have q1:((x:Int)==(x:Int))=true:=Xa4 rfl
      have N2:=Hd (Xx1 hs.o O1.o.len O2.o.len hk16 hx hy)
      clear hx hy hs hka hkb
      go_upto_region 5 with fail
      refine wp_region_still_lit (by kernel_rfl) (by kernel_rfl) ?_
      change wpStill _ _ wr.drew (fun a'=>Exit.then _ _ Exit.normal a' wr.drew) _ _
      rw[←HQ.o]
      repeat still_step
      refine wpStill_nil ?_
      go_wp2_with fail
      go_roundg (16-(k+1))
      case measure=>omega
      case rel=>exact⟨k+1,by omega,rfl,by go_num,N2,by(first|exact hdr|exact DQ|exact DP|exact Hd hdr.o.drew|exact Hd (hdr.o.drewN 1))⟩
     ·have q1:((x:Int)==(y:Int))=false:=Xaj (by omega)
      have q2:((k:Int)==16)=false:=Xaj (by omega)
      have LT:=Hd (Ykj hs.o O1.o.len O2.o.len hk16 hx hy e)
      clear hx hy hs hka hkb
      by_cases g:y<x
      ·have q3:decide ((y:Int)<(x:Int))=true:=zT (by omega)
       have F:=Hd (NO.o (by rw[LT.o];exact zW (by omega)))
       clear e LT NO G2
       go_upto_region 5 with fail
       refine wp_region_still_lit (by kernel_rfl) (by kernel_rfl) ?_
       change wpStill _ _ wr.drew (fun a'=>Exit.then _ _ Exit.normal a' wr.drew) _ _
       rw[←HQ.o]
       repeat still_step
       refine wpStill_nil ?_
       go_upto_region 7 with fail
       refine wp_region_still_lit (by kernel_rfl) (by kernel_rfl) ?_
       change wpStill _ _ wq.drew (fun a'=>Exit.then _ _ Exit.normal a' wq.drew) _ _
       rw[←HP.o]
       repeat still_step
       refine wpStill_nil ?_
       go_wp2_with fail
       go_ret
       exact⟨by rw[F.o];rfl,by(first|exact hdr.o|exact DQ.o|exact DP.o|exact hdr.o.drew|exact hdr.o.drewN _)⟩
      ·have q3:decide ((y:Int)<(x:Int))=false:=zW (by omega)
       have F:=Hd (G2.o (by rw[LT.o];exact zT (by omega)))
       clear e LT NO G2
       go_upto_region 5 with fail
       refine wp_region_still_lit (by kernel_rfl) (by kernel_rfl) ?_
       change wpStill _ _ wr.drew (fun a'=>Exit.then _ _ Exit.normal a' wr.drew) _ _
       rw[←HQ.o]
       repeat still_step
       refine wpStill_nil ?_
       go_upto_region 7 with fail
       refine wp_region_still_lit (by kernel_rfl) (by kernel_rfl) ?_
       change wpStill _ _ wq.drew (fun a'=>Exit.then _ _ Exit.normal a' wq.drew) _ _
       rw[←HP.o]
       repeat still_step
       refine wpStill_nil ?_
       go_wp2_with fail
       go_roundg (n-(j+1))
       case measure=>omega
       case rel=>exact⟨j+1,.inl hlt,rfl,by go_num,F,by(first|exact hdr|exact DQ|exact DP|exact Hd hdr.o.drew|exact Hd (hdr.o.drewN _))⟩
    ·obtain rfl:k=16:=by omega
     obtain⟨wq,hwq⟩:=xq wr.drew
     obtain⟨wp,hwp⟩:=xq wq.drew
     have HQ:=Hd hwq;have HP:=Hd hwp
     have DQ:Hid (Dr w wq):=Hd (by rw[hwq];exact hdr.o.drewN 1)
     have DP:Hid (Dr w wp):=Hd (by rw[hwp];exact DQ.o.drewN 1)
     clear hwq hwp
     have F:=Hd (NO.o (Yd2 hs.o O1.o.len O2.o.len))
     clear NO G2 hs
     go_upto_region 5 with fail
     refine wp_region_held (S:=fun _=>True) (by kernel_rfl) ?_
     change wpAnyH _ _ _ _ _ _ _ _ wr.drew
     rw[←HQ.o]
     have hB:(fun _:World=>True) wq:=trivial
     refine Xad 0 (.int .i64 16) rfl (fun _ _=>by go_simp) hB ?_
     refine Xad 1 (.bool false) rfl (fun _ _=>by go_simp) hB ?_
     refine Xad 2 (.bool false) rfl (fun _ _=>by go_simp) hB ?_
     refine Xcl 3 rfl hB ?_
     refine Xcl 4 rfl hB ?_
     refine Xcl 5 rfl hB ?_
     refine Xcl 6 rfl hB ?_
     refine Xcl 7 rfl hB ?_
     refine Xcl 8 rfl hB ?_
     refine Xcl 9 rfl hB ?_
     refine Xcl 10 rfl hB ?_
     refine Xcl 11 rfl hB ?_
     refine Xcl 12 rfl hB ?_
     refine Xcl 13 rfl hB ?_
     refine Xcl 14 rfl hB ?_
     refine Xcl 15 rfl hB ?_
     refine Xcl 16 rfl hB ?_
     refine Xad 17 (.bool false) rfl (fun _ _=>by go_simp) hB ?_
     refine wpAnyH_done (by kernel_rfl) ?_ _
     go_simp
     refine‹∀(a:Act) (w_1:World),_→_› _ _ ?_
     clear hB
     go_upto_region 7 with fail
     refine wp_region_held (S:=fun _=>True) (by kernel_rfl) ?_
     change wpAnyH _ _ _ _ _ _ _ _ wq.drew
     rw[←HP.o]
     have hB:(fun _:World=>True) wp:=trivial
     refine Xad 0 (.int .i64 16) rfl (fun _ _=>by go_simp) hB ?_
     refine Xad 1 (.bool true) rfl (fun _ _=>by go_simp) hB ?_
     refine Xad 2 (.bool true) rfl (fun _ _=>by go_simp) hB ?_
     refine Xcl 3 rfl hB ?_
     refine Xcl 4 rfl hB ?_
     refine Xcl 5 rfl hB ?_
     refine Xcl 6 rfl hB ?_
     refine Xcl 7 rfl hB ?_
     refine Xcl 8 rfl hB ?_
     refine Xcl 9 rfl hB ?_
     refine Xcl 10 rfl hB ?_
     refine Xcl 11 rfl hB ?_
     refine Xcl 12 rfl hB ?_
     refine Xcl 13 rfl hB ?_
     refine Xcl 14 rfl hB ?_
     refine Xcl 15 rfl hB ?_
     refine Xcl 16 rfl hB ?_
     refine Xad 17 (.bool true) rfl (fun _ _=>by go_simp) hB ?_
     refine wpAnyH_done (by kernel_rfl) ?_ _
     go_simp
     refine‹∀(a:Act) (w_1:World),_→_› _ _ ?_
     clear hB
     go_wp2_with fail
     go_ret
     exact⟨by rw[F.o];rfl,by(first|exact hdr.o|exact DQ.o|exact DP.o|exact hdr.o.drew|exact hdr.o.drewN _)⟩
  ·have YES:=Hd (Xr3 ids (fun i h=>hg.o i h (by rw[←HN.o] at h;omega)))
   go_wp2_with fail
   go_ret
   exact⟨by rw[YES.o];rfl,hdr.o⟩
def Xdz (s:Nat×Nat×List Nat)(t:Nat):Nat×Nat×List Nat:=if s.2.1+1=8 then(0,0,s.2.2++[2*s.1+t]) else(2*s.1+t,s.2.1+1,s.2.2)
def Xby (s:Nat×Nat×List Nat)(g:Nat):Nat→Nat×Nat×List Nat
 |0=>s
 |j+1=>Xdz (Xby s g j) (g/2^(5-j)%2)
theorem Xqk (b c t:Nat)(xs ys:List Nat):Xdz (b,c,xs++ys) t=((Xdz (b,c,ys) t).1,(Xdz (b,c,ys) t).2.1,xs++(Xdz (b,c,ys) t).2.2):=by
 unfold Xdz;split<;>simp_all
theorem Xsn (b c g:Nat)(xs ys:List Nat)(j:Nat):Xby (b,c,xs++ys) g j=((Xby (b,c,ys) g j).1,(Xby (b,c,ys) g j).2.1,xs++(Xby (b,c,ys) g j).2.2):=by
 induction j with
 |zero=>rfl
 |succ j ih=>rw[Xby,ih,Xqk];rfl
theorem Ym4:∀c:Fin 4,∀b:Fin 64,b.val<2^(2*c.val)→∀g:Fin 64,Xby (b.val,2*c.val,[]) g.val 6=Xbb (b.val,2*c.val,[]) g.val:=by decide+kernel
theorem Xsp {s:Nat×Nat×List Nat}{g:Nat}(hc:s.2.1<8)(hev:s.2.1%2=0)(hb:s.1<2^s.2.1)(hg:g<64):Xby s g 6=Xbb s g:=by
 obtain⟨b,c,xs⟩:=s
 simp only at hc hev hb
 have h1:Xby (b,c,xs) g 6=Xby (b,c,xs++[]) g 6:=by simp
 have h2:Xbb (b,c,xs) g=Xb5 id 8 16 (b*2^6+g) (c+6) (xs++[]):=by simp[Xbb]
 have hb64:b<64:=Nat.lt_of_lt_of_le hb (by have:2^c≤2^6:=Nat.pow_le_pow_right (by omega) (by omega)
                                           omega)
 have e:c=2*(c/2):=by omega
 have h3:=Ym4 ⟨c/2,by omega⟩ ⟨b,hb64⟩ (by simp only;rw[←e];exact hb) ⟨g,hg⟩
 simp only[←e] at h3
 rw[h1,h2,Xsn,Xqg,h3]
 rfl
theorem Xso {s:Nat×Nat×List Nat}{g:Nat}(hc:s.2.1<8)(hb:s.1<2^s.2.1)(j:Nat):(Xby s g j).2.1<8∧(Xby s g j).1<2^(Xby s g j).2.1∧(Xby s g j).2.2.length≤s.2.2.length+j:=by
 induction j with
 |zero=>exact⟨hc,hb,by simp[Xby]⟩
 |succ j ih=>
  rw[Xby]
  generalize Xby s g j=r at*
  unfold Xdz
  have ht:g/2^(5-j)%2<2:=Nat.mod_lt _ (by omega)
  split
  ·simp;omega
  ·refine⟨by simp;omega,?_,by simp;omega⟩
   simp only[Nat.pow_succ]
   omega
theorem Yey (l:List Nat)(hl:∀x∈l,x<64):(Xep l).2.1%2=0:=by have:=(Xlk l hl).2.2;omega
theorem Xk9 (l:List Nat)(i:Nat)(hi:i<l.length):Xbk l≤i↔(l.length%4=0∧l.getD i 0=61∧(i=l.length-1∨(i=l.length-2∧l.getD (l.length-1) 0=61))):=by
 unfold Xbk
 by_cases h4:l.length%4=0
 ·by_cases hl:l.getD (l.length-1) 0=61
  ·rw[qN (by omega)]
   by_cases h2:l.getD (l.length-2) 0=61
   ·rw[qP h2]
    constructor
    ·intro h
     refine⟨h4,?_,by omega⟩
     rcases(by omega:i=l.length-1∨i=l.length-2) with rfl|rfl
     ·exact hl
     ·exact h2
    ·rintro⟨_,_,h⟩;omega
   ·rw[qN h2]
    constructor
    ·intro h
     obtain rfl:i=l.length-1:=by omega
     exact⟨h4,hl,.inl rfl⟩
    ·rintro⟨_,h5,h⟩
     rcases h with rfl|⟨rfl,_⟩
     ·omega
     ·exact absurd h5 h2
  ·rw[qP (.inr (.inr hl))]
   constructor
   ·intro h;omega
   ·rintro⟨_,h5,h⟩
    rcases h with rfl|⟨_,h6⟩
    ·exact absurd h5 hl
    ·exact absurd h6 hl
 ·rw[qP (.inr (.inl h4))]
  constructor
  ·intro h;omega
  ·rintro⟨h5,_⟩;omega
theorem Xww (l:List Nat)(i:Nat)(hi:i<l.length)(h:Xbk l≤i):vOf (l.getD i 0)=none:=by
 rw[((Xk9 l i hi).1 h).2.1]
 decide+kernel
theorem Yci {c:Nat}(h:∀i,i<64→al i≠c):vOf c=none:=by
 unfold vOf
 rw[List.find?_eq_none]
 intro i hi
 simp at hi
 simpa using h i hi
theorem Ych {c i:Nat}(hi:i<64)(h:al i=c):vOf c=some i:=by
 subst h
 have:∀v:Fin 64,vOf (al v.val)=some v.val:=by decide+kernel
 exact this ⟨i,hi⟩
def Xq5 (c:Nat):Int:=match vOf c with|some v=>(v:Int)|none=>-1
theorem Xxe:alphS.size=64:=rfl
theorem Yfk:∀v:Fin 64,(bs alphS).getD v.val 0=al v.val:=by decide+kernel
theorem Ybv (j:Nat)(hlt:j<64)(w:World):(Instr.index 9 (.string alphS) (.int .i64 (j:Int))).run prog w=.ok (.int .u8 ((al j:Nat):Int)) w:=by
 rw[Xa5 9 underlying9 alphS .i64 (j:Int) j rfl (by rw[Xxe];exact hlt),Yfk ⟨j,hlt⟩]
theorem Xii (w:World)(c:Nat)(hc:c<256):
    Rx 258 #[.int .u8 (c:Int)] w (.int .i64 (Xq5 c)):=by
 go_enter func258,ntmps258
 go_wp2_with fail
 go_loopg [3] 64 (fun k i wr=>∃(j:Nat),w=wr∧j≤64∧k=64-j∧i=.int .i64 (j:Int)∧∀x,x<j→al x≠c)
 case atStart=>exact⟨0,rfl,by omega,by omega,rfl,fun x hx=>by omega⟩
 case round=>
  obtain⟨j,rfl,hj,rfl,rfl,hno⟩:=hrel
  have NO:=Hd hno
  clear hno
  by_cases hlt:j<64
  ·have hx:=fun w=>Ybv j hlt w
   unfold alphS at hx
   obtain⟨q,hq⟩:=xq (al j)
   have hq256:q<256:=by rw[hq];have:=Yfl j;omega
   rw[←hq] at hx
   have HQ:=Hd hq
   clear hq
   by_cases he:q=c
   ·have he':((q:Int)==(c:Int))=true:=Xa4 (by omega)
    have HE:=Hd he
    clear he
    go_wp2_with fail
    go_ret
    refine⟨?_,rfl⟩
    unfold Xq5
    rw[Ych hlt (by rw[←HQ.o];exact HE.o)]
    rfl
   ·have he':((q:Int)==(c:Int))=false:=Xaj (by omega)
    go_wp2_with fail
    go_roundg (64-(j+1))
    case measure=>omega
    case rel=>
     refine⟨j+1,rfl,by omega,rfl,by go_num,fun x hx=>?_⟩
     rcases(by omega:x<j∨x=j) with h|rfl
     ·exact NO.o x h
     ·rw[←HQ.o];exact he
  ·obtain rfl:j=64:=by omega
   go_wp2_with fail
   go_ret
   refine⟨?_,rfl⟩
   unfold Xq5
   rw[Yci NO.o]
   rfl
theorem Xpj (w:World)(s:ByteArray)(i:Nat)(hi:i<s.size)(hs:s.size≤1000000):
    Rx 259 #[.string s,.int .i64 (i:Int)] w (.bool (decide (Xbk (bs s)≤i))):=by
 have hiff:=Xk9 (bs s) i (by rw[Xaa];exact hi)
 rw[Xaa] at hiff
 obtain⟨c0,hc0⟩:=xq ((bs s).getD i 0)
 obtain⟨c1,hc1⟩:=xq ((bs s).getD (s.size-1) 0)
 have hx0:∀w,(Instr.index 9 (.string s) (.int .i64 (i:Int))).run prog w=.ok (.int .u8 (c0:Int)) w:=fun w=>by
  rw[Xa5 9 underlying9 s .i64 (i:Int) i rfl hi,hc0]
 have hx1:∀w,(Instr.index 9 (.string s) (.int .i64 ((s.size:Int)-1))).run prog w=.ok (.int .u8 (c1:Int)) w:=fun w=>by
  rw[Xa5 9 underlying9 s .i64 ((s.size:Int)-1) (s.size-1) (by omega) (by omega),hc1]
 rw[←hc0,←hc1] at hiff
 clear hc0 hc1
 by_cases h4:s.size%4=0
 ·have h4':((s.size:Int)%4 !=0)=false:=Xau (by omega)
  by_cases h0:c0=61
  ·have h0':((c0:Int) !=61)=false:=Xau (by omega)
   by_cases h1:i=s.size-1
   ·have hr:decide (Xbk (bs s)≤i)=true:=by rw[decide_eq_true_eq,hiff];exact⟨h4,h0,.inl h1⟩
    rw[hr]
    have h1':((i:Int)==(s.size:Int)-1)=true:=Xa4 (by omega)
    clear hiff hr h0 h1
    go_enter func259,ntmps259
    go_wp2_with fail
    go_ret
    exact⟨rfl,rfl⟩
   ·have h1':((i:Int)==(s.size:Int)-1)=false:=Xaj (by omega)
    by_cases h2:i=s.size-2
    ·have h2':((i:Int)==(s.size:Int)-2)=true:=Xa4 (by omega)
     by_cases h3:c1=61
     ·have h3':((c1:Int)==61)=true:=Xa4 (by omega)
      have hr:decide (Xbk (bs s)≤i)=true:=by rw[decide_eq_true_eq,hiff];exact⟨h4,h0,.inr ⟨h2,h3⟩⟩
      rw[hr]
      clear hiff hr h0 h1 h2 h3
      go_enter func259,ntmps259
      go_wp2_with fail
      go_ret
      exact⟨rfl,rfl⟩
     ·have h3':((c1:Int)==61)=false:=Xaj (by omega)
      have hr:decide (Xbk (bs s)≤i)=false:=by rw[decide_eq_false_iff_not,hiff];rintro⟨_,_,h|⟨_,h⟩⟩;exact h1 h;exact h3 h
      rw[hr]
      clear hiff hr h0 h1 h2 h3
      go_enter func259,ntmps259
      go_wp2_with fail
      go_ret
      exact⟨rfl,rfl⟩
    ·have h2':((i:Int)==(s.size:Int)-2)=false:=Xaj (by omega)
     have hr:decide (Xbk (bs s)≤i)=false:=by rw[decide_eq_false_iff_not,hiff];rintro⟨_,_,h|⟨h,_⟩⟩;exact h1 h;exact h2 h
     rw[hr]
     clear hiff hr h0 h1 h2
     go_enter func259,ntmps259
     go_wp2_with fail
     go_ret
     exact⟨rfl,rfl⟩
  ·have h0':((c0:Int) !=61)=true:=Xam (by omega)
   have hr:decide (Xbk (bs s)≤i)=false:=by rw[decide_eq_false_iff_not,hiff];rintro⟨_,h,_⟩;exact h0 h
   rw[hr]
   clear hiff hr h0
   go_enter func259,ntmps259
   go_wp2_with fail
   go_ret
   exact⟨rfl,rfl⟩
 ·have h4':((s.size:Int)%4 !=0)=true:=Xam (by omega)
  have hr:decide (Xbk (bs s)≤i)=false:=by rw[decide_eq_false_iff_not,hiff];rintro⟨h,_⟩;exact h4 h
  rw[hr]
  clear hiff hr
  go_enter func259,ntmps259
  go_wp2_with fail
  go_ret
  exact⟨rfl,rfl⟩
theorem Xoo (q:Nat)(h:q<256):bits .and .i64 (q:Int) 1=((q%2:Nat):Int):=by
 have:∀q:Fin 256,bits .and .i64 ((q.val:Nat):Int) 1=((q.val%2:Nat):Int):=by decide+kernel
 exact this ⟨q,h⟩
def Yf7 (j:Nat):Nat:=j-1
theorem Xve {c v:Nat}(h:vOf c=some v):Xq5 c=(v:Int):=by unfold Xq5;rw[h]
theorem Xvf {c:Nat}(h:vOf c=none):Xq5 c=-1:=by unfold Xq5;rw[h]
theorem Xnv (s:ByteArray)(w:World)(hl:s.size≤174764):
    Calls prog 224 #[.string s] w (Xov w (Xct (bs s))):=by
 obtain⟨i0,hi0,hz0,hz1,hz2⟩:=info_parts Xhw
 obtain⟨n,hn⟩:=xq (Xbk (bs s))
 have hns:n≤s.size:=by rw[hn,←Xaa];exact Xj1 _
 have HN:=Hd hn
 clear hn
 go_enter func224,ntmps224
 go_wp2_with fail
 go_loopg [5,6,7,8,9] s.size (fun k o v h la i wr=>∃(i' j b c:Nat) (xs vs:List Nat),i'≤s.size∧j=min i' n∧k=s.size-i'∧i=.int .i64 (i':Int)∧v=.int .i64 (b:Int)∧h=.int .i64 (c:Int)∧la=.int .i64 ((Yf7 j:Nat):Int)∧Xig ((bs s).take j)=some vs∧Xep vs=(b,c,xs)∧wr.ownsRow w.heap.size 5 1 o xs.length (xs.map U)∧Bw w wr)
 case atStart=>exact⟨0,0,0,0,[],[],by omega,by omega,by omega,rfl,rfl,rfl,rfl,Xta,rfl,World.ownsRow_nil _ _ _ _,zR _ _⟩
 case round=>
  obtain⟨i',j,b,c,xs,vs,hi',hj,rfl,rfl,rfl,rfl,rfl,hvs,hst,hown,hbl⟩:=hrel
  have hvl:=Xq4 hvs
  have hinv:=Xlk vs hvl.1
  have hev:=Yey vs hvl.1
  rw[hst] at hinv hev
  obtain⟨v1,v2⟩:=hvl
  obtain⟨i1,i2,i3⟩:=hinv
  simp only[List.length_take,Xaa] at v2
  simp only at i1 i2 i3 hev
  have hxl:xs.length≤900000:=by omega
  have VS:=Hd hvs;have ST:=Hd hst;have OW:=Hd hown;have BL:=Hd hbl;have I2:=Hd i2;have V1:=Hd v1;have HJ:=Hd hj;have I3:=Hd i3;have V2:=Hd v2
  obtain⟨ao,co,rfl⟩:=Xhp hown
  clear hvs hst hown hbl i2 v1 hj i3 v2
  by_cases hlt:i'<s.size
  ·have hil:i'<(bs s).length:=by rw[Xaa];exact hlt
   obtain⟨g,hg'⟩:=xq ((bs s)[i'])
   have hg:g<256:=by rw[hg'];exact Xgq s _ (zG hil)
   have hgD:(bs s).getD i' 0=g:=by rw[hg',List.getD_eq_getElem?_getD,List.getElem?_eq_getElem hil,Option.getD_some]
   have hx:∀w,(Instr.index 9 (.string s) (.int .i64 (i':Int))).run prog w=.ok (.int .u8 (g:Int)) w:=fun w=>by
    rw[Xa5 9 underlying9 s .i64 (i':Int) i' rfl hlt,hgD]
   have IP:=Hd (Xpj wr s i' hlt (by omega))
   have HG:=Hd hg';have GD:=Hd hgD
   clear hg' hgD
   cases hv:vOf g with
   |none=>
    have hval:=Xvf hv
    have HV:=Hd hv
    clear hv
    by_cases hp:n≤i'
    ·have hp':decide (Xbk (bs s)≤i')=true:=by rw[←HN.o];simpa using hp
     rw[hp'] at IP
     go_wp2_with (first|(go_at_call 258;refine(Xii _ _ hg).mono ?_;rintro e w' ⟨rfl,rfl⟩;rw[hval])|(go_at_call 259;refine IP.o.mono ?_;rintro e w' ⟨rfl,rfl⟩))
     go_roundg (s.size-(i'+1))
     case measure=>omega
     case rel=>exact⟨i'+1,j,b,c,xs,vs,by omega,by have:=HJ.o;omega,rfl,by go_num,rfl,rfl,rfl,VS.o,ST.o,OW.o,BL.o⟩
    ·have hp':decide (Xbk (bs s)≤i')=false:=by rw[←HN.o];simpa using hp
     rw[hp'] at IP
     go_wp2_with (first|(go_at_call 258;refine(Xii _ _ hg).mono ?_;rintro e w' ⟨rfl,rfl⟩;rw[hval])|(go_at_call 259;refine IP.o.mono ?_;rintro e w' ⟨rfl,rfl⟩))
     go_ret3
     have hji:j=i':=by have:=HJ.o;omega
     subst hji
     have hd:=Xuu VS.o (by rw[←HN.o];omega) hil (by rw[←HG.o];exact HV.o) (by rw[Xaa];omega)
     rw[hd]
     exact⟨_,rfl,World.ownsRow_nil _ _ _ _,BL.o⟩
   |some v=>
    have hv64:=Xxl hv
    have hval:=Xve hv
    have hp:i'<n:=by
     rcases Nat.lt_or_ge i' n with h|h
     ·exact h
     ·have:=Xww (bs s) i' hil (by rw[←HN.o];exact h)
      rw[GD.o,hv] at this
      cases this
    have HV:=Hd hv
    clear hv
    have hji:j=i':=by have:=HJ.o;omega
    subst hji
    go_wp2_with (first|(go_at_call 258;refine(Xii _ _ hg).mono ?_;rintro e w' ⟨rfl,rfl⟩;rw[hval]))
    go_loopg [5,6,7,11] 6 (fun k o v' h i wr=>∃(m b' c':Nat) (ys:List Nat),m≤6∧k=6-m∧i=.int .i64 (5-(m:Int))∧v'=.int .i64 (b':Int)∧h=.int .i64 (c':Int)∧Xby (b,c,xs) v m=(b',c',ys)∧wr.ownsRow w.heap.size 5 1 o ys.length (ys.map U)∧Bw w wr)
    case atStart=>exact⟨0,b,c,xs,by omega,by omega,rfl,rfl,rfl,rfl,OW.o,BL.o⟩
    case round=>
     obtain⟨m,b',c',ys,hm,rfl,rfl,rfl,rfl,hbr,hown,hbl⟩:=hrel
     have hbi:=Xso (s:=(b,c,xs)) (g:=v) i1 I2.o m
     rw[hbr] at hbi
     simp only at hbi
     have hyl:ys.length≤900006:=by omega
     obtain⟨ao',co',rfl⟩:=Xhp hown
     have BL2:=Hd hbl
     have hbs2:w.heap.size≤wr.heap.size:=hbl.size
     by_cases hm6:m<6
     ·obtain⟨k,hk⟩:=xq (5-m)
      obtain⟨q,hq⟩:=xq (v/2^k)
      obtain⟨t,htt⟩:=xq (q%2)
      have hq256:q<256:=by rw[hq];exact Nat.lt_of_le_of_lt (Nat.div_le_self _ _) (by omega)
      have ek:(5:Int)-(m:Int)=(k:Int):=by omega
      have e1:(v:Int)/2^k=(q:Int):=by rw[hq];push_cast;rfl
      have e2:Go.bits .and .i64 (q:Int) 1=(t:Int):=by rw[htt];exact Xoo q hq256
      have ht2:t<2:=by omega
      have hbb:b'<256:=Nat.lt_of_lt_of_le hbi.2.1 (by have:2^c'≤2^8:=Nat.pow_le_pow_right (by omega) (by omega)
                                                      omega)
      have BR:=Hd hbr;have K:=Hd hk;have Q:=Hd hq;have T:=Hd htt;have BI:=Hd hbi
      have hc8:c'<8:=hbi.1
      clear hbr hk hq htt hbi hbl
      by_cases h8:c'+1=8
      ·have h8':((c':Int)+1==8)=true:=Xa4 (by omega)
       have hv0:2*b'+t<256:=by
        have:=BI.o.2.1
        obtain rfl:c'=7:=by omega
        omega
       obtain⟨z,hz⟩:=xq (2*b'+t)
       have ez:2*(b':Int)+(t:Int)=(z:Int):=by omega
       have hz256:z<256:=by omega
       have HZ:=Hd hz
       clear hz
       go_wp2_with ((at_builtin;refine wpList_append_lies _ rfl _ _ _ rfl w.heap.size 5 i0 _ 1 1 underlying82 hi0 hz0 hz1 hz2 rfl (by omega) (.slice ao' ys.length co') ys.length (ys.map U) rfl (hown.alloc _) ⟨wr.heap.size,0,none⟩ 1 1 [.int .u8 z] rfl rfl (World.news_of_block (cs:=#[.int .u8 z]) (t:=5) (fr:=(0,0)) (zN wr _)) (by simp[Value.oneCell']) (by omega) (by unfold maxLen;omega) (by omega) (by simp;omega) (wr.heap.size+1) (by simp) ?_;intro gg cap2 w1 hown1 hgrow hat hlt2))
       go_roundg (6-(m+1))
       case measure=>omega
       case rel=>
        refine⟨m+1,0,0,ys++[z],by omega,rfl,by go_num,rfl,rfl,?_,?_,?_⟩
        ·rw[Xby,BR.o,Xdz,qP h8,←K.o,←Q.o,←T.o,HZ.o]
        ·rw[List.length_append,List.map_append];exact hown1
        ·exact(BL2.o.alloc hbs2 _).grown hgrow (by simp;omega) (fun j hj=>(hown.lt j hj).1)
      ·have h8':((c':Int)+1==8)=false:=Xaj (by omega)
       go_wp2_with fail
       go_roundg (6-(m+1))
       case measure=>omega
       case rel=>
        refine⟨m+1,2*b'+t,c'+1,ys,by omega,rfl,by go_num,by go_num,by go_num,?_,hown,BL2.o⟩
        rw[Xby,BR.o,Xdz,qN h8,←K.o,←Q.o,←T.o]
     ·obtain rfl:m=6:=by omega
      have hbe:=Xsp (s:=(b,c,xs)) (g:=v) i1 hev I2.o hv64
      rw[hbr] at hbe
      have BE:=Hd hbe
      clear hbe hbr hbi
      go_wp2_with fail
      go_roundg (s.size-(j+1))
      case measure=>omega
      case rel=>
       refine⟨j+1,j+1,b',c',ys,vs++[v],by omega,by omega,rfl,by go_num,rfl,rfl,by simp[Yf7],?_,?_,hown,BL2.o⟩
       ·rw[List.take_succ_eq_append_getElem hil]
        exact Xo3 VS.o (by rw[←HG.o];exact HV.o)
       ·rw[Xm3,ST.o,BE.o]
  ·have hjn:j=n:=by have:=HJ.o;omega
   subst hjn
   have hg:=Xh5 (l:=bs s) (by rw[←HN.o];exact VS.o) (by rw[Xaa];exact hl)
   rw[ST.o,Xaa,←HN.o] at hg
   have hbj:Hid (j=0→b=0):=fun h=>by
    have h2:=V2.o
    have h3:=I3.o
    have hc0:c=0:=by omega
    have:=I2.o
    rw[hc0] at this
    simpa using this
   have HG:=Hd hg
   clear hg
   by_cases h4:s.size%4=0
   ·have h4':((s.size:Int)%4 !=0)=false:=Xau (by omega)
    by_cases hb0:b=0
    ·have hb':((b:Int) !=0)=false:=Xau (by omega)
     go_wp2_with fail
     go_ret3
     rw[HG.o,qN (by omega),qN (by simpa using hb0)]
     exact⟨_,rfl,OW.o,BL.o⟩
    ·have hb':((b:Int) !=0)=true:=Xam (by omega)
     go_wp2_with fail
     go_ret3
     rw[HG.o,qN (by omega),qP (by simpa using hb0)]
     exact⟨_,rfl,World.ownsRow_nil _ _ _ _,BL.o⟩
   ·have h4':((s.size:Int)%4 !=0)=true:=Xam (by omega)
    go_wp2_with fail
    go_ret3
    rw[HG.o,qP h4]
    exact⟨_,rfl,World.ownsRow_nil _ _ _ _,BL.o⟩
theorem Xyl (w:World)(a:Option Addr)(cap:Nat)(ids:List (List Nat))(h0:0<ids.length)(hn:ids.length≤1000000)(hA:Yjl w a ids)(hok:∀x∈ids,AuOk x):
    Rz 171 #[.slice a ids.length cap] w (.int .i64 ((if 8<ids.length then 9 else if Xmy ids=false then 30 else 0:Nat):Int)):=by
 have C:=Hd (Xym w a cap ids hn hA hok)
 obtain⟨n,hn'⟩:=xq ids.length
 rw[←hn'] at hn C h0⊢
 obtain⟨b,hb⟩:=xq (Xmy ids)
 rw[←hb] at C⊢
 clear hA hok hn' hb
 have q1:((n:Int)==0)=false:=Xaj (by omega)
 by_cases h8:8<n
 ·rw[qP h8]
  go_enter func171,ntmps171
  go_wp2_with fail
  go_ret
  exact⟨rfl,Dr.refl _⟩
 ·rw[qN h8]
  cases b with
  |true=>
   go_enter func171,ntmps171
   go_wp2_with fail
   refine C.o.mono ?_
   rintro e w2 ⟨rfl,hd⟩
   have D:=Hd hd
   clear hd C
   go_wp2_with fail
   go_ret
   exact⟨rfl,D.o⟩
  |false=>
   go_enter func171,ntmps171
   go_wp2_with fail
   refine C.o.mono ?_
   rintro e w2 ⟨rfl,hd⟩
   have D:=Hd hd
   clear hd C
   go_wp2_with fail
   go_ret
   exact⟨rfl,D.o⟩
def Xjk (k:Nat):ByteArray:=Xaq (if k=1 then Xit else if k=2 then Xga else if k=3 then Xis else if k=4 then Xir else Xmv)
theorem Xre (w:World)(k:Nat)(h1:1≤k)(h5:k≤5):zJ 120 #[.int .i64 (k:Int)] w (.string (Xjk k)):=by
 have e1:Xjk 1=⟨#[99,97,110,99,101,108]⟩:=by decide
 have e2:Xjk 2=⟨#[97,112,112,114,111,118,101]⟩:=by decide
 have e3:Xjk 3=⟨#[100,101,102,105,110,101]⟩:=by decide
 have e4:Xjk 4=⟨#[114,101,109,111,118,101]⟩:=by decide
 have e5:Xjk 5=⟨#[114,101,107,101,121]⟩:=by decide
 rcases(by omega:k=1∨k=2∨k=3∨k=4∨k=5) with rfl|rfl|rfl|rfl|rfl
 all_goals
  first|rw[e1]|rw[e2]|rw[e3]|rw[e4]|rw[e5]
  clear e1 e2 e3 e4 e5
  go_enter func120,ntmps120
  go_wp2_with fail
  go_ret
  exact⟨rfl,by first|exact(zR _ _).alloc (zL _) _|exact(zR _ _).drew.alloc (zL _) _⟩
theorem Xgk {P:Program}{fn:Func}{p u v:Tmp}{ty:TypeId}(h:fn.results=#[.tmp u,.cell p ty,.tmp v])(tmps:Array Value)(w:World)(g:Nat)(t:TypeId)(cs:Array Value)(fr:Nat×Nat)(d:TypeDesc)
    (hp:tmps.getD p undef=.pointer (some ⟨g,0,none⟩)) (hg:w.heap[g]?=some (.cells cs t fr))
    (hu:P.underlying ty=some d) (hd:(match d with|.struct _|.array _ _=>true|_=>false)=true) (hi:(P.info? ty).map (·.size)=some cs.size):
    (results fn tmps).run P w=.ok (.tuple #[tmps.getD u undef,.agg cs,tmps.getD v undef]) w:=by
 have hp':tmps[p]?.getD undef=.pointer (some ⟨g,0,none⟩):=by simpa using hp
 simp[results,h,hp',asAddr,run_loadVar_row w g t ty cs fr d hg hu hd hi]
def Xf2 (l:List Nat)(w:World)(e:Ending)(w':World):Prop:=
 ∃(h:Int) (cs:Array Value),e=.returned (.tuple #[.int .i64 h,.agg cs,.int .i64 ((Xgl l:Nat):Int)])∧Cl 16 cs∧Bw w w'
theorem Xqp {n:Nat}{cs:Array Value}(h:Cl n cs)(j:Nat){u:Value}(hu:u.oneCell'=true):Cl n (cs.setIfInBounds j u):=by
 obtain⟨h2,h3⟩:=h
 refine⟨by simpa using h2,?_⟩
 rw[Array.all_eq_true'] at h3⊢
 intro x hx
 rw[Array.mem_iff_getElem] at hx
 obtain⟨i,hi,rfl⟩:=hx
 rw[Array.getElem_setIfInBounds (by simpa using hi)]
 split
 ·exact hu
 ·exact h3 _ (Array.getElem_mem _)
theorem Xyf (s:ByteArray)(w:World)(hs:s.size≤100000):
    Calls prog 172 #[.string s] w (Xf2 (bs s) w):=by
 obtain⟨zs,hzs⟩:=xq (idA Xdm)
 have HZS:=Hd hzs
 have ZCL:Hid (Cl 16 zs):=Hd (by rw[hzs];exact Xsu Xfm)
 obtain⟨w0,hw0⟩:=xq ((w.alloc (.cells zs 22)).alloc (.cells zs 22))
 have START:Hid ((w.alloc (.cells #[.int .u8 0,.int .u8 0,.int .u8 0,.int .u8 0,.int .u8 0,.int .u8 0,.int .u8 0,.int .u8 0,.int .u8 0,.int .u8 0,.int .u8 0,.int .u8 0,.int .u8 0,.int .u8 0,.int .u8 0,.int .u8 0] 22)).alloc (.cells #[.int .u8 0,.int .u8 0,.int .u8 0,.int .u8 0,.int .u8 0,.int .u8 0,.int .u8 0,.int .u8 0,.int .u8 0,.int .u8 0,.int .u8 0,.int .u8 0,.int .u8 0,.int .u8 0,.int .u8 0,.int .u8 0] 22)=w0):=Hd (by rw[hw0,hzs];rfl)
 have R0:w0.heap[w.heap.size]?=some (.cells zs 22 (0,0)):=by rw[hw0];exact Xae (heap_alloc_last w _)
 have L0:w0.heap[w.heap.size+1]?=some (.cells zs 22 (0,0)):=by rw[hw0];have:=heap_alloc_last (w.alloc (.cells zs 22)) (.cells zs 22);rw[World.size_alloc] at this;exact this
 have B0:Bw w w0:=by rw[hw0];exact((zR _ _).alloc (zL _) _).alloc (by simp) _
 have S0:w0.heap.size=w.heap.size+2:=by rw[hw0,World.size_alloc,World.size_alloc]
 have FIN:Hid (∀(w4:World) (cs:Array Value),Cl 16 cs→w4.heap[w.heap.size]?=some (.cells zs 22 (0,0))→Bw w w4→
     Sv 22 ⟨w.heap.size,0,none⟩ (.agg cs) w4 (w4.setRow w.heap.size cs)∧
     (∀tmps:Array Value,tmps.getD 3 undef=.pointer (some ⟨w.heap.size,0,none⟩)→(results Tryz.f172 tmps).run prog (w4.setRow w.heap.size cs)=.ok (.tuple #[tmps.getD 2 undef,.agg cs,tmps.getD 4 undef]) (w4.setRow w.heap.size cs))∧
     Bw w (w4.setRow w.heap.size cs)):=Hd (fun w4 cs hcl hg hb=>
  ⟨run_storeVar_row (P:=prog) w4 w.heap.size _ 22 zs cs hg (by rw[hcl.1];exact Xcm) (by rw[hcl.1,ZCL.o.1]) hcl.2,
   fun tmps h2=>Xgk results172 tmps _ w.heap.size _ _ _ _ h2 (setRow_heap w4 w.heap.size zs cs _ _ hg) underlying22 rfl (by rw[hcl.1];exact Xcm),
   below_setRow hb (zL _) cs⟩)
 obtain⟨xs,hxs⟩:=xq ((Xct (bs s)).1)
 obtain⟨er,her⟩:=xq ((Xct (bs s)).2.2)
 obtain⟨m,hm⟩:=xq xs.length
 obtain⟨R,hR⟩:=xq (Xgl (bs s))
 have PF:Hid (R=if er≠0 then er else if m<17 then 4 else if 17<m then 5 else if xs.getD 0 0<1∨8<xs.getD 0 0 then 2 else 0):=Hd (by rw[hR,hm,hxs,her];rfl)
 have ANS:Hid (∀(h:Int) cs w',Cl 16 cs→Bw w w'→Xf2 (bs s) w (.returned (.tuple #[.int .i64 h,.agg cs,.int .i64 (R:Int)])) w'):=Hd (fun h cs w' hc hb=>⟨h,cs,by rw[hR],hc,hb⟩)
 have hml:m≤s.size:=by rw[hm,hxs,←Xaa s];exact Xus _
 have D:=Hd (Xnv s w0 (by omega))
 have HXS:Hid (xs=(Xct (bs s)).1):=Hd hxs
 have HM:=Hd hm;have HER:=Hd her
 have HB0:=Hd B0;have HR0:=Hd R0;have HL0:=Hd L0;have HS0:=Hd S0
 have XLT:Hid (∀x∈xs,x<256):=Hd (by
  rw[hxs]
  by_cases h:(Xct (bs s)).2.2=0
  ·exact(Xoe _ h).2
  ·rw[Xfz _ h];intro x hx;cases hx)
 clear hxs her hm hR hw0 R0 L0 B0 hzs S0
 go_enter func172,ntmps172
 go_upto_region 2 with fail
 rw[START.o]
 clear START
 go_wp2_with fail
 refine D.o.mono ?_
 rintro e w1 ⟨v,rfl,hown,hb1⟩
 rw[←HXS.o,←HM.o] at hown
 rw[←HER.o]
 have HOWN:=Hd hown
 have R1:Hid (w1.heap[w.heap.size]?=some (.cells zs 22 (0,0))):=Hd ((hb1.block w.heap.size (by rw[HS0.o];omega)).trans HR0.o)
 have L1:Hid (w1.heap[w.heap.size+1]?=some (.cells zs 22 (0,0))):=Hd ((hb1.block (w.heap.size+1) (by rw[HS0.o];omega)).trans HL0.o)
 have B1:Hid (Bw w w1):=Hd (HB0.o.trans (hb1.mono (by rw[HS0.o];omega)))
 obtain⟨a,cap,hv⟩:∃a cap,v=.slice a m cap:=by
  rcases hown.2 with⟨h1,h0⟩|⟨g,cap,cur,h1,_⟩
  ·exact⟨none,0,by rw[h1,h0]⟩
  ·exact⟨_,_,h1⟩
 subst hv
 have LZ:Hid (∀wx:World,wx.heap[w.heap.size+1]?=some (.cells zs 22 (0,0))→Ld 22 ⟨w.heap.size+1,0,none⟩ wx (.agg zs)):=Hd (fun wx h=>Xal wx (w.heap.size+1) 16 _ _ zs _ _ h rfl underlying22 Xcm ZCL.o.1)
 have OTH:Hid (∀(wx:World) (cs:Array Value),(wx.setRow w.heap.size cs).heap[w.heap.size+1]?=wx.heap[w.heap.size+1]?):=Hd (fun wx cs=>setRow_other wx _ _ cs (by omega))
 clear D hown hb1 HR0 HL0 HB0
 by_cases e0:er=0
 ·have q0:((er:Int) !=0)=false:=Xau (by omega)
  by_cases h17:m<17
  ·have F:=Hd (show R=4 by rw[PF.o,qN (by omega),qP h17])
   have A4:Hid (∀(h:Int) (cs:Array Value) w',Cl 16 cs→Bw w w'→Xf2 (bs s) w (.returned (.tuple #[.int .i64 h,.agg cs,.int .i64 4])) w'):=Hd (fun h cs w' hc hb=>by have:=ANS.o h cs w' hc hb;rw[F.o] at this;exact this)
   go_upto_region 6 with fail
   obtain⟨wd,hwd⟩:=xq w1.drew
   have HS:(fun wx:World=>wx.heap[w.heap.size+1]?=some (.cells zs 22 (0,0))) wd:=by rw[hwd];exact L1.o
   have RD:wd.heap[w.heap.size]?=some (.cells zs 22 (0,0)):=by rw[hwd];exact R1.o
   have BD:Bw w wd:=by rw[hwd];exact B1.o.drew
   obtain⟨ST,RES,BB⟩:=FIN.o wd zs ZCL.o RD BD
   have HS8:(fun wx:World=>wx.heap[w.heap.size+1]?=some (.cells zs 22 (0,0))) (wd.setRow w.heap.size zs):=(OTH.o wd zs).trans HS
   have RES:=Hd RES;have BB:=Hd BB
   refine wp_region_held (S:=fun wx:World=>wx.heap[w.heap.size+1]?=some (.cells zs 22 (0,0))) (by kernel_rfl) ?_
   change wpAnyH _ _ _ _ _ _ _ _ w1.drew
   rw[←hwd]
   clear hwd FIN
   refine Xad 0 (.agg zs) rfl (fun w' hw'=>Xai (ty:=22) (x:=.tmp 5) (ad:=⟨w.heap.size+1,0,none⟩) rfl (by kernel_rfl) (LZ.o w' hw')) HS ?_
   refine Xay (i:=1) (v:=.int .i64 0) (by kernel_rfl) rfl rfl (Xap rfl (by kernel_rfl)) HS ?_
   refine Xa6 (i:=2) (by kernel_rfl) rfl rfl (Xar (t:=22) (ad:=⟨w.heap.size,0,none⟩) (u:=.agg zs) rfl (by kernel_rfl) (by kernel_rfl) ST) HS8 ?_
   refine Xay (i:=3) (v:=.int .i64 4) (by kernel_rfl) rfl rfl (Xap rfl (by kernel_rfl)) HS8 ?_
   refine wpAnyH_done (by kernel_rfl) ?_ _
   clear HS HS8 ST RD BD
   go_simp
   refine‹∀(a:Act) (w_1:World),_→_› _ _ ?_
   go_wp2_with fail
   exact zP (RES.o _ rfl) rfl (A4.o _ _ _ ZCL.o BB.o)
  by_cases h18:17<m
  ·have F:=Hd (show R=5 by rw[PF.o,qN (by omega),qN h17,qP h18])
   have A4:Hid (∀(h:Int) (cs:Array Value) w',Cl 16 cs→Bw w w'→Xf2 (bs s) w (.returned (.tuple #[.int .i64 h,.agg cs,.int .i64 5])) w'):=Hd (fun h cs w' hc hb=>by have:=ANS.o h cs w' hc hb;rw[F.o] at this;exact this)
   go_upto_region 8 with fail
   obtain⟨wd,hwd⟩:=xq w1.drew
   have HS:(fun wx:World=>wx.heap[w.heap.size+1]?=some (.cells zs 22 (0,0))) wd:=by rw[hwd];exact L1.o
   have RD:wd.heap[w.heap.size]?=some (.cells zs 22 (0,0)):=by rw[hwd];exact R1.o
   have BD:Bw w wd:=by rw[hwd];exact B1.o.drew
   obtain⟨ST,RES,BB⟩:=FIN.o wd zs ZCL.o RD BD
   have HS8:(fun wx:World=>wx.heap[w.heap.size+1]?=some (.cells zs 22 (0,0))) (wd.setRow w.heap.size zs):=(OTH.o wd zs).trans HS
   have RES:=Hd RES;have BB:=Hd BB
   refine wp_region_held (S:=fun wx:World=>wx.heap[w.heap.size+1]?=some (.cells zs 22 (0,0))) (by kernel_rfl) ?_
   change wpAnyH _ _ _ _ _ _ _ _ w1.drew
   rw[←hwd]
   clear hwd FIN
   refine Xad 0 (.agg zs) rfl (fun w' hw'=>Xai (ty:=22) (x:=.tmp 5) (ad:=⟨w.heap.size+1,0,none⟩) rfl (by kernel_rfl) (LZ.o w' hw')) HS ?_
   refine Xay (i:=1) (v:=.int .i64 0) (by kernel_rfl) rfl rfl (Xap rfl (by kernel_rfl)) HS ?_
   refine Xa6 (i:=2) (by kernel_rfl) rfl rfl (Xar (t:=22) (ad:=⟨w.heap.size,0,none⟩) (u:=.agg zs) rfl (by kernel_rfl) (by kernel_rfl) ST) HS8 ?_
   refine Xay (i:=3) (v:=.int .i64 5) (by kernel_rfl) rfl rfl (Xap rfl (by kernel_rfl)) HS8 ?_
   refine wpAnyH_done (by kernel_rfl) ?_ _
   clear HS HS8 ST RD BD
   go_simp
   refine‹∀(a:Act) (w_1:World),_→_› _ _ ?_
   go_wp2_with fail
   exact zP (RES.o _ rfl) rfl (A4.o _ _ _ ZCL.o BB.o)
  obtain rfl:m=17:=by omega
  obtain⟨g,cap',hg⟩:=ownsRow_succ HOWN.o
  cases hg
  have hgl:w0.heap.size≤g:=(HOWN.o.lt g rfl).1
  have CELL:Hid (∀j,j<17→w1.cell? ⟨g,j,none⟩=some (U (xs.getD j 0))):=Hd (fun j hj=>by
   rw[HOWN.o.cellAt j hj,List.getElem?_map]
   have hl:j<xs.length:=by rw[←HM.o];exact hj
   rw[List.getElem?_eq_getElem hl];simp[List.getD,hl])
  obtain⟨c,hc⟩:=xq (xs.getD 0 0)
  have c0:w1.cell? ⟨g,0,none⟩=some (.int .u8 (c:Int)):=by rw[CELL.o 0 (by omega),hc];rfl
  have hc2:c<256:=by rw[hc];have hl:0<xs.length:=by rw[←HM.o];omega
                     have:=XLT.o (xs[0]) (zG hl);simpa [List.getD,hl] using this
  have PG:Hid (R=if c<1∨8<c then 2 else 0):=Hd (by rw[PF.o,qN (by omega),qN h17,qN h18,hc])
  clear hc PF
  rcases(by omega:c<1∨8<c∨(1≤c∧c≤8)) with h|h|⟨h,h2⟩
  ·have F:=Hd (show R=2 by rw[PG.o,qP (.inl h)])
   have A4:Hid (∀(h:Int) (cs:Array Value) w',Cl 16 cs→Bw w w'→Xf2 (bs s) w (.returned (.tuple #[.int .i64 h,.agg cs,.int .i64 2])) w'):=Hd (fun h cs w' hc hb=>by have:=ANS.o h cs w' hc hb;rw[F.o] at this;exact this)
   go_upto_region 10 with fail
   obtain⟨wd,hwd⟩:=xq w1.drew
   have HS:(fun wx:World=>wx.heap[w.heap.size+1]?=some (.cells zs 22 (0,0))) wd:=by rw[hwd];exact L1.o
   have RD:wd.heap[w.heap.size]?=some (.cells zs 22 (0,0)):=by rw[hwd];exact R1.o
   have BD:Bw w wd:=by rw[hwd];exact B1.o.drew
   obtain⟨ST,RES,BB⟩:=FIN.o wd zs ZCL.o RD BD
   have HS8:(fun wx:World=>wx.heap[w.heap.size+1]?=some (.cells zs 22 (0,0))) (wd.setRow w.heap.size zs):=(OTH.o wd zs).trans HS
   have RES:=Hd RES;have BB:=Hd BB
   refine wp_region_held (S:=fun wx:World=>wx.heap[w.heap.size+1]?=some (.cells zs 22 (0,0))) (by kernel_rfl) ?_
   change wpAnyH _ _ _ _ _ _ _ _ w1.drew
   rw[←hwd]
   clear hwd FIN
   refine Xad 0 (.agg zs) rfl (fun w' hw'=>Xai (ty:=22) (x:=.tmp 5) (ad:=⟨w.heap.size+1,0,none⟩) rfl (by kernel_rfl) (LZ.o w' hw')) HS ?_
   refine Xay (i:=1) (v:=.int .i64 0) (by kernel_rfl) rfl rfl (Xap rfl (by kernel_rfl)) HS ?_
   refine Xa6 (i:=2) (by kernel_rfl) rfl rfl (Xar (t:=22) (ad:=⟨w.heap.size,0,none⟩) (u:=.agg zs) rfl (by kernel_rfl) (by kernel_rfl) ST) HS8 ?_
   refine Xay (i:=3) (v:=.int .i64 2) (by kernel_rfl) rfl rfl (Xap rfl (by kernel_rfl)) HS8 ?_
   refine wpAnyH_done (by kernel_rfl) ?_ _
   clear HS HS8 ST RD BD
   go_simp
   refine‹∀(a:Act) (w_1:World),_→_› _ _ ?_
   go_wp2_with fail
   exact zP (RES.o _ rfl) rfl (A4.o _ _ _ ZCL.o BB.o)
  ·have F:=Hd (show R=2 by rw[PG.o,qP (.inr h)])
   have A4:Hid (∀(h:Int) (cs:Array Value) w',Cl 16 cs→Bw w w'→Xf2 (bs s) w (.returned (.tuple #[.int .i64 h,.agg cs,.int .i64 2])) w'):=Hd (fun h cs w' hc hb=>by have:=ANS.o h cs w' hc hb;rw[F.o] at this;exact this)
   go_upto_region 10 with fail
   obtain⟨wd,hwd⟩:=xq w1.drew
   have HS:(fun wx:World=>wx.heap[w.heap.size+1]?=some (.cells zs 22 (0,0))) wd:=by rw[hwd];exact L1.o
   have RD:wd.heap[w.heap.size]?=some (.cells zs 22 (0,0)):=by rw[hwd];exact R1.o
   have BD:Bw w wd:=by rw[hwd];exact B1.o.drew
   obtain⟨ST,RES,BB⟩:=FIN.o wd zs ZCL.o RD BD
   have HS8:(fun wx:World=>wx.heap[w.heap.size+1]?=some (.cells zs 22 (0,0))) (wd.setRow w.heap.size zs):=(OTH.o wd zs).trans HS
   have RES:=Hd RES;have BB:=Hd BB
   refine wp_region_held (S:=fun wx:World=>wx.heap[w.heap.size+1]?=some (.cells zs 22 (0,0))) (by kernel_rfl) ?_
   change wpAnyH _ _ _ _ _ _ _ _ w1.drew
   rw[←hwd]
   clear hwd FIN
   refine Xad 0 (.agg zs) rfl (fun w' hw'=>Xai (ty:=22) (x:=.tmp 5) (ad:=⟨w.heap.size+1,0,none⟩) rfl (by kernel_rfl) (LZ.o w' hw')) HS ?_
   refine Xay (i:=1) (v:=.int .i64 0) (by kernel_rfl) rfl rfl (Xap rfl (by kernel_rfl)) HS ?_
   refine Xa6 (i:=2) (by kernel_rfl) rfl rfl (Xar (t:=22) (ad:=⟨w.heap.size,0,none⟩) (u:=.agg zs) rfl (by kernel_rfl) (by kernel_rfl) ST) HS8 ?_
   refine Xay (i:=3) (v:=.int .i64 2) (by kernel_rfl) rfl rfl (Xap rfl (by kernel_rfl)) HS8 ?_
   refine wpAnyH_done (by kernel_rfl) ?_ _
   clear HS HS8 ST RD BD
   go_simp
   refine‹∀(a:Act) (w_1:World),_→_› _ _ ?_
   go_wp2_with fail
   exact zP (RES.o _ rfl) rfl (A4.o _ _ _ ZCL.o BB.o)
  ·have F:=Hd (show R=0 by rw[PG.o,qN (by omega)])
   have A4:Hid (∀(h:Int) (cs:Array Value) w',Cl 16 cs→Bw w w'→Xf2 (bs s) w (.returned (.tuple #[.int .i64 h,.agg cs,.int .i64 0])) w'):=Hd (fun h cs w' hc hb=>by have:=ANS.o h cs w' hc hb;rw[F.o] at this;exact this)
   clear LZ PG
   go_wp2_with fail
   go_loopg [9] 16 (fun k i wr=>∃j:Nat,j≤16∧k=16-j∧i=.int .i64 (j:Int)∧Hid (∃cs,wr.heap[w.heap.size+1]?=some (.cells cs 22 (0,0))∧Cl 16 cs)∧Hid (wr.heap[w.heap.size]?=some (.cells zs 22 (0,0)))∧Hid (wr.heap[g]?=w1.heap[g]?)∧Hid (Bw w wr))
   case atStart=>exact⟨0,by omega,rfl,rfl,Hd ⟨zs,L1.o,ZCL.o⟩,R1,Hd rfl,B1⟩
   case round=>
    obtain⟨j,hj,rfl,rfl,hcs,hres,hgg,hbel⟩:=hrel
    obtain⟨rs,hcell,hcl⟩:=hcs.o
    by_cases hlt:j<16
    ·obtain⟨z,hz⟩:=xq (xs.getD (j+1) 0)
     have cz:wr.cell? ⟨g,j+1,none⟩=some (.int .u8 (z:Int)):=by
      have h:=CELL.o (j+1) (by omega)
      rw[←hz] at h
      have e:wr.cell? ⟨g,j+1,none⟩=w1.cell? ⟨g,j+1,none⟩:=by unfold World.cell?;simp only[hgg.o]
      exact e.trans h
     obtain⟨u,hu⟩:∃u,wr.cell? ⟨w.heap.size+1,j,none⟩=some u:=⟨rs[j]'(by rw[hcl.1];omega),by rw[cell_of_row wr _ j _ _ _ hcell];simp[hcl.1,hlt]⟩
     have hfr:wr.frozen? ⟨w.heap.size+1,j,none⟩=false:=by simp[World.frozen?,hcell]
     have k0:(0:Int)≤(j:Int):=by omega
     have k1:(j:Int)<16:=by omega
     have k2:(0:Int)≤(j:Int)+1:=by omega
     have k3:(j:Int)+1<17:=by omega
     have v0:IntKind.i64.wrap (j:Int)=(j:Int):=IntWalk.i64_in _ (by omega)
     have v1:IntKind.i64.wrap ((j:Int)+1)=(j:Int)+1:=IntWalk.i64_in _ (by omega)
     have C2:Hid (∃cs,(wr.setCell ⟨w.heap.size+1,j,none⟩ (.int .u8 (z:Int))).heap[w.heap.size+1]?=some (.cells cs 22 (0,0))∧Cl 16 cs):=Hd ⟨_,Xd8 hcell j _,Xqp hcl j rfl⟩
     have R2:Hid ((wr.setCell ⟨w.heap.size+1,j,none⟩ (.int .u8 (z:Int))).heap[w.heap.size]?=some (.cells zs 22 (0,0))):=Hd (by rw[Below.heap_setCell _ _ _ _ (show w.heap.size≠w.heap.size+1 by omega)];exact hres.o)
     have G2:Hid ((wr.setCell ⟨w.heap.size+1,j,none⟩ (.int .u8 (z:Int))).heap[g]?=w1.heap[g]?):=Hd (by rw[Below.heap_setCell _ _ _ _ (show g≠w.heap.size+1 by have:=HS0.o;omega)];exact hgg.o)
     have BW:Hid (Bw w (wr.setCell ⟨w.heap.size+1,j,none⟩ (.int .u8 (z:Int)))):=Hd (hbel.o.setCell (p:=⟨w.heap.size+1,j,none⟩) (Nat.le_succ _) _)
     clear hcs hcell hcl hz hgg hres hbel FIN CELL
     go_wp2_with fail
     go_roundg (16-(j+1))
     case measure=>omega
     case rel=>exact⟨j+1,by omega,rfl,by go_num,C2,R2,G2,BW⟩
    ·obtain rfl:j=16:=by omega
     go_upto_region 15 with fail
     obtain⟨wd,hwd⟩:=xq wr.drew
     have RL:=Hd hcl
     have cg:wd.cell? ⟨g,0,none⟩=some (.int .u8 (c:Int)):=by
      have e:wd.cell? ⟨g,0,none⟩=w1.cell? ⟨g,0,none⟩:=by
       have h:wd.heap[g]?=w1.heap[g]?:=by rw[hwd];exact hgg.o
       unfold World.cell?;simp only[h]
      exact e.trans c0
     have HS:(fun wx:World=>wx.cell? ⟨g,0,none⟩=some (.int .u8 (c:Int))∧wx.heap[w.heap.size+1]?=some (.cells rs 22 (0,0))) wd:=⟨cg,by rw[hwd];exact hcell⟩
     have RD:wd.heap[w.heap.size]?=some (.cells zs 22 (0,0)):=by rw[hwd];exact hres.o
     have BD:Bw w wd:=by rw[hwd];exact hbel.o.drew
     obtain⟨ST,RES,BB⟩:=FIN.o wd rs RL.o RD BD
     have HS8:(fun wx:World=>wx.cell? ⟨g,0,none⟩=some (.int .u8 (c:Int))∧wx.heap[w.heap.size+1]?=some (.cells rs 22 (0,0))) (wd.setRow w.heap.size rs):=⟨by
      have e:(wd.setRow w.heap.size rs).cell? ⟨g,0,none⟩=wd.cell? ⟨g,0,none⟩:=by
       have h:(wd.setRow w.heap.size rs).heap[g]?=wd.heap[g]?:=setRow_other wd _ _ rs (by have:=HS0.o;omega)
       unfold World.cell?;simp only[h]
      exact e.trans cg,(OTH.o wd rs).trans HS.2⟩
     have RES:=Hd RES;have BB:=Hd BB
     have LZ:Hid (∀wx:World,wx.heap[w.heap.size+1]?=some (.cells rs 22 (0,0))→Ld 22 ⟨w.heap.size+1,0,none⟩ wx (.agg rs)):=Hd (fun wx h=>Xal wx (w.heap.size+1) 16 _ _ rs _ _ h rfl underlying22 Xcm RL.o.1)
     have vc:IntKind.i64.wrap (c:Int)=(c:Int):=IntWalk.i64_in _ (by omega)
     refine wp_region_held (S:=fun wx:World=>wx.cell? ⟨g,0,none⟩=some (.int .u8 (c:Int))∧wx.heap[w.heap.size+1]?=some (.cells rs 22 (0,0))) (by kernel_rfl) ?_
     change wpAnyH _ _ _ _ _ _ _ _ wr.drew
     rw[←hwd]
     clear hwd FIN hcell hcl hcs hgg hres hbel CELL c0 cg
     refine Xad 0 (.slice (some ⟨g,0,none⟩) 17 cap) rfl (fun _ _=>by go_simp) HS ?_
     refine Xad 1 (.pointer (some ⟨g,0,none⟩)) rfl (fun _ _=>by go_simp) HS ?_
     refine Xad 2 (.int .u8 (c:Int)) rfl (fun w' hw'=>by obtain⟨c3,c4⟩:=hw';go_simp) HS ?_
     refine Xad 3 (.int .i64 (c:Int)) rfl (fun _ _=>by go_simp) HS ?_
     refine Xad 4 (.agg rs) rfl (fun w' hw'=>Xai (ty:=22) (x:=.tmp 5) (ad:=⟨w.heap.size+1,0,none⟩) rfl (by kernel_rfl) (LZ.o w' hw'.2)) HS ?_
     refine Xay (i:=5) (v:=.int .i64 (c:Int)) (by kernel_rfl) rfl rfl (Xap rfl (by kernel_rfl)) HS ?_
     refine Xa6 (i:=6) (by kernel_rfl) rfl rfl (Xar (t:=22) (ad:=⟨w.heap.size,0,none⟩) (u:=.agg rs) rfl (by kernel_rfl) (by kernel_rfl) ST) HS8 ?_
     refine Xay (i:=7) (v:=.int .i64 0) (by kernel_rfl) rfl rfl (Xap rfl (by kernel_rfl)) HS8 ?_
     refine wpAnyH_done (by kernel_rfl) ?_ _
     clear HS HS8 ST RD BD
     go_simp
     refine‹∀(a:Act) (w_1:World),_→_› _ _ ?_
     go_wp2_with fail
     exact zP (RES.o _ rfl) rfl (A4.o _ _ _ RL.o BB.o)
 ·have q0:((er:Int) !=0)=true:=Xam (by omega)
  have F:=Hd (show R=er by rw[PF.o,qP e0])
  have A4:Hid (∀(h:Int) (cs:Array Value) w',Cl 16 cs→Bw w w'→Xf2 (bs s) w (.returned (.tuple #[.int .i64 h,.agg cs,.int .i64 (er:Int)])) w'):=Hd (fun h cs w' hc hb=>by have:=ANS.o h cs w' hc hb;rw[F.o] at this;exact this)
  go_upto_region 4 with fail
  obtain⟨wd,hwd⟩:=xq w1.drew
  have HS:(fun wx:World=>wx.heap[w.heap.size+1]?=some (.cells zs 22 (0,0))) wd:=by rw[hwd];exact L1.o
  have RD:wd.heap[w.heap.size]?=some (.cells zs 22 (0,0)):=by rw[hwd];exact R1.o
  have BD:Bw w wd:=by rw[hwd];exact B1.o.drew
  obtain⟨ST,RES,BB⟩:=FIN.o wd zs ZCL.o RD BD
  have HS8:(fun wx:World=>wx.heap[w.heap.size+1]?=some (.cells zs 22 (0,0))) (wd.setRow w.heap.size zs):=(OTH.o wd zs).trans HS
  have RES:=Hd RES;have BB:=Hd BB
  refine wp_region_held (S:=fun wx:World=>wx.heap[w.heap.size+1]?=some (.cells zs 22 (0,0))) (by kernel_rfl) ?_
  change wpAnyH _ _ _ _ _ _ _ _ w1.drew
  rw[←hwd]
  clear hwd FIN
  refine Xad 0 (.agg zs) rfl (fun w' hw'=>Xai (ty:=22) (x:=.tmp 5) (ad:=⟨w.heap.size+1,0,none⟩) rfl (by kernel_rfl) (LZ.o w' hw')) HS ?_
  refine Xad 1 (.int .i64 (er:Int)) rfl (fun _ _=>by go_simp) HS ?_
  refine Xay (i:=2) (v:=.int .i64 0) (by kernel_rfl) rfl rfl (Xap rfl (by kernel_rfl)) HS ?_
  refine Xa6 (i:=3) (by kernel_rfl) rfl rfl (Xar (t:=22) (ad:=⟨w.heap.size,0,none⟩) (u:=.agg zs) rfl (by kernel_rfl) (by kernel_rfl) ST) HS8 ?_
  refine Xay (i:=4) (v:=.int .i64 (er:Int)) (by kernel_rfl) rfl rfl (Xap rfl (by kernel_rfl)) HS8 ?_
  refine wpAnyH_done (by kernel_rfl) ?_ _
  clear HS HS8 ST RD BD
  go_simp
  refine‹∀(a:Act) (w_1:World),_→_› _ _ ?_
  go_wp2_with fail
  exact zP (RES.o _ rfl) rfl (A4.o _ _ _ ZCL.o BB.o)
theorem Xx4 (c:Nat):∀l:List Nat,spl c l=(l.takeWhile fun x=>!decide (x=c))::(match l.dropWhile fun x=>!decide (x=c) with|[]=>[]|_::u=>spl c u)
 |[]=>rfl
 |x::t=>by
  simp only[spl]
  by_cases h:x=c
  ·rw[qP h,List.takeWhile_cons,List.dropWhile_cons];simp[h]
  ·rw[qN h,Xx4 c t,List.takeWhile_cons,List.dropWhile_cons];simp[h]
def rst (t:List Nat):List (List Nat):=match t with
 |[]=>[]
 |_::u=>spl 32 u
def Ycd (a:Nat)(x:List Nat):Nat:=if a=0 then Xid x else if a=1 then Xiu x else if a=2 then Xfi 0 1000000 x else if a=3 then(if x=Xgz∨x=Xi1 then 0 else 3) else if a=4 then Xc8 x else if a=5 then Xfi 1 1000 x else Xgl x
def Xcu (k:Nat):List Nat:=if k=1 then[0] else if k=2 then[0,1] else if k=3 then[1,2,3,4] else if k=4 then[1,2] else[5,6]
def Yl6 (k:Nat)(t:List Nat):Nat:=if k=3 then Xd9 t else fin t
def chF (k:Nat):List Nat→Bool→List Nat→Nat
 |[],_,t=>Yl6 k t
 |a::r,m,t=>if a=4∧m=false then chF k r m t else nxt t fun x t=>fe (Ycd a x) (chF k r (if a=3 then decide (x=Xi1) else m) t)
def Xha (x:List Nat):Nat:=if x=Xmv then 5 else if x=Xir then 4 else if x=Xis then 3 else if x=Xga then 2 else if x=Xit then 1 else 0
theorem Xkt {t:List Nat}{f g:List Nat→List Nat→Nat}(h:∀x t,f x t=g x t):nxt t f=nxt t g:=by
 unfold nxt;split
 ·rfl
 ·exact h _ _
theorem Yip (k t:List Nat):Xw0 k t=if Xha k=0 then 11 else chF (Xha k) (Xcu (Xha k)) false t:=by
 unfold Xw0 Xha
 by_cases h5:k=Xmv
 ·subst h5;rfl
 by_cases h4:k=Xir
 ·subst h4;rfl
 by_cases h3:k=Xis
 ·subst h3
  rw[qN (by decide),qN (by decide),qP rfl]
  show _=nxt t fun g t=>fe (Xiu g) (nxt t fun v t=>fe (Xfi 0 1000000 v) (nxt t fun m t=>fe (if m=Xgz∨m=Xi1 then 0 else 3) (if 4=4∧decide (m=Xi1)=false then Xd9 t else nxt t fun a t=>fe (Xc8 a) (Xd9 t))))
  refine Xkt fun g t=>?_
  refine congrArg (fe (Xiu g)) (Xkt fun v t=>?_)
  refine congrArg (fe (Xfi 0 1000000 v)) (Xkt fun m t=>?_)
  by_cases ho:m=Xgz
  ·subst ho;rfl
  ·by_cases hm:m=Xi1
   ·subst hm;rfl
   ·simp[ho,hm,fe]
 by_cases h2:k=Xga
 ·subst h2;rfl
 by_cases h1:k=Xit
 ·subst h1;rfl
 rw[qN h1,qN h2,qN h3,qN h4,qN h5,qN h5,qN h4,qN h3,qN h2,qN h1]
 rfl
theorem Xtx (s:List Nat)(at':Nat)(x:List Nat)(r:List (List Nat))(h:rst (s.drop at')=x::r):
    at'<s.length∧(∃u,s.drop at'=u∧u≠[]∧x=(u.drop 1).takeWhile (fun c=>!decide (c=32))∧s.drop (at'+1+x.length)=(u.drop 1).dropWhile (fun c=>!decide (c=32)))∧rst (s.drop (at'+1+x.length))=r∧at'+1+x.length≤s.length:=by
 generalize hu:s.drop at'=u at h⊢
 match u,h with
 |[],h=>simp[rst] at h
 |y::u,h=>
  have hl:at'<s.length:=by
   have:=congrArg List.length hu
   simp at this;omega
  simp only[rst] at h
  rw[Xx4] at h
  injection h with h1 h2
  have e:u=x++u.dropWhile (fun c=>!decide (c=32)):=by rw[←h1];exact(List.takeWhile_append_dropWhile).symm
  have e2:s.drop (at'+1+x.length)=u.dropWhile (fun c=>!decide (c=32)):=by
   rw[←List.drop_drop,←List.drop_drop,hu]
   show List.drop x.length u=_
   rw[e]
   simp
   rw[←e]
  refine⟨hl,⟨_,rfl,by simp,h1.symm,e2⟩,?_,?_⟩
  ·rw[e2];exact h2
  ·have:=congrArg List.length e
   have h3:=congrArg List.length hu
   simp at this h3
   omega
theorem Yir {k:Nat}{r:List Nat}{t:List Nat}:chF k (4::r) false t=chF k r false t:=by simp[chF]
theorem Ye6 {k a:Nat}{r:List Nat}{m:Bool}(h:¬(a=4∧m=false)):chF k (a::r) m []=4:=by simp only[chF];rw[qN h];rfl
theorem Yiq {k a:Nat}{r:List Nat}{m:Bool}{s:List Nat}{at':Nat}{x:List Nat}{ws:List (List Nat)}(h:¬(a=4∧m=false))(hr:rst (s.drop at')=x::ws):
    chF k (a::r) m (s.drop at')=fe (Ycd a x) (chF k r (if a=3 then decide (x=Xi1) else m) (s.drop (at'+1+x.length))):=by
 obtain⟨_,⟨u,h1,h2,h3,h4⟩,_,_⟩:=Xtx s at' x ws hr
 rw[h1,h4]
 match u,h2 with
 |y::u,_=>
  simp only[chF]
  rw[qN h]
  simp only[nxt]
  simp only[List.drop_succ_cons,List.drop_zero] at h3⊢
  rw[←h3]
theorem Xxu (p:Nat→Bool):∀s:List Nat,s.drop (s.takeWhile p).length=s.dropWhile p
 |[]=>rfl
 |x::s=>by
  simp only[List.takeWhile_cons,List.dropWhile_cons]
  split
  ·simpa using Xxu p s
  ·rfl
theorem Xw1 (s:List Nat)(hl:s.length≤1000):∃x ws,spl 32 s=x::ws∧x=s.takeWhile (fun c=>!decide (c=32))∧rst (s.drop x.length)=ws∧x.length≤s.length∧Xea s=if Xha x=0 then 11 else chF (Xha x) (Xcu (Xha x)) false (s.drop x.length):=by
 refine⟨_,_,Xx4 32 s,rfl,?_⟩
 have e:s=s.takeWhile (fun c=>!decide (c=32))++s.dropWhile (fun c=>!decide (c=32)):=(List.takeWhile_append_dropWhile).symm
 have e2:=Xxu (fun c=>!decide (c=32)) s
 rw[e2]
 refine⟨rfl,?_,?_⟩
 ·have:=congrArg List.length e;rw[List.length_append] at this;omega
 ·unfold Xea;rw[qN (by omega),Yip]
end Go.Proofs.YtjolcnopipbkhaaGreatDoor
