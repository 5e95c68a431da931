/- sha256: process. -/
import Derived.Test.YtjolcnopipbkhaaGreatDoorFo02
import Derived.Shelf.Strings.Builder1
import Derived.Shelf.Strings.Builder2
import Derived.Shelf.Strings.OnBuilder
import Derived.Shelf.Small.Strs
import Derived.Shelf.Small.Wraps
import Derived.Shelf.Strings.BuilderF
import Derived.Shelf.Utf8.RuneCount
import Derived.Shelf.Strconv.Itoa0
import Derived.Shelf.Strconv.Itoa1
import Derived.Shelf.LaysM
import Derived.Shelf.Strconv.Itoa2
import Derived.Shelf.Strconv.Itoa3
import Derived.Shelf.Strings.Search1
import Derived.Shelf.Strings.Search2
import Derived.Shelf.Strings.Search3
import Derived.Shelf.Strings.Cut
import Derived.Shelf.Strings.Count
import Derived.Shelf.Strings.Shaped
import Derived.Shelf.Strings.Prefix
import Derived.Shelf.Strings.Split
import Derived.Shelf.Strings.SplitShaped
import Derived.Shelf.Unicode.Decode
import Derived.Shelf.Strings.RuneCount
import Derived.Shelf.Strings.Explode
import Derived.Shelf.Unicode.DecodeSlow
import Derived.Shelf.Unicode.DecodeAny
import Derived.Shelf.Slices.Turned
import Derived.Shelf.Slices.Equal
import Derived.Shelf.Slices.Empties2
import Derived.Lib.Split
import Derived.Lib.SplitLaws
import Derived.Lib.Join
import Derived.Lib.IndexBytes
import Derived.Lib.ItoaMem
namespace Go.Proofs.YtjolcnopipbkhaaGreatDoor
open Go.Proofs.Tryz
open Go.RowKit Go.Maps
set_option linter.unusedVariables false
set_option maxHeartbeats 100000000
set_option maxRecDepth 100000
def VB (w:World)(b:Nat)(v:W8):Prop:=w.heap[b]?=some (.cells (wC v) 191 (0,0))
theorem Xg0 (v:W8):(wC v).size=8:=rfl
theorem Xxk (v:W8):(wC v).all (·.oneCell')=true:=by simp[wC,Value.oneCell']
theorem VB.lt {w:World}{b:Nat}{v:W8}(h:VB w b v):b<w.heap.size:=zY h
theorem VB.below {w w':World}{b:Nat}{v:W8}(h:VB w b v)(hb:Bw w w'):VB w' b v:=(hb.block b h.lt).trans h
theorem VB.load {w:World}{b:Nat}{v:W8}(h:VB w b v):Ld 191 ⟨b,0,none⟩ w (.agg (wC v)):=
 run_loadVar_row w b _ 191 _ _ _ h underlying191 rfl (by rw[Xg0];exact Xdc)
theorem VB.store {w:World}{b:Nat}{v:W8}(h:VB w b v)(v':W8):Sv 191 ⟨b,0,none⟩ (.agg (wC v')) w (w.setRow b (wC v')):=
 run_storeVar_row w b _ 191 _ _ h (by rw[Xg0];exact Xdc) (by rw[Xg0,Xg0]) (Xxk v')
theorem VB.set {w:World}{b:Nat}{v:W8}(h:VB w b v)(v':W8):VB (w.setRow b (wC v')) b v':=setRow_heap w b _ _ _ _ h
theorem VB.other {w:World}{b k:Nat}{v:W8}(h:VB w k v)(cs:Array Value)(hne:k≠b):VB (w.setRow b cs) k v:=(setRow_other w b k cs hne).trans h
theorem WB.other {w:World}{b k:Nat}{T:TypeId}{ws:List Nat}(h:WB w k T ws)(cs:Array Value)(hne:k≠b):WB (w.setRow b cs) k T ws:=(setRow_other w b k cs hne).trans h
theorem VB.setC {w:World}{b k:Nat}{v:W8}(h:VB w k v)(j:Nat)(u:Value)(hne:k≠b):VB (w.setCell ⟨b,j,none⟩ u) k v:=(Xkr w b j k u hne).trans h
theorem Yhh {h:W8}{ws:List Nat}(hh:h.Ok)(hw:L16 ws)(n:Nat):(Xnw h ws n).1.Ok∧L16 (Xnw h ws n).2:=by
 induction n with
 |zero=>exact⟨hh,hw⟩
 |succ n ih=>
  rw[Xev]
  refine⟨Yfz ih.1 _ _,?_⟩
  show L16 (Xif _ n)
  unfold Xif
  split
  ·exact ih.2
  ·exact ih.2.set _ (Xc3 _ _)
theorem Xya:∀i,shK.getD i 0<4294967296:=fun i=>by
 by_cases hi:i<shK.length
 ·have:∀i:Fin 64,shK.getD i.val 0<4294967296:=by decide+kernel
  exact this ⟨i,hi⟩
 ·rw[List.getD_eq_getElem?_getD,List.getElem?_eq_none (by omega)];decide
theorem Xrj (w:World){h:W8}{ws:List Nat}(hh:h.Ok)(hw:L16 ws)(hE:Env w):
    zJ 133 #[.agg (wC h),.agg (wA ws)] w (.agg (wC (Xg6 h ws))):=by
 obtain⟨hs,hhs⟩:=xq (wC h)
 obtain⟨cs,hcs⟩:=xq (wA ws)
 obtain⟨zs,hzs⟩:=xq (wC ⟨0,0,0,0,0,0,0,0⟩)
 have Z0:Hid (zs=wZ):=Hd hzs
 obtain⟨w0,hw0⟩:=xq (((w.alloc (.cells hs 191)).alloc (.cells cs 196)).alloc (.cells zs 191))
 have b0:VB w0 w.heap.size h:=by unfold VB;rw[hw0,←hhs];exact Xae (Xae (heap_alloc_last w _))
 have b1:WB w0 (w.heap.size+1) 196 ws:=by
  unfold WB;rw[hw0,←hcs];have:=heap_alloc_last (w.alloc (.cells hs 191)) (.cells cs 196);rw[World.size_alloc] at this;exact Xae this
 have b2:VB w0 (w.heap.size+2) ⟨0,0,0,0,0,0,0,0⟩:=by
  unfold VB;rw[hw0,←hzs];have:=heap_alloc_last ((w.alloc (.cells hs 191)).alloc (.cells cs 196)) (.cells zs 191);rw[World.size_alloc,World.size_alloc] at this;exact this
 have sz0:w0.heap.size=w.heap.size+3:=by rw[hw0];simp
 have BW:Hid (Bw w w0):=Hd (by rw[hw0];exact(((zR _ _).alloc (zL _) _).alloc (by simp) _).alloc (by simp;omega) _)
 have W0:=Hd hw0
 have LD:=Hd b0.load
 obtain⟨w1,hw1⟩:=xq (w0.alloc (.cells zs 191))
 have c3:VB w1 (w.heap.size+3) ⟨0,0,0,0,0,0,0,0⟩:=by unfold VB;rw[hw1,←hzs,←sz0];exact heap_alloc_last w0 _
 have ST:=Hd (c3.store h)
 have BW1:Bw w0 w1:=by rw[hw1];exact(zR _ _).alloc (zL _) _
 have HB0:=Hd ((b0.below BW1).other (wC h) (show w.heap.size≠w.heap.size+3 by omega))
 have HB1:=Hd ((b1.below BW1).other (wC h) (show w.heap.size+1≠w.heap.size+3 by omega))
 have HB2:=Hd ((b2.below BW1).other (wC h) (show w.heap.size+2≠w.heap.size+3 by omega))
 have HB3:=Hd (c3.set h)
 have BW2:=Hd (below_setRow (BW.o.trans (BW1.mono (by omega))) (Nat.le_add_right w.heap.size 3) (wC h))
 have W1:=Hd hw1
 rw[←hhs] at LD ST HB0 HB1 HB2 HB3 BW2⊢
 rw[←hcs]
 have HE:=Hd hE;have HH:=Hd hh;have HW:=Hd hw;have SZ0:=Hd sz0
 clear hw0 hw1 b0 b1 b2 c3 BW1 hzs hhs hcs hE hh hw sz0
 go_enter func133,ntmps133
 go_upto_region 1 with fail
 have W0':=W0.o
 rw[Z0.o] at W0'
 unfold wZ at W0'
 rw[←W0',show w.heap.size+1+1=w.heap.size+2 from rfl]
 clear W0' W0
 obtain⟨w2,hw2⟩:=xq (w1.setRow (w.heap.size+3) hs)
 rw[←hw2] at ST HB0 HB1 HB2 HB3 BW2
 have ST2:Hid (Sv 191 ⟨w0.heap.size,0,none⟩ (.agg hs) (w0.alloc (.cells #[.int .u32 0,.int .u32 0,.int .u32 0,.int .u32 0,.int .u32 0,.int .u32 0,.int .u32 0,.int .u32 0] 191)) w2):=Hd (by
  have:=ST.o
  rw[W1.o,Z0.o] at this
  rw[SZ0.o]
  exact this)
 clear hw2 ST W1 BW
 refine wp_region_list ?_
 simp only[]
 refine Xac 191 rfl _ rfl ⟨_,_,rfl,LD.o,?_⟩
 clear LD
 go_upto_region 2 with((with_reducible refine Xab 191 rfl _ _ rfl ?_);refine⟨_,_,_,rfl,rfl,ST2.o,?_⟩)
 rw[SZ0.o]
 clear ST2 SZ0
 go_wp2_with fail
 go_loopg [6,7,8,9,10,12] 64 (fun k v6 v7 v8 v9 v10 i wr=>∃j:Nat,j≤64∧k=64-j∧i=.int .i64 (j:Int)∧VB wr w.heap.size h∧WB wr (w.heap.size+1) 196 (Xnw h ws j).2∧VB wr (w.heap.size+2) ⟨0,0,0,0,0,0,0,0⟩∧VB wr (w.heap.size+3) (Xnw h ws j).1∧Bw w wr)
 case atStart=>exact⟨0,by omega,rfl,rfl,HB0.o,HB1.o,HB2.o,HB3.o,BW2.o⟩
 case round=>
  clear HB0 HB1 HB2 HB3 BW2
  obtain⟨j,hj,rfl,rfl,h0,h1,h2,h3,hbw⟩:=hrel
  have HE1:=Hd (HE.o.below hbw HE.o.size)
  have HB:=Hd hbw
  have G0:=Hd h0;have G1:=Hd h1;have G2:=Hd h2;have G3:=Hd h3
  have OK:=Hd (Yhh HH.o HW.o j)
  have NX:=Hd (Xev h ws j)
  clear h0 h1 h2 h3 hbw
  obtain⟨v,hv⟩:=xq ((Xnw h ws j).1)
  obtain⟨W,hW⟩:=xq ((Xnw h ws j).2)
  rw[←hv] at G3 OK
  rw[←hW] at G1 OK
  have NX1:Hid (∀W',Xif W j=W'→Xnw h ws (j+1)=(rnd v (shK.getD j 0) (W'.getD (j%16) 0),W')):=Hd (by rintro W' rfl;rw[NX.o];unfold Xyy;rw[←hv,←hW])
  have HV:=Hd hv
  clear hv hW NX
  by_cases hlt:j<64
  ·by_cases h16:j<16
   ·have HWW:Hid (Xif W j=W):=Hd (by unfold Xif;rw[qP h16])
    have LW:=Hd OK.o.2
    have Z0:=Hd G0.o;have Z1:=Hd G1.o;have Z2:=Hd G2.o;have Z3:=Hd G3.o;have ZE:=Hd HE1.o;have ZB:=Hd HB.o
    clear G0 G1 G2 G3 HE1 HB HV
    have h16':¬(16:Int)≤(j:Int):=by omega
    obtain⟨kk,hkk⟩:=xq (shK.getD j 0)
    have hk2:kk<4294967296:=by rw[hkk];exact Xya j
    obtain⟨t,ht⟩:=xq (W.getD (j%16) 0)
    have ht2:t<4294967296:=by rw[ht];exact LW.o.at _
    obtain⟨wY,hY⟩:=xq wr.drew
    have dY:Bw wr wY:=by rw[hY];exact(zR _ _).drew
    obtain⟨q,hq⟩:=xq (j%16)
    have hq2:q<16:=by omega
    have jt:(j:Int).tmod 16=(q:Int):=by rw[Int.tmod_eq_emod_of_nonneg (by omega)];omega
    have q0:(0:Int)≤(q:Int):=by omega
    have q1:(q:Int)<16:=by omega
    have cK:wY.cell? ⟨1,j,none⟩=some (.int .u32 ((kk:Nat):Int)):=by rw[hkk];exact(ZE.o.on dY).sha j hlt
    have cT:wY.cell? ⟨w.heap.size+1,q,none⟩=some (.int .u32 ((t:Nat):Int)):=by rw[ht,←hq];exact(Z1.o.below dY).cell (by rw[LW.o.len];exact hq2)
    have RD:=Hd (Xpf wY v kk t OK.o.1 hk2 ht2)
    have LV:=Hd ((Z3.o.below dY).load)
    have NX2:=Hd (NX1.o W HWW.o)
    rw[←hkk,←ht] at NX2
    have FIN:Hid (∀w4,Bw wY w4→Sv 191 ⟨w.heap.size+3,0,none⟩ (.agg (wC (rnd v kk t))) w4 (w4.setRow (w.heap.size+3) (wC (rnd v kk t)))∧VB (w4.setRow (w.heap.size+3) (wC (rnd v kk t))) w.heap.size h∧WB (w4.setRow (w.heap.size+3) (wC (rnd v kk t))) (w.heap.size+1) 196 (Xnw h ws (j+1)).2∧VB (w4.setRow (w.heap.size+3) (wC (rnd v kk t))) (w.heap.size+2) ⟨0,0,0,0,0,0,0,0⟩∧VB (w4.setRow (w.heap.size+3) (wC (rnd v kk t))) (w.heap.size+3) (Xnw h ws (j+1)).1∧Bw w (w4.setRow (w.heap.size+3) (wC (rnd v kk t)))):=Hd (by
     intro w4 hb4
     have x3:=(Z3.o.below dY).below hb4
     refine⟨x3.store _,((Z0.o.below dY).below hb4).other _ (by omega),?_,((Z2.o.below dY).below hb4).other _ (by omega),?_,below_setRow ((bg ZB.o dY).trans (hb4.mono (Nat.le_trans ZB.o.size dY.size))) (Nat.le_add_right _ 3) _⟩
     ·rw[NX2.o];exact((Z1.o.below dY).below hb4).other _ (by omega)
     ·rw[NX2.o];exact x3.set _)
    obtain⟨vs,hvs⟩:=xq (wC v)
    obtain⟨rs,hrs⟩:=xq (wC (rnd v kk t))
    rw[←hvs,←hrs] at RD
    rw[←hvs] at LV
    rw[←hrs] at FIN
    clear hkk ht hq dY hvs hrs NX1 NX2 Z0 Z1 Z2 Z3 ZE ZB
    go_upto_region 10 with fail
    refine wp_region_still_tail 8 (by kernel_rfl) (by kernel_rfl) ?_
    simp only[List.take_succ_cons,List.take_zero,List.drop_succ_cons,List.drop_zero]
    change wpStill _ _ wr.drew (fun a'=>wpList _ _ _ _ a' wr.drew) _ _
    rw[←hY]
    clear hY
    refine Xi0 191 rfl _ rfl ⟨_,_,rfl,LV.o,?_⟩
    repeat still_step
    refine wpStill_nil ?_
    go_wp2_with fail
    refine RD.o.mono ?_
    rintro e w4 ⟨rfl,hb4⟩
    obtain⟨f0,f1,f2,f3,f4,f5⟩:=FIN.o w4 hb4
    obtain⟨w5,hw5⟩:=xq (w4.setRow (w.heap.size+3) rs)
    rw[←hw5] at f0 f1 f2 f3 f4 f5
    have F0:=Hd f0;have F1:=Hd f1;have F2:=Hd f2;have F3:=Hd f3;have F4:=Hd f4;have F5:=Hd f5
    clear f0 f1 f2 f3 f4 f5 hw5 hb4 FIN RD LV cK cT
    go_wp2_with ((with_reducible refine Xab 191 rfl _ _ rfl ?_);refine⟨_,_,_,rfl,rfl,F0.o,?_⟩)
    go_roundg (64-(j+1))
    case measure=>omega
    case rel=>exact⟨j+1,by omega,rfl,by go_num,F1.o,F2.o,F3.o,F4.o,F5.o⟩
   ·obtain⟨qa,hqa⟩:=xq ((j-15)%16)
    obtain⟨qb,hqb⟩:=xq ((j-2)%16)
    obtain⟨qc,hqc⟩:=xq ((j-7)%16)
    obtain⟨qd,hqd⟩:=xq (j%16)
    have ja:((j:Int)-15).tmod 16=(qa:Int):=by rw[Int.tmod_eq_emod_of_nonneg (by omega)];omega
    have jb:((j:Int)-2).tmod 16=(qb:Int):=by rw[Int.tmod_eq_emod_of_nonneg (by omega)];omega
    have jc:((j:Int)-7).tmod 16=(qc:Int):=by rw[Int.tmod_eq_emod_of_nonneg (by omega)];omega
    have jd:(j:Int).tmod 16=(qd:Int):=by rw[Int.tmod_eq_emod_of_nonneg (by omega)];omega
    have wa:IntKind.i64.wrap ((j:Int)-15)=(j:Int)-15:=IntWalk.i64_in _ (by omega)
    have wb:IntKind.i64.wrap ((j:Int)-2)=(j:Int)-2:=IntWalk.i64_in _ (by omega)
    have wc:IntKind.i64.wrap ((j:Int)-7)=(j:Int)-7:=IntWalk.i64_in _ (by omega)
    have a0:(0:Int)≤(qa:Int):=by omega
    have a1:(qa:Int)<16:=by omega
    have b0:(0:Int)≤(qb:Int):=by omega
    have b1:(qb:Int)<16:=by omega
    have c0:(0:Int)≤(qc:Int):=by omega
    have c1:(qc:Int)<16:=by omega
    have d0:(0:Int)≤(qd:Int):=by omega
    have d1:(qd:Int)<16:=by omega
    obtain⟨x,hx⟩:=xq (W.getD qa 0)
    obtain⟨y,hy⟩:=xq (W.getD qb 0)
    obtain⟨z,hz⟩:=xq (W.getD qc 0)
    obtain⟨u,hu⟩:=xq (W.getD qd 0)
    have lx:x<4294967296:=by rw[hx];exact OK.o.2.at _
    have ly:y<4294967296:=by rw[hy];exact OK.o.2.at _
    have cx:wr.cell? ⟨w.heap.size+1,qa,none⟩=some (.int .u32 ((x:Nat):Int)):=by rw[hx];exact G1.o.cell (by rw[OK.o.2.len];omega)
    have cy:wr.cell? ⟨w.heap.size+1,qb,none⟩=some (.int .u32 ((y:Nat):Int)):=by rw[hy];exact G1.o.cell (by rw[OK.o.2.len];omega)
    obtain⟨s0,hs0⟩:=xq (rot x 7^^^rot x 18^^^x/2^3)
    obtain⟨s1,hs1⟩:=xq (rot y 17^^^rot y 19^^^y/2^10)
    have X0:Hid (bits .xor .u32 (bits .xor .u32 ((rot x 7:Nat):Int) ((rot x 18:Nat):Int)) ((x:Int)/8)=(s0:Int)):=Hd (by
     rw[u32_xor_nat _ _ (Xa7 lx) (Xa7 lx),show((x:Int)/8)=((x/2^3:Nat):Int) by omega,u32_xor_nat _ _ (Xda (Xa7 lx) (Xa7 lx)) (Nat.lt_of_le_of_lt (Nat.div_le_self _ _) lx),hs0])
    have X1:Hid (bits .xor .u32 (bits .xor .u32 ((rot y 17:Nat):Int) ((rot y 19:Nat):Int)) ((y:Int)/1024)=(s1:Int)):=Hd (by
     rw[u32_xor_nat _ _ (Xa7 ly) (Xa7 ly),show((y:Int)/1024)=((y/2^10:Nat):Int) by omega,u32_xor_nat _ _ (Xda (Xa7 ly) (Xa7 ly)) (Nat.lt_of_le_of_lt (Nat.div_le_self _ _) ly),hs1])
    have l0:s0<4294967296:=by rw[hs0];exact Xda (Xda (Xa7 lx) (Xa7 lx)) (Nat.lt_of_le_of_lt (Nat.div_le_self _ _) lx)
    have l1:s1<4294967296:=by rw[hs1];exact Xda (Xda (Xa7 ly) (Xa7 ly)) (Nat.lt_of_le_of_lt (Nat.div_le_self _ _) ly)
    obtain⟨nw,hnw⟩:=xq (Xa9 u (Xa9 (Xa9 s0 s1) z))
    obtain⟨W2,hW2⟩:=xq (W.set qd nw)
    have HWW:Hid (Xif W j=W2):=Hd (by
     unfold Xif Yma
     rw[qN h16,hW2,hnw,hs0,hs1,hx,hy,hz,hu,hqa,hqb,hqc,hqd])
    have LW:Hid (L16 W2):=Hd (by rw[hW2];exact OK.o.2.set _ (by rw[hnw];exact Xc3 _ _))
    have R1:=Hd (fun w=>Xij w x lx 7 (by decide) (by decide) 7 rfl)
    have R2:=Hd (fun w=>Xij w x lx 18 (by decide) (by decide) 18 rfl)
    have R3:=Hd (fun w=>Xij w y ly 17 (by decide) (by decide) 17 rfl)
    have R4:=Hd (fun w=>Xij w y ly 19 (by decide) (by decide) 19 rfl)
    have NW:Hid (((nw:Nat):Int)=((u:Int)+(((s0:Int)+(s1:Int))%4294967296+(z:Int))%4294967296)%4294967296):=Hd (by rw[hnw];unfold Xa9;omega)
    have HZ:=Hd hz;have HU:=Hd hu
    have h16':(16:Int)≤(j:Int):=by omega
    clear hs0 hs1 hx hy hz hu hqa hqb hqc hqd hnw
    go_upto_region 6 with fail
    go_quiet (fail)
    obtain⟨wk,hwk⟩:=xq (wr.drewN nq)
    have dk:Bw wr wk:=by rw[hwk];exact Dr.below ⟨nq,rfl⟩
    rw[←hwk]
    clear cx cy hwk
    go_upto_region 8 with(first|(go_at_call 182;first|(with_reducible refine(R1.o _).mono ?_;rintro e w' ⟨rfl,rfl⟩)|(with_reducible refine(R2.o _).mono ?_;rintro e w' ⟨rfl,rfl⟩)))
    rw[X0.o]
    clear R1 R2 X0
    go_upto_region 9 with(first|(go_at_call 182;first|(with_reducible refine(R3.o _).mono ?_;rintro e w' ⟨rfl,rfl⟩)|(with_reducible refine(R4.o _).mono ?_;rintro e w' ⟨rfl,rfl⟩)))
    rw[X1.o]
    clear R3 R4 X1
    obtain⟨wm,hwm⟩:=xq wk.drew
    have dm:Bw wr wm:=dk.trans (by rw[hwm];exact((zR wk.heap.size wk).drew).mono dk.size)
    have K1:=G1.o.below dm
    have cu:wm.cell? ⟨w.heap.size+1,qd,none⟩=some (.int .u32 ((u:Nat):Int)):=by rw[HU.o];exact K1.cell (by rw[OK.o.2.len];omega)
    have cz:wm.cell? ⟨w.heap.size+1,qc,none⟩=some (.int .u32 ((z:Nat):Int)):=by rw[HZ.o];exact K1.cell (by rw[OK.o.2.len];omega)
    have fu:wm.frozen? ⟨w.heap.size+1,qd,none⟩=false:=Xdn K1 qd
    obtain⟨wz,hwz⟩:=xq (wm.setCell ⟨w.heap.size+1,qd,none⟩ (.int .u32 ((nw:Nat):Int)))
    have ZB:Hid (Bw w wz):=Hd (by rw[hwz];exact(bg HB.o dm).setCell (Nat.le_add_right _ 1) _)
    have Z1:Hid (WB wz (w.heap.size+1) 196 W2):=Hd (by rw[hwz,hW2];exact K1.set _ _)
    have Z0:Hid (VB wz w.heap.size h):=Hd (by rw[hwz];exact(G0.o.below dm).setC _ _ (by omega))
    have Z2:Hid (VB wz (w.heap.size+2) ⟨0,0,0,0,0,0,0,0⟩):=Hd (by rw[hwz];exact(G2.o.below dm).setC _ _ (by omega))
    have Z3:Hid (VB wz (w.heap.size+3) v):=Hd (by rw[hwz];exact(G3.o.below dm).setC _ _ (by omega))
    have ZE:Hid (Env wz):=Hd (HE.o.below ZB.o HE.o.size)
    have WZ':=Hd hwz
    clear G0 G1 G2 G3 HE1 HB HV dk dm K1 HU HZ hwz hW2
    refine wp_region_still_tail 15 (by kernel_rfl) (by kernel_rfl) ?_
    simp only[List.take_succ_cons,List.take_zero,List.drop_succ_cons,List.drop_zero]
    change wpStill _ _ wk.drew (fun a'=>wpList _ _ _ _ a' wk.drew) _ _
    rw[←hwm]
    clear hwm
    repeat still_step
    refine wpStill_nil ?_
    go_upto_region 10 with fail
    rw[←NW.o,←WZ'.o]
    clear WZ' NW cu cz fu ja jb jc jd wa wb wc
    obtain⟨kk,hkk⟩:=xq (shK.getD j 0)
    have hk2:kk<4294967296:=by rw[hkk];exact Xya j
    obtain⟨t,ht⟩:=xq (W2.getD (j%16) 0)
    have ht2:t<4294967296:=by rw[ht];exact LW.o.at _
    obtain⟨wY,hY⟩:=xq wz.drew
    have dY:Bw wz wY:=by rw[hY];exact(zR _ _).drew
    obtain⟨q,hq⟩:=xq (j%16)
    have hq2:q<16:=by omega
    have jt:(j:Int).tmod 16=(q:Int):=by rw[Int.tmod_eq_emod_of_nonneg (by omega)];omega
    have q0:(0:Int)≤(q:Int):=by omega
    have q1:(q:Int)<16:=by omega
    have cK:wY.cell? ⟨1,j,none⟩=some (.int .u32 ((kk:Nat):Int)):=by rw[hkk];exact(ZE.o.on dY).sha j hlt
    have cT:wY.cell? ⟨w.heap.size+1,q,none⟩=some (.int .u32 ((t:Nat):Int)):=by rw[ht,←hq];exact(Z1.o.below dY).cell (by rw[LW.o.len];exact hq2)
    have RD:=Hd (Xpf wY v kk t OK.o.1 hk2 ht2)
    have LV:=Hd ((Z3.o.below dY).load)
    have NX2:=Hd (NX1.o W2 HWW.o)
    rw[←hkk,←ht] at NX2
    have FIN:Hid (∀w4,Bw wY w4→Sv 191 ⟨w.heap.size+3,0,none⟩ (.agg (wC (rnd v kk t))) w4 (w4.setRow (w.heap.size+3) (wC (rnd v kk t)))∧VB (w4.setRow (w.heap.size+3) (wC (rnd v kk t))) w.heap.size h∧WB (w4.setRow (w.heap.size+3) (wC (rnd v kk t))) (w.heap.size+1) 196 (Xnw h ws (j+1)).2∧VB (w4.setRow (w.heap.size+3) (wC (rnd v kk t))) (w.heap.size+2) ⟨0,0,0,0,0,0,0,0⟩∧VB (w4.setRow (w.heap.size+3) (wC (rnd v kk t))) (w.heap.size+3) (Xnw h ws (j+1)).1∧Bw w (w4.setRow (w.heap.size+3) (wC (rnd v kk t)))):=Hd (by
     intro w4 hb4
     have x3:=(Z3.o.below dY).below hb4
     refine⟨x3.store _,((Z0.o.below dY).below hb4).other _ (by omega),?_,((Z2.o.below dY).below hb4).other _ (by omega),?_,below_setRow ((bg ZB.o dY).trans (hb4.mono (Nat.le_trans ZB.o.size dY.size))) (Nat.le_add_right _ 3) _⟩
     ·rw[NX2.o];exact((Z1.o.below dY).below hb4).other _ (by omega)
     ·rw[NX2.o];exact x3.set _)
    obtain⟨vs,hvs⟩:=xq (wC v)
    obtain⟨rs,hrs⟩:=xq (wC (rnd v kk t))
    rw[←hvs,←hrs] at RD
    rw[←hvs] at LV
    rw[←hrs] at FIN
    clear hkk ht hq dY hvs hrs NX1 NX2 Z0 Z1 Z2 Z3 ZE ZB
    go_upto_region 10 with fail
    refine wp_region_still_tail 8 (by kernel_rfl) (by kernel_rfl) ?_
    simp only[List.take_succ_cons,List.take_zero,List.drop_succ_cons,List.drop_zero]
    change wpStill _ _ wz.drew (fun a'=>wpList _ _ _ _ a' wz.drew) _ _
    rw[←hY]
    clear hY
    refine Xi0 191 rfl _ rfl ⟨_,_,rfl,LV.o,?_⟩
    repeat still_step
    refine wpStill_nil ?_
    go_wp2_with fail
    refine RD.o.mono ?_
    rintro e w4 ⟨rfl,hb4⟩
    obtain⟨f0,f1,f2,f3,f4,f5⟩:=FIN.o w4 hb4
    obtain⟨w5,hw5⟩:=xq (w4.setRow (w.heap.size+3) rs)
    rw[←hw5] at f0 f1 f2 f3 f4 f5
    have F0:=Hd f0;have F1:=Hd f1;have F2:=Hd f2;have F3:=Hd f3;have F4:=Hd f4;have F5:=Hd f5
    clear f0 f1 f2 f3 f4 f5 hw5 hb4 FIN RD LV cK cT
    go_wp2_with ((with_reducible refine Xab 191 rfl _ _ rfl ?_);refine⟨_,_,_,rfl,rfl,F0.o,?_⟩)
    go_roundg (64-(j+1))
    case measure=>omega
    case rel=>exact⟨j+1,by omega,rfl,by go_num,F1.o,F2.o,F3.o,F4.o,F5.o⟩
  ·obtain rfl:j=64:=by omega
   have PL:=Hd (fun w=>Ydk w h v)
   have L0:=Hd G0.o.load
   have L3:=Hd G3.o.load
   have FIN:Hid (∀w4,Bw wr w4→Sv 191 ⟨w.heap.size+2,0,none⟩ (.agg (wC (Xg7 h v))) w4 (w4.setRow (w.heap.size+2) (wC (Xg7 h v)))∧VB (w4.setRow (w.heap.size+2) (wC (Xg7 h v))) (w.heap.size+2) (Xg7 h v)∧Bw w (w4.setRow (w.heap.size+2) (wC (Xg7 h v)))):=Hd (by
    intro w4 hb4
    have x2:=G2.o.below hb4
    exact⟨x2.store _,x2.set _,below_setRow (bg HB.o hb4) (Nat.le_add_right _ 2) _⟩)
   have RES:Hid (wC (Xg6 h ws)=wC (Xg7 h v)):=Hd (by unfold Xg6;rw[←HV.o])
   have SZ:Hid ((prog.info? 191).map (·.size)=some (wC (Xg7 h v)).size):=Hd (by rw[Xg0];exact Xdc)
   obtain⟨h1,hh1⟩:=xq (wC h)
   obtain⟨vs,hvs⟩:=xq (wC v)
   obtain⟨rs,hrs⟩:=xq (wC (Xg7 h v))
   have HRS:=Hd hrs
   rw[←hh1] at PL L0
   rw[←hvs] at PL L3
   rw[←hrs] at PL FIN RES SZ
   clear G0 G1 G2 G3 HE1 HB HV NX1 hh1 hvs hrs hlt OK
   go_wp2_with (first
    |((with_reducible refine Xac 191 rfl _ rfl ?_);first|(refine⟨_,_,rfl,L0.o,?_⟩)|(refine⟨_,_,rfl,L3.o,?_⟩)))
   refine(PL.o _).mono ?_
   rintro e w4 ⟨rfl,hb4⟩
   obtain⟨f0,f1,f2⟩:=FIN.o w4 hb4
   obtain⟨w5,hw5⟩:=xq (w4.setRow (w.heap.size+2) rs)
   rw[←hw5] at f0 f1 f2
   have F0:=Hd f0;have F1:=Hd f1;have F2:=Hd f2
   clear f0 f1 f2 hw5 hb4 FIN PL L0 L3
   go_wp2_with ((with_reducible refine Xab 191 rfl _ _ rfl ?_);refine⟨_,_,_,rfl,rfl,F0.o,?_⟩)
   have f1:=F1.o
   unfold VB at f1
   rw[←HRS.o] at f1
   exact zP (results_cell_row results133 _ _ (w.heap.size+2) _ _ _ _ rfl f1 underlying191 rfl SZ.o) rfl ⟨by rw[RES.o],F2.o⟩
def wL (v:W8):List Nat:=[v.a,v.b,v.c,v.d,v.e,v.f,v.g,v.i]
theorem Ymb (v:W8):wC v=wA (wL v):=rfl
theorem Yij (x:Nat):(dgW x).length=4:=by simp[dgW]
theorem Yk8 (f:Nat→List Nat)(hf:∀x,(f x).length=4):∀(l:List Nat) (i k:Nat),i<l.length→k<4→(l.flatMap f)[4*i+k]?=(f (l.getD i 0))[k]?
 |[],i,k,h,_=>by simp at h
 |x::l,0,k,_,hk=>by
  rw[List.flatMap_cons,List.getElem?_append_left (by rw[hf];omega)]
  simp
 |x::l,i+1,k,h,hk=>by
  rw[List.flatMap_cons,List.getElem?_append_right (by rw[hf];omega),hf,show 4*(i+1)+k-4=4*i+k by omega,Yk8 f hf l i k (by simpa using h) hk]
  simp
theorem Xbj (v:W8):(dgF v).length=32:=by simp[dgF,dgW]
theorem Ygh (v:W8)(i k:Nat)(hi:i<8)(hk:k<4):(dgF v)[4*i+k]?=some ((wL v).getD i 0/2^(24-8*k)%256):=by
 have:=Yk8 dgW Yij (wL v) i k hi hk
 show((wL v).flatMap dgW)[4*i+k]?=_
 rw[this]
 simp[dgW,hk]
theorem Ya0 (v:W8):∀x∈dgF v,x<256:=by
 intro x hx
 obtain⟨y,_,hy⟩:=List.mem_flatMap.1 hx
 obtain⟨k,_,rfl⟩:=List.mem_map.1 hy
 omega
def lay (L:List Nat)(n m:Nat):List Nat:=L.take n++List.replicate (m-n) 0
theorem Xzn {L:List Nat}{n m:Nat}(h:n≤m)(hL:L.length=m):(lay L n m).length=m:=by simp[lay,hL];omega
theorem Yh3 {L:List Nat}{n m x:Nat}(h:n<m)(hL:L.length=m)(hx:L[n]?=some x):(lay L n m).set n x=lay L (n+1) m:=by
 have hl:(L.take n).length=n:=by simp[hL];omega
 have hn:n<L.length:=by omega
 have e:L[n]=x:=by rw[List.getElem?_eq_getElem hn] at hx;exact Option.some.inj hx
 unfold lay
 rw[List.set_append_right _ _ (by omega),hl,Nat.sub_self,show m-n=(m-(n+1))+1 by omega,List.replicate_succ,List.set_cons_zero,List.take_succ_eq_append_getElem hn,e,List.append_assoc]
 rfl
theorem Yh4 {L:List Nat}{m:Nat}(hL:L.length=m):lay L m m=L:=by simp[lay,←hL]
theorem Yeg (l:List Nat)(q x:Nat):(idA l).setIfInBounds q (.int .u8 ((x:Nat):Int))=idA (l.set q x):=by simp[idA,List.map_set];rfl
theorem Xdf (l:List Nat):(idA l).all (·.oneCell')=true:=by
 rw[Array.all_eq_true']
 intro x hx
 unfold idA at hx
 rw[List.mem_toArray,List.mem_map] at hx
 obtain⟨y,_,rfl⟩:=hx
 rfl
def IB (w:World)(b:Nat)(T:TypeId)(l:List Nat):Prop:=w.heap[b]?=some (.cells (idA l) T (0,0))
theorem IB.lt {w:World}{b:Nat}{T:TypeId}{l:List Nat}(h:IB w b T l):b<w.heap.size:=zY h
theorem IB.below {w w':World}{b:Nat}{T:TypeId}{l:List Nat}(h:IB w b T l)(hb:Bw w w'):IB w' b T l:=(hb.block b h.lt).trans h
theorem IB.cell {w:World}{b:Nat}{T:TypeId}{l:List Nat}(h:IB w b T l){q:Nat}(hq:q<l.length):w.cell? ⟨b,q,none⟩=some (.int .u8 ((l.getD q 0:Nat):Int)):=by
 rw[cell_of_row w b q _ _ _ h]
 simp[idA,List.getD,hq]
 rfl
theorem IB.set {w:World}{b:Nat}{T:TypeId}{l:List Nat}(h:IB w b T l)(q x:Nat):IB (w.setCell ⟨b,q,none⟩ (.int .u8 ((x:Nat):Int))) b T (l.set q x):=by
 have:=Xd8 h q (.int .u8 ((x:Nat):Int))
 rw[Yeg] at this
 exact this
theorem IB.setC {w:World}{b k:Nat}{T:TypeId}{l:List Nat}(h:IB w k T l)(j:Nat)(u:Value)(hne:k≠b):IB (w.setCell ⟨b,j,none⟩ u) k T l:=(Xkr w b j k u hne).trans h
theorem Xg4:(prog.info? 90).map (·.size)=some 32:=by kernel_rfl
theorem Ykx (v:W8)(j:Nat)(hj:j<8)(c:Nat)(hc:c=(wL v).getD j 0)(w:World):(Instr.index 164 (.agg (wC v)) (.int .i64 (j:Int))).run prog w=.ok (.int .u32 (c:Int)) w:=by
 have hi:(0:Int)≤(j:Int)∧(j:Int)<8:=by omega
 have hjl:j<(wL v).length:=by simpa [wL] using hj
 have e:(wC v)[j]?=some (.int .u32 ((c:Nat):Int)):=by
  rw[hc,Ymb];unfold wA
  simp[List.getD,hjl]
 simp[Instr.index,run_underlying underlying164,asIntOf,hi,go_sem]
 rw[qP hj,e]
 rfl
theorem VB.cells {w:World}{b:Nat}{v:W8}(h:VB w b v)(j:Nat)(u:Value)(hu:(wC v)[j]?=some u):w.cell? ⟨b,j,none⟩=some u:=by rw[cell_of_row w b j _ _ _ h];exact hu
theorem Xwv (w:World){v:W8}(hv:v.Ok):
    zJ 135 #[.agg (wC v)] w (.agg (idA (dgF v))):=by
 obtain⟨hs,hhs⟩:=xq (wC v)
 obtain⟨zs,hzs⟩:=xq (idA (List.replicate 32 0))
 have Z0:Hid (zs=#[.int .u8 0,.int .u8 0,.int .u8 0,.int .u8 0,.int .u8 0,.int .u8 0,.int .u8 0,.int .u8 0,.int .u8 0,.int .u8 0,.int .u8 0,.int .u8 0,.int .u8 0,.int .u8 0,.int .u8 0,.int .u8 0,.int .u8 0,.int .u8 0,.int .u8 0,.int .u8 0,.int .u8 0,.int .u8 0,.int .u8 0,.int .u8 0,.int .u8 0,.int .u8 0,.int .u8 0,.int .u8 0,.int .u8 0,.int .u8 0,.int .u8 0,.int .u8 0]):=Hd (by rw[hzs];rfl)
 obtain⟨w0,hw0⟩:=xq (((w.alloc (.cells hs 191)).alloc (.cells zs 90)).alloc (.cells zs 90))
 have b0:VB w0 w.heap.size v:=by unfold VB;rw[hw0,←hhs];exact Xae (Xae (heap_alloc_last w _))
 have b1:IB w0 (w.heap.size+1) 90 (List.replicate 32 0):=by
  unfold IB;rw[hw0,←hzs];have:=heap_alloc_last (w.alloc (.cells hs 191)) (.cells zs 90);rw[World.size_alloc] at this;exact Xae this
 have b2:IB w0 (w.heap.size+2) 90 (lay (dgF v) 0 32):=by
  unfold IB;show _=some (Obj.cells (idA (List.replicate 32 0)) _ _);rw[hw0,←hzs];have:=heap_alloc_last ((w.alloc (.cells hs 191)).alloc (.cells zs 90)) (.cells zs 90);rw[World.size_alloc,World.size_alloc] at this;exact this
 have BW:Hid (Bw w w0):=Hd (by rw[hw0];exact(((zR _ _).alloc (zL _) _).alloc (by simp) _).alloc (by simp;omega) _)
 have W0:=Hd hw0
 have c0:w0.cell? ⟨w.heap.size,0,none⟩=some (.int .u32 (v.a:Int)):=b0.cells 0 _ rfl
 have c1:w0.cell? ⟨w.heap.size,1,none⟩=some (.int .u32 (v.b:Int)):=b0.cells 1 _ rfl
 have c2:w0.cell? ⟨w.heap.size,2,none⟩=some (.int .u32 (v.c:Int)):=b0.cells 2 _ rfl
 have c3:w0.cell? ⟨w.heap.size,3,none⟩=some (.int .u32 (v.d:Int)):=b0.cells 3 _ rfl
 have c4:w0.cell? ⟨w.heap.size,4,none⟩=some (.int .u32 (v.e:Int)):=b0.cells 4 _ rfl
 have c5:w0.cell? ⟨w.heap.size,5,none⟩=some (.int .u32 (v.f:Int)):=b0.cells 5 _ rfl
 have c6:w0.cell? ⟨w.heap.size,6,none⟩=some (.int .u32 (v.g:Int)):=b0.cells 6 _ rfl
 have c7:w0.cell? ⟨w.heap.size,7,none⟩=some (.int .u32 (v.i:Int)):=b0.cells 7 _ rfl
 have B1:=Hd b1;have B2:=Hd b2
 have HHS:=Hd hhs
 have EX:Hid (∀j,j<8→∀c,c=(wL v).getD j 0→∀w,(Instr.index 164 (.agg hs) (.int .i64 (j:Int))).run prog w=.ok (.int .u32 ((c:Nat):Int)) w):=Hd (fun j hj c hc w=>by rw[hhs];exact Ykx v j hj c hc w)
 have HV:=Hd hv
 rw[←hhs]
 clear hw0 b0 b1 b2 hzs hhs hv
 go_enter func135,ntmps135
 go_upto_region 2 with fail
 have W0':=W0.o
 rw[Z0.o] at W0'
 rw[←W0',show w.heap.size+1+1=w.heap.size+2 from rfl]
 clear W0' W0
 go_wp2_with fail
 have HHS':=HHS.o
 unfold wC at HHS'
 rw[←HHS']
 clear HHS' c0 c1 c2 c3 c4 c5 c6 c7
 go_loopg [4,5,6,24,28] 8 (fun k v4 v5 v6 i v28 wr=>∃j:Nat,j≤8∧k=8-j∧i=.int .i64 (j:Int)∧IB wr (w.heap.size+1) 90 (List.replicate 32 0)∧IB wr (w.heap.size+2) 90 (lay (dgF v) (4*j) 32)∧Bw w wr)
 case atStart=>exact⟨0,by omega,rfl,rfl,B1.o,B2.o,BW.o⟩
 case round=>
  clear B1 B2 BW
  obtain⟨j,hj,rfl,rfl,h1,h2,hbw⟩:=hrel
  have HB:=Hd hbw
  have G1:=Hd h1;have G2:=Hd h2
  clear h1 h2 hbw
  by_cases hlt:j<8
  ·obtain⟨x,hx⟩:=xq ((wL v).getD j 0)
   have ix:=EX.o j hlt x hx
   have DA:Hid (∀k,k<4→(dgF v)[4*j+k]?=some (x/2^(24-8*k)%256)):=Hd (fun k hk=>by rw[hx];exact Ygh v j k hlt hk)
   clear hx
   go_wp2_with fail
   go_loopg [6,28] 4 (fun k v6 i wi=>∃m:Nat,m≤4∧k=4-m∧i=.int .i64 (m:Int)∧IB wi (w.heap.size+1) 90 (List.replicate 32 0)∧IB wi (w.heap.size+2) 90 (lay (dgF v) (4*j+m) 32)∧Bw w wi)
   case atStart=>exact⟨0,by omega,rfl,rfl,G1.o,G2.o,HB.o⟩
   case round=>
    clear G1 G2 HB
    rename_i wr0 _ _ _ _ _ _ _ _
    obtain⟨m,hm,rfl,rfl,h1,h2,hbw⟩:=hrel
    have HB:=Hd hbw
    have G1:=Hd h1;have G2:=Hd h2
    clear h1 h2 hbw ix
    by_cases hm4:m<4
    ·obtain⟨q,hq⟩:=xq (4*j+m)
     have hq2:q<32:=by omega
     obtain⟨r,hr⟩:=xq (24-8*m)
     have hr2:r≤24:=by omega
     have e1:(4:Int)*(j:Int)+(m:Int)=(q:Int):=by omega
     have e2:(24:Int)-8*(m:Int)=(r:Int):=by omega
     have q0:(0:Int)≤(q:Int):=by omega
     have q1:(q:Int)<32:=by omega
     have cq:wr.cell? ⟨w.heap.size+2,q,none⟩=some (.int .u8 (((lay (dgF v) (4*j+m) 32).getD q 0:Nat):Int)):=G2.o.cell (by rw[Xzn (by omega) (Xbj v)];exact hq2)
     have fq:wr.frozen? ⟨w.heap.size+2,q,none⟩=false:=Xdn G2.o q
     obtain⟨y,hy⟩:=xq (x/2^r%256)
     have YI:Hid (((y:Nat):Int)=(x:Int)/2^r%256):=Hd (by rw[hy,Int.natCast_emod,Int.natCast_ediv,Int.natCast_pow];rfl)
     have DY:Hid ((lay (dgF v) (4*j+m) 32).set q y=lay (dgF v) (4*j+(m+1)) 32):=Hd (by
      rw[hq];exact Yh3 (by omega) (Xbj v) (by rw[DA.o m hm4,hy,hr]))
     clear hq hr hy
     go_wp2_with fail
     rw[←YI.o]
     go_roundg (4-(m+1))
     case measure=>omega
     case rel=>exact⟨m+1,by omega,rfl,by go_num,G1.o.setC _ _ (by omega),by rw[←DY.o];exact G2.o.set q y,HB.o.setCell (Nat.le_add_right _ 2) _⟩
    ·obtain rfl:m=4:=by omega
     go_wp2_with fail
     go_roundg (8-(j+1))
     case measure=>omega
     case rel=>exact⟨j+1,by omega,rfl,by go_num,G1.o,G2.o,HB.o⟩
  ·obtain rfl:j=8:=by omega
   have L2:=Hd (run_loadVar_row (P:=prog) wr (w.heap.size+2) _ 90 _ _ _ G2.o underlying90 rfl (by rw[Xag,Xzn (by omega) (Xbj v)];exact Xg4))
   have e1:lay (dgF v) (4*8) 32=dgF v:=Yh4 (Xbj v)
   rw[e1] at L2
   have ST:=Hd (run_storeVar_row (P:=prog) wr (w.heap.size+1) _ 90 (idA (List.replicate 32 0)) (idA (dgF v)) G1.o (by rw[Xag,Xbj];exact Xg4) (by rw[Xag,Xag,Xbj];simp) (Xdf _))
   have W2:=Hd (setRow_heap wr (w.heap.size+1) _ (idA (dgF v)) _ _ G1.o)
   have SZ:Hid ((prog.info? 90).map (·.size)=some (idA (dgF v)).size):=Hd (by rw[Xag,Xbj];exact Xg4)
   have BE:=Hd (below_setRow HB.o (Nat.le_succ _) (idA (dgF v)))
   obtain⟨rs,hrs⟩:=xq (idA (dgF v))
   rw[←hrs] at L2 ST W2 SZ BE
   have HRS:=Hd hrs
   clear hrs e1 hlt HB EX G1 G2
   go_wp2_with (first
    |((with_reducible refine Xac 90 rfl _ rfl ?_);refine⟨_,_,rfl,L2.o,?_⟩)
    |((with_reducible refine Xab 90 rfl _ _ rfl ?_);refine⟨_,_,_,rfl,rfl,ST.o,?_⟩))
   exact zP (results_cell_row results135 _ _ (w.heap.size+1) _ _ _ _ rfl W2.o underlying90 rfl SZ.o) rfl ⟨by rw[HRS.o],BE.o⟩
structure Hs.Ok (h:Hs):Prop where
 st:h.st.Ok
 blk:B64 h.blk
def hC (h:Hs):Array Value:=((wC h.st).toList++(h.blk.map U++[Value.int .i64 (h.len:Int)])).toArray
theorem Xla {h:Hs}(hb:h.blk.length=64):(hC h).size=73:=by simp[hC,hb,wC]
theorem Yk3 (h:Hs):(hC h).all (·.oneCell')=true:=by
 rw[Array.all_eq_true']
 intro x hx
 unfold hC at hx
 rw[List.mem_toArray,List.mem_append,List.mem_append] at hx
 rcases hx with hx|hx|hx
 ·have:=(Array.all_eq_true'.1 (Xxk h.st)) x (by simpa using hx);exact this
 ·obtain⟨y,_,rfl⟩:=List.mem_map.1 hx;rfl
 ·rw[List.mem_singleton] at hx;rw[hx];rfl
theorem Xki {P:Program}(w:World)(g o:Nat)(ty t:TypeId)(X Y Z vs:List Value)(hg:w.heap[g]?=some (.cells (X++(Y++Z)).toArray t (0,0)))(hX:X.length=o)(hY:Y.length=vs.length)
    (hi:(P.info? ty).map (·.size)=some vs.length) (h1:∀v∈vs,v.oneCell'=true):(storeVar ty ⟨g,o,none⟩ (.agg vs.toArray)).run P w=.ok () (w.setRow g (X++(vs++Z)).toArray):=by
 have hst:=run_storeCells_at P g o t vs 0 _ w hg (by simp;omega) h1
 have e:(X++(Y++Z)).toArray.toList.take (o+0)++vs++(X++(Y++Z)).toArray.toList.drop (o+0+vs.length)=X++(vs++Z):=by
  subst hX
  rw[←hY]
  simp
 rw[e] at hst
 cases hq:P.info? ty with
 |none=>simp[hq] at hi
 |some i=>
  have hs:vs.length=i.size:=by simp[hq] at hi;omega
  simp[storeVar,sizeOf,typeInfo,hq,Value.cells,hs,hst]
def HK (w:World)(b:Nat)(h:Hs):Prop:=w.heap[b]?=some (.cells (hC h) 193 (0,0))
theorem HK.lt {w:World}{b:Nat}{h:Hs}(hk:HK w b h):b<w.heap.size:=zY hk
theorem HK.below {w w':World}{b:Nat}{h:Hs}(hk:HK w b h)(hb:Bw w w'):HK w' b h:=(hb.block b hk.lt).trans hk
theorem Xo7:(prog.info? 193).map (·.size)=some 73:=by kernel_rfl
section
variable {w:World} {b:Nat} {h:Hs} (hk:HK w b h)
include hk
theorem HK.len (hb:h.blk.length=64):w.cell? ⟨b,72,none⟩=some (.int .i64 (h.len:Int)):=by
 rw[cell_of_row w b 72 _ _ _ hk];simp[hC,wC,hb]
theorem HK.st:Ld 191 ⟨b,0,none⟩ w (.agg (wC h.st)):=by
 have:=run_loadVar_mid (P:=prog) w b 0 191 (wC h.st).toList _ (fun j v hv=>by
  rw[cell_of_row w b (0+j) _ _ _ hk,Nat.zero_add]
  unfold hC
  rw[List.getElem?_toArray,List.getElem?_append_left (List.getElem?_eq_some_iff.1 hv).1]
  exact hv) underlying191 rfl (by rw[Array.length_toList,Xg0];exact Xdc)
 rwa [Array.toArray_toList] at this
theorem HK.blk (hb:h.blk.length=64):Ld 184 ⟨b,8,none⟩ w (.agg (idA h.blk)):=
 run_loadVar_mid (P:=prog) w b 8 184 (h.blk.map U) _ (fun j v hv=>by
  rw[cell_of_row w b (8+j) _ _ _ hk]
  unfold hC
  rw[List.getElem?_toArray,List.getElem?_append_right (by simp[wC]),show 8+j-(wC h.st).toList.length=j by simp[wC],List.getElem?_append_left (List.getElem?_eq_some_iff.1 hv).1]
  exact hv) underlying184 rfl (by rw[List.length_map,hb];exact Xtp)
theorem HK.all (hb:h.blk.length=64):Ld 193 ⟨b,0,none⟩ w (.agg (hC h)):=
 run_loadVar_row w b _ 193 _ _ _ hk underlying193 rfl (by rw[Xla hb];exact Xo7)
theorem HK.setSt (v:W8):Sv 191 ⟨b,0,none⟩ (.agg (wC v)) w (w.setRow b (hC ⟨v,h.blk,h.len⟩))∧HK (w.setRow b (hC ⟨v,h.blk,h.len⟩)) b ⟨v,h.blk,h.len⟩:=by
 have:=Xki (P:=prog) w b 0 191 _ [] (wC h.st).toList (h.blk.map U++[Value.int .i64 (h.len:Int)]) (wC v).toList hk rfl rfl (by rw[Array.length_toList,Xg0];exact Xdc) (fun x hx=>(Array.all_eq_true'.1 (Xxk v)) x (by simpa using hx))
 rw[Array.toArray_toList] at this
 exact⟨this,setRow_heap w b _ _ _ _ hk⟩
theorem HK.setLen (hb:h.blk.length=64)(n:Nat):HK (w.setCell ⟨b,72,none⟩ (.int .i64 (n:Int))) b ⟨h.st,h.blk,n⟩:=by
 have:=Xd8 hk 72 (.int .i64 (n:Int))
 have e:(hC h).setIfInBounds 72 (.int .i64 (n:Int))=hC ⟨h.st,h.blk,n⟩:=by
  unfold hC
  rw[List.setIfInBounds_toArray]
  rw[List.set_append_right _ _ (by simp[wC]),List.set_append_right _ _ (by simp[wC,hb])]
  simp[wC,hb]
 rw[e] at this
 exact this
end
theorem Xwy {h:Hs}(hb:h.blk.length=64){p:Nat}{cs:List Nat}(hp:p+cs.length≤64):
    ((hC h).toList.take (8+p)++(cs.map U++(hC h).toList.drop (8+p+(cs.map U).length))).toArray=hC ⟨h.st,h.blk.take p++cs++h.blk.drop (p+cs.length),h.len⟩:=by
 have l8:(wC h.st).toList.length=8:=rfl
 unfold hC
 simp only[List.length_map]
 rw[List.take_append,List.drop_append,List.take_of_length_le (by omega),show(wC h.st).toList.drop (8+p+cs.length)=[] from List.drop_of_length_le (by omega),l8,show 8+p-8=p by omega,show 8+p+cs.length-8=p+cs.length by omega,
  List.take_append_of_le_length (by simp[hb];omega),List.drop_append_of_le_length (by simp[hb];omega)]
 simp
theorem Xs7:∀(k k':Nat) (h:Hs) (l:List Nat),l.length≤k→l.length≤k'→wrN k h l=wrN k' h l
 |0,0,_,_,_,_=>rfl
 |0,k'+1,h,l,hk,_=>by
  obtain rfl:l=[]:=List.eq_nil_of_length_eq_zero (by omega)
  simp[wrN]
 |k+1,0,h,l,_,hk=>by
  obtain rfl:l=[]:=List.eq_nil_of_length_eq_zero (by omega)
  simp[wrN]
 |k+1,k'+1,h,l,hk,hk'=>by
  unfold wrN
  by_cases e:l=[]
  ·rw[qP e,qP e]
  ·rw[qN e,qN e]
   have h0:0<l.length:=List.length_pos_iff.2 e
   exact Xs7 k k' _ _ (by rw[List.length_drop];omega) (by rw[List.length_drop];omega)
theorem Ycb (h:Hs)(l:List Nat)(h0:0<l.length):wrN l.length h l=wrN (l.drop (min (64-h.len%64) l.length)).length (Xcp h l) (l.drop (min (64-h.len%64) l.length)):=by
 obtain⟨k,hk⟩:∃k,l.length=k+1:=⟨l.length-1,by omega⟩
 have e:l≠[]:=fun e=>by rw[e] at h0;simp at h0
 conv=>lhs;rw[hk];unfold wrN;rw[qN e]
 exact Xs7 _ _ _ _ (by rw[List.length_drop];omega) (zL _)
theorem Xo0 {h:Hs}(ho:h.Ok){l:List Nat}(hl:∀x∈l,x<256):(Xcp h l).Ok∧B64 (h.blk.take (h.len%64)++l.take (min (64-h.len%64) l.length)++h.blk.drop (h.len%64+min (64-h.len%64) l.length)):=by
 have hb:B64 (h.blk.take (h.len%64)++l.take (min (64-h.len%64) l.length)++h.blk.drop (h.len%64+min (64-h.len%64) l.length)):=by
  refine⟨by simp[ho.blk.len];omega,fun x hx=>?_⟩
  rw[List.mem_append,List.mem_append] at hx
  rcases hx with(hx|hx)|hx
  ·exact ho.blk.lt x (List.mem_of_mem_take hx)
  ·exact hl x (List.mem_of_mem_take hx)
  ·exact ho.blk.lt x (List.mem_of_mem_drop hx)
 refine⟨⟨?_,hb⟩,hb⟩
 show W8.Ok (if _ then _ else _)
 split
 ·exact Xy2 _ _
 ·exact ho.st
theorem Yfq:∀(k:Nat) {h:Hs} {l:List Nat},h.Ok→(∀x∈l,x<256)→(wrN k h l).Ok
 |0,_,_,ho,_=>ho
 |k+1,h,l,ho,hl=>by
  unfold wrN
  split
  ·exact ho
  ·exact Yfq k (Xo0 ho hl).1 (fun x hx=>hl x (List.mem_of_mem_drop hx))
theorem Yfr {h:Hs}(ho:h.Ok){l:List Nat}(hl:∀x∈l,x<256):(wrF h l).Ok:=Yfq _ ⟨by show W8.Ok (if _ then _ else _);split;exact Xtu;exact ho.st,ho.blk⟩ hl
theorem Yga:hs0.Ok:=⟨⟨by decide,by decide,by decide,by decide,by decide,by decide,by decide,by decide⟩,⟨by simp[hs0],fun x hx=>by unfold hs0 at hx;simp at hx;omega⟩⟩
theorem Xxi:∀(k:Nat) (h:Hs) (l:List Nat),l.length≤k→(wrN k h l).len=h.len+l.length
 |0,h,l,hk=>by
  obtain rfl:l=[]:=List.eq_nil_of_length_eq_zero (by omega)
  rfl
 |k+1,h,l,hk=>by
  unfold wrN
  by_cases e:l=[]
  ·rw[qP e,e];rfl
  ·have h0:0<l.length:=List.length_pos_iff.2 e
   rw[qN e,Xxi k _ _ (by rw[List.length_drop];omega),List.length_drop]
   show h.len+min (64-h.len%64) l.length+_=_
   omega
end Go.Proofs.YtjolcnopipbkhaaGreatDoor
/- utf8.Printable. -/
namespace Go.Proofs.YtjolcnopipbkhaaGreatDoor
open Go.Proofs.Tryz
open Go.RowKit Go.Shelf
attribute [local go_sem] Oper.semAt_some
set_option linter.unusedVariables false
set_option maxHeartbeats 100000000
set_option maxRecDepth 100000
theorem Yfy (F:Fence)(n:Nat)(h37:F.fn 137)(hro:F.round=none)(s:ByteArray)(w:World):
    CallsIn F n prog 137 #[.string s] w fun e w'=>e=.returned (.func (.func 185) #[] #[.pointer (some ⟨w.heap.size,0,none⟩)])∧w'=w.alloc (.cells #[.string s] 9):=by
 refine callsIn_of_wp func137 rfl h37 ?_ hro
 simp only[ntmps137,List.size_toArray,List.length_cons,List.length_nil,Nat.reduceAdd,Nat.reduceSub,Array.replicate_succ,Array.replicate_zero,List.push_toArray,List.append_toArray,List.nil_append,List.cons_append]
 gi_wp2
 go_ret
 exact⟨rfl,rfl⟩
theorem Xpg (n:Nat)(hn:1≤n)(Bs:Nat)(s:ByteArray)(hs:s.size≤maxLen)(w:World)(hB:Bs<w.heap.size)(hc:w.cell? ⟨Bs,0,none⟩=some (.string s)):
    SeqStopsK Fence.wide n prog 185 #[.pointer (some ⟨Bs,0,none⟩)] rnV (KeepB Bs) (fun ys=>ys=rns (bs s)) (fun pre=>∃q,pre++q=rns (bs s)) (s.size+1) w:=fun l J Jx W hW hJ _ hY h0=>
 Yg9 n hn l Bs W.heap.size s hs J Jx hJ hY W ((hW.cell (p:=⟨Bs,0,none⟩) hB).trans hc) h0
theorem Xr1 {W w2:World}(hb:Bw W w2)(B:Nat):KeepsFrom B W w2:=⟨hb.size,fun k o _ hk _=>(hb.block k (zY hk)).trans hk⟩
theorem Xcz {W w2:World}{B:Nat}{t:TypeId}{v:Value}(h:Boxed W B t v)(hb:Bw W w2):Boxed w2 B t v:=(hb.block B h.lt).trans h
theorem Xdd (B:Nat){β:Type}(p:β→Prop):OwnFrom B (fun s (_:World)=>Hid (p s)):=fun _ _ _ _ hs _ _=>hs
theorem Xw5 {W:World}{B:Nat}{t:TypeId}{v:Value}(h:Boxed W B t v):Boxed (W.setCell ⟨B,0,none⟩ v) B t v:=Xd8 h 0 v
def PrI (w:World)(p:Nat)(s:ByteArray)(pre:List (Nat×Nat))(W:World):Prop:=
 Boxed W p 4 (.bool false)∧(Boxed W (p+1) 9 (.string s)∧(Hid (pre.all (fun x=>gd false x.2)=true)∧Below p w W))
def PrX (w:World)(p:Nat)(s:ByteArray)(c:Code)(pre:List (Nat×Nat))(W:World):Prop:=
 Boxed W p 4 (.bool false)∧(Hid (c=.ret∧pre.all (fun x=>gd false x.2)=false)∧Below p w W)
theorem PrI.own (w:World)(p:Nat)(s:ByteArray)(hp:p≤w.heap.size)(B:Nat)(hB:p≤B):OwnFrom B (PrI w p s):=
 OwnFrom.and (Own.from (boxed_own p 4 (fun _=>.bool false)) _) (OwnFrom.and (Own.from (boxed_own (p+1) 9 (fun _=>.string s)) _) (OwnFrom.and (Xdd B _) (ownFrom_below hp hB)))
theorem PrX.own (w:World)(p:Nat)(s:ByteArray)(c:Code)(hp:p≤w.heap.size)(B:Nat)(hB:p≤B):OwnFrom B (PrX w p s c):=
 OwnFrom.and (Own.from (boxed_own p 4 (fun _=>.bool false)) _) (OwnFrom.and (Xdd B _) (ownFrom_below hp hB))
theorem Xvi (s:ByteArray)(w:World)(hs:s.size≤maxLen):
    zJ 87 #[.string s] w (.bool (Xie false (bs s))):=by
 have V:=Hd (Xvh s (w.alloc (.cells #[.bool false] 4)) hs)
 obtain⟨vb,hvb⟩:=xq (vld (bs s))
 rw[←hvb] at V
 have G:Hid (Xie false (bs s)=(vb&&(rns (bs s)).all fun x=>gd false x.2)):=Hd (by rw[hvb];rfl)
 have HS:=Hd hs
 clear hvb hs
 cases vb
 ·go_enter func87,ntmps87
  go_wp2_with (go_at_call 136;refine V.o.mono ?_;rintro e w1 ⟨rfl,hd⟩;obtain⟨q,rfl⟩:=hd)
  have hb:=((Boxed.new w 4 (.bool false)).cell)
  refine zP (v:=.bool false) (by simp[results,Tryz.f87,go_sem]) rfl ⟨by rw[G.o];rfl,?_⟩
  exact(((zR _ w).alloc (zL _) _).trans ((Dr.below ⟨q,rfl⟩).mono (by simp))).setCell (p:=⟨w.heap.size,0,none⟩) (zL _) _
 ·refine(callsIn_wide (n:=5)).1 ?_
  refine callsIn_of_wp_marks func87 rfl trivial ?_ rfl
  simp only[ntmps87,List.size_toArray,List.length_cons,List.length_nil,Nat.reduceAdd,Nat.reduceSub,Array.replicate_succ,Array.replicate_zero,List.push_toArray,List.append_toArray,List.nil_append,List.cons_append]
  gi_wp2_with (refine⟨trivial,?_⟩;gi_at_call 136;refine(callsIn_wide.2 V.o).mono ?_;rintro e w1 ⟨rfl,hd⟩;obtain⟨q,rfl⟩:=hd)
  refine⟨trivial,?_⟩
  gi_at_call 137
  refine(Yfy Fence.wide _ trivial rfl _ _).mono ?_
  rintro e w' ⟨rfl,rfl⟩
  gi_wp2
  obtain⟨p,hp⟩:=xq w.heap.size
  obtain⟨W0,hW0⟩:∃W0,(((w.alloc (.cells #[.bool false] 4)).drewN q).alloc (.cells #[.string s] 9))=W0:=⟨_,rfl⟩
  have z0:W0.heap.size=p+2:=by rw[←hW0,hp];simp
  have i0':PrI w p s [] W0:=by
   rw[←hW0,hp]
   refine⟨?_,?_,Hd rfl,?_⟩
   ·exact Xcz (Xcz (Boxed.new w 4 (.bool false)) (Dr.below ⟨q,rfl⟩)) ((zR _ _).alloc (zL _) _)
   ·have:=Boxed.new ((w.alloc (.cells #[.bool false] 4)).drewN q) 9 (.string s)
    simpa using this
   ·exact(((zR _ w).alloc (zL _) _).trans ((Dr.below ⟨q,rfl⟩).mono (by simp))).alloc (by simp) _
  rw[hW0,←hp]
  have hc0:W0.cell? ⟨p+1,0,none⟩=some (.string s):=i0'.2.1.cell
  have HP:=Hd hp
  clear hW0 hp V
  refine wpIn_rangeFunc_ownF (F:=Fence.wide) (n:=5) rfl (by omega) (gf:=185) (lb:=#[.pointer (some ⟨p+1,0,none⟩)]) rfl trivial (enters_of func185 (by kernel_rfl) rfl)
   (Xpg 4 (by omega) (p+1) s HS.o W0 (by omega) hc0) (fun h k=>Eq.trans k h) ?keep (zR _ _) (fun _=>rfl)
   (PrI w p s) (PrX w p s) (PrI.own w p s (by rw[HP.o];exact zL _) _ (by omega)) (fun c=>PrX.own w p s c (by rw[HP.o];exact zL _) _ (by omega)) i0'
   (fun x=>{tmps:=#[.string s,undef,.pointer (some ⟨p,0,none⟩),undef,.int .i32 (x.2:Int),.string s,.bool true,.bool false,.string s,.func (.func 185) #[] #[.pointer (some ⟨p+1,0,none⟩)],.int .i64 (x.1:Int),.int .i32 (x.2:Int),undef,undef],defers:=[]})
   ?assign ?body ?done ?stop
  case keep=>
   intro W l o o' hl _ _ _
   show(W.putObj l o').heap[p+1]?=W.heap[p+1]?
   exact(grownBy_putObj' W l o').block _ (by have:=zY ‹_›;omega) (fun e=>by cases e;omega)
  case assign=>
   rintro l x W K hK
   unfold rnV
   gi_wp2
   exact hK
  case body=>
   rintro l pre x W hI hlt
   have hb:=hI.1.cell
   have hf:=hI.1.frozen
   have HI:=Hd hI
   have UC:=Hd (fun w=>Ycm w x.2)
   have z:∃b,b=Xuw x.2:=⟨_,rfl⟩
   obtain⟨b,hbx⟩:=z
   rw[←hbx] at UC
   have HB:=Hd hbx
   clear hbx hI
   cases b
   ·gi_wp2_with (refine⟨trivial,?_⟩;gi_at_call 138;refine(CallsIn.inRound l (callsIn_wide.2 (UC.o _))).mono ?_;rintro e w1 ⟨rfl,rfl⟩)
    refine⟨KeepsOthers.refl _,rfl,HI.o.1,HI.o.2.1,Hd ?_,HI.o.2.2.2⟩
    rw[List.all_append,HI.o.2.2.1.o]
    simp[gd,←HB.o]
   ·gi_wp2_with (refine⟨trivial,?_⟩;gi_at_call 138;refine(CallsIn.inRound l (callsIn_wide.2 (UC.o _))).mono ?_;rintro e w1 ⟨rfl,rfl⟩)
    refine⟨KeepsOthers.setCell _ _ _,⟨Xw5 HI.o.1,Hd ⟨rfl,?_⟩,HI.o.2.2.2.setCell (p:=⟨p,0,none⟩) (zL _) _⟩⟩
    rw[List.all_append,Bool.and_eq_false_iff]
    exact .inr (by simp[gd,←HB.o])
  case done=>
   rintro D ys W hD rfl hI hK
   have hb:=hI.1.cell
   have hf:=hI.1.frozen
   have HI:=Hd hI
   clear hI
   gi_wp2
   have hK':=(KeepsOthers.setCell W ⟨p,0,none⟩ (.bool true)).same D _ hK rfl
   refine⟨by simp,.inl ⟨_,_,rfl,run_takeDeferred hK',?_⟩⟩
   have hc5:=cell_kept (World.cell?_setCell_same' W ⟨p,0,none⟩ (.bool true) (by rw[hb];rfl)) (grownBy_putObj' _ D (.deferred none)) (fun r e=>by cases e;exact⟨_,hK',rfl⟩)
   refine⟨.bool true,?_,by rw[G.o,HI.o.2.2.1.o];rfl,((HI.o.2.2.2.mono (Nat.le_of_eq HP.o.symm)).setCell (p:=⟨p,0,none⟩) (Nat.le_of_eq HP.o.symm) _).trans (belowK_b (w:=w) (zL _) _ D _ _ (by have:=HP.o;omega) hK' rfl rfl)⟩
   simp[results,Tryz.f87,go_sem,hc5]
  case stop=>
   rintro D c pre W hD ⟨q,hq⟩ hI hK
   obtain⟨h1,h2,h3⟩:=hI
   obtain⟨rfl,h4⟩:=h2.o
   have h5:=h1.cell
   have GF:Xie false (bs s)=false:=by rw[G.o,←hq,List.all_append,h4];rfl
   gi_wp2
   refine⟨by simp,.inl ⟨_,_,rfl,run_takeDeferred hK,?_⟩⟩
   have hc5:=cell_kept h5 (grownBy_putObj' _ D (.deferred none)) (fun r e=>by cases e;exact⟨_,hK,rfl⟩)
   refine⟨.bool false,?_,rfl,(h3.mono (Nat.le_of_eq HP.o.symm)).trans (belowK_b (w:=w) (zL _) _ D _ _ (by have:=HP.o;omega) hK rfl rfl)⟩
   simp[results,Tryz.f87,go_sem,hc5]
end Go.Proofs.YtjolcnopipbkhaaGreatDoor
/- The library's contracts on texts at this seat (laid by the shelf's tools): IndexByte, HasPrefix, HasSuffix, Contains, Cut, CutPrefix. -/
namespace Go.Proofs.YtjolcnopipbkhaaGreatDoor
open Go.Proofs.Tryz
open Go.Shelf Go.RowKit
set_option linter.unusedVariables false
set_option maxRecDepth 100000
set_option maxHeartbeats 100000000
def Xl4:Go.Shelf.Ren:=⟨fun|137=>147|217=>201|266=>243|n=>n,fun|9=>9|5=>5|3=>3|n=>n,fun|n=>n⟩
theorem Xwg:Go.Proofs.Lays.n137 prog Xl4:={
 mixed:=by kernel_rfl
 f137:=func147.trans (congrArg some (by kernel_rfl))
 f217:=func201.trans (congrArg some (by kernel_rfl))
 f266:=func243.trans (congrArg some (by kernel_rfl))
 t3:=underlying3
 a3:=Tryz.isAgg3
 z3:=Tryz.sizeOf3
 v3:=Tryz.zeroValue3
 t5:=underlying5
 a5:=Tryz.isAgg5
 z5:=Tryz.sizeOf5
 v5:=Tryz.zeroValue5
 t9:=underlying9
 a9:=Tryz.isAgg9
 z9:=Tryz.sizeOf9
 v9:=Tryz.zeroValue9}
theorem Xgn (s:ByteArray)(c:Int)(w:World):
    Ry 147 #[.string s,.int .u8 c] w (.int .i64 (Lib.indexByte s.data.toList c.toNat.toUInt8)):=Any.strings_IndexByte Xwg s c w
def Xl6:Go.Shelf.Ren:=⟨fun|103=>52|210=>97|206=>66|n=>n,fun|9=>9|4=>4|24=>102|3=>3|n=>n,fun|n=>n⟩
theorem Xwh:Go.Proofs.Lays.n103 prog Xl6:={
 mixed:=by kernel_rfl
 f103:=func52.trans (congrArg some (by kernel_rfl))
 f206:=func66.trans (congrArg some (by kernel_rfl))
 f210:=func97.trans (congrArg some (by kernel_rfl))
 t3:=underlying3
 a3:=Tryz.isAgg3
 z3:=Tryz.sizeOf3
 v3:=Tryz.zeroValue3
 t4:=underlying4
 a4:=Tryz.isAgg4
 z4:=Tryz.sizeOf4
 v4:=Tryz.zeroValue4
 t9:=underlying9
 a9:=Tryz.isAgg9
 z9:=Tryz.sizeOf9
 v9:=Tryz.zeroValue9
 t24:=underlying102
 a24:=Tryz.isAgg102
 z24:=Tryz.sizeOf102
 v24:=Tryz.zeroValue102}
theorem Xgo (s p:ByteArray)(w:World):
    Ry 52 #[.string s,.string p] w (.tuple #[.string ⟨(Lib.trimPrefix s.data.toList p.data.toList).toArray⟩,.bool (Lib.hasPrefix s.data.toList p.data.toList)]):=Any.strings_CutPrefix Xwh s p w
def Xl3:Go.Shelf.Ren:=⟨fun|144=>140|143=>188|219=>146|217=>201|225=>202|224=>203|267=>204|266=>243|314=>244|n=>n,fun|9=>9|4=>4|3=>3|5=>5|46=>128|146=>296|51=>163|n=>n,fun|1=>2|n=>n⟩
theorem Xwf:Go.Proofs.Lays.n144 prog Xl3:={
 mixed:=by kernel_rfl
 f143:=func188.trans (congrArg some (by kernel_rfl))
 f144:=func140.trans (congrArg some (by kernel_rfl))
 f217:=func201.trans (congrArg some (by kernel_rfl))
 f219:=func146.trans (congrArg some (by kernel_rfl))
 f224:=func203.trans (congrArg some (by kernel_rfl))
 f225:=func202.trans (congrArg some (by kernel_rfl))
 f266:=func243.trans (congrArg some (by kernel_rfl))
 f267:=func204.trans (congrArg some (by kernel_rfl))
 f314:=func244.trans (congrArg some (by kernel_rfl))
 t3:=underlying3
 a3:=Tryz.isAgg3
 z3:=Tryz.sizeOf3
 v3:=Tryz.zeroValue3
 t4:=underlying4
 a4:=Tryz.isAgg4
 z4:=Tryz.sizeOf4
 v4:=Tryz.zeroValue4
 t5:=underlying5
 a5:=Tryz.isAgg5
 z5:=Tryz.sizeOf5
 v5:=Tryz.zeroValue5
 t9:=underlying9
 a9:=Tryz.isAgg9
 z9:=Tryz.sizeOf9
 v9:=Tryz.zeroValue9
 t46:=underlying128
 a46:=Tryz.isAgg128
 z46:=Tryz.sizeOf128
 v46:=Tryz.zeroValue128
 t51:=underlying163
 a51:=Tryz.isAgg163
 z51:=Tryz.sizeOf163
 v51:=Tryz.zeroValue163
 t146:=underlying296
 a146:=Tryz.isAgg296
 z146:=Tryz.sizeOf296
 v146:=Tryz.zeroValue296
 g1:=by kernel_rfl}
theorem Xg9 (s sub:ByteArray)(m:Int)(w:World)(hs:s.size<4294967281)(hm:w.cell? ⟨2,0,none⟩=some (.int .i64 m)):
    Ry 140 #[.string s,.string sub] w (.bool (Lib.contains s.data.toList sub.data.toList)):=Any.strings_Contains Xwf s sub m w hs hm
def Xl2:Go.Shelf.Ren:=⟨fun|145=>51|220=>96|219=>146|217=>201|225=>202|224=>203|267=>204|266=>243|314=>244|n=>n,fun|9=>9|4=>4|59=>100|3=>3|5=>5|46=>128|146=>296|51=>163|n=>n,fun|1=>2|n=>n⟩
theorem Xwe:Go.Proofs.Lays.n145 prog Xl2:={
 mixed:=by kernel_rfl
 f145:=func51.trans (congrArg some (by kernel_rfl))
 f217:=func201.trans (congrArg some (by kernel_rfl))
 f219:=func146.trans (congrArg some (by kernel_rfl))
 f220:=func96.trans (congrArg some (by kernel_rfl))
 f224:=func203.trans (congrArg some (by kernel_rfl))
 f225:=func202.trans (congrArg some (by kernel_rfl))
 f266:=func243.trans (congrArg some (by kernel_rfl))
 f267:=func204.trans (congrArg some (by kernel_rfl))
 f314:=func244.trans (congrArg some (by kernel_rfl))
 t3:=underlying3
 a3:=Tryz.isAgg3
 z3:=Tryz.sizeOf3
 v3:=Tryz.zeroValue3
 t4:=underlying4
 a4:=Tryz.isAgg4
 z4:=Tryz.sizeOf4
 v4:=Tryz.zeroValue4
 t5:=underlying5
 a5:=Tryz.isAgg5
 z5:=Tryz.sizeOf5
 v5:=Tryz.zeroValue5
 t9:=underlying9
 a9:=Tryz.isAgg9
 z9:=Tryz.sizeOf9
 v9:=Tryz.zeroValue9
 t46:=underlying128
 a46:=Tryz.isAgg128
 z46:=Tryz.sizeOf128
 v46:=Tryz.zeroValue128
 t51:=underlying163
 a51:=Tryz.isAgg163
 z51:=Tryz.sizeOf163
 v51:=Tryz.zeroValue163
 t59:=underlying100
 a59:=Tryz.isAgg100
 z59:=Tryz.sizeOf100
 v59:=Tryz.zeroValue100
 t146:=underlying296
 a146:=Tryz.isAgg296
 z146:=Tryz.sizeOf296
 v146:=Tryz.zeroValue296
 g1:=by kernel_rfl}
theorem Xgs (s sep:ByteArray)(m:Int)(w:World)(hs:s.size<4294967281)(hm:w.cell? ⟨2,0,none⟩=some (.int .i64 m)):
    Calls prog 51 #[.string s,.string sep] w fun e w'=>e=.returned (.tuple #[.string ⟨(Lib.cut s.data.toList sep.data.toList).1.toArray⟩,.string ⟨(Lib.cut s.data.toList sep.data.toList).2.1.toArray⟩,.bool (Lib.cut s.data.toList sep.data.toList).2.2])∧∃n,w'=w.drewN n:=Any.strings_Cut Xwe s sep m w hs hm
def Xn5:Go.Shelf.Ren:=⟨fun|99=>24|206=>66|n=>n,fun|9=>9|4=>4|3=>3|n=>n,fun|n=>n⟩
theorem Xzm:Go.Proofs.Lays.n99 prog Xn5:={
 mixed:=by kernel_rfl
 f99:=func24.trans (congrArg some (by kernel_rfl))
 f206:=func66.trans (congrArg some (by kernel_rfl))
 t3:=underlying3
 a3:=Tryz.isAgg3
 z3:=Tryz.sizeOf3
 v3:=Tryz.zeroValue3
 t4:=underlying4
 a4:=Tryz.isAgg4
 z4:=Tryz.sizeOf4
 v4:=Tryz.zeroValue4
 t9:=underlying9
 a9:=Tryz.isAgg9
 z9:=Tryz.sizeOf9
 v9:=Tryz.zeroValue9}
theorem Xcs (s p:ByteArray)(w:World):
    Ry 24 #[.string s,.string p] w (.bool (Lib.hasPrefix s.data.toList p.data.toList)):=Any.strings_HasPrefix Xzm s p w
def Xl7:Go.Shelf.Ren:=⟨fun|100=>139|207=>187|n=>n,fun|9=>9|4=>4|3=>3|n=>n,fun|n=>n⟩
theorem Xwi:Go.Proofs.Lays.n100 prog Xl7:={
 mixed:=by kernel_rfl
 f100:=func139.trans (congrArg some (by kernel_rfl))
 f207:=func187.trans (congrArg some (by kernel_rfl))
 t3:=underlying3
 a3:=Tryz.isAgg3
 z3:=Tryz.sizeOf3
 v3:=Tryz.zeroValue3
 t4:=underlying4
 a4:=Tryz.isAgg4
 z4:=Tryz.sizeOf4
 v4:=Tryz.zeroValue4
 t9:=underlying9
 a9:=Tryz.isAgg9
 z9:=Tryz.sizeOf9
 v9:=Tryz.zeroValue9}
theorem Xdr (s p:ByteArray)(w:World)(hs:s.size≤9223372036854775807):
    Ry 139 #[.string s,.string p] w (.bool (Lib.hasSuffix s.data.toList p.data.toList)):=Any.strings_HasSuffix Xwi s p w hs
end Go.Proofs.YtjolcnopipbkhaaGreatDoor
/- Plain: the library's texts functions and this seat's: split, join, cut, decimal digits. -/
namespace Go.Proofs.YtjolcnopipbkhaaGreatDoor
open Go.Proofs.Tryz
open Go.RowKit Go.Maps
set_option linter.unusedVariables false
set_option maxRecDepth 100000
set_option maxHeartbeats 100000000
theorem Xi3 {a b:UInt8}(h:a.toNat=b.toNat):a=b:=UInt8.toNat_inj.1 h
theorem Xmj (c:UInt8):∀l:List UInt8,(Lib.splitK [c] 0 (Lib.count l [c]) l).map (fun p=>p.map UInt8.toNat)=spl c.toNat (l.map UInt8.toNat)
 |[]=>by rw[Lib.count_miss (by simp[Lib.index])];rfl
 |b::l=>by
  have ih:=Xmj c l
  by_cases h:b=c
  ·subst h
   have hix:Lib.index (b::l) [b]=0:=by rw[Lib.index];simp[List.isPrefixOf]
   rw[Lib.count_cons_eq,Nat.add_comm,Lib.splitK,hix]
   simp only[List.map_cons,spl,if_true]
   rw[←ih]
   simp
  ·have h':¬b.toNat=c.toNat:=fun e=>h (Xi3 e)
   rw[Lib.count_cons_ne b c l h]
   simp only[List.map_cons,spl,qN h']
   rw[←ih]
   have hix:Lib.index (b::l) [c]=if Lib.index l [c]==-1 then -1 else Lib.index l [c]+1:=by rw[Lib.index];simp[List.isPrefixOf,Ne.symm h]
   cases hn:Lib.count l [c] with
   |zero=>rfl
   |succ k=>
    have hne:Lib.index l [c]≠-1:=fun e=>by rw[Lib.count_miss e] at hn;omega
    have hge:=Lib.index_ge l [c]
    obtain⟨j,hj⟩:∃j:Nat,Lib.index l [c]=j:=⟨(Lib.index l [c]).toNat,by omega⟩
    have e1:(Lib.index l [c]==-1)=false:=beq_eq_false_iff_ne.2 hne
    rw[hj] at hix e1
    rw[e1] at hix
    simp only[Lib.splitK,hix,hj,e1]
    have e2:(((j:Int)+1)==-1)=false:=beq_eq_false_iff_ne.2 (by omega)
    have e3:((j:Int)+1).toNat=j+1:=by omega
    simp[e2,e3]
theorem Xmx (sep:List Nat):∀(r:List (List Nat)) (x:List Nat),Xaw sep (x::r)=x++(r.map (sep++·)).flatten
 |[],x=>by simp[Xaw]
 |y::r,x=>by rw[Xaw,Xmx sep r y];simp
theorem Xwj (sep:List UInt8)(xs:List (List UInt8)):(Lib.join xs sep).map UInt8.toNat=Xaw (sep.map UInt8.toNat) (xs.map fun x=>x.map UInt8.toNat):=by
 cases xs with
 |nil=>rfl
 |cons x r=>
  rw[Lib.join_cons,List.map_cons,Xmx,List.map_append]
  congr 1
  induction r with
  |nil=>rfl
  |cons y r ih=>simp only[Lib.joinTail,List.map_cons,List.flatten_cons,List.map_append] at ih⊢;rw[ih]
theorem Xoi:∀(k u:Nat),u<10^(k+1)→(Lib.decDigits u).map UInt8.toNat=Xes k u
 |0,u,h=>by
  have h:u<10:=by simpa using h
  rw[Lib.decDigits_one h]
  simp only[Xes,List.map_cons,List.map_nil,List.cons.injEq,and_true]
  rw[UInt8.toNat_ofNat'];omega
 |k+1,u,h=>by
  by_cases h1:u<10
  ·rw[Lib.decDigits_one h1,Xes,qP h1]
   simp only[List.map_cons,List.map_nil,List.cons.injEq,and_true]
   rw[UInt8.toNat_ofNat'];omega
  ·rw[Lib.decDigits,dif_neg h1,Xes,qN h1,List.map_append,Xoi k (u/10) (by rw[Nat.pow_succ] at h;omega)]
   simp only[List.map_cons,List.map_nil]
   rw[UInt8.toNat_ofNat']
   congr 2;omega
theorem Xzw (n:Int)(h0:-9223372036854775808≤n)(h1:n≤9223372036854775807):(Lib.itoa n).map UInt8.toNat=Xdq n:=by
 unfold Lib.itoa Xdq
 split
 ·rw[List.map_cons,Xoi 20 _ (by omega)];rfl
 ·rw[Xoi 20 _ (by omega)]
theorem Xen {c:UInt8}:∀{l:List UInt8},Lib.indexByte l c=-1→(l.map UInt8.toNat).takeWhile (fun x=>!decide (x=c.toNat))=l.map UInt8.toNat
 |[],_=>rfl
 |b::l,h=>by
  rw[Lib.indexByte] at h
  by_cases hb:b=c
  ·simp[hb] at h
  ·have h':¬b.toNat=c.toNat:=fun e=>hb (Xi3 e)
   have e2:(b==c)=false:=beq_eq_false_iff_ne.2 hb
   rw[e2] at h
   by_cases h3:Lib.indexByte l c=-1
   ·rw[List.map_cons,List.takeWhile_cons,zW h']
    simp only[Bool.not_false,if_true]
    rw[Xen h3]
   ·have hge:=Lib.index_ge l [c]
    rw[Lib.index_one] at hge
    have e3:(Lib.indexByte l c==-1)=false:=beq_eq_false_iff_ne.2 h3
    rw[e3] at h
    simp at h
    omega
theorem Xem {c:UInt8}:∀{l:List UInt8} {i:Nat},Lib.indexByte l c=i→(l.map UInt8.toNat).takeWhile (fun x=>!decide (x=c.toNat))=(l.map UInt8.toNat).take i∧i<l.length∧(l.map UInt8.toNat).dropWhile (fun x=>!decide (x=c.toNat))=(l.map UInt8.toNat).drop i
 |[],i,h=>by rw[Lib.indexByte] at h;omega
 |b::l,i,h=>by
  rw[Lib.indexByte] at h
  by_cases hb:b=c
  ·rw[hb] at h⊢
   simp at h
   have:i=0:=by omega
   subst this
   simp
  ·have h':¬b.toNat=c.toNat:=fun e=>hb (Xi3 e)
   have e2:(b==c)=false:=beq_eq_false_iff_ne.2 hb
   rw[e2] at h
   by_cases h3:Lib.indexByte l c=-1
   ·rw[h3] at h;simp at h
   ·have hge:=Lib.index_ge l [c]
    rw[Lib.index_one] at hge
    have e3:(Lib.indexByte l c==-1)=false:=beq_eq_false_iff_ne.2 h3
    rw[e3] at h
    simp at h
    obtain⟨j,rfl⟩:∃j,i=j+1:=⟨i-1,by omega⟩
    obtain⟨a1,a2,a3⟩:=Xem (c:=c) (l:=l) (i:=j) (by omega)
    rw[List.map_cons,List.takeWhile_cons,List.dropWhile_cons,zW h']
    simp only[Bool.not_false,if_true]
    rw[a1,a3]
    exact⟨rfl,by simpa using a2,rfl⟩
def Xi2 (c:Nat)(l:List Nat):List Nat:=l.takeWhile fun x=>!decide (x=c)
def Yjj (c:Nat)(t:ByteArray)(w:World)(e:Ending)(w':World):Prop:=
 ∃(x y:ByteArray) (b:Bool),e=.returned (.tuple #[.string x,.string y,.bool b])∧bs x=Xi2 c (bs t)∧bs y=(bs t).drop ((Xi2 c (bs t)).length+1)∧b=decide ((Xi2 c (bs t)).length<(bs t).length)∧x.size≤t.size∧Dr w w'
theorem Xjo (l:List UInt8):bs ⟨l.toArray⟩=l.map UInt8.toNat:=by simp[bs]
theorem Xsq (t:ByteArray)(c:UInt8)(w:World)(hs:t.size<4294967281)(hm:∃m,w.cell? ⟨2,0,none⟩=some (.int .i64 m)):
    Calls prog 51 #[.string t,.string ⟨#[c]⟩] w (Yjj c.toNat t w):=by
 obtain⟨m,hm⟩:=hm
 refine(Xgs t ⟨#[c]⟩ m w hs hm).mono fun e w' ⟨h1,q,h2⟩=>?_
 refine⟨_,_,_,h1,?_,?_,?_,?_,⟨q,h2⟩⟩
 all_goals
  have e0:(⟨#[c]⟩:ByteArray).data.toList=[c]:=rfl
  have hix:=Lib.index_one t.data.toList c
  unfold Lib.cut
  rw[e0,hix]
  by_cases h:Lib.indexByte t.data.toList c=-1
  ·have hn:=Xen h
   rw[h]
   simp only[show¬(0:Int)≤-1 by decide,if_false]
   have hu:Xi2 c.toNat (bs t)=bs t:=hn
   first
    |(rw[Xjo];exact hu.symm)
    |(rw[Xjo,hu,List.drop_of_length_le (by omega)];rfl)
    |(rw[hu];simp)
    |exact zL _
  ·have hge:=Lib.index_ge t.data.toList [c]
   rw[hix] at hge
   obtain⟨i,hi⟩:∃i:Nat,Lib.indexByte t.data.toList c=i:=⟨(Lib.indexByte t.data.toList c).toNat,by omega⟩
   obtain⟨h3,h4,h5⟩:=Xem hi
   rw[hi]
   have hl:t.data.toList.length=(bs t).length:=by simp[bs]
   have hu:Xi2 c.toNat (bs t)=(bs t).take i:=h3
   have hul:(Xi2 c.toNat (bs t)).length=i:=by rw[hu,List.length_take];omega
   simp only[show(0:Int)≤(i:Int) from Int.natCast_nonneg i,if_true,Int.toNat_natCast,List.length_singleton]
   first
    |(rw[Xjo,hu,List.map_take];rfl)
    |(rw[Xjo,hul,List.map_drop];rfl)
    |(rw[hul];simp;omega)
    |(rw[←Xaa,Xjo,←Xaa];simp[bs];omega)
theorem Yaa (l:List UInt8):Lib.hasPrefix l [32]=decide ((l.map UInt8.toNat).head?=some 32):=by
 cases l with
 |nil=>rfl
 |cons a l=>
  simp only[Lib.hasPrefix,List.map_cons,List.head?_cons]
  rw[Bool.eq_iff_iff]
  simp[List.isPrefixOf]
  constructor
  ·intro h;rw[←h];rfl
  ·intro h;exact(Xi3 h).symm
theorem Xz9 (l:List UInt8):Lib.hasSuffix l [32]=decide ((l.map UInt8.toNat).getLast?=some 32):=by
 rw[Bool.eq_iff_iff]
 simp only[Lib.hasSuffix,decide_eq_true_eq]
 rcases List.eq_nil_or_concat l with rfl|⟨t,a,rfl⟩
 ·simp[List.isSuffixOf]
 ·simp[List.isSuffixOf,List.isPrefixOf]
  constructor
  ·intro h;rw[←h];rfl
  ·intro h;exact(Xi3 h).symm
theorem Yf8:∀l:List UInt8,(Lib.index l [32,32]=-1↔dbl (l.map UInt8.toNat)=false)
 |[]=>by simp[Lib.index,dbl]
 |[b]=>by simp[Lib.index,dbl,List.isPrefixOf]
 |a::b::t=>by
  have ih:=Yf8 (b::t)
  have hge:=Lib.index_ge (b::t) [32,32]
  rw[Lib.index]
  simp only[List.map_cons,dbl] at ih⊢
  by_cases h:a=32∧b=32
  ·obtain⟨rfl,rfl⟩:=h;simp[List.isPrefixOf]
  ·have e1:([32,32].isPrefixOf (a::b::t))=false:=by
      rw[Bool.eq_false_iff];intro e;simp[List.isPrefixOf] at e;exact h ⟨e.1.symm,e.2.symm⟩
   have e2:(decide (a.toNat=32)&&decide (b.toNat=32))=false:=by
    rw[Bool.eq_false_iff];intro e;simp at e;exact h ⟨Xi3 e.1,Xi3 e.2⟩
   rw[e1,e2]
   simp only[Bool.false_or,Bool.false_eq_true,if_false]
   rw[←ih]
   by_cases h3:Lib.index (b::t) [32,32]=-1
   ·simp[h3]
   ·have e3:(Lib.index (b::t) [32,32]==-1)=false:=beq_eq_false_iff_ne.2 h3
    rw[e3];simp only[Bool.false_eq_true,if_false]
    constructor<;>intro h4<;>omega
theorem Ym5 (l:List UInt8):Lib.contains l [32,32]=dbl (l.map UInt8.toNat):=by
 unfold Lib.contains
 have hge:=Lib.index_ge l [32,32]
 have:=Yf8 l
 cases hd:dbl (l.map UInt8.toNat)
 ·rw[this.2 hd];rfl
 ·rw[hd] at this;simp at this
  simp;omega
theorem Xx3 (s:ByteArray)(w:World)(hs:s.size≤1000000)(hE:Env w):
    Rx 88 #[.string s] w (.bool (sqz (bs s))):=by
 obtain⟨m,hm⟩:=hE.mx
 have P1:=Hd (fun w=>Xcs s ⟨#[32]⟩ w)
 have P2:=Hd (fun w=>Xdr s ⟨#[32]⟩ w (by omega))
 have P3:=Hd (Xg9 s ⟨#[32,32]⟩ m w (by omega) hm)
 rw[show(⟨#[32]⟩:ByteArray).data.toList=[32] from rfl,Yaa] at P1
 rw[show(⟨#[32]⟩:ByteArray).data.toList=[32] from rfl,Xz9] at P2
 rw[show(⟨#[32,32]⟩:ByteArray).data.toList=[32,32] from rfl,Ym5] at P3
 have S:Hid (sqz (bs s)=(!decide ((bs s).head?=some 32)&&!decide ((bs s).getLast?=some 32)&&!dbl (bs s))):=Hd rfl
 obtain⟨a,ha⟩:=xq (decide ((bs s).head?=some 32))
 obtain⟨b,hb⟩:=xq (decide ((bs s).getLast?=some 32))
 obtain⟨c,hc⟩:=xq (dbl (bs s))
 rw[←ha,←hb,←hc] at S
 have P1':Hid (∀w,Ry 24 #[.string s,.string ⟨#[32]⟩] w (.bool a)):=Hd (by rw[ha];exact P1.o)
 have P2':Hid (∀w,Ry 139 #[.string s,.string ⟨#[32]⟩] w (.bool b)):=Hd (by rw[hb];exact P2.o)
 have P3':Hid (Ry 140 #[.string s,.string ⟨#[32,32]⟩] w (.bool c)):=Hd (by rw[hc];exact P3.o)
 clear P1 P2 P3 ha hb hc hm hE
 cases a<;>cases b
 all_goals
  go_enter func88,ntmps88
  go_wp2_with (first
   |(go_at_call 24;refine(P1'.o _).mono ?_;rintro e w' ⟨rfl,h⟩;cases h)
   |(go_at_call 139;refine(P2'.o _).mono ?_;rintro e w' ⟨rfl,h⟩;cases h)
   |(go_at_call 140;refine P3'.o.mono ?_;rintro e w' ⟨rfl,h⟩;cases h))
  go_ret
  exact⟨by rw[S.o];cases c<;>rfl,rfl⟩
theorem Xtg (w:World)(b n:Nat)(h:Ck w b n)(s:ByteArray)(most:Nat)(hs:s.size≤1000000)(hmost:most≤1000000)(hE:Env w)(h9:9≤b):
    Calls prog 43 #[.pointer (some ⟨b,0,none⟩),.string s,.int .i64 (most:Int)] w (Xb6 w b (fe n (Xfp (bs s) most))):=by
 have W:=Hd (Xbq w b n h (decide (most<s.size)) 5)
 have LT:Hid (most<s.size↔most<(bs s).length):=Hd (by rw[Xaa])
 have FR9:Hid (∀w',Fr1 b w w'→Env w'):=Hd (fun w' hf=>hE.below (hf.below (Nat.le_trans (by decide) hE.size) h9) (zL _))
 obtain⟨q,hq⟩:=xq (decide (most<s.size))
 have T:Hid (Xfp (bs s) most=fe (eIf q 5) (fe (eIf (!Xie false (bs s)) 6) (eIf (!sqz (bs s)) 3))):=Hd (by rw[hq];unfold Xfp;simp only[Xaa])
 have dq:decide ((most:Int)<(s.size:Int))=q:=by rw[hq];simp
 have dq2:decide (most<s.size)=q:=hq.symm
 rw[←hq] at W
 clear h hE hq
 go_enter func43,ntmps43
 go_wp2_with fail
 refine W.o.mono ?_
 rintro e w1 ⟨⟨v,rfl⟩,h1,f1⟩
 have P:=Hd (Xvi s w1 (by unfold maxLen;omega))
 have H1:=Hd h1;have F1:=Hd f1
 clear h1 f1 W dq dq2
 go_wp2_with fail
 refine P.o.mono ?_
 rintro e w2 ⟨rfl,hb2⟩
 have F2:=Hd (F1.o.trans (Fr1.of_below hb2))
 have W2:=Hd (Xbq w2 b _ (H1.o.below hb2) (!Xie false (bs s)) 6)
 obtain⟨g,hg⟩:=xq (Xie false (bs s))
 rw[←hg] at W2 T⊢
 clear hb2 hg P
 go_wp2_with fail
 refine W2.o.mono ?_
 rintro e w3 ⟨⟨v,rfl⟩,h3,f3⟩
 have F3:=Hd (F2.o.trans f3)
 have S:=Hd (Xx3 s w3 hs (FR9.o _ F3.o))
 have W3:=Hd (Xbq w3 b _ h3 (!sqz (bs s)) 3)
 obtain⟨k,hk⟩:=xq (sqz (bs s))
 rw[←hk] at W3 T S
 clear h3 f3 hk W2
 go_wp2_with (go_at_call 88;refine S.o.mono ?_;rintro e w' ⟨rfl,rfl⟩)
 refine W3.o.mono ?_
 rintro e w4 ⟨⟨v,rfl⟩,h4,f4⟩
 have H4:=Hd h4;have F4:=Hd (F3.o.trans f4)
 clear h4 f4 W3 S
 go_wp2_with fail
 go_end0
 refine⟨⟨_,rfl⟩,?_,F4.o⟩
 have e:fe n (Xfp (bs s) most)=fe (fe (fe n (eIf q 5)) (eIf (!g) 6)) (eIf (!k) 3):=by
  rw[T.o]
  unfold fe
  by_cases hn:n=0
  ·subst hn;cases q<;>simp[eIf]
  ·simp[hn]
 rw[e]
 exact H4.o
theorem Xzx (w:World)(c:Nat)(hc:c<256):Rx 91 #[.int .u8 (c:Int)] w (.bool (low c)):=by
 obtain⟨b,hb⟩:=xq (low c)
 rw[←hb]
 have HB:=Hd hb
 clear hb
 rcases(by omega:c<97∨(97≤c∧c≤122)∨122<c) with h|⟨h,h2⟩|h
 all_goals
  go_enter func91,ntmps91
  go_wp2_with fail
  go_ret
  exact⟨Xa0 (by rw[HB.o,Bool.eq_iff_iff];simp[low];try omega),rfl⟩
theorem Xk6 (w:World)(c:Nat)(hc:c<256):Rx 92 #[.int .u8 (c:Int)] w (.bool (dig c)):=by
 obtain⟨b,hb⟩:=xq (dig c)
 rw[←hb]
 have HB:=Hd hb
 clear hb
 rcases(by omega:c<48∨(48≤c∧c≤57)∨57<c) with h|⟨h,h2⟩|h
 all_goals
  go_enter func92,ntmps92
  go_wp2_with fail
  go_ret
  exact⟨Xa0 (by rw[HB.o,Bool.eq_iff_iff];simp[dig];try omega),rfl⟩
def dsB (c:Nat):Bool:=!low c&&!dig c&&!decide (c=45)
theorem Xot {p:Nat→Bool}{l:List Nat}{k c:Nat}(hk:k<l.length)(hc:c=l.getD k 0):(l.take (k+1)).any p=((l.take k).any p||p c):=by
 rw[List.getD_eq_getElem?_getD,List.getElem?_eq_getElem hk,Option.getD_some] at hc
 rw[List.take_succ_eq_append_getElem hk,List.any_append,←hc];simp
theorem Yk9 (n:Nat)(p q:Bool)(e:Nat):fe (fe n (eIf p e)) (eIf q e)=fe n (eIf (p||q) e):=by
 unfold fe eIf;by_cases h:n=0<;>by_cases h2:e=0<;>cases p<;>cases q<;>simp[h,h2]
theorem Xjy (a b c:Nat):fe (fe a b) c=fe a (fe b c):=by unfold fe;split<;>simp_all
theorem Yie (n:Nat):fe n 0=n:=by unfold fe;split<;>simp_all
theorem Yew (w:World)(b n:Nat)(h:Ck w b n)(s:ByteArray)(hs:s.size≤1000000):
    Calls prog 47 #[.pointer (some ⟨b,0,none⟩),.string s] w (Xb6 w b (fe n (Xli (bs s)))):=by
 obtain⟨q,hq⟩:=xq (decide (20<s.size))
 have W:=Hd (Xbq w b n h q 5)
 have T:Hid (Xli (bs s)=fe (eIf q 5) (eIf ((bs s).any dsB) 6)):=Hd (by rw[hq];unfold Xli;simp only[Xaa];rfl)
 have dq:decide ((20:Int)<(s.size:Int))=q:=by rw[hq];simp;omega
 clear h hq
 go_enter func47,ntmps47
 go_wp2_with fail
 refine W.o.mono ?_
 rintro e w1 ⟨⟨v,rfl⟩,h1,f1⟩
 obtain⟨m,hm⟩:=xq (fe n (eIf q 5))
 rw[←hm] at h1
 have HM:=Hd hm
 have H1:=Hd h1;have F1:=Hd f1
 clear h1 f1 W dq hm
 go_wp2_with fail
 go_loopg [4,12] s.size (fun k c i wr=>∃j:Nat,j≤s.size∧k=s.size-j∧i=.int .i64 (j:Int)∧Hid (Ck wr b (fe m (eIf (((bs s).take j).any dsB) 6))∧Fr1 b w wr))
 case atStart=>exact⟨0,by omega,rfl,rfl,Hd ⟨by simp[eIf,Yie];exact H1.o,F1.o⟩⟩
 case round=>
  obtain⟨j,hj,rfl,rfl,hr⟩:=hrel
  by_cases hlt:j<s.size
  ·obtain⟨c,hc⟩:=xq ((bs s).getD j 0)
   have hc2:c<256:=by rw[hc];exact Xba s j
   have xn:∀w,(Instr.index 9 (.string s) (.int .i64 (j:Int))).run prog w=.ok (.int .u8 (c:Int)) w:=fun w=>by rw[Xa5 9 underlying9 s .i64 j j rfl hlt,hc]
   have ST:Hid (((bs s).take (j+1)).any dsB=(((bs s).take j).any dsB||dsB c)):=Hd (Xot (by rw[Xaa];exact hlt) hc)
   have L:=Hd (fun w=>Xzx w c hc2)
   have D:=Hd (fun w=>Xk6 w c hc2)
   have X:Hid (dsB c=(!low c&&!dig c&&!decide (c=45))):=Hd rfl
   have N45:Hid (((c:Int) !=45)=!decide (c=45)):=Hd (by by_cases h:c=45<;>simp[h];omega)
   obtain⟨pl,hpl⟩:=xq (low c)
   obtain⟨pd,hpd⟩:=xq (dig c)
   obtain⟨pq,hpq⟩:=xq (decide (c=45))
   rw[←hpl] at L X
   rw[←hpd] at D X
   rw[←hpq] at N45 X
   clear hc hpl hpd hpq
   have n45:=N45.o
   have WH:=Hd (fun bad=>Xbq wr b _ hr.o.1 bad 6)
   cases pl<;>cases pd<;>cases pq
   all_goals
    simp only[Bool.not_true,Bool.not_false] at n45
    go_wp2_with (first
     |(go_at_call 91;refine(L.o _).mono ?_;rintro e w' ⟨rfl,rfl⟩)
     |(go_at_call 92;refine(D.o _).mono ?_;rintro e w' ⟨rfl,rfl⟩))
    refine(WH.o _).mono ?_
    rintro e w2 ⟨⟨v,rfl⟩,h2,f2⟩
    have NX:Hid (Ck w2 b (fe m (eIf (((bs s).take (j+1)).any dsB) 6))∧Fr1 b w w2):=Hd ⟨by rw[ST.o,←Yk9,X.o];exact h2,hr.o.2.trans f2⟩
    clear h2 f2
    go_wp2_with fail
    go_roundg (s.size-(j+1))
    case measure=>omega
    case rel=>exact⟨j+1,by omega,rfl,by go_num,NX⟩
  ·obtain rfl:j=s.size:=by omega
   have R:=hr.o
   rw[List.take_of_length_le (by rw[Xaa];exact zL _)] at R
   have HR:=Hd R
   clear R hr
   go_wp2_with fail
   go_end0
   exact⟨⟨_,rfl⟩,by rw[T.o,←Xjy,←HM.o];exact HR.o.1,HR.o.2⟩
theorem Xwm (w:World)(n:Int):Rx 93 #[.int .i64 n] w (.int .i64 (eIf (!Xav n) 2:Nat)):=by
 obtain⟨b,hb⟩:=xq (Xav n)
 rw[←hb]
 have HB:Hid (b=(decide (1≤n)&&decide (n≤8))):=Hd hb
 clear hb
 rcases(by omega:n<1∨(1≤n∧n≤8)∨8<n) with h|⟨h,h2⟩|h
 ·have hb:b=false:=by rw[HB.o,zW (by omega)];rfl
  subst hb
  go_enter func93,ntmps93
  go_wp2_with fail
  go_ret
  exact⟨rfl,rfl⟩
 ·have hb:b=true:=by rw[HB.o,zT h,zT h2];rfl
  subst hb
  go_enter func93,ntmps93
  go_wp2_with fail
  go_ret
  exact⟨rfl,rfl⟩
 ·have hb:b=false:=by rw[HB.o,zW (show¬n≤8 by omega),Bool.and_false]
  subst hb
  have h1:¬n<1:=by omega
  go_enter func93,ntmps93
  go_wp2_with fail
  go_ret
  exact⟨rfl,rfl⟩
def hvz (c:Nat):Int:=match hvl c with|some v=>(v:Int)|none=>-1
def hdB (c:Nat):Bool:=(hvl c).isSome
theorem Xwk:∀c:Fin 256,Lib.indexByte [48,49,50,51,52,53,54,55,56,57,97,98,99,100,101,102] (UInt8.ofNat c.val)=hvz c.val:=by decide+kernel
theorem Yk2 (c:Nat):hdB c=(dig c||(decide (97≤c)&&decide (c≤102))):=by
 unfold hdB hvl dig
 rw[Bool.eq_iff_iff]
 by_cases h1:48≤c∧c≤57
 ·simp[h1]
 ·by_cases h2:97≤c∧c≤102
  ·simp[h1,h2]
  ·rw[qN h1,qN h2];simp;omega
theorem Xzv (w:World)(c:Nat)(hc:c<256):Rx 147 #[.string ⟨#[48,49,50,51,52,53,54,55,56,57,97,98,99,100,101,102]⟩,.int .u8 (c:Int)] w (.int .i64 (hvz c)):=by
 refine(Xgn _ (c:Int) w).mono ?_
 rintro e w' ⟨rfl,rfl⟩
 refine⟨?_,rfl⟩
 rw[Int.toNat_natCast,←Xwk ⟨c,hc⟩]
theorem Xv8 (w:World)(c:Nat)(hc:c<256):Rx 206 #[.int .u8 (c:Int)] w (.bool (hdB c)):=by
 have D:=Hd (fun w=>Xk6 w c hc)
 have E:Hid (hdB c=(dig c||(decide (97≤c)&&decide (c≤102)))):=Hd (Yk2 c)
 obtain⟨b,hb⟩:=xq (hdB c)
 obtain⟨d,hd⟩:=xq (dig c)
 rw[←hb] at E⊢
 rw[←hd] at D E
 clear hb hd
 cases d
 ·rcases(by omega:c<97∨(97≤c∧c≤102)∨102<c) with h|⟨h,h2⟩|h
  all_goals
   go_enter func206,ntmps206
   go_wp2_with (go_at_call 92;refine(D.o _).mono ?_;rintro e w' ⟨rfl,rfl⟩)
   go_ret
   exact⟨Xa0 (by rw[E.o,Bool.eq_iff_iff];simp;try omega),rfl⟩
 ·go_enter func206,ntmps206
  go_wp2_with (go_at_call 92;refine(D.o _).mono ?_;rintro e w' ⟨rfl,rfl⟩)
  go_ret
  exact⟨Xa0 (by rw[E.o];rfl),rfl⟩
def Xgu (k c:Nat):Bool:=if k<1 then decide (c=60) else if k<65 then hdB c else decide (c=sHash.getD (k-65) 0)
theorem Yep (w:World)(k c:Nat)(hk:k<71)(hc:c<256):Rx 151 #[.int .i64 (k:Int),.int .u8 (c:Int)] w (.bool (Xgu k c)):=by
 have D:=Hd (fun w=>Xv8 w c hc)
 by_cases h1:k<1
 ·obtain rfl:k=0:=by omega
  have x0:=Yb9 ⟨#[60]⟩ 60 rfl (by decide)
  go_enter func151,ntmps151
  go_wp2_with fail
  go_ret
  exact⟨Xa0 (by unfold Xgu;rw[qP (by omega),Bool.eq_iff_iff];simp;omega),rfl⟩
 ·by_cases h2:k<65
  ·have F:Hid (Xgu k c=hdB c):=Hd (by unfold Xgu;rw[qN h1,qP h2])
   obtain⟨b,hb⟩:=xq (hdB c)
   rw[←hb] at F D
   clear hb
   go_enter func151,ntmps151
   go_wp2_with (go_at_call 206;refine(D.o _).mono ?_;rintro e w' ⟨rfl,rfl⟩)
   go_ret
   exact⟨by rw[F.o];rfl,rfl⟩
  ·have F:Hid (Xgu k c=decide (c=sHash.getD (k-65) 0)):=Hd (by unfold Xgu;rw[qN h1,qN h2])
   obtain⟨d,hd⟩:=xq (sHash.getD (k-65) 0)
   have xk:∀w,(Instr.index 9 (.string ⟨#[64,104,97,115,104,62]⟩) (.int .i64 ((k:Int)-1-64))).run prog w=.ok (.int .u8 (d:Int)) w:=fun w=>by
    rw[Xa5 9 underlying9 ⟨#[64,104,97,115,104,62]⟩ .i64 ((k:Int)-1-64) (k-65) (by omega) (by show k-65<6;omega),hd];rfl
   rw[←hd] at F
   clear hd
   go_enter func151,ntmps151
   go_wp2_with fail
   go_ret
   exact⟨Xa0 (by rw[F.o,Bool.eq_iff_iff];simp;omega),rfl⟩
structure Rd (w:World) (a:Option Addr) (l:List Nat):Prop where
 lt:∀x∈l,x<256
 at_:0<l.length→∃b off,a=some ⟨b,off,none⟩∧b<w.heap.size∧∀i (h:i<l.length),w.cell? ⟨b,off+i,none⟩=some (U l[i])
def TX (B:Nat)(xs:List Nat)(w:World):Prop:=∃v,w.heap[B+1]?=some (.cells #[v] 82 (0,0))∧w.ownsRow B 5 1 v xs.length (xs.map U)
theorem TX.close {w wA w1:World}{base gg cap n:Nat}{v:Value}{xs:List Nat}{y:Nat}(hn:n=xs.length)
    (hown1:w1.ownsRow base 5 1 (.slice (some ⟨gg,0,none⟩) (n+1) cap) (n+1) (xs.map U++[.int .u8 y])) (hgrow:wA.grownBy w1 v.ownBlock) (hA:Bw w wA)
    (hT1:w1.heap[base+1]?=some (.cells #[v] 82 (0,0))) (hbase:base≤w.heap.size) (hv:w.ownsRow base 5 1 v n (xs.map U)):
    TX base (xs++[y]) (w1.setCell ⟨base+1,0,none⟩ (.slice (some ⟨gg,0,none⟩) (n+1) cap))∧Below base w (w1.setCell ⟨base+1,0,none⟩ (.slice (some ⟨gg,0,none⟩) (n+1) cap)):=by
 subst hn
 have:=Xlu hown1 hgrow hA hT1 (by decide) (by omega) hbase hv
 refine⟨?_,this.2.below⟩
 obtain⟨v',h1,h2⟩:=this.1
 exact⟨v',h1,by rw[List.map_append,List.length_append];exact h2⟩
theorem Xws (w:World)(a:Option Addr)(cap:Nat)(l:List Nat)(hl:l.length≤400000)(hrd:Rd w a l)(ht:Tab w):
    zJ 180 #[.slice a l.length cap] w (.string (Xaq (Xfk l))):=by
 obtain⟨i0,hi0,hz0,hz1,hz2⟩:=info_parts Xhw
 obtain⟨n,hn⟩:=xq l.length
 have hb2:i0.bytes*((n+2)/3*4)≤281474976710656:=by rw[hz2];omega
 have R0:=fun(cs:Array Value) (h:cs.size=((n+2)/3*4)*1)=>Xt1 w cs ((n+2)/3*4) 8 6 231 (by unfold maxLen;omega) h
 have TB:=Hd ht
 have P0:=Hd (Ydm w w.heap.size ht ht.size (zL _))
 have HC:=Hd hrd.at_;have H2:=Hd hrd.lt;have HN:=Hd hn;have RR:=Hd R0
 rw[←hn]
 have hn4:n≤400000:=by omega
 clear hrd R0 hl hn ht
 go_enter func180,ntmps180
 go_wp2_with (first|(at_make;refine Xb9 _ rfl _ _ _ rfl 5 i0 _ 1 underlying82 hi0 hz0 hz1 .i64 .i64 _ _ 0 ((n+2)/3*4) rfl rfl rfl (by omega) (by omega) hb2 (by unfold maxLen;omega) ?_;intro cs hcs;have CS:=Hd hcs;clear hcs)|(go_at_call 230;refine(Xkn _ 8 6 _ _ w.heap.size (by simp)).mono ?_;rintro e w1 ⟨rfl,rfl⟩))
 go_loopg [23] n (fun k i wr=>∃j b' c' xs,j≤n∧k=n-j∧i=.int .i64 (j:Int)∧Xgp (l.take j)=(b',c',xs)∧RG w.heap.size 8 6 231 b' c' xs wr∧Bw w wr)
 case atStart=>exact⟨0,0,0,[],by omega,by omega,rfl,rfl,RR.o cs CS.o,Xls _ _ _ _ _ _ _ _⟩
 case round=>
  obtain⟨j,b',c',xs,hj,rfl,rfl,hst,hrg,hbl⟩:=hrel
  have hinv:=Xh4 (l.take j) (fun x hx=>H2.o x (List.mem_of_mem_take hx))
  rw[hst] at hinv
  obtain⟨i1,i2,i3⟩:=hinv
  simp only[List.length_take] at i1 i2 i3
  have hxl:xs.length≤900000:=by omega
  by_cases hlt:j<n
  ·have hjl:j<l.length:=by rw[←HN.o];exact hlt
   obtain⟨b,off,rfl,hbw,hcell⟩:=HC.o (by omega)
   have hx:w.cell? ⟨b,off+j,none⟩=some (U l[j]):=hcell j hjl
   clear hcell
   have hx':wr.cell? ⟨b,off+j,none⟩=some (U l[j]):=(hbl.cell (by exact hbw)).trans hx
   have hg:l[j]<256:=H2.o _ (zG hjl)
   obtain⟨g,hg'⟩:=xq (l[j])
   rw[←hg'] at hx' hg
   unfold U at hx'
   have C1:=Hd (Ynp w wr w.heap.size 8 6 b' c' g al xs hrg hbl P0.o (by omega) (by omega) (by omega) i1 i2 (by omega) hxl)
   have ST:=Hd hst;have HG:=Hd hg'
   clear hst hrg hbl i2 hx hg' i3
   go_wp2_with (go_at_call 261;refine C1.o.mono ?_;rintro e w1 ⟨rfl,hb1,hkm,b1,c1,ys,hd,hr1⟩;have HD:=Hd hd;clear hd)
   go_roundg (n-(j+1))
   case measure=>omega
   case rel=>
    refine⟨j+1,b1,c1,ys,by omega,by omega,by go_num,?_,hr1,hb1⟩
    rw[List.take_succ_eq_append_getElem hjl,Xm1,ST.o,←HG.o]
    exact HD.o
  ·have hjn:j=n:=by omega
   subst hjn
   have L1:=Hd (Xuh wr w.heap.size 8 6 231 b' c' xs hrg)
   obtain⟨v,hv,hown⟩:=hrg.txt
   have TX0:Hid (TX w.heap.size xs wr):=⟨v,hv,hown⟩
   rw[List.take_of_length_le (by rw[HN.o];exact zL _)] at hst
   have ST:=Hd hst;have BL:=Hd hbl;have I2:=Hd i2;have I3:=Hd i3;have HV:=Hd hv
   clear hst hrg hbl i2 i3 hv
   go_upto_if 38 with(go_at_call 262;refine L1.o.mono ?_;rintro e w1 ⟨rfl,nq,rfl⟩)
   go_cut [] (fun wx=>TX w.heap.size (Xbo (b',c',xs)) wx∧Bw w wx)
   case first=>
    have tx:TX w.heap.size xs (wr.drewN nq):=TX0.o
    have bx:Bw w (wr.drewN nq):=below_drewN BL.o nq
    generalize wr.drewN nq=wx at*
    have tb:=TB.o.below bx TB.o.size
    obtain⟨vx,hvx,hox⟩:=tx
    have hc:=cell_of_one hvx
    have hf:=free_of_one hvx
    have lt:=zY hvx
    by_cases hcz:0<c'
    ·obtain⟨d,hd⟩:=xq (6-c')
     obtain⟨q,hq⟩:=xq (b'*2^d)
     have hq64:q<64:=by
      have h1:b'*2^d<2^c'*2^d:=Nat.mul_lt_mul_of_pos_right I2.o (Nat.pow_pos (by omega))
      rw[←Nat.pow_add,show c'+d=6 by omega] at h1
      omega
     have ed:(6:Int)-(c':Int)=(d:Int):=by omega
     have e1:((b':Int)*2^d)=(q:Int):=by rw[hq];push_cast;rfl
     have q0:(0:Int)≤(q:Int):=by omega
     have q1:(q:Int)<64:=by omega
     have qc:wx.cell? ⟨3,q,none⟩=some (U (al q)):=tb.cell q hq64
     unfold U at qc
     have hTA:(wx.drew.alloc (.cells #[.int .u8 (al q)] 5)).heap[w.heap.size+1]?=some (.cells #[vx] 82 (0,0)):=Xae hvx
     have HTA:=Hd hTA
     have HNE:=Hd (Xec (b:=w.heap.size+1) (t:=82) hox hvx (by decide))
     have HB:=Hd bx;have HQ:=Hd hq;have D:=Hd hd;have HX:=Hd hvx
     clear hTA bx tb hq hd hvx
     have hbs:w.heap.size≤wx.heap.size:=HB.o.size
     have hd6:d≤6:=by omega
     have ew:IntKind.i64.wrap (d:Int)=(d:Int):=IntWalk.i64_in _ (by omega)
     have ew2:IntKind.i64.wrap (q:Int)=(q:Int):=IntWalk.i64_in _ (by omega)
     have d0:(0:Int)≤(d:Int):=by omega
     have d1:(d:Int)≤64:=by omega
     go_wp2_with fail
     go_region_law ((refine step_append_lies _ (by rfl) _ _ _ (by rfl) w.heap.size 5 i0 _ 1 1 underlying82 hi0 hz0 hz1 hz2 rfl (by omega) vx xs.length (xs.map U) (by rfl) ((hox.drew).alloc _) ⟨wx.heap.size,0,none⟩ 1 1 [.int .u8 (al q)] (by rfl) (by rfl) (World.news_of_block (cs:=#[.int .u8 (al q)]) (t:=5) (fr:=(0,0)) (zN wx _)) (by simp[Value.oneCell']) (by omega) (by unfold maxLen;omega) (by omega) (by simp;omega) (wx.heap.size+1) (by simp) ?_;intro gg cap' w1 hown1 hgrow hat hlt2;have hc1:=Xdk hgrow HTA.o HNE.o;have hc2:=cell_of_one hc1;have hc3:=free_of_one hc1;have HC1:=Hd hc1;clear hc1))
     all_goals go_wp2_with fail
     all_goals go_meet
     all_goals
      have fin:=TX.close rfl hown1 hgrow (((zR _ _).alloc (zL _) _).drew) HC1.o hbs hox
      have et:Xbo (b',c',xs)=xs++[al q]:=by simp only[Xbo];rw[qP hcz,HQ.o,D.o]
      rw[et]
      exact⟨fin.1,HB.o.trans fin.2⟩
    ·have hcz':decide (0<c')=false:=by simp;omega
     go_wp2_with fail
     go_meet
     have et:Xbo (b',c',xs)=xs:=by simp only[Xbo];rw[qN hcz]
     rw[et]
     exact⟨⟨vx,hvx,hox⟩,bx⟩
   case rest=>
    obtain⟨htx,hbx⟩:=hcut
    have i3:=I3.o
    have htl:=Xlh b' c' xs j (by rw[i3,←HN.o];simp)
    have ef:=Yau ST.o
    have EF:=Hd ef
    clear ef i3
    obtain⟨ts,hts⟩:=xq (Xbo (b',c',xs))
    rw[←hts] at htx htl EF
    clear I2 I3 ST BL TX0 L1 P0 HC H2 RR hts
    go_wp2_with fail
    go_loopg [] ((4-ts.length%4)%4) (fun k wr=>∃ys,TX w.heap.size ys wr∧Bw w wr∧ys.length+k≤900000∧k=(4-ys.length%4)%4∧Xik ys=Xfk l)
    case atStart=>exact⟨ts,htx,hbx,by omega,rfl,EF.o⟩
    case round=>
     obtain⟨ys,htx',hbx',hyl,rfl,hpad⟩:=hrel
     have HP:=Hd hpad
     clear hpad htx hbx hxl htl
     obtain⟨v,hv,hown⟩:=htx'
     have hc:=cell_of_one hv
     have hf:=free_of_one hv
     have lt:=zY hv
     obtain⟨m,hm⟩:=xq ys.length
     have hconv:=Xnx (P:=prog) 82 9 underlying82 underlying5 underlying9 hown
     rw[←hm] at hown hyl
     obtain⟨a',cap',rfl⟩:=Xhp hown
     have HM:=Hd hm
     by_cases h4:m%4=0
     ·have h4':((m:Int)%4 !=0)=false:=by simp;omega
      clear hm
      go_wp2_with fail
      go_ret
      exact⟨by rw[←HP.o,Xpv _ (by rw[←HM.o];exact h4)];rfl,hbx'⟩
     ·have h4':((m:Int)%4 !=0)=true:=by simp;omega
      have hTA:(wr.alloc (.cells #[.int .u8 61] 5)).heap[w.heap.size+1]?=some (.cells #[.slice a' m cap'] 82 (0,0)):=Xae hv
      have HTA:=Hd hTA
      have HNE:=Hd (Xec (b:=w.heap.size+1) (t:=82) hown hv (by decide))
      have HV:=Hd hv;have HB:=Hd hbx'
      have hbs:w.heap.size≤wr.heap.size:=HB.o.size
      clear hm hTA hv hbx' hconv
      go_wp2_with ((at_builtin;refine wpList_append_lies _ rfl _ _ _ rfl w.heap.size 5 i0 _ 1 1 underlying82 hi0 hz0 hz1 hz2 rfl (by omega) (.slice a' m cap') m (ys.map U) rfl (hown.alloc _) ⟨wr.heap.size,0,none⟩ 1 1 [.int .u8 61] rfl rfl (World.news_of_block (cs:=#[.int .u8 61]) (t:=5) (fr:=(0,0)) (zN wr _)) (by simp[Value.oneCell']) (by omega) (by unfold maxLen;omega) (by omega) (by simp;omega) (wr.heap.size+1) (by simp) ?_;intro gg cap2 w1 hown1 hgrow hat hlt2;have hc1:=Xdk hgrow HTA.o HNE.o;have hc2:=cell_of_one hc1;have hc3:=free_of_one hc1;have HC1:=Hd hc1;clear hc1))
      go_roundg ((4-(m+1)%4)%4)
      case measure=>rw[←HM.o];omega
      case rel=>
       have fin:=TX.close HM.o hown1 hgrow ((zR _ _).alloc (zL _) _) HC1.o hbs hown
       refine⟨ys++[61],fin.1,HB.o.trans fin.2,?_,?_,?_⟩
       ·simp;rw[←HM.o];omega
       ·simp;rw[←HM.o]
       ·rw[Xpu _ (by rw[←HM.o];exact h4)];exact HP.o
end Go.Proofs.YtjolcnopipbkhaaGreatDoor
