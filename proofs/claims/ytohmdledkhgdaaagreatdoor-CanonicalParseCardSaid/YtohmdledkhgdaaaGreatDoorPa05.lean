/- sha256: process. -/
import Derived.Test.YtohmdledkhgdaaaGreatDoorPa04
namespace Go.Proofs.YtohmdledkhgdaaaGreatDoor
open Go.RowKit Go.Maps
set_option linter.unusedVariables false
set_option maxRecDepth 100000
def VB (w:World) (b:Nat) (v:W8):Prop:=w.heap[b]?=some (.cells (wC v) 176 (0,0))
theorem Xgk (v:W8):(wC v).size=8:=rfl
theorem Xvn (v:W8):(wC v).all (·.oneCell')=true:=by simp[wC,Value.oneCell']
theorem VB.lt {w:World} {b:Nat} {v:W8} (h:VB w b v):b<w.heap.size:=lt_of_block h
theorem VB.below {w w':World} {b:Nat} {v:W8} (h:VB w b v) (hb:Below w.heap.size w w'):VB w' b v:=(hb.block b h.lt).trans h
theorem VB.load {w:World} {b:Nat} {v:W8} (h:VB w b v):(loadVar 176 ⟨b,0,none⟩).run Tryz.prog w=.ok (.agg (wC v)) w:=
 run_loadVar_row w b _ 176 _ _ _ h Tryz.underlying176 rfl (by rw[Xgk];exact Xc5)
theorem VB.store {w:World} {b:Nat} {v:W8} (h:VB w b v) (v':W8):(storeVar 176 ⟨b,0,none⟩ (.agg (wC v'))).run Tryz.prog w=.ok () (w.setRow b (wC v')):=
 run_storeVar_row w b _ 176 _ _ h (by rw[Xgk];exact Xc5) (by rw[Xgk,Xgk]) (Xvn v')
theorem VB.set {w:World} {b:Nat} {v:W8} (h:VB w b v) (v':W8):VB (w.setRow b (wC v')) b v':=setRow_heap w b _ _ _ _ h
theorem VB.other {w:World} {b k:Nat} {v:W8} (h:VB w k v) (cs:Array Value) (hne:k≠b):VB (w.setRow b cs) k v:=(setRow_other w b k cs hne).trans h
theorem WB.other {w:World} {b k:Nat} {T:TypeId} {ws:List Nat} (h:WB w k T ws) (cs:Array Value) (hne:k≠b):WB (w.setRow b cs) k T ws:=(setRow_other w b k cs hne).trans h
theorem VB.setC {w:World} {b k:Nat} {v:W8} (h:VB w k v) (j:Nat) (u:Value) (hne:k≠b):VB (w.setCell ⟨b,j,none⟩ u) k v:=(Xjr w b j k u hne).trans h
theorem Yeo {h:W8} {ws:List Nat} (hh:h.Ok) (hw:L16 ws) (n:Nat):(Xp3 h ws n).1.Ok∧L16 (Xp3 h ws n).2:=by
 induction n with
 |zero=>exact⟨hh,hw⟩
 |succ n ih=>
  rw[Xob]
  refine⟨Yg5 ih.1 _ _,?_⟩
  show L16 (Xma _ n)
  unfold Xma
  split
  ·exact ih.2
  ·exact ih.2.set _ (Xe0 _ _)
theorem Yc8:∀i,shK.getD i 0<4294967296:=fun i=>by
 by_cases hi:i<shK.length
 ·have:∀i:Fin 64,shK.getD i.val 0<4294967296:=by decide+kernel
  exact this ⟨i,hi⟩
 ·rw[List.getD_eq_getElem?_getD,List.getElem?_eq_none (by omega)];decide
set_option maxHeartbeats 4000000 in
theorem Xp2 (w:World) {h:W8} {ws:List Nat} (hh:h.Ok) (hw:L16 ws) (hE:Env w):
    Calls Tryz.prog 122 #[.agg (wC h),.agg (wA ws)] w fun e w'=>e=.returned (.agg (wC (Xkz h ws)))∧Below w.heap.size w w':=by
 obtain⟨hs,hhs⟩:∃hs,hs=wC h:=⟨_,rfl⟩
 obtain⟨cs,hcs⟩:∃cs,cs=wA ws:=⟨_,rfl⟩
 obtain⟨zs,hzs⟩:∃zs,zs=wC ⟨0,0,0,0,0,0,0,0⟩:=⟨_,rfl⟩
 have Z0:Hid (zs=wZ):=Hd hzs
 obtain⟨w0,hw0⟩:∃w0,w0=((w.alloc (.cells hs 176)).alloc (.cells cs 182)).alloc (.cells zs 176):=⟨_,rfl⟩
 have b0:VB w0 w.heap.size h:=by unfold VB;rw[hw0,←hhs];exact Xaf (Xaf (heap_alloc_last w _))
 have b1:WB w0 (w.heap.size+1) 182 ws:=by
  unfold WB;rw[hw0,←hcs];have:=heap_alloc_last (w.alloc (.cells hs 176)) (.cells cs 182);rw[World.size_alloc] at this;exact Xaf this
 have b2:VB w0 (w.heap.size+2) ⟨0,0,0,0,0,0,0,0⟩:=by
  unfold VB;rw[hw0,←hzs];have:=heap_alloc_last ((w.alloc (.cells hs 176)).alloc (.cells cs 182)) (.cells zs 176);rw[World.size_alloc,World.size_alloc] at this;exact this
 have sz0:w0.heap.size=w.heap.size+3:=by rw[hw0];simp
 have BW:Hid (Below w.heap.size w w0):=Hd (by rw[hw0];exact(((Below.refl _ _).alloc (Nat.le_refl _) _).alloc (by simp) _).alloc (by simp;omega) _)
 have W0:=Hd hw0
 have LD:=Hd b0.load
 obtain⟨w1,hw1⟩:∃w1,w1=w0.alloc (.cells zs 176):=⟨_,rfl⟩
 have c3:VB w1 (w.heap.size+3) ⟨0,0,0,0,0,0,0,0⟩:=by unfold VB;rw[hw1,←hzs,←sz0];exact heap_alloc_last w0 _
 have ST:=Hd (c3.store h)
 have BW1:Below w0.heap.size w0 w1:=by rw[hw1];exact(Below.refl _ _).alloc (Nat.le_refl _) _
 have HB0:=Hd ((b0.below BW1).other (wC h) (show w.heap.size≠w.heap.size+3 by omega))
 have HB1:=Hd ((b1.below BW1).other (wC h) (show w.heap.size+1≠w.heap.size+3 by omega))
 have HB2:=Hd ((b2.below BW1).other (wC h) (show w.heap.size+2≠w.heap.size+3 by omega))
 have HB3:=Hd (c3.set h)
 have BW2:=Hd (below_setRow (BW.out.trans (BW1.mono (by omega))) (Nat.le_add_right w.heap.size 3) (wC h))
 have W1:=Hd hw1
 rw[←hhs] at LD ST HB0 HB1 HB2 HB3 BW2⊢
 rw[←hcs]
 have HE:=Hd hE;have HH:=Hd hh;have HW:=Hd hw;have SZ0:=Hd sz0
 clear hw0 hw1 b0 b1 b2 c3 BW1 hzs hhs hcs hE hh hw sz0
 go_enter Tryz.func122,Tryz.ntmps122
 go_upto_region 1 with fail
 have W0':=W0.out
 rw[Z0.out] at W0'
 unfold wZ at W0'
 rw[←W0',show w.heap.size+1+1=w.heap.size+2 from rfl]
 clear W0' W0
 obtain⟨w2,hw2⟩:∃w2,w2=w1.setRow (w.heap.size+3) hs:=⟨_,rfl⟩
 rw[←hw2] at ST HB0 HB1 HB2 HB3 BW2
 have ST2:Hid ((storeVar 176 ⟨w0.heap.size,0,none⟩ (.agg hs)).run Tryz.prog (w0.alloc (.cells #[.int .u32 0,.int .u32 0,.int .u32 0,.int .u32 0,.int .u32 0,.int .u32 0,.int .u32 0,.int .u32 0] 176))=.ok () w2):=Hd (by
  have:=ST.out
  rw[W1.out,Z0.out] at this
  rw[SZ0.out]
  exact this)
 clear hw2 ST W1 BW
 refine wp_region_list ?_
 simp only[]
 refine Xac 176 rfl _ rfl ⟨_,_,rfl,LD.out,?_⟩
 clear LD
 go_upto_region 2 with((with_reducible refine Xab 176 rfl _ _ rfl ?_);refine⟨_,_,_,rfl,rfl,ST2.out,?_⟩)
 rw[SZ0.out]
 clear ST2 SZ0
 go_wp2_with fail
 go_loopg [6,7,8,9,10,12] 64 (fun k v6 v7 v8 v9 v10 i wr=>∃j:Nat,j≤64∧k=64-j∧i=.int .i64 (j:Int)∧VB wr w.heap.size h∧WB wr (w.heap.size+1) 182 (Xp3 h ws j).2∧VB wr (w.heap.size+2) ⟨0,0,0,0,0,0,0,0⟩∧VB wr (w.heap.size+3) (Xp3 h ws j).1∧Below w.heap.size w wr)
 case atStart=>exact⟨0,by omega,rfl,rfl,HB0.out,HB1.out,HB2.out,HB3.out,BW2.out⟩
 case round=>
  clear HB0 HB1 HB2 HB3 BW2
  obtain⟨j,hj,rfl,rfl,h0,h1,h2,h3,hbw⟩:=hrel
  have HE1:=Hd (HE.out.below hbw HE.out.size)
  have HB:=Hd hbw
  have G0:=Hd h0;have G1:=Hd h1;have G2:=Hd h2;have G3:=Hd h3
  have OK:=Hd (Yeo HH.out HW.out j)
  have NX:=Hd (Xob h ws j)
  clear h0 h1 h2 h3 hbw
  obtain⟨v,hv⟩:∃v,v=(Xp3 h ws j).1:=⟨_,rfl⟩
  obtain⟨W,hW⟩:∃W,W=(Xp3 h ws j).2:=⟨_,rfl⟩
  rw[←hv] at G3 OK
  rw[←hW] at G1 OK
  have NX1:Hid (∀W',Xma W j=W'→Xp3 h ws (j+1)=(rnd v (shK.getD j 0) (W'.getD (j%16) 0),W')):=Hd (by rintro W' rfl;rw[NX.out];unfold Xwx;rw[←hv,←hW])
  have HV:=Hd hv
  clear hv hW NX
  by_cases hlt:j<64
  ·by_cases h16:j<16
   ·have HWW:Hid (Xma W j=W):=Hd (by unfold Xma;rw[if_pos h16])
    have LW:=Hd OK.out.2
    have Z0:=Hd G0.out;have Z1:=Hd G1.out;have Z2:=Hd G2.out;have Z3:=Hd G3.out;have ZE:=Hd HE1.out;have ZB:=Hd HB.out
    clear G0 G1 G2 G3 HE1 HB HV
    have h16':¬(16:Int)≤(j:Int):=by omega
    obtain⟨kk,hkk⟩:∃kk,kk=shK.getD j 0:=⟨_,rfl⟩
    have hk2:kk<4294967296:=by rw[hkk];exact Yc8 j
    obtain⟨t,ht⟩:∃t,t=W.getD (j%16) 0:=⟨_,rfl⟩
    have ht2:t<4294967296:=by rw[ht];exact LW.out.at _
    obtain⟨wY,hY⟩:∃wY,wY=wr.drew:=⟨_,rfl⟩
    have dY:Below wr.heap.size wr wY:=by rw[hY];exact(Below.refl _ _).drew
    obtain⟨q,hq⟩:∃q,q=j%16:=⟨_,rfl⟩
    have hq2:q<16:=by omega
    have jt:(j:Int).tmod 16=(q:Int):=by rw[Int.tmod_eq_emod_of_nonneg (by omega)];omega
    have q0:(0:Int)≤(q:Int):=by omega
    have q1:(q:Int)<16:=by omega
    have cK:wY.cell? ⟨1,j,none⟩=some (.int .u32 ((kk:Nat):Int)):=by rw[hkk];exact(ZE.out.on dY).sha j hlt
    have cT:wY.cell? ⟨w.heap.size+1,q,none⟩=some (.int .u32 ((t:Nat):Int)):=by rw[ht,←hq];exact(Z1.out.below dY).cell (by rw[LW.out.len];exact hq2)
    have RD:=Hd (Xn3 wY v kk t OK.out.1 hk2 ht2)
    have LV:=Hd ((Z3.out.below dY).load)
    have NX2:=Hd (NX1.out W HWW.out)
    rw[←hkk,←ht] at NX2
    have FIN:Hid (∀w4,Below wY.heap.size wY w4→(storeVar 176 ⟨w.heap.size+3,0,none⟩ (.agg (wC (rnd v kk t)))).run Tryz.prog w4=.ok () (w4.setRow (w.heap.size+3) (wC (rnd v kk t)))∧VB (w4.setRow (w.heap.size+3) (wC (rnd v kk t))) w.heap.size h∧WB (w4.setRow (w.heap.size+3) (wC (rnd v kk t))) (w.heap.size+1) 182 (Xp3 h ws (j+1)).2∧VB (w4.setRow (w.heap.size+3) (wC (rnd v kk t))) (w.heap.size+2) ⟨0,0,0,0,0,0,0,0⟩∧VB (w4.setRow (w.heap.size+3) (wC (rnd v kk t))) (w.heap.size+3) (Xp3 h ws (j+1)).1∧Below w.heap.size w (w4.setRow (w.heap.size+3) (wC (rnd v kk t)))):=Hd (by
     intro w4 hb4
     have x3:=(Z3.out.below dY).below hb4
     refine⟨x3.store _,((Z0.out.below dY).below hb4).other _ (by omega),?_,((Z2.out.below dY).below hb4).other _ (by omega),?_,below_setRow ((ZB.out.trans (dY.mono ZB.out.size)).trans (hb4.mono (Nat.le_trans ZB.out.size dY.size))) (Nat.le_add_right _ 3) _⟩
     ·rw[NX2.out];exact((Z1.out.below dY).below hb4).other _ (by omega)
     ·rw[NX2.out];exact x3.set _)
    obtain⟨vs,hvs⟩:∃vs,vs=wC v:=⟨_,rfl⟩
    obtain⟨rs,hrs⟩:∃rs,rs=wC (rnd v kk t):=⟨_,rfl⟩
    rw[←hvs,←hrs] at RD
    rw[←hvs] at LV
    rw[←hrs] at FIN
    clear hkk ht hq dY hvs hrs NX1 NX2 Z0 Z1 Z2 Z3 ZE ZB
    go_upto_region 10 with fail
    refine wp_region_still_tail 8 (by kernel_rfl) (by kernel_rfl) ?_
    simp only[List.take_succ_cons,List.take_zero,List.drop_succ_cons,List.drop_zero]
    change wpStill _ _ wr.drew (fun a'=>wpList _ _ _ _ a' wr.drew) _ _
    rw[←hY]
    clear hY
    refine Xh3 176 rfl _ rfl ⟨_,_,rfl,LV.out,?_⟩
    repeat still_step
    refine wpStill_nil ?_
    go_wp2_with fail
    refine RD.out.mono ?_
    rintro e w4 ⟨rfl,hb4⟩
    obtain⟨f0,f1,f2,f3,f4,f5⟩:=FIN.out w4 hb4
    obtain⟨w5,hw5⟩:∃w5,w5=w4.setRow (w.heap.size+3) rs:=⟨_,rfl⟩
    rw[←hw5] at f0 f1 f2 f3 f4 f5
    have F0:=Hd f0;have F1:=Hd f1;have F2:=Hd f2;have F3:=Hd f3;have F4:=Hd f4;have F5:=Hd f5
    clear f0 f1 f2 f3 f4 f5 hw5 hb4 FIN RD LV cK cT
    go_wp2_with ((with_reducible refine Xab 176 rfl _ _ rfl ?_);refine⟨_,_,_,rfl,rfl,F0.out,?_⟩)
    go_roundg (64-(j+1))
    case measure=>omega
    case rel=>exact⟨j+1,by omega,rfl,by go_num,F1.out,F2.out,F3.out,F4.out,F5.out⟩
   ·obtain⟨qa,hqa⟩:∃q,q=(j-15)%16:=⟨_,rfl⟩
    obtain⟨qb,hqb⟩:∃q,q=(j-2)%16:=⟨_,rfl⟩
    obtain⟨qc,hqc⟩:∃q,q=(j-7)%16:=⟨_,rfl⟩
    obtain⟨qd,hqd⟩:∃q,q=j%16:=⟨_,rfl⟩
    have ja:((j:Int)-15).tmod 16=(qa:Int):=by rw[Int.tmod_eq_emod_of_nonneg (by omega)];omega
    have jb:((j:Int)-2).tmod 16=(qb:Int):=by rw[Int.tmod_eq_emod_of_nonneg (by omega)];omega
    have jc:((j:Int)-7).tmod 16=(qc:Int):=by rw[Int.tmod_eq_emod_of_nonneg (by omega)];omega
    have jd:(j:Int).tmod 16=(qd:Int):=by rw[Int.tmod_eq_emod_of_nonneg (by omega)];omega
    have wa:IntKind.i64.wrap ((j:Int)-15)=(j:Int)-15:=IntWalk.i64_in _ (by omega)
    have wb:IntKind.i64.wrap ((j:Int)-2)=(j:Int)-2:=IntWalk.i64_in _ (by omega)
    have wc:IntKind.i64.wrap ((j:Int)-7)=(j:Int)-7:=IntWalk.i64_in _ (by omega)
    have a0:(0:Int)≤(qa:Int):=by omega
    have a1:(qa:Int)<16:=by omega
    have b0:(0:Int)≤(qb:Int):=by omega
    have b1:(qb:Int)<16:=by omega
    have c0:(0:Int)≤(qc:Int):=by omega
    have c1:(qc:Int)<16:=by omega
    have d0:(0:Int)≤(qd:Int):=by omega
    have d1:(qd:Int)<16:=by omega
    obtain⟨x,hx⟩:∃x,x=W.getD qa 0:=⟨_,rfl⟩
    obtain⟨y,hy⟩:∃x,x=W.getD qb 0:=⟨_,rfl⟩
    obtain⟨z,hz⟩:∃x,x=W.getD qc 0:=⟨_,rfl⟩
    obtain⟨u,hu⟩:∃x,x=W.getD qd 0:=⟨_,rfl⟩
    have lx:x<4294967296:=by rw[hx];exact OK.out.2.at _
    have ly:y<4294967296:=by rw[hy];exact OK.out.2.at _
    have cx:wr.cell? ⟨w.heap.size+1,qa,none⟩=some (.int .u32 ((x:Nat):Int)):=by rw[hx];exact G1.out.cell (by rw[OK.out.2.len];omega)
    have cy:wr.cell? ⟨w.heap.size+1,qb,none⟩=some (.int .u32 ((y:Nat):Int)):=by rw[hy];exact G1.out.cell (by rw[OK.out.2.len];omega)
    obtain⟨s0,hs0⟩:∃s,s=rot x 7^^^rot x 18^^^x/2^3:=⟨_,rfl⟩
    obtain⟨s1,hs1⟩:∃s,s=rot y 17^^^rot y 19^^^y/2^10:=⟨_,rfl⟩
    have X0:Hid (bits .xor .u32 (bits .xor .u32 ((rot x 7:Nat):Int) ((rot x 18:Nat):Int)) ((x:Int)/8)=(s0:Int)):=Hd (by
     rw[u32_xor_nat _ _ (Xbq lx) (Xbq lx),show((x:Int)/8)=((x/2^3:Nat):Int) by omega,u32_xor_nat _ _ (Xi6 (Xbq lx) (Xbq lx)) (Nat.lt_of_le_of_lt (Nat.div_le_self _ _) lx),hs0])
    have X1:Hid (bits .xor .u32 (bits .xor .u32 ((rot y 17:Nat):Int) ((rot y 19:Nat):Int)) ((y:Int)/1024)=(s1:Int)):=Hd (by
     rw[u32_xor_nat _ _ (Xbq ly) (Xbq ly),show((y:Int)/1024)=((y/2^10:Nat):Int) by omega,u32_xor_nat _ _ (Xi6 (Xbq ly) (Xbq ly)) (Nat.lt_of_le_of_lt (Nat.div_le_self _ _) ly),hs1])
    have l0:s0<4294967296:=by rw[hs0];exact Xi6 (Xi6 (Xbq lx) (Xbq lx)) (Nat.lt_of_le_of_lt (Nat.div_le_self _ _) lx)
    have l1:s1<4294967296:=by rw[hs1];exact Xi6 (Xi6 (Xbq ly) (Xbq ly)) (Nat.lt_of_le_of_lt (Nat.div_le_self _ _) ly)
    obtain⟨nw,hnw⟩:∃n,n=Xdf u (Xdf (Xdf s0 s1) z):=⟨_,rfl⟩
    obtain⟨W2,hW2⟩:∃W2,W2=W.set qd nw:=⟨_,rfl⟩
    have HWW:Hid (Xma W j=W2):=Hd (by
     unfold Xma Yj6
     rw[if_neg h16,hW2,hnw,hs0,hs1,hx,hy,hz,hu,hqa,hqb,hqc,hqd])
    have LW:Hid (L16 W2):=Hd (by rw[hW2];exact OK.out.2.set _ (by rw[hnw];exact Xe0 _ _))
    have R1:=Hd (fun w=>Xhl w x lx 7 (by decide) (by decide) 7 rfl)
    have R2:=Hd (fun w=>Xhl w x lx 18 (by decide) (by decide) 18 rfl)
    have R3:=Hd (fun w=>Xhl w y ly 17 (by decide) (by decide) 17 rfl)
    have R4:=Hd (fun w=>Xhl w y ly 19 (by decide) (by decide) 19 rfl)
    have NW:Hid (((nw:Nat):Int)=((u:Int)+(((s0:Int)+(s1:Int))%4294967296+(z:Int))%4294967296)%4294967296):=Hd (by rw[hnw];unfold Xdf;omega)
    have HZ:=Hd hz;have HU:=Hd hu
    have h16':(16:Int)≤(j:Int):=by omega
    clear hs0 hs1 hx hy hz hu hqa hqb hqc hqd hnw
    go_upto_region 6 with fail
    go_quiet (fail)
    obtain⟨wk,hwk⟩:∃wk,wk=wr.drewN nq:=⟨_,rfl⟩
    have dk:Below wr.heap.size wr wk:=by rw[hwk];exact Dr.below ⟨nq,rfl⟩
    rw[←hwk]
    clear cx cy hwk
    go_upto_region 8 with(first|(go_at_call 161;first|(with_reducible refine(R1.out _).mono ?_;rintro e w' ⟨rfl,rfl⟩)|(with_reducible refine(R2.out _).mono ?_;rintro e w' ⟨rfl,rfl⟩)))
    rw[X0.out]
    clear R1 R2 X0
    go_upto_region 9 with(first|(go_at_call 161;first|(with_reducible refine(R3.out _).mono ?_;rintro e w' ⟨rfl,rfl⟩)|(with_reducible refine(R4.out _).mono ?_;rintro e w' ⟨rfl,rfl⟩)))
    rw[X1.out]
    clear R3 R4 X1
    obtain⟨wm,hwm⟩:∃wm,wm=wk.drew:=⟨_,rfl⟩
    have dm:Below wr.heap.size wr wm:=dk.trans (by rw[hwm];exact((Below.refl wk.heap.size wk).drew).mono dk.size)
    have K1:=G1.out.below dm
    have cu:wm.cell? ⟨w.heap.size+1,qd,none⟩=some (.int .u32 ((u:Nat):Int)):=by rw[HU.out];exact K1.cell (by rw[OK.out.2.len];omega)
    have cz:wm.cell? ⟨w.heap.size+1,qc,none⟩=some (.int .u32 ((z:Nat):Int)):=by rw[HZ.out];exact K1.cell (by rw[OK.out.2.len];omega)
    have fu:wm.frozen? ⟨w.heap.size+1,qd,none⟩=false:=Xd3 K1 qd
    obtain⟨wz,hwz⟩:∃wz,wz=wm.setCell ⟨w.heap.size+1,qd,none⟩ (.int .u32 ((nw:Nat):Int)):=⟨_,rfl⟩
    have ZB:Hid (Below w.heap.size w wz):=Hd (by rw[hwz];exact(HB.out.trans (dm.mono HB.out.size)).setCell (Nat.le_add_right _ 1) _)
    have Z1:Hid (WB wz (w.heap.size+1) 182 W2):=Hd (by rw[hwz,hW2];exact K1.set _ _)
    have Z0:Hid (VB wz w.heap.size h):=Hd (by rw[hwz];exact(G0.out.below dm).setC _ _ (by omega))
    have Z2:Hid (VB wz (w.heap.size+2) ⟨0,0,0,0,0,0,0,0⟩):=Hd (by rw[hwz];exact(G2.out.below dm).setC _ _ (by omega))
    have Z3:Hid (VB wz (w.heap.size+3) v):=Hd (by rw[hwz];exact(G3.out.below dm).setC _ _ (by omega))
    have ZE:Hid (Env wz):=Hd (HE.out.below ZB.out HE.out.size)
    have WZ':=Hd hwz
    clear G0 G1 G2 G3 HE1 HB HV dk dm K1 HU HZ hwz hW2
    refine wp_region_still_tail 15 (by kernel_rfl) (by kernel_rfl) ?_
    simp only[List.take_succ_cons,List.take_zero,List.drop_succ_cons,List.drop_zero]
    change wpStill _ _ wk.drew (fun a'=>wpList _ _ _ _ a' wk.drew) _ _
    rw[←hwm]
    clear hwm
    repeat still_step
    refine wpStill_nil ?_
    go_upto_region 10 with fail
    rw[←NW.out,←WZ'.out]
    clear WZ' NW cu cz fu ja jb jc jd wa wb wc
    obtain⟨kk,hkk⟩:∃kk,kk=shK.getD j 0:=⟨_,rfl⟩
    have hk2:kk<4294967296:=by rw[hkk];exact Yc8 j
    obtain⟨t,ht⟩:∃t,t=W2.getD (j%16) 0:=⟨_,rfl⟩
    have ht2:t<4294967296:=by rw[ht];exact LW.out.at _
    obtain⟨wY,hY⟩:∃wY,wY=wz.drew:=⟨_,rfl⟩
    have dY:Below wz.heap.size wz wY:=by rw[hY];exact(Below.refl _ _).drew
    obtain⟨q,hq⟩:∃q,q=j%16:=⟨_,rfl⟩
    have hq2:q<16:=by omega
    have jt:(j:Int).tmod 16=(q:Int):=by rw[Int.tmod_eq_emod_of_nonneg (by omega)];omega
    have q0:(0:Int)≤(q:Int):=by omega
    have q1:(q:Int)<16:=by omega
    have cK:wY.cell? ⟨1,j,none⟩=some (.int .u32 ((kk:Nat):Int)):=by rw[hkk];exact(ZE.out.on dY).sha j hlt
    have cT:wY.cell? ⟨w.heap.size+1,q,none⟩=some (.int .u32 ((t:Nat):Int)):=by rw[ht,←hq];exact(Z1.out.below dY).cell (by rw[LW.out.len];exact hq2)
    have RD:=Hd (Xn3 wY v kk t OK.out.1 hk2 ht2)
    have LV:=Hd ((Z3.out.below dY).load)
    have NX2:=Hd (NX1.out W2 HWW.out)
    rw[←hkk,←ht] at NX2
    have FIN:Hid (∀w4,Below wY.heap.size wY w4→(storeVar 176 ⟨w.heap.size+3,0,none⟩ (.agg (wC (rnd v kk t)))).run Tryz.prog w4=.ok () (w4.setRow (w.heap.size+3) (wC (rnd v kk t)))∧VB (w4.setRow (w.heap.size+3) (wC (rnd v kk t))) w.heap.size h∧WB (w4.setRow (w.heap.size+3) (wC (rnd v kk t))) (w.heap.size+1) 182 (Xp3 h ws (j+1)).2∧VB (w4.setRow (w.heap.size+3) (wC (rnd v kk t))) (w.heap.size+2) ⟨0,0,0,0,0,0,0,0⟩∧VB (w4.setRow (w.heap.size+3) (wC (rnd v kk t))) (w.heap.size+3) (Xp3 h ws (j+1)).1∧Below w.heap.size w (w4.setRow (w.heap.size+3) (wC (rnd v kk t)))):=Hd (by
     intro w4 hb4
     have x3:=(Z3.out.below dY).below hb4
     refine⟨x3.store _,((Z0.out.below dY).below hb4).other _ (by omega),?_,((Z2.out.below dY).below hb4).other _ (by omega),?_,below_setRow ((ZB.out.trans (dY.mono ZB.out.size)).trans (hb4.mono (Nat.le_trans ZB.out.size dY.size))) (Nat.le_add_right _ 3) _⟩
     ·rw[NX2.out];exact((Z1.out.below dY).below hb4).other _ (by omega)
     ·rw[NX2.out];exact x3.set _)
    obtain⟨vs,hvs⟩:∃vs,vs=wC v:=⟨_,rfl⟩
    obtain⟨rs,hrs⟩:∃rs,rs=wC (rnd v kk t):=⟨_,rfl⟩
    rw[←hvs,←hrs] at RD
    rw[←hvs] at LV
    rw[←hrs] at FIN
    clear hkk ht hq dY hvs hrs NX1 NX2 Z0 Z1 Z2 Z3 ZE ZB
    go_upto_region 10 with fail
    refine wp_region_still_tail 8 (by kernel_rfl) (by kernel_rfl) ?_
    simp only[List.take_succ_cons,List.take_zero,List.drop_succ_cons,List.drop_zero]
    change wpStill _ _ wz.drew (fun a'=>wpList _ _ _ _ a' wz.drew) _ _
    rw[←hY]
    clear hY
    refine Xh3 176 rfl _ rfl ⟨_,_,rfl,LV.out,?_⟩
    repeat still_step
    refine wpStill_nil ?_
    go_wp2_with fail
    refine RD.out.mono ?_
    rintro e w4 ⟨rfl,hb4⟩
    obtain⟨f0,f1,f2,f3,f4,f5⟩:=FIN.out w4 hb4
    obtain⟨w5,hw5⟩:∃w5,w5=w4.setRow (w.heap.size+3) rs:=⟨_,rfl⟩
    rw[←hw5] at f0 f1 f2 f3 f4 f5
    have F0:=Hd f0;have F1:=Hd f1;have F2:=Hd f2;have F3:=Hd f3;have F4:=Hd f4;have F5:=Hd f5
    clear f0 f1 f2 f3 f4 f5 hw5 hb4 FIN RD LV cK cT
    go_wp2_with ((with_reducible refine Xab 176 rfl _ _ rfl ?_);refine⟨_,_,_,rfl,rfl,F0.out,?_⟩)
    go_roundg (64-(j+1))
    case measure=>omega
    case rel=>exact⟨j+1,by omega,rfl,by go_num,F1.out,F2.out,F3.out,F4.out,F5.out⟩
  ·obtain rfl:j=64:=by omega
   have PL:=Hd (fun w=>Yaz w h v)
   have L0:=Hd G0.out.load
   have L3:=Hd G3.out.load
   have FIN:Hid (∀w4,Below wr.heap.size wr w4→(storeVar 176 ⟨w.heap.size+2,0,none⟩ (.agg (wC (Xhm h v)))).run Tryz.prog w4=.ok () (w4.setRow (w.heap.size+2) (wC (Xhm h v)))∧VB (w4.setRow (w.heap.size+2) (wC (Xhm h v))) (w.heap.size+2) (Xhm h v)∧Below w.heap.size w (w4.setRow (w.heap.size+2) (wC (Xhm h v)))):=Hd (by
    intro w4 hb4
    have x2:=G2.out.below hb4
    exact⟨x2.store _,x2.set _,below_setRow (HB.out.trans (hb4.mono HB.out.size)) (Nat.le_add_right _ 2) _⟩)
   have RES:Hid (wC (Xkz h ws)=wC (Xhm h v)):=Hd (by unfold Xkz;rw[←HV.out])
   have SZ:Hid ((Tryz.prog.info? 176).map (·.size)=some (wC (Xhm h v)).size):=Hd (by rw[Xgk];exact Xc5)
   obtain⟨h1,hh1⟩:∃h1,h1=wC h:=⟨_,rfl⟩
   obtain⟨vs,hvs⟩:∃vs,vs=wC v:=⟨_,rfl⟩
   obtain⟨rs,hrs⟩:∃rs,rs=wC (Xhm h v):=⟨_,rfl⟩
   have HRS:=Hd hrs
   rw[←hh1] at PL L0
   rw[←hvs] at PL L3
   rw[←hrs] at PL FIN RES SZ
   clear G0 G1 G2 G3 HE1 HB HV NX1 hh1 hvs hrs hlt OK
   go_wp2_with (first
    |((with_reducible refine Xac 176 rfl _ rfl ?_);first|(refine⟨_,_,rfl,L0.out,?_⟩)|(refine⟨_,_,rfl,L3.out,?_⟩)))
   refine(PL.out _).mono ?_
   rintro e w4 ⟨rfl,hb4⟩
   obtain⟨f0,f1,f2⟩:=FIN.out w4 hb4
   obtain⟨w5,hw5⟩:∃w5,w5=w4.setRow (w.heap.size+2) rs:=⟨_,rfl⟩
   rw[←hw5] at f0 f1 f2
   have F0:=Hd f0;have F1:=Hd f1;have F2:=Hd f2
   clear f0 f1 f2 hw5 hb4 FIN PL L0 L3
   go_wp2_with ((with_reducible refine Xab 176 rfl _ _ rfl ?_);refine⟨_,_,_,rfl,rfl,F0.out,?_⟩)
   have f1:=F1.out
   unfold VB at f1
   rw[←HRS.out] at f1
   exact bodyPost_ret (results_cell_row Tryz.results122 _ _ (w.heap.size+2) _ _ _ _ rfl f1 Tryz.underlying176 rfl SZ.out) rfl ⟨by rw[RES.out],F2.out⟩
def wL (v:W8):List Nat:=[v.a,v.b,v.c,v.d,v.e,v.f,v.g,v.i]
theorem Yi7 (v:W8):wC v=wA (wL v):=rfl
theorem Yfs (x:Nat):(dgW x).length=4:=by simp[dgW]
theorem Yia (f:Nat→List Nat) (hf:∀x,(f x).length=4):∀(l:List Nat) (i k:Nat),i<l.length→k<4→(l.flatMap f)[4*i+k]?=(f (l.getD i 0))[k]?
 |[],i,k,h,_=>by simp at h
 |x::l,0,k,_,hk=>by
  rw[List.flatMap_cons,List.getElem?_append_left (by rw[hf];omega)]
  simp
 |x::l,i+1,k,h,hk=>by
  rw[List.flatMap_cons,List.getElem?_append_right (by rw[hf];omega),hf,show 4*(i+1)+k-4=4*i+k by omega,Yia f hf l i k (by simpa using h) hk]
  simp
theorem Xci (v:W8):(dgF v).length=32:=by simp[dgF,dgW]
theorem Yig (v:W8) (i k:Nat) (hi:i<8) (hk:k<4):(dgF v)[4*i+k]?=some ((wL v).getD i 0/2^(24-8*k)%256):=by
 have:=Yia dgW Yfs (wL v) i k hi hk
 show((wL v).flatMap dgW)[4*i+k]?=_
 rw[this]
 simp[dgW,hk]
theorem Yds (v:W8):∀x∈dgF v,x<256:=by
 intro x hx
 obtain⟨y,_,hy⟩:=List.mem_flatMap.1 hx
 obtain⟨k,_,rfl⟩:=List.mem_map.1 hy
 omega
def lay (L:List Nat) (n m:Nat):List Nat:=L.take n++List.replicate (m-n) 0
theorem Xxk {L:List Nat} {n m:Nat} (h:n≤m) (hL:L.length=m):(lay L n m).length=m:=by simp[lay,hL];omega
theorem Yfa {L:List Nat} {n m x:Nat} (h:n<m) (hL:L.length=m) (hx:L[n]?=some x):(lay L n m).set n x=lay L (n+1) m:=by
 have hl:(L.take n).length=n:=by simp[hL];omega
 have hn:n<L.length:=by omega
 have e:L[n]=x:=by rw[List.getElem?_eq_getElem hn] at hx;exact Option.some.inj hx
 unfold lay
 rw[List.set_append_right _ _ (by omega),hl,Nat.sub_self,show m-n=(m-(n+1))+1 by omega,List.replicate_succ,List.set_cons_zero,List.take_succ_eq_append_getElem hn,e,List.append_assoc]
 rfl
theorem Yfb {L:List Nat} {m:Nat} (hL:L.length=m):lay L m m=L:=by simp[lay,←hL]
theorem Ybt (l:List Nat) (q x:Nat):(idA l).setIfInBounds q (.int .u8 ((x:Nat):Int))=idA (l.set q x):=by simp[idA,List.map_set];rfl
theorem Xdu (l:List Nat):(idA l).all (·.oneCell')=true:=by
 rw[Array.all_eq_true']
 intro x hx
 unfold idA at hx
 rw[List.mem_toArray,List.mem_map] at hx
 obtain⟨y,_,rfl⟩:=hx
 rfl
def IB (w:World) (b:Nat) (T:TypeId) (l:List Nat):Prop:=w.heap[b]?=some (.cells (idA l) T (0,0))
theorem IB.lt {w:World} {b:Nat} {T:TypeId} {l:List Nat} (h:IB w b T l):b<w.heap.size:=lt_of_block h
theorem IB.below {w w':World} {b:Nat} {T:TypeId} {l:List Nat} (h:IB w b T l) (hb:Below w.heap.size w w'):IB w' b T l:=(hb.block b h.lt).trans h
theorem IB.cell {w:World} {b:Nat} {T:TypeId} {l:List Nat} (h:IB w b T l) {q:Nat} (hq:q<l.length):w.cell? ⟨b,q,none⟩=some (.int .u8 ((l.getD q 0:Nat):Int)):=by
 rw[cell_of_row w b q _ _ _ h]
 simp[idA,List.getD,hq]
 rfl
theorem IB.set {w:World} {b:Nat} {T:TypeId} {l:List Nat} (h:IB w b T l) (q x:Nat):IB (w.setCell ⟨b,q,none⟩ (.int .u8 ((x:Nat):Int))) b T (l.set q x):=by
 have:=Xd0 h q (.int .u8 ((x:Nat):Int))
 rw[Ybt] at this
 exact this
theorem IB.setC {w:World} {b k:Nat} {T:TypeId} {l:List Nat} (h:IB w k T l) (j:Nat) (u:Value) (hne:k≠b):IB (w.setCell ⟨b,j,none⟩ u) k T l:=(Xjr w b j k u hne).trans h
theorem Xgo:(Tryz.prog.info? 60).map (·.size)=some 32:=by kernel_rfl
theorem Yh0 (v:W8) (j:Nat) (hj:j<8) (c:Nat) (hc:c=(wL v).getD j 0) (w:World):(Instr.index 169 (.agg (wC v)) (.int .i64 (j:Int))).run Tryz.prog w=.ok (.int .u32 (c:Int)) w:=by
 have hi:(0:Int)≤(j:Int)∧(j:Int)<8:=by omega
 have hjl:j<(wL v).length:=by simpa [wL] using hj
 have e:(wC v)[j]?=some (.int .u32 ((c:Nat):Int)):=by
  rw[hc,Yi7];unfold wA
  simp[List.getD,hjl]
 simp[Instr.index,run_underlying Tryz.underlying169,asIntOf,hi,go_sem]
 rw[if_pos hj,e]
 rfl
theorem VB.cells {w:World} {b:Nat} {v:W8} (h:VB w b v) (j:Nat) (u:Value) (hu:(wC v)[j]?=some u):w.cell? ⟨b,j,none⟩=some u:=by rw[cell_of_row w b j _ _ _ h];exact hu
set_option maxHeartbeats 4000000 in
theorem Xu0 (w:World) {v:W8} (hv:v.Ok):
    Calls Tryz.prog 124 #[.agg (wC v)] w fun e w'=>e=.returned (.agg (idA (dgF v)))∧Below w.heap.size w w':=by
 obtain⟨hs,hhs⟩:∃hs,hs=wC v:=⟨_,rfl⟩
 obtain⟨zs,hzs⟩:∃zs,zs=idA (List.replicate 32 0):=⟨_,rfl⟩
 have Z0:Hid (zs=#[.int .u8 0,.int .u8 0,.int .u8 0,.int .u8 0,.int .u8 0,.int .u8 0,.int .u8 0,.int .u8 0,.int .u8 0,.int .u8 0,.int .u8 0,.int .u8 0,.int .u8 0,.int .u8 0,.int .u8 0,.int .u8 0,.int .u8 0,.int .u8 0,.int .u8 0,.int .u8 0,.int .u8 0,.int .u8 0,.int .u8 0,.int .u8 0,.int .u8 0,.int .u8 0,.int .u8 0,.int .u8 0,.int .u8 0,.int .u8 0,.int .u8 0,.int .u8 0]):=Hd (by rw[hzs];rfl)
 obtain⟨w0,hw0⟩:∃w0,w0=((w.alloc (.cells hs 176)).alloc (.cells zs 60)).alloc (.cells zs 60):=⟨_,rfl⟩
 have b0:VB w0 w.heap.size v:=by unfold VB;rw[hw0,←hhs];exact Xaf (Xaf (heap_alloc_last w _))
 have b1:IB w0 (w.heap.size+1) 60 (List.replicate 32 0):=by
  unfold IB;rw[hw0,←hzs];have:=heap_alloc_last (w.alloc (.cells hs 176)) (.cells zs 60);rw[World.size_alloc] at this;exact Xaf this
 have b2:IB w0 (w.heap.size+2) 60 (lay (dgF v) 0 32):=by
  unfold IB;show _=some (Obj.cells (idA (List.replicate 32 0)) _ _);rw[hw0,←hzs];have:=heap_alloc_last ((w.alloc (.cells hs 176)).alloc (.cells zs 60)) (.cells zs 60);rw[World.size_alloc,World.size_alloc] at this;exact this
 have BW:Hid (Below w.heap.size w w0):=Hd (by rw[hw0];exact(((Below.refl _ _).alloc (Nat.le_refl _) _).alloc (by simp) _).alloc (by simp;omega) _)
 have W0:=Hd hw0
 have c0:w0.cell? ⟨w.heap.size,0,none⟩=some (.int .u32 (v.a:Int)):=b0.cells 0 _ rfl
 have c1:w0.cell? ⟨w.heap.size,1,none⟩=some (.int .u32 (v.b:Int)):=b0.cells 1 _ rfl
 have c2:w0.cell? ⟨w.heap.size,2,none⟩=some (.int .u32 (v.c:Int)):=b0.cells 2 _ rfl
 have c3:w0.cell? ⟨w.heap.size,3,none⟩=some (.int .u32 (v.d:Int)):=b0.cells 3 _ rfl
 have c4:w0.cell? ⟨w.heap.size,4,none⟩=some (.int .u32 (v.e:Int)):=b0.cells 4 _ rfl
 have c5:w0.cell? ⟨w.heap.size,5,none⟩=some (.int .u32 (v.f:Int)):=b0.cells 5 _ rfl
 have c6:w0.cell? ⟨w.heap.size,6,none⟩=some (.int .u32 (v.g:Int)):=b0.cells 6 _ rfl
 have c7:w0.cell? ⟨w.heap.size,7,none⟩=some (.int .u32 (v.i:Int)):=b0.cells 7 _ rfl
 have B1:=Hd b1;have B2:=Hd b2
 have HHS:=Hd hhs
 have EX:Hid (∀j,j<8→∀c,c=(wL v).getD j 0→∀w,(Instr.index 169 (.agg hs) (.int .i64 (j:Int))).run Tryz.prog w=.ok (.int .u32 ((c:Nat):Int)) w):=Hd (fun j hj c hc w=>by rw[hhs];exact Yh0 v j hj c hc w)
 have HV:=Hd hv
 rw[←hhs]
 clear hw0 b0 b1 b2 hzs hhs hv
 go_enter Tryz.func124,Tryz.ntmps124
 go_upto_region 2 with fail
 have W0':=W0.out
 rw[Z0.out] at W0'
 rw[←W0',show w.heap.size+1+1=w.heap.size+2 from rfl]
 clear W0' W0
 go_wp2_with fail
 have HHS':=HHS.out
 unfold wC at HHS'
 rw[←HHS']
 clear HHS' c0 c1 c2 c3 c4 c5 c6 c7
 go_loopg [4,5,6,24,28] 8 (fun k v4 v5 v6 i v28 wr=>∃j:Nat,j≤8∧k=8-j∧i=.int .i64 (j:Int)∧IB wr (w.heap.size+1) 60 (List.replicate 32 0)∧IB wr (w.heap.size+2) 60 (lay (dgF v) (4*j) 32)∧Below w.heap.size w wr)
 case atStart=>exact⟨0,by omega,rfl,rfl,B1.out,B2.out,BW.out⟩
 case round=>
  clear B1 B2 BW
  obtain⟨j,hj,rfl,rfl,h1,h2,hbw⟩:=hrel
  have HB:=Hd hbw
  have G1:=Hd h1;have G2:=Hd h2
  clear h1 h2 hbw
  by_cases hlt:j<8
  ·obtain⟨x,hx⟩:∃x,x=(wL v).getD j 0:=⟨_,rfl⟩
   have ix:=EX.out j hlt x hx
   have DA:Hid (∀k,k<4→(dgF v)[4*j+k]?=some (x/2^(24-8*k)%256)):=Hd (fun k hk=>by rw[hx];exact Yig v j k hlt hk)
   clear hx
   go_wp2_with fail
   go_loopg [6,28] 4 (fun k v6 i wi=>∃m:Nat,m≤4∧k=4-m∧i=.int .i64 (m:Int)∧IB wi (w.heap.size+1) 60 (List.replicate 32 0)∧IB wi (w.heap.size+2) 60 (lay (dgF v) (4*j+m) 32)∧Below w.heap.size w wi)
   case atStart=>exact⟨0,by omega,rfl,rfl,G1.out,G2.out,HB.out⟩
   case round=>
    clear G1 G2 HB
    rename_i wr0 _ _ _ _ _ _ _ _
    obtain⟨m,hm,rfl,rfl,h1,h2,hbw⟩:=hrel
    have HB:=Hd hbw
    have G1:=Hd h1;have G2:=Hd h2
    clear h1 h2 hbw ix
    by_cases hm4:m<4
    ·obtain⟨q,hq⟩:∃q,q=4*j+m:=⟨_,rfl⟩
     have hq2:q<32:=by omega
     obtain⟨r,hr⟩:∃r,r=24-8*m:=⟨_,rfl⟩
     have hr2:r≤24:=by omega
     have e1:(4:Int)*(j:Int)+(m:Int)=(q:Int):=by omega
     have e2:(24:Int)-8*(m:Int)=(r:Int):=by omega
     have q0:(0:Int)≤(q:Int):=by omega
     have q1:(q:Int)<32:=by omega
     have cq:wr.cell? ⟨w.heap.size+2,q,none⟩=some (.int .u8 (((lay (dgF v) (4*j+m) 32).getD q 0:Nat):Int)):=G2.out.cell (by rw[Xxk (by omega) (Xci v)];exact hq2)
     have fq:wr.frozen? ⟨w.heap.size+2,q,none⟩=false:=Xd3 G2.out q
     obtain⟨y,hy⟩:∃y,y=x/2^r%256:=⟨_,rfl⟩
     have YI:Hid (((y:Nat):Int)=(x:Int)/2^r%256):=Hd (by rw[hy,Int.natCast_emod,Int.natCast_ediv,Int.natCast_pow];rfl)
     have DY:Hid ((lay (dgF v) (4*j+m) 32).set q y=lay (dgF v) (4*j+(m+1)) 32):=Hd (by
      rw[hq];exact Yfa (by omega) (Xci v) (by rw[DA.out m hm4,hy,hr]))
     clear hq hr hy
     go_wp2_with fail
     rw[←YI.out]
     go_roundg (4-(m+1))
     case measure=>omega
     case rel=>exact⟨m+1,by omega,rfl,by go_num,G1.out.setC _ _ (by omega),by rw[←DY.out];exact G2.out.set q y,HB.out.setCell (Nat.le_add_right _ 2) _⟩
    ·obtain rfl:m=4:=by omega
     go_wp2_with fail
     go_roundg (8-(j+1))
     case measure=>omega
     case rel=>exact⟨j+1,by omega,rfl,by go_num,G1.out,G2.out,HB.out⟩
  ·obtain rfl:j=8:=by omega
   have L2:=Hd (run_loadVar_row (P:=Tryz.prog) wr (w.heap.size+2) _ 60 _ _ _ G2.out Tryz.underlying60 rfl (by rw[Xag,Xxk (by omega) (Xci v)];exact Xgo))
   have e1:lay (dgF v) (4*8) 32=dgF v:=Yfb (Xci v)
   rw[e1] at L2
   have ST:=Hd (run_storeVar_row (P:=Tryz.prog) wr (w.heap.size+1) _ 60 (idA (List.replicate 32 0)) (idA (dgF v)) G1.out (by rw[Xag,Xci];exact Xgo) (by rw[Xag,Xag,Xci];simp) (Xdu _))
   have W2:=Hd (setRow_heap wr (w.heap.size+1) _ (idA (dgF v)) _ _ G1.out)
   have SZ:Hid ((Tryz.prog.info? 60).map (·.size)=some (idA (dgF v)).size):=Hd (by rw[Xag,Xci];exact Xgo)
   have BE:=Hd (below_setRow HB.out (Nat.le_succ _) (idA (dgF v)))
   obtain⟨rs,hrs⟩:∃rs,rs=idA (dgF v):=⟨_,rfl⟩
   rw[←hrs] at L2 ST W2 SZ BE
   have HRS:=Hd hrs
   clear hrs e1 hlt HB EX G1 G2
   go_wp2_with (first
    |((with_reducible refine Xac 60 rfl _ rfl ?_);refine⟨_,_,rfl,L2.out,?_⟩)
    |((with_reducible refine Xab 60 rfl _ _ rfl ?_);refine⟨_,_,_,rfl,rfl,ST.out,?_⟩))
   exact bodyPost_ret (results_cell_row Tryz.results124 _ _ (w.heap.size+1) _ _ _ _ rfl W2.out Tryz.underlying60 rfl SZ.out) rfl ⟨by rw[HRS.out],BE.out⟩
end Go.Proofs.YtohmdledkhgdaaaGreatDoor
/- sha256: a hash under way in a block. -/
namespace Go.Proofs.YtohmdledkhgdaaaGreatDoor
open Go.RowKit Go.Maps
set_option linter.unusedVariables false
set_option maxRecDepth 100000
structure Hs.Ok (h:Hs):Prop where
 st:h.st.Ok
 blk:B64 h.blk
def hC (h:Hs):Array Value:=((wC h.st).toList++(h.blk.map U++[Value.int .i64 (h.len:Int)])).toArray
theorem Xkc {h:Hs} (hb:h.blk.length=64):(hC h).size=73:=by simp[hC,hb,wC]
theorem Yh5 (h:Hs):(hC h).all (·.oneCell')=true:=by
 rw[Array.all_eq_true']
 intro x hx
 unfold hC at hx
 rw[List.mem_toArray,List.mem_append,List.mem_append] at hx
 rcases hx with hx|hx|hx
 ·have:=(Array.all_eq_true'.1 (Xvn h.st)) x (by simpa using hx);exact this
 ·obtain⟨y,_,rfl⟩:=List.mem_map.1 hx;rfl
 ·rw[List.mem_singleton] at hx;rw[hx];rfl
theorem Xjj {P:Program} (w:World) (g o:Nat) (ty t:TypeId) (X Y Z vs:List Value) (hg:w.heap[g]?=some (.cells (X++(Y++Z)).toArray t (0,0))) (hX:X.length=o) (hY:Y.length=vs.length)
    (hi:(P.info? ty).map (·.size)=some vs.length) (h1:∀v∈vs,v.oneCell'=true):(storeVar ty ⟨g,o,none⟩ (.agg vs.toArray)).run P w=.ok () (w.setRow g (X++(vs++Z)).toArray):=by
 have hst:=run_storeCells_at P g o t vs 0 _ w hg (by simp;omega) h1
 have e:(X++(Y++Z)).toArray.toList.take (o+0)++vs++(X++(Y++Z)).toArray.toList.drop (o+0+vs.length)=X++(vs++Z):=by
  subst hX
  rw[←hY]
  simp
 rw[e] at hst
 cases hq:P.info? ty with
 |none=>simp[hq] at hi
 |some i=>
  have hs:vs.length=i.size:=by simp[hq] at hi;omega
  simp[storeVar,sizeOf,typeInfo,hq,Value.cells,hs,hst]
def HK (w:World) (b:Nat) (h:Hs):Prop:=w.heap[b]?=some (.cells (hC h) 179 (0,0))
theorem HK.lt {w:World} {b:Nat} {h:Hs} (hk:HK w b h):b<w.heap.size:=lt_of_block hk
theorem HK.below {w w':World} {b:Nat} {h:Hs} (hk:HK w b h) (hb:Below w.heap.size w w'):HK w' b h:=(hb.block b hk.lt).trans hk
theorem Xnu:(Tryz.prog.info? 179).map (·.size)=some 73:=by kernel_rfl
section
variable {w:World} {b:Nat} {h:Hs} (hk:HK w b h)
include hk
theorem HK.len (hb:h.blk.length=64):w.cell? ⟨b,72,none⟩=some (.int .i64 (h.len:Int)):=by
 rw[cell_of_row w b 72 _ _ _ hk];simp[hC,wC,hb]
theorem HK.st:(loadVar 176 ⟨b,0,none⟩).run Tryz.prog w=.ok (.agg (wC h.st)) w:=by
 have:=run_loadVar_mid (P:=Tryz.prog) w b 0 176 (wC h.st).toList _ (fun j v hv=>by
  rw[cell_of_row w b (0+j) _ _ _ hk,Nat.zero_add]
  unfold hC
  rw[List.getElem?_toArray,List.getElem?_append_left (List.getElem?_eq_some_iff.1 hv).1]
  exact hv) Tryz.underlying176 rfl (by rw[Array.length_toList,Xgk];exact Xc5)
 rwa [Array.toArray_toList] at this
theorem HK.blk (hb:h.blk.length=64):(loadVar 177 ⟨b,8,none⟩).run Tryz.prog w=.ok (.agg (idA h.blk)) w:=
 run_loadVar_mid (P:=Tryz.prog) w b 8 177 (h.blk.map U) _ (fun j v hv=>by
  rw[cell_of_row w b (8+j) _ _ _ hk]
  unfold hC
  rw[List.getElem?_toArray,List.getElem?_append_right (by simp[wC]),show 8+j-(wC h.st).toList.length=j by simp[wC],List.getElem?_append_left (List.getElem?_eq_some_iff.1 hv).1]
  exact hv) Tryz.underlying177 rfl (by rw[List.length_map,hb];exact Xr0)
theorem HK.all (hb:h.blk.length=64):(loadVar 179 ⟨b,0,none⟩).run Tryz.prog w=.ok (.agg (hC h)) w:=
 run_loadVar_row w b _ 179 _ _ _ hk Tryz.underlying179 rfl (by rw[Xkc hb];exact Xnu)
theorem HK.setSt (v:W8):(storeVar 176 ⟨b,0,none⟩ (.agg (wC v))).run Tryz.prog w=.ok () (w.setRow b (hC ⟨v,h.blk,h.len⟩))∧HK (w.setRow b (hC ⟨v,h.blk,h.len⟩)) b ⟨v,h.blk,h.len⟩:=by
 have:=Xjj (P:=Tryz.prog) w b 0 176 _ [] (wC h.st).toList (h.blk.map U++[Value.int .i64 (h.len:Int)]) (wC v).toList hk rfl rfl (by rw[Array.length_toList,Xgk];exact Xc5) (fun x hx=>(Array.all_eq_true'.1 (Xvn v)) x (by simpa using hx))
 rw[Array.toArray_toList] at this
 exact⟨this,setRow_heap w b _ _ _ _ hk⟩
theorem HK.setLen (hb:h.blk.length=64) (n:Nat):HK (w.setCell ⟨b,72,none⟩ (.int .i64 (n:Int))) b ⟨h.st,h.blk,n⟩:=by
 have:=Xd0 hk 72 (.int .i64 (n:Int))
 have e:(hC h).setIfInBounds 72 (.int .i64 (n:Int))=hC ⟨h.st,h.blk,n⟩:=by
  unfold hC
  rw[List.setIfInBounds_toArray]
  rw[List.set_append_right _ _ (by simp[wC]),List.set_append_right _ _ (by simp[wC,hb])]
  simp[wC,hb]
 rw[e] at this
 exact this
end
theorem Xu3 {h:Hs} (hb:h.blk.length=64) {p:Nat} {cs:List Nat} (hp:p+cs.length≤64):
    ((hC h).toList.take (8+p)++(cs.map U++(hC h).toList.drop (8+p+(cs.map U).length))).toArray=hC ⟨h.st,h.blk.take p++cs++h.blk.drop (p+cs.length),h.len⟩:=by
 have l8:(wC h.st).toList.length=8:=rfl
 unfold hC
 simp only[List.length_map]
 rw[List.take_append,List.drop_append,List.take_of_length_le (by omega),show(wC h.st).toList.drop (8+p+cs.length)=[] from List.drop_of_length_le (by omega),l8,show 8+p-8=p by omega,show 8+p+cs.length-8=p+cs.length by omega,
  List.take_append_of_le_length (by simp[hb];omega),List.drop_append_of_le_length (by simp[hb];omega)]
 simp
theorem Xrk:∀(k k':Nat) (h:Hs) (l:List Nat),l.length≤k→l.length≤k'→wrN k h l=wrN k' h l
 |0,0,_,_,_,_=>rfl
 |0,k'+1,h,l,hk,_=>by
  obtain rfl:l=[]:=List.eq_nil_of_length_eq_zero (by omega)
  simp[wrN]
 |k+1,0,h,l,_,hk=>by
  obtain rfl:l=[]:=List.eq_nil_of_length_eq_zero (by omega)
  simp[wrN]
 |k+1,k'+1,h,l,hk,hk'=>by
  unfold wrN
  by_cases e:l=[]
  ·rw[if_pos e,if_pos e]
  ·rw[if_neg e,if_neg e]
   have h0:0<l.length:=List.length_pos_iff.2 e
   exact Xrk k k' _ _ (by rw[List.length_drop];omega) (by rw[List.length_drop];omega)
theorem Xzw (h:Hs) (l:List Nat) (h0:0<l.length):wrN l.length h l=wrN (l.drop (min (64-h.len%64) l.length)).length (Xcu h l) (l.drop (min (64-h.len%64) l.length)):=by
 obtain⟨k,hk⟩:∃k,l.length=k+1:=⟨l.length-1,by omega⟩
 have e:l≠[]:=fun e=>by rw[e] at h0;simp at h0
 conv=>lhs;rw[hk];unfold wrN;rw[if_neg e]
 exact Xrk _ _ _ _ (by rw[List.length_drop];omega) (Nat.le_refl _)
theorem Xnn {h:Hs} (ho:h.Ok) {l:List Nat} (hl:∀x∈l,x<256):(Xcu h l).Ok∧B64 (h.blk.take (h.len%64)++l.take (min (64-h.len%64) l.length)++h.blk.drop (h.len%64+min (64-h.len%64) l.length)):=by
 have hb:B64 (h.blk.take (h.len%64)++l.take (min (64-h.len%64) l.length)++h.blk.drop (h.len%64+min (64-h.len%64) l.length)):=by
  refine⟨by simp[ho.blk.len];omega,fun x hx=>?_⟩
  rw[List.mem_append,List.mem_append] at hx
  rcases hx with(hx|hx)|hx
  ·exact ho.blk.lt x (List.mem_of_mem_take hx)
  ·exact hl x (List.mem_of_mem_take hx)
  ·exact ho.blk.lt x (List.mem_of_mem_drop hx)
 refine⟨⟨?_,hb⟩,hb⟩
 show W8.Ok (if _ then _ else _)
 split
 ·exact Yep _ _
 ·exact ho.st
theorem Yc2:∀(k:Nat) {h:Hs} {l:List Nat},h.Ok→(∀x∈l,x<256)→(wrN k h l).Ok
 |0,_,_,ho,_=>ho
 |k+1,h,l,ho,hl=>by
  unfold wrN
  split
  ·exact ho
  ·exact Yc2 k (Xnn ho hl).1 (fun x hx=>hl x (List.mem_of_mem_drop hx))
theorem Yc3 {h:Hs} (ho:h.Ok) {l:List Nat} (hl:∀x∈l,x<256):(wrF h l).Ok:=Yc2 _ ⟨by show W8.Ok (if _ then _ else _);split;exact Yc9;exact ho.st,ho.blk⟩ hl
theorem Ydk:hs0.Ok:=⟨⟨by decide,by decide,by decide,by decide,by decide,by decide,by decide,by decide⟩,⟨by simp[hs0],fun x hx=>by unfold hs0 at hx;simp at hx;omega⟩⟩
theorem Xvl:∀(k:Nat) (h:Hs) (l:List Nat),l.length≤k→(wrN k h l).len=h.len+l.length
 |0,h,l,hk=>by
  obtain rfl:l=[]:=List.eq_nil_of_length_eq_zero (by omega)
  rfl
 |k+1,h,l,hk=>by
  unfold wrN
  by_cases e:l=[]
  ·rw[if_pos e,e];rfl
  ·have h0:0<l.length:=List.length_pos_iff.2 e
   rw[if_neg e,Xvl k _ _ (by rw[List.length_drop];omega),List.length_drop]
   show h.len+min (64-h.len%64) l.length+_=_
   omega
end Go.Proofs.YtohmdledkhgdaaaGreatDoor
