/- canonical.fromValues. -/
import Derived.Test.YtohmdledkhgdaaaGreatDoorPa28
namespace Go.Proofs.YtohmdledkhgdaaaGreatDoor
open Go.RowKit
set_option linter.unusedVariables false
set_option maxRecDepth 100000
theorem Ye6 {vs:List ByteArray} {l:List (List Nat)} (h:vs.map bs=l) (j:Nat) {v:ByteArray} {x:List Nat} (h1:vs[j]?=some v) (h2:l[j]?=some x):bs v=x:=by
 rw[←h,List.getElem?_map,h1] at h2
 simpa using h2
theorem FvGood.at {cn:Cn} {vs:List ByteArray} {body:ByteArray} (h:FvGood cn vs body) (j:Nat) {v:ByteArray} {x:List Nat} (h1:vs[j]?=some v) (h2:(Xa4 cn.p)[j]?=some x):bs v=x:=Ye6 h.2.2.1 j h1 h2
set_option maxHeartbeats 16000000 in
theorem Yh9 (w:World) (v0 v1 v2 v3 v4 v5 v6 v7 v8 v9 v10 body:ByteArray) (hz:∀v∈[v0,v1,v2,v3,v4,v5,v6,v7,v8,v9,v10],v.size≤100000) (hbz:body.size≤1000000) (hE:Env w):
    Calls Tryz.prog 69 #[.agg #[.string v0,.string v1,.string v2,.string v3,.string v4,.string v5,.string v6,.string v7,.string v8,.string v9,.string v10],.string body] w (Xkw [v0,v1,v2,v3,v4,v5,v6,v7,v8,v9,v10] body w):=by
 obtain⟨vs,hvs⟩:∃vs,vs=[v0,v1,v2,v3,v4,v5,v6,v7,v8,v9,v10]:=⟨_,rfl⟩
 rw[←hvs] at hz
 have FX:Hid (∀e w',Xkw vs body w e w'→Xkw [v0,v1,v2,v3,v4,v5,v6,v7,v8,v9,v10] body w e w'):=Hd (fun e w' h=>by rw[hvs] at h;exact h)
 obtain⟨w0,hw0⟩:∃w0,w0=((w.alloc (.cells #[.string v0,.string v1,.string v2,.string v3,.string v4,.string v5,.string v6,.string v7,.string v8,.string v9,.string v10] 101)).alloc (.cells (Tryz.zeroCells37) 37)).alloc (.cells #[.int .i64 0] 96):=⟨_,rfl⟩
 have S0:w0.heap.size=w.heap.size+3:=by rw[hw0];simp
 have B0:Below w.heap.size w w0:=by rw[hw0];exact(((Below.refl _ _).alloc (Nat.le_refl _) _).alloc (by simp) _).alloc (by simp;omega) _
 obtain⟨cs0,hcs0⟩:∃x,x=(cnS v0 v4 v7 v8 body).cells (.slice none 0 0) (.slice none 0 0):=⟨_,rfl⟩
 obtain⟨w1,hw1⟩:∃w1,w1=w0.alloc (.cells cs0 37):=⟨_,rfl⟩
 have i1:FvI w vs (cnS v0 v4 v7 v8 body) (.slice none 0 0) (.slice none 0 0) 0 w1:=by
  have hb:Below w0.heap.size w0 w1:=by rw[hw1];exact(Below.refl _ _).alloc (Nat.le_refl _) _
  have e0:w0.heap[w.heap.size]?=some (.cells (vs.map Value.string).toArray 101 (0,0)):=by rw[hw0,hvs];exact Xaf (Xaf (heap_alloc_last w _))
  have e1:w0.heap[w.heap.size+1]?=some (.cells (cn0.cells (.slice none 0 0) (.slice none 0 0)) 37 (0,0)):=by
   rw[Xko,hw0]
   refine Xaf ?_
   have:=heap_alloc_last (w.alloc (.cells #[.string v0,.string v1,.string v2,.string v3,.string v4,.string v5,.string v6,.string v7,.string v8,.string v9,.string v10] 101)) (.cells (Tryz.zeroCells37) 37)
   rw[World.size_alloc] at this;exact this
  have e2:w0.heap[w.heap.size+2]?=some (.cells #[.int .i64 0] 96 (0,0)):=by
   rw[hw0]
   have:=heap_alloc_last ((w.alloc (.cells #[.string v0,.string v1,.string v2,.string v3,.string v4,.string v5,.string v6,.string v7,.string v8,.string v9,.string v10] 101)).alloc (.cells (Tryz.zeroCells37) 37)) (.cells #[.int .i64 0] 96)
   rw[World.size_alloc,World.size_alloc] at this;exact this
  refine⟨B0.trans (hb.mono B0.size),(hb.block _ (lt_of_block e0)).trans e0,(hb.block _ (lt_of_block e1)).trans e1,(hb.block _ (lt_of_block e2)).trans e2,?_,Ydt _ _ _ _ _,⟨none,0,rfl,Nat.le_refl _,fun h=>absurd rfl h⟩,⟨none,0,rfl,Nat.le_refl _,fun h=>absurd rfl h⟩,(fun k hk=>by cases hk),(fun k hk=>by cases hk)⟩
  unfold CB
  rw[hw1,←S0,hcs0]
  exact heap_alloc_last w0 _
 have BX:∀j,j<11→w0.cell? ⟨w.heap.size,j,none⟩=w1.cell? ⟨w.heap.size,j,none⟩:=fun j _=>by
  rw[hw1];exact(((Below.refl w0.heap.size w0).alloc (Nat.le_refl _) (.cells cs0 37)).cell (p:=⟨w.heap.size,j,none⟩) (show w.heap.size<w0.heap.size by omega)).symm
 have x0:w0.cell? ⟨w.heap.size,0,none⟩=some (.string v0):=(BX 0 (by omega)).trans (i1.at (by rw[hvs];rfl))
 have x4:w0.cell? ⟨w.heap.size,4,none⟩=some (.string v4):=(BX 4 (by omega)).trans (i1.at (by rw[hvs];rfl))
 have x7:w0.cell? ⟨w.heap.size,7,none⟩=some (.string v7):=(BX 7 (by omega)).trans (i1.at (by rw[hvs];rfl))
 have x8:w0.cell? ⟨w.heap.size,8,none⟩=some (.string v8):=(BX 8 (by omega)).trans (i1.at (by rw[hvs];rfl))
 have BF:Hid (∀(o:Oper) (a:Act) (w:World),o.op=.build 37 #[(0,.tmp 13),(4,.tmp 15),(7,.tmp 17),(8,.tmp 19),(12,.tmp 20)]→a.eval (.tmp 13)=.string v0→a.eval (.tmp 15)=.string v4→a.eval (.tmp 17)=.string v7→a.eval (.tmp 19)=.string v8→a.eval (.tmp 20)=.string body→(execOp a.eval o).run Tryz.prog w=.ok (.value (.agg cs0)) w):=Hd (fun o a w ho h0 h4 h7 h8 hb=>by
  rw[hcs0]
  exact Xqr ho (by simp[h0,h4,h7,h8,hb]) (Ybx w v0 v4 v7 v8 body))
 have sz0:cs0.size=75:=by rw[hcs0];exact Xb1 (Ydt _ _ _ _ _) _ _
 have STN:Hid ((storeVar 37 ⟨w0.heap.size,0,none⟩ (.agg cs0)).run Tryz.prog (w0.alloc (.cells (Tryz.zeroCells37) 37))=.ok () w1):=Hd (by
  rw[hw1]
  exact run_storeVar_new w0 37 _ cs0 (by rw[sz0];exact Xb3) (by rw[sz0];kernel_rfl) (by rw[hcs0];exact Xc0 _ _ _ rfl rfl))
 have I1:=Hd i1
 have HS0:=Hd S0
 have HW:=Hd hw0
 have VZ:=Hd hz
 have HE:=Hd hE
 have HVS:=Hd hvs
 have A0:Hid (vs[0]?=some v0):=Hd (by rw[hvs];rfl)
 have A1:Hid (vs[1]?=some v1):=Hd (by rw[hvs];rfl)
 have A2:Hid (vs[2]?=some v2):=Hd (by rw[hvs];rfl)
 have A3:Hid (vs[3]?=some v3):=Hd (by rw[hvs];rfl)
 have A4:Hid (vs[4]?=some v4):=Hd (by rw[hvs];rfl)
 have A5:Hid (vs[5]?=some v5):=Hd (by rw[hvs];rfl)
 have A6:Hid (vs[6]?=some v6):=Hd (by rw[hvs];rfl)
 have A7:Hid (vs[7]?=some v7):=Hd (by rw[hvs];rfl)
 have A8:Hid (vs[8]?=some v8):=Hd (by rw[hvs];rfl)
 have A9:Hid (vs[9]?=some v9):=Hd (by rw[hvs];rfl)
 have A10:Hid (vs[10]?=some v10):=Hd (by rw[hvs];rfl)
 have z1:Hid (v1.size≤100000):=Hd (hz v1 (by rw[hvs];simp))
 have z2:Hid (v2.size≤100000):=Hd (hz v2 (by rw[hvs];simp))
 have z3:Hid (v3.size≤100000):=Hd (hz v3 (by rw[hvs];simp))
 have z4:Hid (v4.size≤100000):=Hd (hz v4 (by rw[hvs];simp))
 have z5:Hid (v5.size≤100000):=Hd (hz v5 (by rw[hvs];simp))
 have z6:Hid (v6.size≤100000):=Hd (hz v6 (by rw[hvs];simp))
 have z7:Hid (v7.size≤100000):=Hd (hz v7 (by rw[hvs];simp))
 have z8:Hid (v8.size≤100000):=Hd (hz v8 (by rw[hvs];simp))
 have z9:Hid (v9.size≤100000):=Hd (hz v9 (by rw[hvs];simp))
 have z10:Hid (v10.size≤100000):=Hd (hz v10 (by rw[hvs];simp))
 have z0:Hid (v0.size≤100000):=Hd (hz v0 (by rw[hvs];simp))
 have KA:=Hd (fun w=>Xjp v1 w (by have:=z1.out;omega))
 have KD:=Hd (fun w=>Xi5 v2 105190559 w (by have:=z2.out;omega) (by omega))
 have KG:=Hd (fun w (h:Env w)=>Xus v3 w z3.out h)
 have KR:=Hd (fun w=>Xwi v5 w (by have:=z5.out;omega))
 have KM:=Hd (fun w=>Xhq v6 w (by have:=z6.out;omega))
 have KC:=Hd (fun w (h:Env w)=>Xq5 v9 32 w (by have:=z9.out;omega) h.mx)
 have KL:=Hd (fun w=>Xi5 v10 255 w (by have:=z10.out;omega) (by omega))
 clear hw0 hw1 hcs0 sz0 i1 BX B0 hz hE hvs S0
 go_enter Tryz.func69,Tryz.ntmps69
 go_upto_region 2 with fail
 rw[←HW.out]
 clear HW
 go_upto_region 3 with(first
  |(with_reducible refine Xaz rfl (BF.out _ _ _ rfl rfl rfl rfl rfl rfl) ?_)
  |((with_reducible refine Xab 37 rfl _ _ rfl ?_);refine⟨_,_,_,rfl,rfl,STN.out,?_⟩))
 rw[HS0.out]
 clear BF STN x0 x4 x7 x8 HS0
 have f0:=I1.out.at A1.out
 go_wp2_with fail
 refine(KA.out w1).mono ?_
 rintro e w2 ⟨ao,er,hm,hb⟩
 have hpost:∃(a:List Nat) (er':Int),e=.returned (.tuple #[.agg (idA a),.int .i64 ao,.int .i64 er'])∧AuOk a∧((Xeo (bs v1)=none∧er'≠0)∨(Xeo (bs v1)=some a∧er'=0)):=by
  cases hp:Xeo (bs v1) with
  |none=>rw[hp] at hm;exact⟨Xdc,er,hm.1,Xe7,.inl ⟨rfl,hm.2⟩⟩
  |some i=>rw[hp] at hm;exact⟨i,0,hm,Xta hp,.inr ⟨rfl,rfl⟩⟩
 clear hm KA f0
 obtain⟨au,eA,rfl,hao,hcase⟩:=hpost
 have GA:Hid (∀cn,FvGood cn vs body→eA=0∧au=cn.author):=Hd (fun cn hg=>by
  have e:=hg.at 1 A1.out (x:=Xbz cn.author) rfl
  rw[e,Xzb hg.1.author.lt hg.1.author.len] at hcase
  rcases hcase with⟨h,_⟩|⟨h,h2⟩
  ·cases h
  ·exact⟨h2,(Option.some.inj h).symm⟩)
 have I2:=Hd (I1.out.on hb)
 obtain⟨sta,cba⟩:=I2.out.cb.setAu I2.out.ok (a:=au) ⟨hao.len,hao.lt⟩
 have J:=Hd (I2.out.row cba ⟨⟨hao.len,hao.lt⟩,I2.out.ok.root,I2.out.ok.sup,I2.out.ok.refs,I2.out.ok.date,I2.out.ok.number,I2.out.ok.height,I2.out.ok.leaf⟩ rfl rfl)
 have STA:=Hd sta
 obtain⟨ia,hia⟩:∃x,x=idA au:=⟨_,rfl⟩
 rw[←hia] at STA⊢
 clear sta cba hb hcase hao hia I1 I2
 go_upto_region 5 with((with_reducible refine Xab 33 rfl _ _ rfl ?_);refine⟨_,_,_,rfl,rfl,STA.out,?_⟩)
 clear STA
 obtain⟨w3,hw3⟩:∃x,x=w2.setRow (w.heap.size+3) (({cnS v0 v4 v7 v8 body with author:=au}:Cn).cells (.slice none 0 0) (.slice none 0 0)):=⟨_,rfl⟩
 rw[←hw3] at J⊢
 clear hw3
 obtain⟨c1,hc1⟩:∃c:Cn,c={cnS v0 v4 v7 v8 body with author:=au}:=⟨_,rfl⟩
 rw[←hc1] at J
 have C1:=Hd hc1
 clear hc1
 have I3:=J
 clear J
 have TK4:=Hd (Xca w3 (w.heap.size+2) _ I3.out.chk (eA))
 go_wp2_with fail
 refine TK4.out.mono ?_
 rintro e w4 ⟨⟨v,rfl⟩,hck,hf⟩
 have I4:=Hd (I3.out.tk hck hf)
 clear hck hf TK4 I3
 have f0:=I4.out.at A2.out
 go_wp2_with fail
 refine(KD.out w4).mono ?_
 rintro e w5 ⟨rfl,rfl⟩
 obtain⟨nD,hnD⟩:∃x,x=(Xnj 105190559 (bs v2)).1:=⟨_,rfl⟩
 obtain⟨eD,heD⟩:∃x,x=(Xnj 105190559 (bs v2)).2:=⟨_,rfl⟩
 have hle:nD≤105190559:=by rw[hnD];exact Xju _ _
 have GD:Hid (∀cn,FvGood cn vs body→eD=0∧(nD:Int)=cn.date):=Hd (fun cn hg=>by
  have e:=hg.at 2 A2.out (x:=Xd1 cn.date) rfl
  have vd:=(Xf1 hg.2.1).date
  have h0:0≤cn.date:=vd.1
  have this:=Xg4 (most:=105190559) h0 vd.2 (by omega)
  rw[←e] at this
  rw[hnD,heD,this]
  exact⟨rfl,by show((cn.date.toNat:Nat):Int)=cn.date;omega⟩)
 rw[←hnD,←heD]
 have hcell:w4.cell? ⟨w.heap.size+3,17,none⟩=some _:=I4.out.cb.at (Xcn I4.out.ok _ _)
 have hfr:=I4.out.free 17
 have J:=Hd (I4.out.one (I4.out.cb.setDa I4.out.ok (nD:Int)) (⟨I4.out.ok.author,I4.out.ok.root,I4.out.ok.sup,I4.out.ok.refs,Xi9 (by omega),I4.out.ok.number,I4.out.ok.height,I4.out.ok.leaf⟩) I4.out.srow I4.out.irow I4.out.gown I4.out.rown)
 clear hnD heD KD I4 f0
 go_upto_region 7 with fail
 clear hcell hfr
 obtain⟨x5,hx5⟩:∃x,x=w4.setCell ⟨w.heap.size+3,17,none⟩ (.int .i64 (nD:Int)):=⟨_,rfl⟩
 rw[←hx5] at J⊢
 clear hx5
 obtain⟨c2,hc2⟩:∃c:Cn,c={c1 with date:=(nD:Int)}:=⟨_,rfl⟩
 rw[←hc2] at J
 have Kc2:=Hd hc2
 clear hc2 hle
 have I5:=J
 clear J
 have TK6:=Hd (Xca x5 (w.heap.size+2) _ I5.out.chk ((eD:Int)))
 go_wp2_with fail
 refine TK6.out.mono ?_
 rintro e w6 ⟨⟨v,rfl⟩,hck,hf⟩
 have I6:=Hd (I5.out.tk hck hf)
 clear hck hf TK6 I5
 have f0:=I6.out.at A3.out
 go_wp2_with fail
 refine(KG.out w6 (HE.out.on I6.out.bel)).mono ?_
 rintro e w7 ⟨gv,gs,rfl,hsr,hgz,hgl,hgw,hgo,hb⟩
 obtain⟨eG,heG⟩:∃x,x=Ydm (bs v3):=⟨_,rfl⟩
 have GG:Hid (∀cn,FvGood cn vs body→eG=0∧gs.map bs=cn.groups.map bs):=Hd (fun cn hg=>by
  have e:=hg.at 3 A3.out (x:=Xa0 [44] (cn.groups.map bs)) rfl
  obtain⟨h1,h2⟩:=Ybv (Xkq hg.2.1).1
  rw[←show Xa0 [44] (cn.groups.map bs)=Xa0 [44] cn.p.groups from rfl,←e] at h1 h2
  exact⟨heG.trans h1,(hgw h1).trans h2⟩)
 rw[←heG]
 have GLZ:Hid (gs.length≤100001∧∀g∈gs,g.size≤100000):=Hd ⟨by have:=z3.out;omega,fun g hg=>by have:=hgz g hg;have:=z3.out;omega⟩
 have I7:=Hd (I6.out.on hb)
 have hcell:w7.cell? ⟨w.heap.size+3,18,none⟩=some _:=I7.out.cb.at (Xgv I7.out.ok _ _)
 have hfr:=I7.out.free 18
 obtain⟨ga,gcap,hgv,hr2⟩:=hsr
 have GSR:SRow w7 gv gs:=⟨ga,gcap,hgv,hr2⟩
 have J:=Hd (I7.out.one (I7.out.cb.setGr I7.out.ok gv gs) ⟨I7.out.ok.author,I7.out.ok.root,I7.out.ok.sup,I7.out.ok.refs,I7.out.ok.date,I7.out.ok.number,I7.out.ok.height,I7.out.ok.leaf⟩ GSR I7.out.irow (fun k hk=>by have:=hgo k hk;have:=I6.out.lt;omega) I7.out.rown)
 subst hgv
 clear GSR hr2 heG hgz hgl hgw hgo hb KG f0 I6 I7
 go_upto_region 9 with fail
 clear hcell hfr
 obtain⟨x7,hx7⟩:∃x,x=w7.setCell ⟨w.heap.size+3,18,none⟩ (.slice ga gs.length gcap):=⟨_,rfl⟩
 rw[←hx7] at J⊢
 clear hx7
 obtain⟨gv,hgv⟩:∃v,v=Value.slice ga gs.length gcap:=⟨_,rfl⟩
 rw[←hgv] at J⊢
 clear hgv
 obtain⟨c3,hc3⟩:∃c:Cn,c={c2 with groups:=gs}:=⟨_,rfl⟩
 rw[←hc3] at J
 have Kc3:=Hd hc3
 clear hc3
 have I7:=J
 clear J
 have TK8:=Hd (Xca x7 (w.heap.size+2) _ I7.out.chk ((eG:Int)))
 go_wp2_with fail
 refine TK8.out.mono ?_
 rintro e w8 ⟨⟨v,rfl⟩,hck,hf⟩
 have I8:=Hd (I7.out.tk hck hf)
 clear hck hf TK8 I7
 have f0:=I8.out.at A5.out
 go_wp2_with fail
 refine(KR.out w8).mono ?_
 rintro e w9 ⟨rv,ids,ra,eR,rfl,hir,hio,hil,hlaw,hro,hb⟩
 have GR:Hid (∀cn,FvGood cn vs body→eR=0∧ids=cn.refs):=Hd (fun cn hg=>by
  have e:=hg.at 5 A5.out (x:=Xa0 [32] (cn.refs.map Xc2)) rfl
  rw[e,Yal hg.1.refs (Xkq hg.2.1).2.1] at hlaw
  rcases hlaw with⟨h1,h2⟩|⟨h1,_⟩
  ·exact⟨h2,(Option.some.inj h1).symm⟩
  ·cases h1)
 have RLZ:Hid (ids.length≤20):=Hd hil
 have I9:=Hd (I8.out.on hb)
 have hcell:w9.cell? ⟨w.heap.size+3,20,none⟩=some _:=I9.out.cb.at (Xhz I9.out.ok _ _)
 have hfr:=I9.out.free 20
 obtain⟨ra2,rcap,hrv,hr2⟩:=hir
 have RSR:IRow w9 rv ids:=⟨ra2,rcap,hrv,hr2⟩
 have J:=Hd (I9.out.one (I9.out.cb.setRe I9.out.ok rv ids) ⟨I9.out.ok.author,I9.out.ok.root,I9.out.ok.sup,hio,I9.out.ok.date,I9.out.ok.number,I9.out.ok.height,I9.out.ok.leaf⟩ I9.out.srow RSR I9.out.gown (fun k hk=>by have:=hro k hk;have:=I8.out.lt;omega))
 subst hrv
 clear RSR hr2 hio hil hlaw hro hb KR f0 I8 I9
 go_upto_region 11 with fail
 clear hcell hfr
 obtain⟨x9,hx9⟩:∃x,x=w9.setCell ⟨w.heap.size+3,20,none⟩ (.slice ra2 ids.length rcap):=⟨_,rfl⟩
 rw[←hx9] at J⊢
 clear hx9
 obtain⟨rv,hrv⟩:∃v,v=Value.slice ra2 ids.length rcap:=⟨_,rfl⟩
 rw[←hrv] at J⊢
 clear hrv
 obtain⟨c4,hc4⟩:∃c:Cn,c={c3 with refs:=ids}:=⟨_,rfl⟩
 rw[←hc4] at J
 have Kc4:=Hd hc4
 clear hc4
 have I9:=J
 clear J
 have TK10:=Hd (Xca x9 (w.heap.size+2) _ I9.out.chk ((eR:Int)))
 go_wp2_with fail
 refine TK10.out.mono ?_
 rintro e w10 ⟨⟨v,rfl⟩,hck,hf⟩
 have I10:=Hd (I9.out.tk hck hf)
 clear hck hf TK10 I9
 by_cases h6:v6.size=0
 ·skip
  have qe:v6.toList.isEmpty=true:=by
   rw[show v6=⟨#[]⟩ from ByteArray.ext (Array.eq_empty_of_size_eq_zero h6),ByteArray.toList_eq];rfl
  have GS:Hid (∀cn,FvGood cn vs body→(0:Int)=0∧cn.sup=zero32):=Hd (fun cn hg=>⟨rfl,by
   have e:=hg.at 6 A6.out (x:=Xhf cn.sup) rfl
   by_cases hs:cn.sup=zero32
   ·exact hs
   ·unfold Xhf at e
    rw[if_neg hs] at e
    have:=congrArg List.length e
    rw[Xaa,Xeu hg.1.sup] at this
    omega⟩)
  have f0:=I10.out.at A6.out
  clear h6 KM
  go_upto_region 15 with fail
  clear f0
  have f0:=I10.out.at A9.out
  go_wp2_with fail
  refine(KC.out w10 (HE.out.on I10.out.bel)).mono ?_
  rintro e w11 ⟨kx,ky,kb,rfl,hkx,hky,hkb,hkz,hd⟩
  have GC:Hid (∀cn,FvGood cn vs body→bs kx=Xd1 cn.number∧bs ky=Xe5 (Xoa cn.p)):=Hd (fun cn hg=>by
   have e:=hg.at 9 A9.out (x:=Xj4 cn.p) rfl
   obtain⟨h1,h2⟩:=Xxr (c:=cn.p) (Xf1 hg.2.1).number.1
   rw[hkx,hky,e]
   exact⟨h1,h2⟩)
  have KXZ:kx.size≤100000:=by have:=z9.out;omega
  have KYZ:ky.size≤100000:=by
   have:=congrArg List.length hky
   rw[Xaa,List.length_drop,Xaa] at this
   have:=z9.out;omega
  have I11:=Hd (I10.out.on (Dr.below hd))
  have KN:=Hd (fun w=>Xi5 kx 1000 w (by omega) (by omega))
  have KP:=Hd (fun w (h:Env w)=>Xfd ky w (by omega) h)
  clear hkx hky hkb hkz hd KC f0 I10
  go_wp2_with fail
  refine(KN.out w11).mono ?_
  rintro e w12 ⟨rfl,rfl⟩
  obtain⟨nN,hnN⟩:∃x,x=(Xnj 1000 (bs kx)).1:=⟨_,rfl⟩
  obtain⟨eN,heN⟩:∃x,x=(Xnj 1000 (bs kx)).2:=⟨_,rfl⟩
  have hle:nN≤1000:=by rw[hnN];exact Xju _ _
  have GN:Hid (∀cn,FvGood cn vs body→eN=0∧(nN:Int)=cn.number):=Hd (fun cn hg=>by
   have e:=(GC.out cn hg).1
   have vd:=(Xf1 hg.2.1).number
   have h0:0≤cn.number:=vd.1
   have this:=Xg4 (most:=1000) h0 vd.2 (by omega)
   rw[←e] at this
   rw[hnN,heN,this]
   exact⟨rfl,by show((cn.number.toNat:Nat):Int)=cn.number;omega⟩)
  rw[←hnN,←heN]
  have hcell:w11.cell? ⟨w.heap.size+3,55,none⟩=some _:=I11.out.cb.at (Xdy I11.out.ok _ _)
  have hfr:=I11.out.free 55
  have J:=Hd (I11.out.one (I11.out.cb.setNu I11.out.ok (nN:Int)) (⟨I11.out.ok.author,I11.out.ok.root,I11.out.ok.sup,I11.out.ok.refs,I11.out.ok.date,Xi9 (by omega),I11.out.ok.height,I11.out.ok.leaf⟩) I11.out.srow I11.out.irow I11.out.gown I11.out.rown)
  clear hnN heN KN I11
  go_upto_region 17 with fail
  clear hcell hfr
  obtain⟨x12,hx12⟩:∃x,x=w11.setCell ⟨w.heap.size+3,55,none⟩ (.int .i64 (nN:Int)):=⟨_,rfl⟩
  rw[←hx12] at J⊢
  clear hx12
  obtain⟨c6,hc6⟩:∃c:Cn,c={c4 with number:=(nN:Int)}:=⟨_,rfl⟩
  rw[←hc6] at J
  have Kc6:=Hd hc6
  clear hc6 hle
  have I12:=J
  clear J
  have TK13:=Hd (Xca x12 (w.heap.size+2) _ I12.out.chk ((eN:Int)))
  go_wp2_with fail
  refine TK13.out.mono ?_
  rintro e w13 ⟨⟨v,rfl⟩,hck,hf⟩
  have I13:=Hd (I12.out.tk hck hf)
  clear hck hf TK13 I12
  go_wp2_with fail
  refine(KP.out w13 (HE.out.on I13.out.bel)).mono ?_
  rintro e w14 ⟨ph,pr,rfl,hpr,hph,hpl,hpv,hb⟩
  obtain⟨eP,heP⟩:∃x,x=Xf5 (bs ky):=⟨_,rfl⟩
  have GP:Hid (∀cn,FvGood cn vs body→eP=0∧(ph:Int)=cn.height∧pr=cn.root):=Hd (fun cn hg=>by
   have e:=(GC.out cn hg).2
   have vd:=(Xf1 hg.2.1).height
   have v1:1≤cn.height:=vd.1
   have v2:cn.height≤8:=vd.2
   obtain⟨h1,h2⟩:=Xsb (c:=cn.p) hg.1.root.len hg.1.root.lt v1 v2
   rw[←e] at h1 h2
   have h3:=(hpv h1).symm.trans h2
   injection h3 with h4 h5
   exact⟨heP.trans h1,by rw[h4];show((cn.height.toNat:Nat):Int)=_;omega,h5⟩)
  rw[←heP]
  have I14:=Hd (I13.out.on hb)
  obtain⟨stp,cbp⟩:=I14.out.cb.setPk I14.out.ok (n:=(ph:Int)) hpr
  have J:=Hd (I14.out.row cbp ⟨I14.out.ok.author,⟨hpr,hpl⟩,I14.out.ok.sup,I14.out.ok.refs,I14.out.ok.date,I14.out.ok.number,Xi9 (by omega),I14.out.ok.leaf⟩ rfl rfl)
  have STP:=Hd stp
  obtain⟨ip,hip⟩:∃x,x=pkC (ph:Int) pr:=⟨_,rfl⟩
  rw[←hip] at STP⊢
  clear stp cbp hb heP hpr hph hpl hpv hip KP I13 I14
  go_upto_region 19 with((with_reducible refine Xab 35 rfl _ _ rfl ?_);refine⟨_,_,_,rfl,rfl,STP.out,?_⟩)
  clear STP
  obtain⟨w15,hw15⟩:∃x,x=w14.setRow (w.heap.size+3) (({c6 with height:=(ph:Int),root:=pr}:Cn).cells gv rv):=⟨_,rfl⟩
  rw[←hw15] at J⊢
  clear hw15
  obtain⟨c7,hc7⟩:∃c:Cn,c={c6 with height:=(ph:Int),root:=pr}:=⟨_,rfl⟩
  rw[←hc7] at J
  have Kc7:=Hd hc7
  clear hc7
  have I15:=J
  clear J
  have TK16:=Hd (Xca w15 (w.heap.size+2) _ I15.out.chk ((eP:Int)))
  go_wp2_with fail
  refine TK16.out.mono ?_
  rintro e w16 ⟨⟨v,rfl⟩,hck,hf⟩
  have I16:=Hd (I15.out.tk hck hf)
  clear hck hf TK16 I15
  have f0:=I16.out.at A10.out
  go_wp2_with fail
  refine(KL.out w16).mono ?_
  rintro e w17 ⟨rfl,rfl⟩
  obtain⟨nL,hnL⟩:∃x,x=(Xnj 255 (bs v10)).1:=⟨_,rfl⟩
  obtain⟨eL,heL⟩:∃x,x=(Xnj 255 (bs v10)).2:=⟨_,rfl⟩
  have hle:nL≤255:=by rw[hnL];exact Xju _ _
  have GL:Hid (∀cn,FvGood cn vs body→eL=0∧(nL:Int)=cn.leaf):=Hd (fun cn hg=>by
   have e:=hg.at 10 A10.out (x:=Xd1 cn.leaf) rfl
   have vd:=(Xf1 hg.2.1).leaf
   have h0:0≤cn.leaf:=vd.1
   have h255:cn.leaf≤255:=(Xkq hg.2.1).2.2
   have this:=Xg4 (most:=255) h0 h255 (by omega)
   rw[←e] at this
   rw[hnL,heL,this]
   exact⟨rfl,by show((cn.leaf.toNat:Nat):Int)=cn.leaf;omega⟩)
  rw[←hnL,←heL]
  have hcell:w16.cell? ⟨w.heap.size+3,73,none⟩=some _:=I16.out.cb.at (Xev I16.out.ok _ _)
  have hfr:=I16.out.free 73
  have J:=Hd (I16.out.one (I16.out.cb.setLe I16.out.ok (nL:Int)) (⟨I16.out.ok.author,I16.out.ok.root,I16.out.ok.sup,I16.out.ok.refs,I16.out.ok.date,I16.out.ok.number,I16.out.ok.height,Xi9 (by omega)⟩) I16.out.srow I16.out.irow I16.out.gown I16.out.rown)
  clear hnL heL KL I16 f0
  go_upto_region 21 with fail
  clear hcell hfr
  obtain⟨x17,hx17⟩:∃x,x=w16.setCell ⟨w.heap.size+3,73,none⟩ (.int .i64 (nL:Int)):=⟨_,rfl⟩
  rw[←hx17] at J⊢
  clear hx17
  obtain⟨c8,hc8⟩:∃c:Cn,c={c7 with leaf:=(nL:Int)}:=⟨_,rfl⟩
  rw[←hc8] at J
  have Kc8:=Hd hc8
  clear hc8 hle
  have I17:=J
  clear J
  have TK18:=Hd (Xca x17 (w.heap.size+2) _ I17.out.chk ((eL:Int)))
  go_wp2_with fail
  refine TK18.out.mono ?_
  rintro e w18 ⟨⟨v,rfl⟩,hck,hf⟩
  have I18:=Hd (I17.out.tk hck hf)
  clear hck hf TK18 I17
  obtain⟨zF,hzF⟩:∃z:Int,Hid (FvI w vs c8 gv rv z w18)∧(∀cn,FvGood cn vs body→z=0):=⟨_,I18,fun cn hg=>by
   rw[(GA.out cn hg).1,(GD.out cn hg).1,(GG.out cn hg).1,(GR.out cn hg).1,(GN.out cn hg).1,(GP.out cn hg).1,(GL.out cn hg).1]
   try rw[(GS.out cn hg).1]
   simp[feZ]⟩
  obtain⟨IF,hz0⟩:=hzF
  have ANS:Hid (∀w',Below w.heap.size w w'→CnIn w' c8 gv rv→Xkw vs body w (.returned (.tuple #[.agg (c8.cells gv rv),.int .i64 zF])) w'):=Hd (fun w' hb hin=>⟨c8,gv,rv,zF,rfl,hin,fun cn hg=>⟨hz0 cn hg,by
   have e0:=hg.at 0 A0.out (x:=bs cn.name) rfl
   have e4:=hg.at 4 A4.out (x:=bs cn.subject) rfl
   have e7:=hg.at 7 A7.out (x:=bs cn.ctl) rfl
   have e8:=hg.at 8 A8.out (x:=bs cn.dist) rfl
   have eb:=hg.2.2.2
   have es:c4.sup=zero32:=by rw[Kc4.out,Kc3.out,Kc2.out,C1.out];rfl
   have su:c8.sup=cn.sup:=by rw[Kc8.out,Kc7.out,Kc6.out];exact(by rw[es];exact(GS.out cn hg).2.symm)
   have k1:c8.name=v0∧c8.author=au∧c8.date=(nD:Int)∧c8.groups=gs∧c8.subject=v4∧c8.refs=ids∧c8.ctl=v7∧c8.dist=v8∧c8.number=(nN:Int)∧c8.height=(ph:Int)∧c8.root=pr∧c8.leaf=(nL:Int)∧c8.body=body:=by
    rw[Kc8.out,Kc7.out,Kc6.out,Kc4.out,Kc3.out,Kc2.out,C1.out]
    exact⟨rfl,rfl,rfl,rfl,rfl,rfl,rfl,rfl,rfl,rfl,rfl,rfl,rfl⟩
   obtain⟨q1,q2,q3,q4,q5,q6,q7,q8,q9,q10,q11,q12,q13⟩:=k1
   show Cont.mk (bs c8.name) c8.author c8.date (c8.groups.map bs) (bs c8.subject) c8.refs c8.sup (bs c8.ctl) (bs c8.dist) c8.number c8.height c8.root c8.leaf (bs c8.body)=Cont.mk (bs cn.name) cn.author cn.date (cn.groups.map bs) (bs cn.subject) cn.refs cn.sup (bs cn.ctl) (bs cn.dist) cn.number cn.height cn.root cn.leaf (bs cn.body)
   rw[q1,q2,q3,q4,q5,q6,q7,q8,q9,q10,q11,q12,q13,su,e0,e4,e7,e8,eb,(GA.out cn hg).2,(GD.out cn hg).2,(GG.out cn hg).2,(GR.out cn hg).2,(GN.out cn hg).2,(GP.out cn hg).2.1,(GP.out cn hg).2.2,(GL.out cn hg).2]⟩,(fun k hk=>by have:=IF.out.gown k hk;omega),(fun k hk=>by have:=IF.out.rown k hk;omega),hb⟩)
  have CIN:Hid (∀w',SRow w' gv c8.groups→IRow w' rv c8.refs→CnIn w' c8 gv rv):=Hd (fun w' h1 h2=>by
   have k1:c8.name=v0∧c8.groups=gs∧c8.subject=v4∧c8.refs=ids∧c8.ctl=v7∧c8.dist=v8∧c8.body=body:=by
    rw[Kc8.out,Kc7.out,Kc6.out,Kc4.out,Kc3.out,Kc2.out,C1.out]
    exact⟨rfl,rfl,rfl,rfl,rfl,rfl,rfl⟩
   obtain⟨q1,q4,q5,q6,q7,q8,q13⟩:=k1
   have:=z0.out;have:=z4.out;have:=z7.out;have:=z8.out
   exact⟨IF.out.ok,by rw[q1];omega,by rw[q5];omega,by rw[q7];omega,by rw[q8];omega,by rw[q13];exact hbz,by rw[q4];have:=GLZ.out.1;omega,fun g hg=>by rw[q4] at hg;have:=GLZ.out.2 g hg;omega,by rw[q6];have:=RLZ.out;omega,h1,h2⟩)
  obtain⟨cF,hcF⟩:∃x,x=c8.cells gv rv:=⟨_,rfl⟩
  have CSZ:Hid (cF.size=75):=Hd (by rw[hcF];exact Xb1 IF.out.ok _ _)
  have ONE:Hid (cF.all (·.oneCell')=true):=Hd (by
   rw[hcF]
   obtain⟨_,_,e1,_⟩:=IF.out.srow
   obtain⟨_,_,e2,_⟩:=IF.out.irow
   exact Xc0 _ _ _ (by rw[e1];rfl) (by rw[e2];rfl))
  have CBF:Hid (w18.heap[w.heap.size+3]?=some (.cells cF 37 (0,0))):=Hd (by rw[hcF];exact IF.out.cb)
  rw[←hcF] at ANS
  have HCF:=Hd hcF
  clear hcF hz0 GA GD GG GR GN GP GL GC A0 A4 A7 A8 I18
  go_upto_region 22 with fail
  obtain⟨wd,hwd⟩:∃wd,wd=w18.drew:=⟨_,rfl⟩
  have IFd:FvI w vs c8 gv rv zF wd:=by rw[hwd];exact IF.out.on (Dr.below ⟨1,rfl⟩)
  have CBd:wd.heap[w.heap.size+3]?=some (.cells cF 37 (0,0)):=by rw[hwd];exact CBF.out
  have HS:(fun wx:World=>wx.heap[w.heap.size+3]?=some (.cells cF 37 (0,0))∧wx.cell? ⟨w.heap.size+2,0,none⟩=some (.int .i64 zF)) wd:=⟨CBd,IFd.chk.cell⟩
  have st:=run_storeVar_row (P:=Tryz.prog) wd (w.heap.size+1) _ 37 _ cF IFd.res (by rw[CSZ.out];exact Xb3) (by rw[CSZ.out];exact Xb1 Xkn _ _) ONE.out
  have fr:Fr1 (w.heap.size+1) wd (wd.setRow (w.heap.size+1) cF):=⟨rfl,rfl,rfl,by simp[World.setRow],fun k _ hne=>setRow_other wd (w.heap.size+1) k cF hne⟩
  have HS8:(fun wx:World=>wx.heap[w.heap.size+3]?=some (.cells cF 37 (0,0))∧wx.cell? ⟨w.heap.size+2,0,none⟩=some (.int .i64 zF)) (wd.setRow (w.heap.size+1) cF):=⟨(fr.other _ (lt_of_block CBd) (by omega)).trans CBd,by
   have e:=fr.other (w.heap.size+2) (lt_of_block IFd.chk) (by omega)
   exact CkZ.cell (b:=w.heap.size+2) (e.trans IFd.chk)⟩
  have RES:Hid (∀tmps:Array Value,tmps.getD 4 undef=.pointer (some ⟨w.heap.size+1,0,none⟩)→(results Tryz.f69 tmps).run Tryz.prog (wd.setRow (w.heap.size+1) cF)=.ok (.tuple #[.agg cF,tmps.getD 5 undef]) (wd.setRow (w.heap.size+1) cF)):=Hd (fun tmps ht=>Xa5 Tryz.results69 tmps _ (w.heap.size+1) _ _ _ _ ht (setRow_heap wd (w.heap.size+1) _ cF _ _ IFd.res) Tryz.underlying37 rfl (by rw[CSZ.out];exact Xb3))
  have POST:Hid (Xkw vs body w (.returned (.tuple #[.agg cF,.int .i64 zF])) (wd.setRow (w.heap.size+1) cF)):=Hd (ANS.out _ (below_setRow IFd.bel (Nat.le_succ _) cF) (CIN.out _ (IFd.srow.fr fr (fun k hk=>by have:=IFd.gown k hk;omega)) (IFd.irow.fr fr (fun k hk=>by have:=IFd.rown k hk;omega))))
  have LZ:Hid (∀wx:World,wx.heap[w.heap.size+3]?=some (.cells cF 37 (0,0))→(loadVar 37 ⟨w.heap.size+3,0,none⟩).run Tryz.prog wx=.ok (.agg cF) wx):=Hd (fun wx h=>run_loadVar_row wx (w.heap.size+3) _ 37 _ _ _ h Tryz.underlying37 rfl (by rw[CSZ.out];exact Xb3))
  refine wp_region_held (S:=fun wx:World=>wx.heap[w.heap.size+3]?=some (.cells cF 37 (0,0))∧wx.cell? ⟨w.heap.size+2,0,none⟩=some (.int .i64 zF)) (by kernel_rfl) ?_
  change wpAnyH _ _ _ _ _ _ _ _ w18.drew
  rw[←hwd]
  clear hwd IF CBF ANS CIN fr IFd CBd
  refine Xad 0 (.agg cF) rfl (fun w' hw'=>Xaw (ty:=37) (x:=.tmp 7) (ad:=⟨w.heap.size+3,0,none⟩) rfl (by kernel_rfl) (LZ.out w' hw'.1)) HS ?_
  refine Xad 1 (.pointer (some ⟨w.heap.size+2,0,none⟩)) rfl (fun _ _=>by go_simp) HS ?_
  refine Xad 2 (.int .i64 zF) rfl (fun w' hw'=>by have c0:=hw'.2;go_simp) HS ?_
  refine Xba (i:=3) (by kernel_rfl) rfl rfl (Xax (t:=37) (ad:=⟨w.heap.size+1,0,none⟩) (u:=.agg cF) rfl (by kernel_rfl) (by kernel_rfl) st) HS8 ?_
  refine Xa2 (i:=4) (v:=.int .i64 zF) (by kernel_rfl) rfl rfl (Xap rfl (by kernel_rfl)) HS8 ?_
  refine wpAnyH_done (by kernel_rfl) ?_ _
  clear HS HS8 st LZ
  go_simp
  refine‹∀(a:Act) (w_1:World),_→_› _ _ ?_
  go_wp2_with fail
  exact bodyPost_ret (RES.out _ rfl) rfl (FX.out _ _ POST.out)
 ·have HN6:=Hd h6
  have qe:v6.toList.isEmpty=false:=Xdr h6
  have f0:=I10.out.at A6.out
  clear h6
  go_wp2_with fail
  refine(KM.out w10).mono ?_
  rintro e w19 ⟨so,er,hm,hb⟩
  have hpost:∃(a:List Nat) (er':Int),e=.returned (.tuple #[.agg (idA a),.int .i64 so,.int .i64 er'])∧IdOk a∧((Xe4 (bs v6)=none∧er'≠0)∨(Xe4 (bs v6)=some a∧er'=0)):=by
   cases hp:Xe4 (bs v6) with
   |none=>rw[hp] at hm;exact⟨zero32,er,hm.1,zero_ok,.inl ⟨rfl,hm.2⟩⟩
   |some i=>rw[hp] at hm;exact⟨i,0,hm,Xln hp,.inr ⟨rfl,rfl⟩⟩
  clear hm KM f0
  obtain⟨su,eS,rfl,hao,hcase⟩:=hpost
  have GS:Hid (∀cn,FvGood cn vs body→eS=0∧su=cn.sup):=Hd (fun cn hg=>by
   have e:=hg.at 6 A6.out (x:=Xhf cn.sup) rfl
   have hs:cn.sup≠zero32:=fun hs=>by
    unfold Xhf at e
    rw[if_pos hs] at e
    have h0:v6.size=0:=by rw[←Xaa,e];rfl
    exact HN6.out h0
   unfold Xhf at e
   rw[if_neg hs] at e
   rw[e,Xoi hg.1.sup] at hcase
   rcases hcase with⟨h,_⟩|⟨h,h2⟩
   ·cases h
   ·exact⟨h2,(Option.some.inj h).symm⟩)
  have I19:=Hd (I10.out.on hb)
  obtain⟨sta,cba⟩:=I19.out.cb.setSu I19.out.ok hao
  have J:=Hd (I19.out.row cba ⟨I19.out.ok.author,I19.out.ok.root,hao,I19.out.ok.refs,I19.out.ok.date,I19.out.ok.number,I19.out.ok.height,I19.out.ok.leaf⟩ rfl rfl)
  have STA:=Hd sta
  obtain⟨ia,hia⟩:∃x,x=idA su:=⟨_,rfl⟩
  rw[←hia] at STA⊢
  clear sta cba hb hcase hao hia I10 I19
  go_upto_region 14 with((with_reducible refine Xab 26 rfl _ _ rfl ?_);refine⟨_,_,_,rfl,rfl,STA.out,?_⟩)
  clear STA
  obtain⟨w20,hw20⟩:∃x,x=w19.setRow (w.heap.size+3) (({c4 with sup:=su}:Cn).cells gv rv):=⟨_,rfl⟩
  rw[←hw20] at J⊢
  clear hw20
  obtain⟨c5,hc5⟩:∃c:Cn,c={c4 with sup:=su}:=⟨_,rfl⟩
  rw[←hc5] at J
  have Kc5:=Hd hc5
  clear hc5
  have I20:=J
  clear J
  have TK21:=Hd (Xca w20 (w.heap.size+2) _ I20.out.chk (eS))
  go_wp2_with fail
  refine TK21.out.mono ?_
  rintro e w21 ⟨⟨v,rfl⟩,hck,hf⟩
  have I21:=Hd (I20.out.tk hck hf)
  clear hck hf TK21 I20
  have f0:=I21.out.at A9.out
  go_wp2_with fail
  refine(KC.out w21 (HE.out.on I21.out.bel)).mono ?_
  rintro e w22 ⟨kx,ky,kb,rfl,hkx,hky,hkb,hkz,hd⟩
  have GC:Hid (∀cn,FvGood cn vs body→bs kx=Xd1 cn.number∧bs ky=Xe5 (Xoa cn.p)):=Hd (fun cn hg=>by
   have e:=hg.at 9 A9.out (x:=Xj4 cn.p) rfl
   obtain⟨h1,h2⟩:=Xxr (c:=cn.p) (Xf1 hg.2.1).number.1
   rw[hkx,hky,e]
   exact⟨h1,h2⟩)
  have KXZ:kx.size≤100000:=by have:=z9.out;omega
  have KYZ:ky.size≤100000:=by
   have:=congrArg List.length hky
   rw[Xaa,List.length_drop,Xaa] at this
   have:=z9.out;omega
  have I22:=Hd (I21.out.on (Dr.below hd))
  have KN:=Hd (fun w=>Xi5 kx 1000 w (by omega) (by omega))
  have KP:=Hd (fun w (h:Env w)=>Xfd ky w (by omega) h)
  clear hkx hky hkb hkz hd KC f0 I21
  go_wp2_with fail
  refine(KN.out w22).mono ?_
  rintro e w23 ⟨rfl,rfl⟩
  obtain⟨nN,hnN⟩:∃x,x=(Xnj 1000 (bs kx)).1:=⟨_,rfl⟩
  obtain⟨eN,heN⟩:∃x,x=(Xnj 1000 (bs kx)).2:=⟨_,rfl⟩
  have hle:nN≤1000:=by rw[hnN];exact Xju _ _
  have GN:Hid (∀cn,FvGood cn vs body→eN=0∧(nN:Int)=cn.number):=Hd (fun cn hg=>by
   have e:=(GC.out cn hg).1
   have vd:=(Xf1 hg.2.1).number
   have h0:0≤cn.number:=vd.1
   have this:=Xg4 (most:=1000) h0 vd.2 (by omega)
   rw[←e] at this
   rw[hnN,heN,this]
   exact⟨rfl,by show((cn.number.toNat:Nat):Int)=cn.number;omega⟩)
  rw[←hnN,←heN]
  have hcell:w22.cell? ⟨w.heap.size+3,55,none⟩=some _:=I22.out.cb.at (Xdy I22.out.ok _ _)
  have hfr:=I22.out.free 55
  have J:=Hd (I22.out.one (I22.out.cb.setNu I22.out.ok (nN:Int)) (⟨I22.out.ok.author,I22.out.ok.root,I22.out.ok.sup,I22.out.ok.refs,I22.out.ok.date,Xi9 (by omega),I22.out.ok.height,I22.out.ok.leaf⟩) I22.out.srow I22.out.irow I22.out.gown I22.out.rown)
  clear hnN heN KN I22
  go_upto_region 17 with fail
  clear hcell hfr
  obtain⟨x23,hx23⟩:∃x,x=w22.setCell ⟨w.heap.size+3,55,none⟩ (.int .i64 (nN:Int)):=⟨_,rfl⟩
  rw[←hx23] at J⊢
  clear hx23
  obtain⟨c6,hc6⟩:∃c:Cn,c={c5 with number:=(nN:Int)}:=⟨_,rfl⟩
  rw[←hc6] at J
  have Kc6:=Hd hc6
  clear hc6 hle
  have I23:=J
  clear J
  have TK24:=Hd (Xca x23 (w.heap.size+2) _ I23.out.chk ((eN:Int)))
  go_wp2_with fail
  refine TK24.out.mono ?_
  rintro e w24 ⟨⟨v,rfl⟩,hck,hf⟩
  have I24:=Hd (I23.out.tk hck hf)
  clear hck hf TK24 I23
  go_wp2_with fail
  refine(KP.out w24 (HE.out.on I24.out.bel)).mono ?_
  rintro e w25 ⟨ph,pr,rfl,hpr,hph,hpl,hpv,hb⟩
  obtain⟨eP,heP⟩:∃x,x=Xf5 (bs ky):=⟨_,rfl⟩
  have GP:Hid (∀cn,FvGood cn vs body→eP=0∧(ph:Int)=cn.height∧pr=cn.root):=Hd (fun cn hg=>by
   have e:=(GC.out cn hg).2
   have vd:=(Xf1 hg.2.1).height
   have v1:1≤cn.height:=vd.1
   have v2:cn.height≤8:=vd.2
   obtain⟨h1,h2⟩:=Xsb (c:=cn.p) hg.1.root.len hg.1.root.lt v1 v2
   rw[←e] at h1 h2
   have h3:=(hpv h1).symm.trans h2
   injection h3 with h4 h5
   exact⟨heP.trans h1,by rw[h4];show((cn.height.toNat:Nat):Int)=_;omega,h5⟩)
  rw[←heP]
  have I25:=Hd (I24.out.on hb)
  obtain⟨stp,cbp⟩:=I25.out.cb.setPk I25.out.ok (n:=(ph:Int)) hpr
  have J:=Hd (I25.out.row cbp ⟨I25.out.ok.author,⟨hpr,hpl⟩,I25.out.ok.sup,I25.out.ok.refs,I25.out.ok.date,I25.out.ok.number,Xi9 (by omega),I25.out.ok.leaf⟩ rfl rfl)
  have STP:=Hd stp
  obtain⟨ip,hip⟩:∃x,x=pkC (ph:Int) pr:=⟨_,rfl⟩
  rw[←hip] at STP⊢
  clear stp cbp hb heP hpr hph hpl hpv hip KP I24 I25
  go_upto_region 19 with((with_reducible refine Xab 35 rfl _ _ rfl ?_);refine⟨_,_,_,rfl,rfl,STP.out,?_⟩)
  clear STP
  obtain⟨w26,hw26⟩:∃x,x=w25.setRow (w.heap.size+3) (({c6 with height:=(ph:Int),root:=pr}:Cn).cells gv rv):=⟨_,rfl⟩
  rw[←hw26] at J⊢
  clear hw26
  obtain⟨c7,hc7⟩:∃c:Cn,c={c6 with height:=(ph:Int),root:=pr}:=⟨_,rfl⟩
  rw[←hc7] at J
  have Kc7:=Hd hc7
  clear hc7
  have I26:=J
  clear J
  have TK27:=Hd (Xca w26 (w.heap.size+2) _ I26.out.chk ((eP:Int)))
  go_wp2_with fail
  refine TK27.out.mono ?_
  rintro e w27 ⟨⟨v,rfl⟩,hck,hf⟩
  have I27:=Hd (I26.out.tk hck hf)
  clear hck hf TK27 I26
  have f0:=I27.out.at A10.out
  go_wp2_with fail
  refine(KL.out w27).mono ?_
  rintro e w28 ⟨rfl,rfl⟩
  obtain⟨nL,hnL⟩:∃x,x=(Xnj 255 (bs v10)).1:=⟨_,rfl⟩
  obtain⟨eL,heL⟩:∃x,x=(Xnj 255 (bs v10)).2:=⟨_,rfl⟩
  have hle:nL≤255:=by rw[hnL];exact Xju _ _
  have GL:Hid (∀cn,FvGood cn vs body→eL=0∧(nL:Int)=cn.leaf):=Hd (fun cn hg=>by
   have e:=hg.at 10 A10.out (x:=Xd1 cn.leaf) rfl
   have vd:=(Xf1 hg.2.1).leaf
   have h0:0≤cn.leaf:=vd.1
   have h255:cn.leaf≤255:=(Xkq hg.2.1).2.2
   have this:=Xg4 (most:=255) h0 h255 (by omega)
   rw[←e] at this
   rw[hnL,heL,this]
   exact⟨rfl,by show((cn.leaf.toNat:Nat):Int)=cn.leaf;omega⟩)
  rw[←hnL,←heL]
  have hcell:w27.cell? ⟨w.heap.size+3,73,none⟩=some _:=I27.out.cb.at (Xev I27.out.ok _ _)
  have hfr:=I27.out.free 73
  have J:=Hd (I27.out.one (I27.out.cb.setLe I27.out.ok (nL:Int)) (⟨I27.out.ok.author,I27.out.ok.root,I27.out.ok.sup,I27.out.ok.refs,I27.out.ok.date,I27.out.ok.number,I27.out.ok.height,Xi9 (by omega)⟩) I27.out.srow I27.out.irow I27.out.gown I27.out.rown)
  clear hnL heL KL I27 f0
  go_upto_region 21 with fail
  clear hcell hfr
  obtain⟨x28,hx28⟩:∃x,x=w27.setCell ⟨w.heap.size+3,73,none⟩ (.int .i64 (nL:Int)):=⟨_,rfl⟩
  rw[←hx28] at J⊢
  clear hx28
  obtain⟨c8,hc8⟩:∃c:Cn,c={c7 with leaf:=(nL:Int)}:=⟨_,rfl⟩
  rw[←hc8] at J
  have Kc8:=Hd hc8
  clear hc8 hle
  have I28:=J
  clear J
  have TK29:=Hd (Xca x28 (w.heap.size+2) _ I28.out.chk ((eL:Int)))
  go_wp2_with fail
  refine TK29.out.mono ?_
  rintro e w29 ⟨⟨v,rfl⟩,hck,hf⟩
  have I29:=Hd (I28.out.tk hck hf)
  clear hck hf TK29 I28
  obtain⟨zF,hzF⟩:∃z:Int,Hid (FvI w vs c8 gv rv z w29)∧(∀cn,FvGood cn vs body→z=0):=⟨_,I29,fun cn hg=>by
   rw[(GA.out cn hg).1,(GD.out cn hg).1,(GG.out cn hg).1,(GR.out cn hg).1,(GN.out cn hg).1,(GP.out cn hg).1,(GL.out cn hg).1]
   try rw[(GS.out cn hg).1]
   simp[feZ]⟩
  obtain⟨IF,hz0⟩:=hzF
  have ANS:Hid (∀w',Below w.heap.size w w'→CnIn w' c8 gv rv→Xkw vs body w (.returned (.tuple #[.agg (c8.cells gv rv),.int .i64 zF])) w'):=Hd (fun w' hb hin=>⟨c8,gv,rv,zF,rfl,hin,fun cn hg=>⟨hz0 cn hg,by
   have e0:=hg.at 0 A0.out (x:=bs cn.name) rfl
   have e4:=hg.at 4 A4.out (x:=bs cn.subject) rfl
   have e7:=hg.at 7 A7.out (x:=bs cn.ctl) rfl
   have e8:=hg.at 8 A8.out (x:=bs cn.dist) rfl
   have eb:=hg.2.2.2
   have es:c4.sup=zero32:=by rw[Kc4.out,Kc3.out,Kc2.out,C1.out];rfl
   have su:c8.sup=cn.sup:=by rw[Kc8.out,Kc7.out,Kc6.out];exact(by rw[Kc5.out];exact(GS.out cn hg).2)
   have k1:c8.name=v0∧c8.author=au∧c8.date=(nD:Int)∧c8.groups=gs∧c8.subject=v4∧c8.refs=ids∧c8.ctl=v7∧c8.dist=v8∧c8.number=(nN:Int)∧c8.height=(ph:Int)∧c8.root=pr∧c8.leaf=(nL:Int)∧c8.body=body:=by
    rw[Kc8.out,Kc7.out,Kc6.out,Kc5.out,Kc4.out,Kc3.out,Kc2.out,C1.out]
    exact⟨rfl,rfl,rfl,rfl,rfl,rfl,rfl,rfl,rfl,rfl,rfl,rfl,rfl⟩
   obtain⟨q1,q2,q3,q4,q5,q6,q7,q8,q9,q10,q11,q12,q13⟩:=k1
   show Cont.mk (bs c8.name) c8.author c8.date (c8.groups.map bs) (bs c8.subject) c8.refs c8.sup (bs c8.ctl) (bs c8.dist) c8.number c8.height c8.root c8.leaf (bs c8.body)=Cont.mk (bs cn.name) cn.author cn.date (cn.groups.map bs) (bs cn.subject) cn.refs cn.sup (bs cn.ctl) (bs cn.dist) cn.number cn.height cn.root cn.leaf (bs cn.body)
   rw[q1,q2,q3,q4,q5,q6,q7,q8,q9,q10,q11,q12,q13,su,e0,e4,e7,e8,eb,(GA.out cn hg).2,(GD.out cn hg).2,(GG.out cn hg).2,(GR.out cn hg).2,(GN.out cn hg).2,(GP.out cn hg).2.1,(GP.out cn hg).2.2,(GL.out cn hg).2]⟩,(fun k hk=>by have:=IF.out.gown k hk;omega),(fun k hk=>by have:=IF.out.rown k hk;omega),hb⟩)
  have CIN:Hid (∀w',SRow w' gv c8.groups→IRow w' rv c8.refs→CnIn w' c8 gv rv):=Hd (fun w' h1 h2=>by
   have k1:c8.name=v0∧c8.groups=gs∧c8.subject=v4∧c8.refs=ids∧c8.ctl=v7∧c8.dist=v8∧c8.body=body:=by
    rw[Kc8.out,Kc7.out,Kc6.out,Kc5.out,Kc4.out,Kc3.out,Kc2.out,C1.out]
    exact⟨rfl,rfl,rfl,rfl,rfl,rfl,rfl⟩
   obtain⟨q1,q4,q5,q6,q7,q8,q13⟩:=k1
   have:=z0.out;have:=z4.out;have:=z7.out;have:=z8.out
   exact⟨IF.out.ok,by rw[q1];omega,by rw[q5];omega,by rw[q7];omega,by rw[q8];omega,by rw[q13];exact hbz,by rw[q4];have:=GLZ.out.1;omega,fun g hg=>by rw[q4] at hg;have:=GLZ.out.2 g hg;omega,by rw[q6];have:=RLZ.out;omega,h1,h2⟩)
  obtain⟨cF,hcF⟩:∃x,x=c8.cells gv rv:=⟨_,rfl⟩
  have CSZ:Hid (cF.size=75):=Hd (by rw[hcF];exact Xb1 IF.out.ok _ _)
  have ONE:Hid (cF.all (·.oneCell')=true):=Hd (by
   rw[hcF]
   obtain⟨_,_,e1,_⟩:=IF.out.srow
   obtain⟨_,_,e2,_⟩:=IF.out.irow
   exact Xc0 _ _ _ (by rw[e1];rfl) (by rw[e2];rfl))
  have CBF:Hid (w29.heap[w.heap.size+3]?=some (.cells cF 37 (0,0))):=Hd (by rw[hcF];exact IF.out.cb)
  rw[←hcF] at ANS
  have HCF:=Hd hcF
  clear hcF hz0 GA GD GG GR GN GP GL GC A0 A4 A7 A8 I29
  go_upto_region 22 with fail
  obtain⟨wd,hwd⟩:∃wd,wd=w29.drew:=⟨_,rfl⟩
  have IFd:FvI w vs c8 gv rv zF wd:=by rw[hwd];exact IF.out.on (Dr.below ⟨1,rfl⟩)
  have CBd:wd.heap[w.heap.size+3]?=some (.cells cF 37 (0,0)):=by rw[hwd];exact CBF.out
  have HS:(fun wx:World=>wx.heap[w.heap.size+3]?=some (.cells cF 37 (0,0))∧wx.cell? ⟨w.heap.size+2,0,none⟩=some (.int .i64 zF)) wd:=⟨CBd,IFd.chk.cell⟩
  have st:=run_storeVar_row (P:=Tryz.prog) wd (w.heap.size+1) _ 37 _ cF IFd.res (by rw[CSZ.out];exact Xb3) (by rw[CSZ.out];exact Xb1 Xkn _ _) ONE.out
  have fr:Fr1 (w.heap.size+1) wd (wd.setRow (w.heap.size+1) cF):=⟨rfl,rfl,rfl,by simp[World.setRow],fun k _ hne=>setRow_other wd (w.heap.size+1) k cF hne⟩
  have HS8:(fun wx:World=>wx.heap[w.heap.size+3]?=some (.cells cF 37 (0,0))∧wx.cell? ⟨w.heap.size+2,0,none⟩=some (.int .i64 zF)) (wd.setRow (w.heap.size+1) cF):=⟨(fr.other _ (lt_of_block CBd) (by omega)).trans CBd,by
   have e:=fr.other (w.heap.size+2) (lt_of_block IFd.chk) (by omega)
   exact CkZ.cell (b:=w.heap.size+2) (e.trans IFd.chk)⟩
  have RES:Hid (∀tmps:Array Value,tmps.getD 4 undef=.pointer (some ⟨w.heap.size+1,0,none⟩)→(results Tryz.f69 tmps).run Tryz.prog (wd.setRow (w.heap.size+1) cF)=.ok (.tuple #[.agg cF,tmps.getD 5 undef]) (wd.setRow (w.heap.size+1) cF)):=Hd (fun tmps ht=>Xa5 Tryz.results69 tmps _ (w.heap.size+1) _ _ _ _ ht (setRow_heap wd (w.heap.size+1) _ cF _ _ IFd.res) Tryz.underlying37 rfl (by rw[CSZ.out];exact Xb3))
  have POST:Hid (Xkw vs body w (.returned (.tuple #[.agg cF,.int .i64 zF])) (wd.setRow (w.heap.size+1) cF)):=Hd (ANS.out _ (below_setRow IFd.bel (Nat.le_succ _) cF) (CIN.out _ (IFd.srow.fr fr (fun k hk=>by have:=IFd.gown k hk;omega)) (IFd.irow.fr fr (fun k hk=>by have:=IFd.rown k hk;omega))))
  have LZ:Hid (∀wx:World,wx.heap[w.heap.size+3]?=some (.cells cF 37 (0,0))→(loadVar 37 ⟨w.heap.size+3,0,none⟩).run Tryz.prog wx=.ok (.agg cF) wx):=Hd (fun wx h=>run_loadVar_row wx (w.heap.size+3) _ 37 _ _ _ h Tryz.underlying37 rfl (by rw[CSZ.out];exact Xb3))
  refine wp_region_held (S:=fun wx:World=>wx.heap[w.heap.size+3]?=some (.cells cF 37 (0,0))∧wx.cell? ⟨w.heap.size+2,0,none⟩=some (.int .i64 zF)) (by kernel_rfl) ?_
  change wpAnyH _ _ _ _ _ _ _ _ w29.drew
  rw[←hwd]
  clear hwd IF CBF ANS CIN fr IFd CBd
  refine Xad 0 (.agg cF) rfl (fun w' hw'=>Xaw (ty:=37) (x:=.tmp 7) (ad:=⟨w.heap.size+3,0,none⟩) rfl (by kernel_rfl) (LZ.out w' hw'.1)) HS ?_
  refine Xad 1 (.pointer (some ⟨w.heap.size+2,0,none⟩)) rfl (fun _ _=>by go_simp) HS ?_
  refine Xad 2 (.int .i64 zF) rfl (fun w' hw'=>by have c0:=hw'.2;go_simp) HS ?_
  refine Xba (i:=3) (by kernel_rfl) rfl rfl (Xax (t:=37) (ad:=⟨w.heap.size+1,0,none⟩) (u:=.agg cF) rfl (by kernel_rfl) (by kernel_rfl) st) HS8 ?_
  refine Xa2 (i:=4) (v:=.int .i64 zF) (by kernel_rfl) rfl rfl (Xap rfl (by kernel_rfl)) HS8 ?_
  refine wpAnyH_done (by kernel_rfl) ?_ _
  clear HS HS8 st LZ
  go_simp
  refine‹∀(a:Act) (w_1:World),_→_› _ _ ?_
  go_wp2_with fail
  exact bodyPost_ret (RES.out _ rfl) rfl (FX.out _ _ POST.out)
end Go.Proofs.YtohmdledkhgdaaaGreatDoor
