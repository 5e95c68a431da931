/- canonical.fromValues. -/
import Derived.Test.YtjolcnopipbkhaaGreatDoorFo12
namespace Go.Proofs.YtjolcnopipbkhaaGreatDoor
open Go.Proofs.Tryz
open Go.RowKit Go.Maps
set_option linter.unusedVariables false
set_option maxHeartbeats 100000000
set_option maxRecDepth 100000
theorem Yh0 {vs:List ByteArray}{l:List (List Nat)}(h:vs.map bs=l)(j:Nat){v:ByteArray}{x:List Nat}(h1:vs[j]?=some v)(h2:l[j]?=some x):bs v=x:=by
 rw[←h,List.getElem?_map,h1] at h2
 simpa using h2
theorem FvGood.at {cn:Cn}{vs:List ByteArray}{body:ByteArray}(h:FvGood cn vs body)(j:Nat){v:ByteArray}{x:List Nat}(h1:vs[j]?=some v)(h2:(Xaz cn.p)[j]?=some x):bs v=x:=Yh0 h.2.2.1 j h1 h2
theorem Yk7 (w:World)(v0 v1 v2 v3 v4 v5 v6 v7 v8 v9 v10 body:ByteArray)(hz:∀v∈[v0,v1,v2,v3,v4,v5,v6,v7,v8,v9,v10],v.size≤100000)(hbz:body.size≤1000000)(hE:Env w):
    Calls prog 53 #[.agg #[.string v0,.string v1,.string v2,.string v3,.string v4,.string v5,.string v6,.string v7,.string v8,.string v9,.string v10],.string body] w (Xlw [v0,v1,v2,v3,v4,v5,v6,v7,v8,v9,v10] body w):=by
 obtain⟨vs,hvs⟩:=xq ([v0,v1,v2,v3,v4,v5,v6,v7,v8,v9,v10])
 rw[←hvs] at hz
 have FX:Hid (∀e w',Xlw vs body w e w'→Xlw [v0,v1,v2,v3,v4,v5,v6,v7,v8,v9,v10] body w e w'):=Hd (fun e w' h=>by rw[hvs] at h;exact h)
 obtain⟨w0,hw0⟩:=xq (((w.alloc (.cells #[.string v0,.string v1,.string v2,.string v3,.string v4,.string v5,.string v6,.string v7,.string v8,.string v9,.string v10] 80)).alloc (.cells (Tryz.zeroCells39) 39)).alloc (.cells #[.int .i64 0] 73))
 have S0:w0.heap.size=w.heap.size+3:=by rw[hw0];simp
 have B0:Bw w w0:=by rw[hw0];exact(((zR _ _).alloc (zL _) _).alloc (by simp) _).alloc (by simp;omega) _
 obtain⟨cs0,hcs0⟩:=xq ((cnS v0 v4 v7 v8 body).cells (.slice none 0 0) (.slice none 0 0))
 obtain⟨w1,hw1⟩:=xq (w0.alloc (.cells cs0 39))
 have i1:FvI w vs (cnS v0 v4 v7 v8 body) (.slice none 0 0) (.slice none 0 0) 0 w1:=by
  have hb:Bw w0 w1:=by rw[hw1];exact(zR _ _).alloc (zL _) _
  have e0:w0.heap[w.heap.size]?=some (.cells (vs.map Value.string).toArray 80 (0,0)):=by rw[hw0,hvs];exact Xae (Xae (heap_alloc_last w _))
  have e1:w0.heap[w.heap.size+1]?=some (.cells (cn0.cells (.slice none 0 0) (.slice none 0 0)) 39 (0,0)):=by
   rw[Xh9,hw0]
   refine Xae ?_
   have:=heap_alloc_last (w.alloc (.cells #[.string v0,.string v1,.string v2,.string v3,.string v4,.string v5,.string v6,.string v7,.string v8,.string v9,.string v10] 80)) (.cells (Tryz.zeroCells39) 39)
   rw[World.size_alloc] at this;exact this
  have e2:w0.heap[w.heap.size+2]?=some (.cells #[.int .i64 0] 73 (0,0)):=by
   rw[hw0]
   have:=heap_alloc_last ((w.alloc (.cells #[.string v0,.string v1,.string v2,.string v3,.string v4,.string v5,.string v6,.string v7,.string v8,.string v9,.string v10] 80)).alloc (.cells (Tryz.zeroCells39) 39)) (.cells #[.int .i64 0] 73)
   rw[World.size_alloc,World.size_alloc] at this;exact this
  refine⟨bg B0 hb,(hb.block _ (zY e0)).trans e0,(hb.block _ (zY e1)).trans e1,(hb.block _ (zY e2)).trans e2,?_,Ygi _ _ _ _ _,⟨none,0,rfl,zL _,fun h=>absurd rfl h⟩,⟨none,0,rfl,zL _,fun h=>absurd rfl h⟩,(fun k hk=>by cases hk),(fun k hk=>by cases hk)⟩
  unfold CB
  rw[hw1,←S0,hcs0]
  exact heap_alloc_last w0 _
 have BX:∀j,j<11→w0.cell? ⟨w.heap.size,j,none⟩=w1.cell? ⟨w.heap.size,j,none⟩:=fun j _=>by
  rw[hw1];exact(((zR w0.heap.size w0).alloc (zL _) (.cells cs0 39)).cell (p:=⟨w.heap.size,j,none⟩) (show w.heap.size<w0.heap.size by omega)).symm
 have x0:w0.cell? ⟨w.heap.size,0,none⟩=some (.string v0):=(BX 0 (by omega)).trans (i1.at (by rw[hvs];rfl))
 have x4:w0.cell? ⟨w.heap.size,4,none⟩=some (.string v4):=(BX 4 (by omega)).trans (i1.at (by rw[hvs];rfl))
 have x7:w0.cell? ⟨w.heap.size,7,none⟩=some (.string v7):=(BX 7 (by omega)).trans (i1.at (by rw[hvs];rfl))
 have x8:w0.cell? ⟨w.heap.size,8,none⟩=some (.string v8):=(BX 8 (by omega)).trans (i1.at (by rw[hvs];rfl))
 have BF:Hid (∀(o:Oper) (a:Act) (w:World),o.op=.build 39 #[(0,.tmp 13),(4,.tmp 15),(7,.tmp 17),(8,.tmp 19),(12,.tmp 20)]→a.eval (.tmp 13)=.string v0→a.eval (.tmp 15)=.string v4→a.eval (.tmp 17)=.string v7→a.eval (.tmp 19)=.string v8→a.eval (.tmp 20)=.string body→(execOp a.eval o).run prog w=.ok (.value (.agg cs0)) w):=Hd (fun o a w ho h0 h4 h7 h8 hb=>by
  rw[hcs0]
  exact Xcf ho (by simp[h0,h4,h7,h8,hb]) (Yel w v0 v4 v7 v8 body))
 have sz0:cs0.size=75:=by rw[hcs0];exact Xa2 (Ygi _ _ _ _ _) _ _
 have STN:Hid (Sv 39 ⟨w0.heap.size,0,none⟩ (.agg cs0) (w0.alloc (.cells (Tryz.zeroCells39) 39)) w1):=Hd (by
  rw[hw1]
  exact run_storeVar_new w0 39 _ cs0 (by rw[sz0];exact Xbg) (by rw[sz0];kernel_rfl) (by rw[hcs0];exact Xch _ _ _ rfl rfl))
 have I1:=Hd i1
 have HS0:=Hd S0
 have HW:=Hd hw0
 have VZ:=Hd hz
 have HE:=Hd hE
 have HVS:=Hd hvs
 have A0:Hid (vs[0]?=some v0):=Hd (by rw[hvs];rfl)
 have A1:Hid (vs[1]?=some v1):=Hd (by rw[hvs];rfl)
 have A2:Hid (vs[2]?=some v2):=Hd (by rw[hvs];rfl)
 have A3:Hid (vs[3]?=some v3):=Hd (by rw[hvs];rfl)
 have A4:Hid (vs[4]?=some v4):=Hd (by rw[hvs];rfl)
 have A5:Hid (vs[5]?=some v5):=Hd (by rw[hvs];rfl)
 have A6:Hid (vs[6]?=some v6):=Hd (by rw[hvs];rfl)
 have A7:Hid (vs[7]?=some v7):=Hd (by rw[hvs];rfl)
 have A8:Hid (vs[8]?=some v8):=Hd (by rw[hvs];rfl)
 have A9:Hid (vs[9]?=some v9):=Hd (by rw[hvs];rfl)
 have A10:Hid (vs[10]?=some v10):=Hd (by rw[hvs];rfl)
 have z1:Hid (v1.size≤100000):=Hd (hz v1 (by rw[hvs];simp))
 have z2:Hid (v2.size≤100000):=Hd (hz v2 (by rw[hvs];simp))
 have z3:Hid (v3.size≤100000):=Hd (hz v3 (by rw[hvs];simp))
 have z4:Hid (v4.size≤100000):=Hd (hz v4 (by rw[hvs];simp))
 have z5:Hid (v5.size≤100000):=Hd (hz v5 (by rw[hvs];simp))
 have z6:Hid (v6.size≤100000):=Hd (hz v6 (by rw[hvs];simp))
 have z7:Hid (v7.size≤100000):=Hd (hz v7 (by rw[hvs];simp))
 have z8:Hid (v8.size≤100000):=Hd (hz v8 (by rw[hvs];simp))
 have z9:Hid (v9.size≤100000):=Hd (hz v9 (by rw[hvs];simp))
 have z10:Hid (v10.size≤100000):=Hd (hz v10 (by rw[hvs];simp))
 have z0:Hid (v0.size≤100000):=Hd (hz v0 (by rw[hvs];simp))
 have KA:=Hd (fun w=>Xkp v1 w (by have:=z1.o;omega))
 have KD:=Hd (fun w=>Xj2 v2 105190559 w (by have:=z2.o;omega) (by omega))
 have KG:=Hd (fun w (h:Env w)=>Xwn v3 w z3.o h)
 have KR:=Hd (fun w=>Xyg v5 w (by have:=z5.o;omega))
 have KM:=Hd (fun w=>Xio v6 w (by have:=z6.o;omega))
 have KC:=Hd (fun w (h:Env w)=>Xsq v9 32 w (by have:=z9.o;omega) h.mx)
 have KL:=Hd (fun w=>Xj2 v10 255 w (by have:=z10.o;omega) (by omega))
 clear hw0 hw1 hcs0 sz0 i1 BX B0 hz hE hvs S0
 go_enter func53,ntmps53
 go_upto_region 2 with fail
 rw[←HW.o]
 clear HW
 go_upto_region 3 with(first
  |(with_reducible refine Xas rfl (BF.o _ _ _ rfl rfl rfl rfl rfl rfl) ?_)
  |((with_reducible refine Xab 39 rfl _ _ rfl ?_);refine⟨_,_,_,rfl,rfl,STN.o,?_⟩))
 rw[HS0.o]
 clear BF STN x0 x4 x7 x8 HS0
 have f0:=I1.o.at A1.o
 go_wp2_with fail
 refine(KA.o w1).mono ?_
 rintro e w2 ⟨ao,er,hm,hb⟩
 have hpost:∃(a:List Nat) (er':Int),e=.returned (.tuple #[.agg (idA a),.int .i64 ao,.int .i64 er'])∧AuOk a∧((Xe2 (bs v1)=none∧er'≠0)∨(Xe2 (bs v1)=some a∧er'=0)):=by
  cases hp:Xe2 (bs v1) with
  |none=>rw[hp] at hm;exact⟨Xdm,er,hm.1,Xfm,.inl ⟨rfl,hm.2⟩⟩
  |some i=>rw[hp] at hm;exact⟨i,0,hm,Xu2 hp,.inr ⟨rfl,rfl⟩⟩
 clear hm KA f0
 obtain⟨au,eA,rfl,hao,hcase⟩:=hpost
 have GA:Hid (∀cn,FvGood cn vs body→eA=0∧au=cn.author):=Hd (fun cn hg=>by
  have e:=hg.at 1 A1.o (x:=Xbv cn.author) rfl
  rw[e,Ybq hg.1.author.lt hg.1.author.len] at hcase
  rcases hcase with⟨h,_⟩|⟨h,h2⟩
  ·cases h
  ·exact⟨h2,(Option.some.inj h).symm⟩)
 have I2:=Hd (I1.o.on hb)
 obtain⟨sta,cba⟩:=I2.o.cb.setAu I2.o.ok (a:=au) ⟨hao.len,hao.lt⟩
 have J:=Hd (I2.o.row cba ⟨⟨hao.len,hao.lt⟩,I2.o.ok.root,I2.o.ok.sup,I2.o.ok.refs,I2.o.ok.date,I2.o.ok.number,I2.o.ok.height,I2.o.ok.leaf⟩ rfl rfl)
 have STA:=Hd sta
 obtain⟨ia,hia⟩:=xq (idA au)
 rw[←hia] at STA⊢
 clear sta cba hb hcase hao hia I1 I2
 go_upto_region 5 with((with_reducible refine Xab 35 rfl _ _ rfl ?_);refine⟨_,_,_,rfl,rfl,STA.o,?_⟩)
 clear STA
 obtain⟨w3,hw3⟩:∃x,x=w2.setRow (w.heap.size+3) (({cnS v0 v4 v7 v8 body with author:=au}:Cn).cells (.slice none 0 0) (.slice none 0 0)):=⟨_,rfl⟩
 rw[←hw3] at J⊢
 clear hw3
 obtain⟨c1,hc1⟩:∃c:Cn,c={cnS v0 v4 v7 v8 body with author:=au}:=⟨_,rfl⟩
 rw[←hc1] at J
 have C1:=Hd hc1
 clear hc1
 have I3:=J
 clear J
 have TK4:=Hd (Xcb w3 (w.heap.size+2) _ I3.o.chk (eA))
 go_wp2_with fail
 refine TK4.o.mono ?_
 rintro e w4 ⟨⟨v,rfl⟩,hck,hf⟩
 have I4:=Hd (I3.o.tk hck hf)
 clear hck hf TK4 I3
 have f0:=I4.o.at A2.o
 go_wp2_with fail
 refine(KD.o w4).mono ?_
 rintro e w5 ⟨rfl,rfl⟩
 obtain⟨nD,hnD⟩:=xq ((Xow 105190559 (bs v2)).1)
 obtain⟨eD,heD⟩:=xq ((Xow 105190559 (bs v2)).2)
 have hle:nD≤105190559:=by rw[hnD];exact Xku _ _
 have GD:Hid (∀cn,FvGood cn vs body→eD=0∧(nD:Int)=cn.date):=Hd (fun cn hg=>by
  have e:=hg.at 2 A2.o (x:=Xdq cn.date) rfl
  have vd:=(Xe6 hg.2.1).date
  have h0:0≤cn.date:=vd.1
  have this:=Xhr (most:=105190559) h0 vd.2 (by omega)
  rw[←e] at this
  rw[hnD,heD,this]
  exact⟨rfl,by show((cn.date.toNat:Nat):Int)=cn.date;omega⟩)
 rw[←hnD,←heD]
 have hcell:w4.cell? ⟨w.heap.size+3,17,none⟩=some _:=I4.o.cb.at (Xln I4.o.ok _ _)
 have hfr:=I4.o.free 17
 have J:=Hd (I4.o.one (I4.o.cb.setDa I4.o.ok (nD:Int)) (⟨I4.o.ok.author,I4.o.ok.root,I4.o.ok.sup,I4.o.ok.refs,Xj6 (by omega),I4.o.ok.number,I4.o.ok.height,I4.o.ok.leaf⟩) I4.o.srow I4.o.irow I4.o.gown I4.o.rown)
 clear hnD heD KD I4 f0
 go_upto_region 7 with fail
 clear hcell hfr
 obtain⟨x5,hx5⟩:=xq (w4.setCell ⟨w.heap.size+3,17,none⟩ (.int .i64 (nD:Int)))
 rw[←hx5] at J⊢
 clear hx5
 obtain⟨c2,hc2⟩:∃c:Cn,c={c1 with date:=(nD:Int)}:=⟨_,rfl⟩
 rw[←hc2] at J
 have Kc2:=Hd hc2
 clear hc2 hle
 have I5:=J
 clear J
 have TK6:=Hd (Xcb x5 (w.heap.size+2) _ I5.o.chk ((eD:Int)))
 go_wp2_with fail
 refine TK6.o.mono ?_
 rintro e w6 ⟨⟨v,rfl⟩,hck,hf⟩
 have I6:=Hd (I5.o.tk hck hf)
 clear hck hf TK6 I5
 have f0:=I6.o.at A3.o
 go_wp2_with fail
 refine(KG.o w6 (HE.o.on I6.o.bel)).mono ?_
 rintro e w7 ⟨gv,gs,rfl,hsr,hgz,hgl,hgw,hgo,hb⟩
 obtain⟨eG,heG⟩:=xq (Ygc (bs v3))
 have GG:Hid (∀cn,FvGood cn vs body→eG=0∧gs.map bs=cn.groups.map bs):=Hd (fun cn hg=>by
  have e:=hg.at 3 A3.o (x:=Xaw [44] (cn.groups.map bs)) rfl
  obtain⟨h1,h2⟩:=Yej (Xlp hg.2.1).1
  rw[←show Xaw [44] (cn.groups.map bs)=Xaw [44] cn.p.groups from rfl,←e] at h1 h2
  exact⟨heG.trans h1,(hgw h1).trans h2⟩)
 rw[←heG]
 have GLZ:Hid (gs.length≤100001∧∀g∈gs,g.size≤100000):=Hd ⟨by have:=z3.o;omega,fun g hg=>by have:=hgz g hg;have:=z3.o;omega⟩
 have I7:=Hd (I6.o.on hb)
 have hcell:w7.cell? ⟨w.heap.size+3,18,none⟩=some _:=I7.o.cb.at (Xh8 I7.o.ok _ _)
 have hfr:=I7.o.free 18
 obtain⟨ga,gcap,hgv,hr2⟩:=hsr
 have GSR:SRow w7 gv gs:=⟨ga,gcap,hgv,hr2⟩
 have J:=Hd (I7.o.one (I7.o.cb.setGr I7.o.ok gv gs) ⟨I7.o.ok.author,I7.o.ok.root,I7.o.ok.sup,I7.o.ok.refs,I7.o.ok.date,I7.o.ok.number,I7.o.ok.height,I7.o.ok.leaf⟩ GSR I7.o.irow (fun k hk=>by have:=hgo k hk;have:=I6.o.lt;omega) I7.o.rown)
 subst hgv
 clear GSR hr2 heG hgz hgl hgw hgo hb KG f0 I6 I7
 go_upto_region 9 with fail
 clear hcell hfr
 obtain⟨x7,hx7⟩:=xq (w7.setCell ⟨w.heap.size+3,18,none⟩ (.slice ga gs.length gcap))
 rw[←hx7] at J⊢
 clear hx7
 obtain⟨gv,hgv⟩:=xq (Value.slice ga gs.length gcap)
 rw[←hgv] at J⊢
 clear hgv
 obtain⟨c3,hc3⟩:∃c:Cn,c={c2 with groups:=gs}:=⟨_,rfl⟩
 rw[←hc3] at J
 have Kc3:=Hd hc3
 clear hc3
 have I7:=J
 clear J
 have TK8:=Hd (Xcb x7 (w.heap.size+2) _ I7.o.chk ((eG:Int)))
 go_wp2_with fail
 refine TK8.o.mono ?_
 rintro e w8 ⟨⟨v,rfl⟩,hck,hf⟩
 have I8:=Hd (I7.o.tk hck hf)
 clear hck hf TK8 I7
 have f0:=I8.o.at A5.o
 go_wp2_with fail
 refine(KR.o w8).mono ?_
 rintro e w9 ⟨rv,ids,ra,eR,rfl,hir,hio,hil,hlaw,hro,hb⟩
 have GR:Hid (∀cn,FvGood cn vs body→eR=0∧ids=cn.refs):=Hd (fun cn hg=>by
  have e:=hg.at 5 A5.o (x:=Xaw [32] (cn.refs.map Xcr)) rfl
  rw[e,Yc3 hg.1.refs (Xlp hg.2.1).2.1] at hlaw
  rcases hlaw with⟨h1,h2⟩|⟨h1,_⟩
  ·exact⟨h2,(Option.some.inj h1).symm⟩
  ·cases h1)
 have RLZ:Hid (ids.length≤20):=Hd hil
 have I9:=Hd (I8.o.on hb)
 have hcell:w9.cell? ⟨w.heap.size+3,20,none⟩=some _:=I9.o.cb.at (Xh7 I9.o.ok _ _)
 have hfr:=I9.o.free 20
 obtain⟨ra2,rcap,hrv,hr2⟩:=hir
 have RSR:IRow w9 rv ids:=⟨ra2,rcap,hrv,hr2⟩
 have J:=Hd (I9.o.one (I9.o.cb.setRe I9.o.ok rv ids) ⟨I9.o.ok.author,I9.o.ok.root,I9.o.ok.sup,hio,I9.o.ok.date,I9.o.ok.number,I9.o.ok.height,I9.o.ok.leaf⟩ I9.o.srow RSR I9.o.gown (fun k hk=>by have:=hro k hk;have:=I8.o.lt;omega))
 subst hrv
 clear RSR hr2 hio hil hlaw hro hb KR f0 I8 I9
 go_upto_region 11 with fail
 clear hcell hfr
 obtain⟨x9,hx9⟩:=xq (w9.setCell ⟨w.heap.size+3,20,none⟩ (.slice ra2 ids.length rcap))
 rw[←hx9] at J⊢
 clear hx9
 obtain⟨rv,hrv⟩:=xq (Value.slice ra2 ids.length rcap)
 rw[←hrv] at J⊢
 clear hrv
 obtain⟨c4,hc4⟩:∃c:Cn,c={c3 with refs:=ids}:=⟨_,rfl⟩
 rw[←hc4] at J
 have Kc4:=Hd hc4
 clear hc4
 have I9:=J
 clear J
 have TK10:=Hd (Xcb x9 (w.heap.size+2) _ I9.o.chk ((eR:Int)))
 go_wp2_with fail
 refine TK10.o.mono ?_
 rintro e w10 ⟨⟨v,rfl⟩,hck,hf⟩
 have I10:=Hd (I9.o.tk hck hf)
 clear hck hf TK10 I9
 by_cases h6:v6.size=0
 ·skip
  have qe:v6.toList.isEmpty=true:=by
   rw[show v6=⟨#[]⟩ from ByteArray.ext (Array.eq_empty_of_size_eq_zero h6),ByteArray.toList_eq];rfl
  have GS:Hid (∀cn,FvGood cn vs body→(0:Int)=0∧cn.sup=zero32):=Hd (fun cn hg=>⟨rfl,by
   have e:=hg.at 6 A6.o (x:=Xg8 cn.sup) rfl
   by_cases hs:cn.sup=zero32
   ·exact hs
   ·unfold Xg8 at e
    rw[qN hs] at e
    have:=congrArg List.length e
    rw[Xaa,Xdy hg.1.sup] at this
    omega⟩)
  have f0:=I10.o.at A6.o
  clear h6 KM
  go_upto_region 15 with fail
  clear f0
  have f0:=I10.o.at A9.o
  go_wp2_with fail
  refine(KC.o w10 (HE.o.on I10.o.bel)).mono ?_
  rintro e w11 ⟨kx,ky,kb,rfl,hkx,hky,hkb,hkz,hd⟩
  have GC:Hid (∀cn,FvGood cn vs body→bs kx=Xdq cn.number∧bs ky=Xfk (Xho cn.p)):=Hd (fun cn hg=>by
   have e:=hg.at 9 A9.o (x:=Xi7 cn.p) rfl
   obtain⟨h1,h2⟩:=Xzu (c:=cn.p) (Xe6 hg.2.1).number.1
   rw[hkx,hky,e]
   exact⟨h1,h2⟩)
  have KXZ:kx.size≤100000:=by have:=z9.o;omega
  have KYZ:ky.size≤100000:=by
   have:=congrArg List.length hky
   rw[Xaa,List.length_drop,Xaa] at this
   have:=z9.o;omega
  have I11:=Hd (I10.o.on (Dr.below hd))
  have KN:=Hd (fun w=>Xj2 kx 1000 w (by omega) (by omega))
  have KP:=Hd (fun w (h:Env w)=>Xfs ky w (by omega) h)
  clear hkx hky hkb hkz hd KC f0 I10
  go_wp2_with fail
  refine(KN.o w11).mono ?_
  rintro e w12 ⟨rfl,rfl⟩
  obtain⟨nN,hnN⟩:=xq ((Xow 1000 (bs kx)).1)
  obtain⟨eN,heN⟩:=xq ((Xow 1000 (bs kx)).2)
  have hle:nN≤1000:=by rw[hnN];exact Xku _ _
  have GN:Hid (∀cn,FvGood cn vs body→eN=0∧(nN:Int)=cn.number):=Hd (fun cn hg=>by
   have e:=(GC.o cn hg).1
   have vd:=(Xe6 hg.2.1).number
   have h0:0≤cn.number:=vd.1
   have this:=Xhr (most:=1000) h0 vd.2 (by omega)
   rw[←e] at this
   rw[hnN,heN,this]
   exact⟨rfl,by show((cn.number.toNat:Nat):Int)=cn.number;omega⟩)
  rw[←hnN,←heN]
  have hcell:w11.cell? ⟨w.heap.size+3,55,none⟩=some _:=I11.o.cb.at (Xjm I11.o.ok _ _)
  have hfr:=I11.o.free 55
  have J:=Hd (I11.o.one (I11.o.cb.setNu I11.o.ok (nN:Int)) (⟨I11.o.ok.author,I11.o.ok.root,I11.o.ok.sup,I11.o.ok.refs,I11.o.ok.date,Xj6 (by omega),I11.o.ok.height,I11.o.ok.leaf⟩) I11.o.srow I11.o.irow I11.o.gown I11.o.rown)
  clear hnN heN KN I11
  go_upto_region 17 with fail
  clear hcell hfr
  obtain⟨x12,hx12⟩:=xq (w11.setCell ⟨w.heap.size+3,55,none⟩ (.int .i64 (nN:Int)))
  rw[←hx12] at J⊢
  clear hx12
  obtain⟨c6,hc6⟩:∃c:Cn,c={c4 with number:=(nN:Int)}:=⟨_,rfl⟩
  rw[←hc6] at J
  have Kc6:=Hd hc6
  clear hc6 hle
  have I12:=J
  clear J
  have TK13:=Hd (Xcb x12 (w.heap.size+2) _ I12.o.chk ((eN:Int)))
  go_wp2_with fail
  refine TK13.o.mono ?_
  rintro e w13 ⟨⟨v,rfl⟩,hck,hf⟩
  have I13:=Hd (I12.o.tk hck hf)
  clear hck hf TK13 I12
  go_wp2_with fail
  refine(KP.o w13 (HE.o.on I13.o.bel)).mono ?_
  rintro e w14 ⟨ph,pr,rfl,hpr,hph,hpl,hpv,hb⟩
  obtain⟨eP,heP⟩:=xq (Xgl (bs ky))
  have GP:Hid (∀cn,FvGood cn vs body→eP=0∧(ph:Int)=cn.height∧pr=cn.root):=Hd (fun cn hg=>by
   have e:=(GC.o cn hg).2
   have vd:=(Xe6 hg.2.1).height
   have v1:1≤cn.height:=vd.1
   have v2:cn.height≤8:=vd.2
   obtain⟨h1,h2⟩:=Xt3 (c:=cn.p) hg.1.root.len hg.1.root.lt v1 v2
   rw[←e] at h1 h2
   have h3:=(hpv h1).symm.trans h2
   injection h3 with h4 h5
   exact⟨heP.trans h1,by rw[h4];show((cn.height.toNat:Nat):Int)=_;omega,h5⟩)
  rw[←heP]
  have I14:=Hd (I13.o.on hb)
  obtain⟨stp,cbp⟩:=I14.o.cb.setPk I14.o.ok (n:=(ph:Int)) hpr
  have J:=Hd (I14.o.row cbp ⟨I14.o.ok.author,⟨hpr,hpl⟩,I14.o.ok.sup,I14.o.ok.refs,I14.o.ok.date,I14.o.ok.number,Xj6 (by omega),I14.o.ok.leaf⟩ rfl rfl)
  have STP:=Hd stp
  obtain⟨ip,hip⟩:=xq (pkC (ph:Int) pr)
  rw[←hip] at STP⊢
  clear stp cbp hb heP hpr hph hpl hpv hip KP I13 I14
  go_upto_region 19 with((with_reducible refine Xab 37 rfl _ _ rfl ?_);refine⟨_,_,_,rfl,rfl,STP.o,?_⟩)
  clear STP
  obtain⟨w15,hw15⟩:∃x,x=w14.setRow (w.heap.size+3) (({c6 with height:=(ph:Int),root:=pr}:Cn).cells gv rv):=⟨_,rfl⟩
  rw[←hw15] at J⊢
  clear hw15
  obtain⟨c7,hc7⟩:∃c:Cn,c={c6 with height:=(ph:Int),root:=pr}:=⟨_,rfl⟩
  rw[←hc7] at J
  have Kc7:=Hd hc7
  clear hc7
  have I15:=J
  clear J
  have TK16:=Hd (Xcb w15 (w.heap.size+2) _ I15.o.chk ((eP:Int)))
  go_wp2_with fail
  refine TK16.o.mono ?_
  rintro e w16 ⟨⟨v,rfl⟩,hck,hf⟩
  have I16:=Hd (I15.o.tk hck hf)
  clear hck hf TK16 I15
  have f0:=I16.o.at A10.o
  go_wp2_with fail
  refine(KL.o w16).mono ?_
  rintro e w17 ⟨rfl,rfl⟩
  obtain⟨nL,hnL⟩:=xq ((Xow 255 (bs v10)).1)
  obtain⟨eL,heL⟩:=xq ((Xow 255 (bs v10)).2)
  have hle:nL≤255:=by rw[hnL];exact Xku _ _
  have GL:Hid (∀cn,FvGood cn vs body→eL=0∧(nL:Int)=cn.leaf):=Hd (fun cn hg=>by
   have e:=hg.at 10 A10.o (x:=Xdq cn.leaf) rfl
   have vd:=(Xe6 hg.2.1).leaf
   have h0:0≤cn.leaf:=vd.1
   have h255:cn.leaf≤255:=(Xlp hg.2.1).2.2
   have this:=Xhr (most:=255) h0 h255 (by omega)
   rw[←e] at this
   rw[hnL,heL,this]
   exact⟨rfl,by show((cn.leaf.toNat:Nat):Int)=cn.leaf;omega⟩)
  rw[←hnL,←heL]
  have hcell:w16.cell? ⟨w.heap.size+3,73,none⟩=some _:=I16.o.cb.at (Xh6 I16.o.ok _ _)
  have hfr:=I16.o.free 73
  have J:=Hd (I16.o.one (I16.o.cb.setLe I16.o.ok (nL:Int)) (⟨I16.o.ok.author,I16.o.ok.root,I16.o.ok.sup,I16.o.ok.refs,I16.o.ok.date,I16.o.ok.number,I16.o.ok.height,Xj6 (by omega)⟩) I16.o.srow I16.o.irow I16.o.gown I16.o.rown)
  clear hnL heL KL I16 f0
  go_upto_region 21 with fail
  clear hcell hfr
  obtain⟨x17,hx17⟩:=xq (w16.setCell ⟨w.heap.size+3,73,none⟩ (.int .i64 (nL:Int)))
  rw[←hx17] at J⊢
  clear hx17
  obtain⟨c8,hc8⟩:∃c:Cn,c={c7 with leaf:=(nL:Int)}:=⟨_,rfl⟩
  rw[←hc8] at J
  have Kc8:=Hd hc8
  clear hc8 hle
  have I17:=J
  clear J
  have TK18:=Hd (Xcb x17 (w.heap.size+2) _ I17.o.chk ((eL:Int)))
  go_wp2_with fail
  refine TK18.o.mono ?_
  rintro e w18 ⟨⟨v,rfl⟩,hck,hf⟩
  have I18:=Hd (I17.o.tk hck hf)
  clear hck hf TK18 I17
  obtain⟨zF,hzF⟩:∃z:Int,Hid (FvI w vs c8 gv rv z w18)∧(∀cn,FvGood cn vs body→z=0):=⟨_,I18,fun cn hg=>by
   rw[(GA.o cn hg).1,(GD.o cn hg).1,(GG.o cn hg).1,(GR.o cn hg).1,(GN.o cn hg).1,(GP.o cn hg).1,(GL.o cn hg).1]
   try rw[(GS.o cn hg).1]
   simp[feZ]⟩
  obtain⟨IF,hz0⟩:=hzF
  have ANS:Hid (∀w',Bw w w'→CnIn w' c8 gv rv→Xlw vs body w (.returned (.tuple #[.agg (c8.cells gv rv),.int .i64 zF])) w'):=Hd (fun w' hb hin=>⟨c8,gv,rv,zF,rfl,hin,fun cn hg=>⟨hz0 cn hg,by
   have e0:=hg.at 0 A0.o (x:=bs cn.name) rfl
   have e4:=hg.at 4 A4.o (x:=bs cn.subject) rfl
   have e7:=hg.at 7 A7.o (x:=bs cn.ctl) rfl
   have e8:=hg.at 8 A8.o (x:=bs cn.dist) rfl
   have eb:=hg.2.2.2
   have es:c4.sup=zero32:=by rw[Kc4.o,Kc3.o,Kc2.o,C1.o];rfl
   have su:c8.sup=cn.sup:=by rw[Kc8.o,Kc7.o,Kc6.o];exact(by rw[es];exact(GS.o cn hg).2.symm)
   have k1:c8.name=v0∧c8.author=au∧c8.date=(nD:Int)∧c8.groups=gs∧c8.subject=v4∧c8.refs=ids∧c8.ctl=v7∧c8.dist=v8∧c8.number=(nN:Int)∧c8.height=(ph:Int)∧c8.root=pr∧c8.leaf=(nL:Int)∧c8.body=body:=by
    rw[Kc8.o,Kc7.o,Kc6.o,Kc4.o,Kc3.o,Kc2.o,C1.o]
    exact⟨rfl,rfl,rfl,rfl,rfl,rfl,rfl,rfl,rfl,rfl,rfl,rfl,rfl⟩
   obtain⟨q1,q2,q3,q4,q5,q6,q7,q8,q9,q10,q11,q12,q13⟩:=k1
   show Cont.mk (bs c8.name) c8.author c8.date (c8.groups.map bs) (bs c8.subject) c8.refs c8.sup (bs c8.ctl) (bs c8.dist) c8.number c8.height c8.root c8.leaf (bs c8.body)=Cont.mk (bs cn.name) cn.author cn.date (cn.groups.map bs) (bs cn.subject) cn.refs cn.sup (bs cn.ctl) (bs cn.dist) cn.number cn.height cn.root cn.leaf (bs cn.body)
   rw[q1,q2,q3,q4,q5,q6,q7,q8,q9,q10,q11,q12,q13,su,e0,e4,e7,e8,eb,(GA.o cn hg).2,(GD.o cn hg).2,(GG.o cn hg).2,(GR.o cn hg).2,(GN.o cn hg).2,(GP.o cn hg).2.1,(GP.o cn hg).2.2,(GL.o cn hg).2]⟩,(fun k hk=>by have:=IF.o.gown k hk;omega),(fun k hk=>by have:=IF.o.rown k hk;omega),hb⟩)
  have CIN:Hid (∀w',SRow w' gv c8.groups→IRow w' rv c8.refs→CnIn w' c8 gv rv):=Hd (fun w' h1 h2=>by
   have k1:c8.name=v0∧c8.groups=gs∧c8.subject=v4∧c8.refs=ids∧c8.ctl=v7∧c8.dist=v8∧c8.body=body:=by
    rw[Kc8.o,Kc7.o,Kc6.o,Kc4.o,Kc3.o,Kc2.o,C1.o]
    exact⟨rfl,rfl,rfl,rfl,rfl,rfl,rfl⟩
   obtain⟨q1,q4,q5,q6,q7,q8,q13⟩:=k1
   have:=z0.o;have:=z4.o;have:=z7.o;have:=z8.o
   exact⟨IF.o.ok,by rw[q1];omega,by rw[q5];omega,by rw[q7];omega,by rw[q8];omega,by rw[q13];exact hbz,by rw[q4];have:=GLZ.o.1;omega,fun g hg=>by rw[q4] at hg;have:=GLZ.o.2 g hg;omega,by rw[q6];have:=RLZ.o;omega,h1,h2⟩)
  obtain⟨cF,hcF⟩:=xq (c8.cells gv rv)
  have CSZ:Hid (cF.size=75):=Hd (by rw[hcF];exact Xa2 IF.o.ok _ _)
  have ONE:Hid (cF.all (·.oneCell')=true):=Hd (by
   rw[hcF]
   obtain⟨_,_,e1,_⟩:=IF.o.srow
   obtain⟨_,_,e2,_⟩:=IF.o.irow
   exact Xch _ _ _ (by rw[e1];rfl) (by rw[e2];rfl))
  have CBF:Hid (w18.heap[w.heap.size+3]?=some (.cells cF 39 (0,0))):=Hd (by rw[hcF];exact IF.o.cb)
  rw[←hcF] at ANS
  have HCF:=Hd hcF
  clear hcF hz0 GA GD GG GR GN GP GL GC A0 A4 A7 A8 I18
  go_upto_region 22 with fail
  obtain⟨wd,hwd⟩:=xq w18.drew
  have IFd:FvI w vs c8 gv rv zF wd:=by rw[hwd];exact IF.o.on (Dr.below ⟨1,rfl⟩)
  have CBd:wd.heap[w.heap.size+3]?=some (.cells cF 39 (0,0)):=by rw[hwd];exact CBF.o
  have HS:(fun wx:World=>wx.heap[w.heap.size+3]?=some (.cells cF 39 (0,0))∧wx.cell? ⟨w.heap.size+2,0,none⟩=some (.int .i64 zF)) wd:=⟨CBd,IFd.chk.cell⟩
  have st:=run_storeVar_row (P:=prog) wd (w.heap.size+1) _ 39 _ cF IFd.res (by rw[CSZ.o];exact Xbg) (by rw[CSZ.o];exact Xa2 Xgv _ _) ONE.o
  have fr:Fr1 (w.heap.size+1) wd (wd.setRow (w.heap.size+1) cF):=⟨rfl,rfl,rfl,by simp[World.setRow],fun k _ hne=>setRow_other wd (w.heap.size+1) k cF hne⟩
  have HS8:(fun wx:World=>wx.heap[w.heap.size+3]?=some (.cells cF 39 (0,0))∧wx.cell? ⟨w.heap.size+2,0,none⟩=some (.int .i64 zF)) (wd.setRow (w.heap.size+1) cF):=⟨(fr.other _ (zY CBd) (by omega)).trans CBd,by
   have e:=fr.other (w.heap.size+2) (zY IFd.chk) (by omega)
   exact CkZ.cell (b:=w.heap.size+2) (e.trans IFd.chk)⟩
  have RES:Hid (∀tmps:Array Value,tmps.getD 4 undef=.pointer (some ⟨w.heap.size+1,0,none⟩)→(results Tryz.f53 tmps).run prog (wd.setRow (w.heap.size+1) cF)=.ok (.tuple #[.agg cF,tmps.getD 5 undef]) (wd.setRow (w.heap.size+1) cF)):=Hd (fun tmps ht=>Xa1 results53 tmps _ (w.heap.size+1) _ _ _ _ ht (setRow_heap wd (w.heap.size+1) _ cF _ _ IFd.res) underlying39 rfl (by rw[CSZ.o];exact Xbg))
  have POST:Hid (Xlw vs body w (.returned (.tuple #[.agg cF,.int .i64 zF])) (wd.setRow (w.heap.size+1) cF)):=Hd (ANS.o _ (below_setRow IFd.bel (Nat.le_succ _) cF) (CIN.o _ (IFd.srow.fr fr (fun k hk=>by have:=IFd.gown k hk;omega)) (IFd.irow.fr fr (fun k hk=>by have:=IFd.rown k hk;omega))))
  have LZ:Hid (∀wx:World,wx.heap[w.heap.size+3]?=some (.cells cF 39 (0,0))→Ld 39 ⟨w.heap.size+3,0,none⟩ wx (.agg cF)):=Hd (fun wx h=>run_loadVar_row wx (w.heap.size+3) _ 39 _ _ _ h underlying39 rfl (by rw[CSZ.o];exact Xbg))
  refine wp_region_held (S:=fun wx:World=>wx.heap[w.heap.size+3]?=some (.cells cF 39 (0,0))∧wx.cell? ⟨w.heap.size+2,0,none⟩=some (.int .i64 zF)) (by kernel_rfl) ?_
  change wpAnyH _ _ _ _ _ _ _ _ w18.drew
  rw[←hwd]
  clear hwd IF CBF ANS CIN fr IFd CBd
  refine Xad 0 (.agg cF) rfl (fun w' hw'=>Xai (ty:=39) (x:=.tmp 7) (ad:=⟨w.heap.size+3,0,none⟩) rfl (by kernel_rfl) (LZ.o w' hw'.1)) HS ?_
  refine Xad 1 (.pointer (some ⟨w.heap.size+2,0,none⟩)) rfl (fun _ _=>by go_simp) HS ?_
  refine Xad 2 (.int .i64 zF) rfl (fun w' hw'=>by have c0:=hw'.2;go_simp) HS ?_
  refine Xa6 (i:=3) (by kernel_rfl) rfl rfl (Xar (t:=39) (ad:=⟨w.heap.size+1,0,none⟩) (u:=.agg cF) rfl (by kernel_rfl) (by kernel_rfl) st) HS8 ?_
  refine Xay (i:=4) (v:=.int .i64 zF) (by kernel_rfl) rfl rfl (Xap rfl (by kernel_rfl)) HS8 ?_
  refine wpAnyH_done (by kernel_rfl) ?_ _
  clear HS HS8 st LZ
  go_simp
  refine‹∀(a:Act) (w_1:World),_→_› _ _ ?_
  go_wp2_with fail
  exact zP (RES.o _ rfl) rfl (FX.o _ _ POST.o)
 ·have HN6:=Hd h6
  have qe:v6.toList.isEmpty=false:=Xd2 h6
  have f0:=I10.o.at A6.o
  clear h6
  go_wp2_with fail
  refine(KM.o w10).mono ?_
  rintro e w19 ⟨so,er,hm,hb⟩
  have hpost:∃(a:List Nat) (er':Int),e=.returned (.tuple #[.agg (idA a),.int .i64 so,.int .i64 er'])∧IdOk a∧((Xfl (bs v6)=none∧er'≠0)∨(Xfl (bs v6)=some a∧er'=0)):=by
   cases hp:Xfl (bs v6) with
   |none=>rw[hp] at hm;exact⟨zero32,er,hm.1,zero_ok,.inl ⟨rfl,hm.2⟩⟩
   |some i=>rw[hp] at hm;exact⟨i,0,hm,Xmp hp,.inr ⟨rfl,rfl⟩⟩
  clear hm KM f0
  obtain⟨su,eS,rfl,hao,hcase⟩:=hpost
  have GS:Hid (∀cn,FvGood cn vs body→eS=0∧su=cn.sup):=Hd (fun cn hg=>by
   have e:=hg.at 6 A6.o (x:=Xg8 cn.sup) rfl
   have hs:cn.sup≠zero32:=fun hs=>by
    unfold Xg8 at e
    rw[qP hs] at e
    have h0:v6.size=0:=by rw[←Xaa,e];rfl
    exact HN6.o h0
   unfold Xg8 at e
   rw[qN hs] at e
   rw[e,Xpx hg.1.sup] at hcase
   rcases hcase with⟨h,_⟩|⟨h,h2⟩
   ·cases h
   ·exact⟨h2,(Option.some.inj h).symm⟩)
  have I19:=Hd (I10.o.on hb)
  obtain⟨sta,cba⟩:=I19.o.cb.setSu I19.o.ok hao
  have J:=Hd (I19.o.row cba ⟨I19.o.ok.author,I19.o.ok.root,hao,I19.o.ok.refs,I19.o.ok.date,I19.o.ok.number,I19.o.ok.height,I19.o.ok.leaf⟩ rfl rfl)
  have STA:=Hd sta
  obtain⟨ia,hia⟩:=xq (idA su)
  rw[←hia] at STA⊢
  clear sta cba hb hcase hao hia I10 I19
  go_upto_region 14 with((with_reducible refine Xab 26 rfl _ _ rfl ?_);refine⟨_,_,_,rfl,rfl,STA.o,?_⟩)
  clear STA
  obtain⟨w20,hw20⟩:∃x,x=w19.setRow (w.heap.size+3) (({c4 with sup:=su}:Cn).cells gv rv):=⟨_,rfl⟩
  rw[←hw20] at J⊢
  clear hw20
  obtain⟨c5,hc5⟩:∃c:Cn,c={c4 with sup:=su}:=⟨_,rfl⟩
  rw[←hc5] at J
  have Kc5:=Hd hc5
  clear hc5
  have I20:=J
  clear J
  have TK21:=Hd (Xcb w20 (w.heap.size+2) _ I20.o.chk (eS))
  go_wp2_with fail
  refine TK21.o.mono ?_
  rintro e w21 ⟨⟨v,rfl⟩,hck,hf⟩
  have I21:=Hd (I20.o.tk hck hf)
  clear hck hf TK21 I20
  have f0:=I21.o.at A9.o
  go_wp2_with fail
  refine(KC.o w21 (HE.o.on I21.o.bel)).mono ?_
  rintro e w22 ⟨kx,ky,kb,rfl,hkx,hky,hkb,hkz,hd⟩
  have GC:Hid (∀cn,FvGood cn vs body→bs kx=Xdq cn.number∧bs ky=Xfk (Xho cn.p)):=Hd (fun cn hg=>by
   have e:=hg.at 9 A9.o (x:=Xi7 cn.p) rfl
   obtain⟨h1,h2⟩:=Xzu (c:=cn.p) (Xe6 hg.2.1).number.1
   rw[hkx,hky,e]
   exact⟨h1,h2⟩)
  have KXZ:kx.size≤100000:=by have:=z9.o;omega
  have KYZ:ky.size≤100000:=by
   have:=congrArg List.length hky
   rw[Xaa,List.length_drop,Xaa] at this
   have:=z9.o;omega
  have I22:=Hd (I21.o.on (Dr.below hd))
  have KN:=Hd (fun w=>Xj2 kx 1000 w (by omega) (by omega))
  have KP:=Hd (fun w (h:Env w)=>Xfs ky w (by omega) h)
  clear hkx hky hkb hkz hd KC f0 I21
  go_wp2_with fail
  refine(KN.o w22).mono ?_
  rintro e w23 ⟨rfl,rfl⟩
  obtain⟨nN,hnN⟩:=xq ((Xow 1000 (bs kx)).1)
  obtain⟨eN,heN⟩:=xq ((Xow 1000 (bs kx)).2)
  have hle:nN≤1000:=by rw[hnN];exact Xku _ _
  have GN:Hid (∀cn,FvGood cn vs body→eN=0∧(nN:Int)=cn.number):=Hd (fun cn hg=>by
   have e:=(GC.o cn hg).1
   have vd:=(Xe6 hg.2.1).number
   have h0:0≤cn.number:=vd.1
   have this:=Xhr (most:=1000) h0 vd.2 (by omega)
   rw[←e] at this
   rw[hnN,heN,this]
   exact⟨rfl,by show((cn.number.toNat:Nat):Int)=cn.number;omega⟩)
  rw[←hnN,←heN]
  have hcell:w22.cell? ⟨w.heap.size+3,55,none⟩=some _:=I22.o.cb.at (Xjm I22.o.ok _ _)
  have hfr:=I22.o.free 55
  have J:=Hd (I22.o.one (I22.o.cb.setNu I22.o.ok (nN:Int)) (⟨I22.o.ok.author,I22.o.ok.root,I22.o.ok.sup,I22.o.ok.refs,I22.o.ok.date,Xj6 (by omega),I22.o.ok.height,I22.o.ok.leaf⟩) I22.o.srow I22.o.irow I22.o.gown I22.o.rown)
  clear hnN heN KN I22
  go_upto_region 17 with fail
  clear hcell hfr
  obtain⟨x23,hx23⟩:=xq (w22.setCell ⟨w.heap.size+3,55,none⟩ (.int .i64 (nN:Int)))
  rw[←hx23] at J⊢
  clear hx23
  obtain⟨c6,hc6⟩:∃c:Cn,c={c5 with number:=(nN:Int)}:=⟨_,rfl⟩
  rw[←hc6] at J
  have Kc6:=Hd hc6
  clear hc6 hle
  have I23:=J
  clear J
  have TK24:=Hd (Xcb x23 (w.heap.size+2) _ I23.o.chk ((eN:Int)))
  go_wp2_with fail
  refine TK24.o.mono ?_
  rintro e w24 ⟨⟨v,rfl⟩,hck,hf⟩
  have I24:=Hd (I23.o.tk hck hf)
  clear hck hf TK24 I23
  go_wp2_with fail
  refine(KP.o w24 (HE.o.on I24.o.bel)).mono ?_
  rintro e w25 ⟨ph,pr,rfl,hpr,hph,hpl,hpv,hb⟩
  obtain⟨eP,heP⟩:=xq (Xgl (bs ky))
  have GP:Hid (∀cn,FvGood cn vs body→eP=0∧(ph:Int)=cn.height∧pr=cn.root):=Hd (fun cn hg=>by
   have e:=(GC.o cn hg).2
   have vd:=(Xe6 hg.2.1).height
   have v1:1≤cn.height:=vd.1
   have v2:cn.height≤8:=vd.2
   obtain⟨h1,h2⟩:=Xt3 (c:=cn.p) hg.1.root.len hg.1.root.lt v1 v2
   rw[←e] at h1 h2
   have h3:=(hpv h1).symm.trans h2
   injection h3 with h4 h5
   exact⟨heP.trans h1,by rw[h4];show((cn.height.toNat:Nat):Int)=_;omega,h5⟩)
  rw[←heP]
  have I25:=Hd (I24.o.on hb)
  obtain⟨stp,cbp⟩:=I25.o.cb.setPk I25.o.ok (n:=(ph:Int)) hpr
  have J:=Hd (I25.o.row cbp ⟨I25.o.ok.author,⟨hpr,hpl⟩,I25.o.ok.sup,I25.o.ok.refs,I25.o.ok.date,I25.o.ok.number,Xj6 (by omega),I25.o.ok.leaf⟩ rfl rfl)
  have STP:=Hd stp
  obtain⟨ip,hip⟩:=xq (pkC (ph:Int) pr)
  rw[←hip] at STP⊢
  clear stp cbp hb heP hpr hph hpl hpv hip KP I24 I25
  go_upto_region 19 with((with_reducible refine Xab 37 rfl _ _ rfl ?_);refine⟨_,_,_,rfl,rfl,STP.o,?_⟩)
  clear STP
  obtain⟨w26,hw26⟩:∃x,x=w25.setRow (w.heap.size+3) (({c6 with height:=(ph:Int),root:=pr}:Cn).cells gv rv):=⟨_,rfl⟩
  rw[←hw26] at J⊢
  clear hw26
  obtain⟨c7,hc7⟩:∃c:Cn,c={c6 with height:=(ph:Int),root:=pr}:=⟨_,rfl⟩
  rw[←hc7] at J
  have Kc7:=Hd hc7
  clear hc7
  have I26:=J
  clear J
  have TK27:=Hd (Xcb w26 (w.heap.size+2) _ I26.o.chk ((eP:Int)))
  go_wp2_with fail
  refine TK27.o.mono ?_
  rintro e w27 ⟨⟨v,rfl⟩,hck,hf⟩
  have I27:=Hd (I26.o.tk hck hf)
  clear hck hf TK27 I26
  have f0:=I27.o.at A10.o
  go_wp2_with fail
  refine(KL.o w27).mono ?_
  rintro e w28 ⟨rfl,rfl⟩
  obtain⟨nL,hnL⟩:=xq ((Xow 255 (bs v10)).1)
  obtain⟨eL,heL⟩:=xq ((Xow 255 (bs v10)).2)
  have hle:nL≤255:=by rw[hnL];exact Xku _ _
  have GL:Hid (∀cn,FvGood cn vs body→eL=0∧(nL:Int)=cn.leaf):=Hd (fun cn hg=>by
   have e:=hg.at 10 A10.o (x:=Xdq cn.leaf) rfl
   have vd:=(Xe6 hg.2.1).leaf
   have h0:0≤cn.leaf:=vd.1
   have h255:cn.leaf≤255:=(Xlp hg.2.1).2.2
   have this:=Xhr (most:=255) h0 h255 (by omega)
   rw[←e] at this
   rw[hnL,heL,this]
   exact⟨rfl,by show((cn.leaf.toNat:Nat):Int)=cn.leaf;omega⟩)
  rw[←hnL,←heL]
  have hcell:w27.cell? ⟨w.heap.size+3,73,none⟩=some _:=I27.o.cb.at (Xh6 I27.o.ok _ _)
  have hfr:=I27.o.free 73
  have J:=Hd (I27.o.one (I27.o.cb.setLe I27.o.ok (nL:Int)) (⟨I27.o.ok.author,I27.o.ok.root,I27.o.ok.sup,I27.o.ok.refs,I27.o.ok.date,I27.o.ok.number,I27.o.ok.height,Xj6 (by omega)⟩) I27.o.srow I27.o.irow I27.o.gown I27.o.rown)
  clear hnL heL KL I27 f0
  go_upto_region 21 with fail
  clear hcell hfr
  obtain⟨x28,hx28⟩:=xq (w27.setCell ⟨w.heap.size+3,73,none⟩ (.int .i64 (nL:Int)))
  rw[←hx28] at J⊢
  clear hx28
  obtain⟨c8,hc8⟩:∃c:Cn,c={c7 with leaf:=(nL:Int)}:=⟨_,rfl⟩
  rw[←hc8] at J
  have Kc8:=Hd hc8
  clear hc8 hle
  have I28:=J
  clear J
  have TK29:=Hd (Xcb x28 (w.heap.size+2) _ I28.o.chk ((eL:Int)))
  go_wp2_with fail
  refine TK29.o.mono ?_
  rintro e w29 ⟨⟨v,rfl⟩,hck,hf⟩
  have I29:=Hd (I28.o.tk hck hf)
  clear hck hf TK29 I28
  obtain⟨zF,hzF⟩:∃z:Int,Hid (FvI w vs c8 gv rv z w29)∧(∀cn,FvGood cn vs body→z=0):=⟨_,I29,fun cn hg=>by
   rw[(GA.o cn hg).1,(GD.o cn hg).1,(GG.o cn hg).1,(GR.o cn hg).1,(GN.o cn hg).1,(GP.o cn hg).1,(GL.o cn hg).1]
   try rw[(GS.o cn hg).1]
   simp[feZ]⟩
  obtain⟨IF,hz0⟩:=hzF
  have ANS:Hid (∀w',Bw w w'→CnIn w' c8 gv rv→Xlw vs body w (.returned (.tuple #[.agg (c8.cells gv rv),.int .i64 zF])) w'):=Hd (fun w' hb hin=>⟨c8,gv,rv,zF,rfl,hin,fun cn hg=>⟨hz0 cn hg,by
   have e0:=hg.at 0 A0.o (x:=bs cn.name) rfl
   have e4:=hg.at 4 A4.o (x:=bs cn.subject) rfl
   have e7:=hg.at 7 A7.o (x:=bs cn.ctl) rfl
   have e8:=hg.at 8 A8.o (x:=bs cn.dist) rfl
   have eb:=hg.2.2.2
   have es:c4.sup=zero32:=by rw[Kc4.o,Kc3.o,Kc2.o,C1.o];rfl
   have su:c8.sup=cn.sup:=by rw[Kc8.o,Kc7.o,Kc6.o];exact(by rw[Kc5.o];exact(GS.o cn hg).2)
   have k1:c8.name=v0∧c8.author=au∧c8.date=(nD:Int)∧c8.groups=gs∧c8.subject=v4∧c8.refs=ids∧c8.ctl=v7∧c8.dist=v8∧c8.number=(nN:Int)∧c8.height=(ph:Int)∧c8.root=pr∧c8.leaf=(nL:Int)∧c8.body=body:=by
    rw[Kc8.o,Kc7.o,Kc6.o,Kc5.o,Kc4.o,Kc3.o,Kc2.o,C1.o]
    exact⟨rfl,rfl,rfl,rfl,rfl,rfl,rfl,rfl,rfl,rfl,rfl,rfl,rfl⟩
   obtain⟨q1,q2,q3,q4,q5,q6,q7,q8,q9,q10,q11,q12,q13⟩:=k1
   show Cont.mk (bs c8.name) c8.author c8.date (c8.groups.map bs) (bs c8.subject) c8.refs c8.sup (bs c8.ctl) (bs c8.dist) c8.number c8.height c8.root c8.leaf (bs c8.body)=Cont.mk (bs cn.name) cn.author cn.date (cn.groups.map bs) (bs cn.subject) cn.refs cn.sup (bs cn.ctl) (bs cn.dist) cn.number cn.height cn.root cn.leaf (bs cn.body)
   rw[q1,q2,q3,q4,q5,q6,q7,q8,q9,q10,q11,q12,q13,su,e0,e4,e7,e8,eb,(GA.o cn hg).2,(GD.o cn hg).2,(GG.o cn hg).2,(GR.o cn hg).2,(GN.o cn hg).2,(GP.o cn hg).2.1,(GP.o cn hg).2.2,(GL.o cn hg).2]⟩,(fun k hk=>by have:=IF.o.gown k hk;omega),(fun k hk=>by have:=IF.o.rown k hk;omega),hb⟩)
  have CIN:Hid (∀w',SRow w' gv c8.groups→IRow w' rv c8.refs→CnIn w' c8 gv rv):=Hd (fun w' h1 h2=>by
   have k1:c8.name=v0∧c8.groups=gs∧c8.subject=v4∧c8.refs=ids∧c8.ctl=v7∧c8.dist=v8∧c8.body=body:=by
    rw[Kc8.o,Kc7.o,Kc6.o,Kc5.o,Kc4.o,Kc3.o,Kc2.o,C1.o]
    exact⟨rfl,rfl,rfl,rfl,rfl,rfl,rfl⟩
   obtain⟨q1,q4,q5,q6,q7,q8,q13⟩:=k1
   have:=z0.o;have:=z4.o;have:=z7.o;have:=z8.o
   exact⟨IF.o.ok,by rw[q1];omega,by rw[q5];omega,by rw[q7];omega,by rw[q8];omega,by rw[q13];exact hbz,by rw[q4];have:=GLZ.o.1;omega,fun g hg=>by rw[q4] at hg;have:=GLZ.o.2 g hg;omega,by rw[q6];have:=RLZ.o;omega,h1,h2⟩)
  obtain⟨cF,hcF⟩:=xq (c8.cells gv rv)
  have CSZ:Hid (cF.size=75):=Hd (by rw[hcF];exact Xa2 IF.o.ok _ _)
  have ONE:Hid (cF.all (·.oneCell')=true):=Hd (by
   rw[hcF]
   obtain⟨_,_,e1,_⟩:=IF.o.srow
   obtain⟨_,_,e2,_⟩:=IF.o.irow
   exact Xch _ _ _ (by rw[e1];rfl) (by rw[e2];rfl))
  have CBF:Hid (w29.heap[w.heap.size+3]?=some (.cells cF 39 (0,0))):=Hd (by rw[hcF];exact IF.o.cb)
  rw[←hcF] at ANS
  have HCF:=Hd hcF
  clear hcF hz0 GA GD GG GR GN GP GL GC A0 A4 A7 A8 I29
  go_upto_region 22 with fail
  obtain⟨wd,hwd⟩:=xq w29.drew
  have IFd:FvI w vs c8 gv rv zF wd:=by rw[hwd];exact IF.o.on (Dr.below ⟨1,rfl⟩)
  have CBd:wd.heap[w.heap.size+3]?=some (.cells cF 39 (0,0)):=by rw[hwd];exact CBF.o
  have HS:(fun wx:World=>wx.heap[w.heap.size+3]?=some (.cells cF 39 (0,0))∧wx.cell? ⟨w.heap.size+2,0,none⟩=some (.int .i64 zF)) wd:=⟨CBd,IFd.chk.cell⟩
  have st:=run_storeVar_row (P:=prog) wd (w.heap.size+1) _ 39 _ cF IFd.res (by rw[CSZ.o];exact Xbg) (by rw[CSZ.o];exact Xa2 Xgv _ _) ONE.o
  have fr:Fr1 (w.heap.size+1) wd (wd.setRow (w.heap.size+1) cF):=⟨rfl,rfl,rfl,by simp[World.setRow],fun k _ hne=>setRow_other wd (w.heap.size+1) k cF hne⟩
  have HS8:(fun wx:World=>wx.heap[w.heap.size+3]?=some (.cells cF 39 (0,0))∧wx.cell? ⟨w.heap.size+2,0,none⟩=some (.int .i64 zF)) (wd.setRow (w.heap.size+1) cF):=⟨(fr.other _ (zY CBd) (by omega)).trans CBd,by
   have e:=fr.other (w.heap.size+2) (zY IFd.chk) (by omega)
   exact CkZ.cell (b:=w.heap.size+2) (e.trans IFd.chk)⟩
  have RES:Hid (∀tmps:Array Value,tmps.getD 4 undef=.pointer (some ⟨w.heap.size+1,0,none⟩)→(results Tryz.f53 tmps).run prog (wd.setRow (w.heap.size+1) cF)=.ok (.tuple #[.agg cF,tmps.getD 5 undef]) (wd.setRow (w.heap.size+1) cF)):=Hd (fun tmps ht=>Xa1 results53 tmps _ (w.heap.size+1) _ _ _ _ ht (setRow_heap wd (w.heap.size+1) _ cF _ _ IFd.res) underlying39 rfl (by rw[CSZ.o];exact Xbg))
  have POST:Hid (Xlw vs body w (.returned (.tuple #[.agg cF,.int .i64 zF])) (wd.setRow (w.heap.size+1) cF)):=Hd (ANS.o _ (below_setRow IFd.bel (Nat.le_succ _) cF) (CIN.o _ (IFd.srow.fr fr (fun k hk=>by have:=IFd.gown k hk;omega)) (IFd.irow.fr fr (fun k hk=>by have:=IFd.rown k hk;omega))))
  have LZ:Hid (∀wx:World,wx.heap[w.heap.size+3]?=some (.cells cF 39 (0,0))→Ld 39 ⟨w.heap.size+3,0,none⟩ wx (.agg cF)):=Hd (fun wx h=>run_loadVar_row wx (w.heap.size+3) _ 39 _ _ _ h underlying39 rfl (by rw[CSZ.o];exact Xbg))
  refine wp_region_held (S:=fun wx:World=>wx.heap[w.heap.size+3]?=some (.cells cF 39 (0,0))∧wx.cell? ⟨w.heap.size+2,0,none⟩=some (.int .i64 zF)) (by kernel_rfl) ?_
  change wpAnyH _ _ _ _ _ _ _ _ w29.drew
  rw[←hwd]
  clear hwd IF CBF ANS CIN fr IFd CBd
  refine Xad 0 (.agg cF) rfl (fun w' hw'=>Xai (ty:=39) (x:=.tmp 7) (ad:=⟨w.heap.size+3,0,none⟩) rfl (by kernel_rfl) (LZ.o w' hw'.1)) HS ?_
  refine Xad 1 (.pointer (some ⟨w.heap.size+2,0,none⟩)) rfl (fun _ _=>by go_simp) HS ?_
  refine Xad 2 (.int .i64 zF) rfl (fun w' hw'=>by have c0:=hw'.2;go_simp) HS ?_
  refine Xa6 (i:=3) (by kernel_rfl) rfl rfl (Xar (t:=39) (ad:=⟨w.heap.size+1,0,none⟩) (u:=.agg cF) rfl (by kernel_rfl) (by kernel_rfl) st) HS8 ?_
  refine Xay (i:=4) (v:=.int .i64 zF) (by kernel_rfl) rfl rfl (Xap rfl (by kernel_rfl)) HS8 ?_
  refine wpAnyH_done (by kernel_rfl) ?_ _
  clear HS HS8 st LZ
  go_simp
  refine‹∀(a:Act) (w_1:World),_→_› _ _ ?_
  go_wp2_with fail
  exact zP (RES.o _ rfl) rfl (FX.o _ _ POST.o)
theorem Xhv (s:Nat):∀l:List (List Nat),(Xaw [s] l).length≤(l.map List.length).sum+l.length
 |[]=>by simp[Xaw]
 |[x]=>by simp[Xaw]
 |x::y::r=>by
  have:=Xhv s (y::r)
  simp only[Xaw,List.length_append,List.map_cons,List.sum_cons,List.length_cons,List.length_nil] at this⊢
  omega
theorem Xka (n:Nat):∀l:List Nat,(∀x∈l,x=n)→l.sum=l.length*n
 |[],_=>by simp
 |x::l,h=>by
  have h1:=h x (List.mem_cons_self ..)
  have h2:=Xka n l (fun y hy=>h y (List.mem_cons_of_mem _ hy))
  rw[List.sum_cons,h1,h2,List.length_cons,Nat.succ_mul];omega
theorem Xm0 {c:Cn}(ok:c.Ok)(hgl:c.groups.length≤30)(hgt:tot c.groups≤100000)(hrl:c.refs.length≤30)(htx:c.name.size+c.subject.size+c.ctl.size+c.dist.size≤4000000)(hbo:c.body.size≤1000000)(h0:Xc4 c.p=0):(Xa8 c.p).length≤10000000:=by
 have vd:=Xe6 h0
 rw[Xle]
 have e0:c.p.name.length=c.name.size:=Xaa _
 have e1:(Xbv c.p.author).length=2*16:=by rw[←ok.author.len];exact Xbs _
 have e2:(Xdq c.p.date).length≤21:=Xdh vd.date.1
 have e3:(Xaw [44] c.p.groups).length≤tot c.groups+c.groups.length:=by
  have:=Xhv 44 (c.groups.map bs)
  rw[List.map_map,List.length_map] at this
  have e:c.groups.map (List.length∘bs)=c.groups.map ByteArray.size:=List.map_congr_left (fun g _=>Xaa g)
  rw[e] at this
  exact this
 have e4:c.p.subject.length=c.subject.size:=Xaa _
 have e5:(Xaw [32] (c.p.refs.map Xcr)).length≤c.refs.length*71+c.refs.length:=by
  have:=Xhv 32 (c.refs.map Xcr)
  rw[List.map_map,List.length_map] at this
  rw[Xka 71 (c.refs.map (List.length∘Xcr)) (fun x hx=>by
   obtain⟨y,hy,rfl⟩:=List.mem_map.1 hx
   exact Xdy (ok.refs y hy)),List.length_map] at this
  exact this
 have e6:(Xg8 c.p.sup).length≤71:=by
  unfold Xg8
  split
  ·simp
  ·exact Nat.le_of_eq (Xdy ok.sup)
 have e7:c.p.ctl.length=c.ctl.size:=Xaa _
 have e8:c.p.dist.length=c.dist.size:=Xaa _
 have e9:(Xi7 c.p).length≤1022:=by
  unfold Xi7
  rw[List.length_append,List.length_cons]
  have h1:(Xdq c.p.number).length≤21:=Xdh vd.number.1
  have h2:(Xfk (Xho c.p)).length≤1000:=Yaw (fun x hx=>by
   unfold Xho at hx
   rcases List.mem_cons.1 hx with rfl|hx
   ·omega
   ·exact ok.root.lt x hx) (by unfold Xho;rw[List.length_cons];show c.root.length+1=17;rw[ok.root.len])
  omega
 have e10:(Xdq c.p.leaf).length≤21:=Xdh vd.leaf.1
 have e11:c.p.body.length=c.body.size:=Xaa _
 omega
theorem Xwp {c:Cn}(ok:c.Ok)(hgl:c.groups.length≤30)(hgt:tot c.groups≤3000)(hrl:c.refs.length≤30)(htx:c.name.size+c.subject.size+c.ctl.size+c.dist.size≤2000)(hbo:c.body.size≤1000000)(h0:Xc4 c.p=0):(Xa8 c.p).length≤10000000:=Xm0 ok hgl (by omega) hrl (by omega) hbo h0
theorem Xh0 {c:Cn}(ok:c.Ok)(hf:FitsP c)(h0:Xc4 c.p=0):(Xa8 c.p).length≤10000000:=Xwp ok hf.gl hf.gt hf.rl hf.tx (by have:=hf.body;omega) h0
theorem Yj9 {w w':World}{base:Nat}{c:Cn}{gv rv g1 r1:Value}(hin:CnIn w c gv rv)(o1:w'.ownsRow base 9 1 g1 c.groups.length (c.groups.map Value.string))(o2:w'.ownsRow base 26 32 r1 c.refs.length (Xbi c.refs)):CnIn w' c g1 r1:=
 ⟨hin.ok,hin.name,hin.subject,hin.ctl,hin.dist,hin.body,hin.gl,hin.gz,hin.rl,Xny o1,Xt7 hin.ok.refs o2⟩
set_option linter.unusedSectionVars false
section
variable {w:World} {a b:Cn} {ga ra gb rb:Value} (ha:CnArg w a ga ra) (fa:FitsP a) (hb:CnArg w b gb rb) (fb:FitsP b) {wx:World} (hx:Bw w wx)
include ha fa hx
include hb fb
end
theorem Xsr {c:Cn}(ok:c.Ok):c.p.Ok:=⟨ok.author.lt,ok.root.lt,ok.root.len,ok.sup.lt,fun y hy=>(ok.refs y hy).lt⟩
theorem Ykm:∀{l:List ByteArray},l.length=11→∃v0 v1 v2 v3 v4 v5 v6 v7 v8 v9 v10,l=[v0,v1,v2,v3,v4,v5,v6,v7,v8,v9,v10]
 |[v0,v1,v2,v3,v4,v5,v6,v7,v8,v9,v10],_=>⟨v0,v1,v2,v3,v4,v5,v6,v7,v8,v9,v10,rfl⟩
theorem Ycv:(prog.info? 80).map (·.size)=some 11:=by kernel_rfl
def fwA:Array Value:=((List.range 11).map fun i=>Value.string (Xaq (fWords.getD i []))).toArray
theorem Yk6 {j:Nat}(h:j<11):fwA[j]?=some (.string (Xaq (fWords.getD j []))):=by
 unfold fwA;simp[h]
theorem Yky (w:World){j:Nat}(h:j<11):(Instr.index 80 (.agg fwA) (.int .i64 (j:Int))).run prog w=.ok (.string (Xaq (fWords.getD j []))) w:=by
 rcases(by omega:j=0∨j=1∨j=2∨j=3∨j=4∨j=5∨j=6∨j=7∨j=8∨j=9∨j=10) with rfl|rfl|rfl|rfl|rfl|rfl|rfl|rfl|rfl|rfl|rfl<;>kernel_rfl
theorem Yhw (w:World)(hE:Env w):Ld 80 ⟨0,0,none⟩ w (.agg fwA):=
 Xah w _ 0 80 fwA _ underlying80 rfl (by kernel_rfl) (fun j u hu=>by
  have hj:j<11:=by
   have:=(Array.getElem?_eq_some_iff.1 hu).1
   have e:fwA.size=11:=by kernel_rfl
   omega
  rw[Yk6 hj] at hu
  rw[Nat.zero_add,hE.fw j hj];exact hu)
theorem Xuv (s p:ByteArray)(w:World):Calls prog 52 #[.string s,.string p] w fun e w'=>∃(x:ByteArray) (b:Bool),e=.returned (.tuple #[.string x,.bool b])∧x.size≤s.size∧(∀v:ByteArray,s=p++v→b=true∧x=v)∧w'=w:=by
 refine(Xgo s p w).mono ?_
 rintro e w' ⟨rfl,rfl⟩
 refine⟨_,_,rfl,?_,?_,rfl⟩
 ·show(Lib.trimPrefix s.data.toList p.data.toList).toArray.size≤s.size
  rw[List.size_toArray]
  unfold Lib.trimPrefix
  split
  ·rw[List.length_drop,Array.length_toList];exact Nat.sub_le _ _
  ·rw[Array.length_toList];exact zL _
 ·rintro v rfl
  have hp:Lib.hasPrefix (p++v).data.toList p.data.toList=true:=by
   unfold Lib.hasPrefix
   rw[List.isPrefixOf_iff_prefix]
   exact⟨v.data.toList,by simp[ByteArray.data_append]⟩
  refine⟨hp,?_⟩
  unfold Lib.trimPrefix
  rw[qP hp]
  apply ByteArray.ext
  simp[ByteArray.data_append]
def tlF (c:Cont)(j:Nat):List Nat:=(((fWords.zip (Xaz c)).drop j).flatMap fun p=>p.1++32::p.2++[10])++10::c.body
theorem Ycp (c:Cont):tlF c 0=Xa8 c:=rfl
theorem Yg1 (c:Cont):tlF c 11=10::c.body:=by
 unfold tlF;rw[List.drop_of_length_le (by simp[fWords,Xaz])];rfl
theorem Ycq (c:Cont){j:Nat}(h:j<11):tlF c j=fWords.getD j []++32::((Xaz c).getD j []++10::tlF c (j+1)):=by
 have hl:j<(fWords.zip (Xaz c)).length:=by simp[fWords,Xaz];omega
 have e:(fWords.zip (Xaz c))[j]=(fWords.getD j [],(Xaz c).getD j []):=by
  rw[List.getElem_zip]
  have h1:j<fWords.length:=by simp[fWords];omega
  have h2:j<(Xaz c).length:=by simp[Xaz];omega
  simp[List.getD,h1,h2]
 unfold tlF
 rw[List.drop_eq_getElem_cons hl,List.flatMap_cons,e]
 simp
theorem Yk4:∀j,j<11→10∉fWords.getD j []:=by decide
theorem Yh1 {c:Cont}(ho:c.Ok)(hv:c.Vd){j:Nat}(h:j<11):Xi2 10 (tlF c j)=fWords.getD j []++32::(Xaz c).getD j []∧(tlF c j).drop ((Xi2 10 (tlF c j)).length+1)=tlF c (j+1)∧(Xi2 10 (tlF c j)).length<(tlF c j).length:=by
 have hval:10∉(Xaz c).getD j []:=by
  have h2:j<(Xaz c).length:=by simp[Xaz];omega
  have:(Xaz c).getD j []=(Xaz c)[j]:=by simp[List.getD,h2]
  rw[this];exact Xne ho hv _ (zG h2)
 have e:tlF c j=(fWords.getD j []++32::(Xaz c).getD j [])++10::tlF c (j+1):=by rw[Ycq c h];simp
 have h1:Xi2 10 (tlF c j)=fWords.getD j []++32::(Xaz c).getD j []:=by
  rw[e];unfold Xi2
  exact(Xte (fun x=>!decide (x=10)) _ _ (fun x hx=>by
   have:x≠10:=by
    rintro rfl
    rcases List.mem_append.1 hx with hx|hx
    ·exact Yk4 j h hx
    ·rcases List.mem_cons.1 hx with hx|hx
     ·cases hx
     ·exact hval hx
   simpa using this) (.inr ⟨10,_,rfl,by decide⟩)).1
 refine⟨h1,?_,?_⟩
 ·rw[h1,e,←List.drop_drop,List.drop_left];rfl
 ·rw[h1,e];simp
def Xf3 (s:ByteArray)(w:World)(e:Ending)(w':World):Prop:=
 ∃(c:Cn) (gv rv:Value) (z:Int),e=.returned (.tuple #[.agg (c.cells gv rv),.int .i64 z])∧CnIn w' c gv rv∧
  ((z=0∧Xc4 c.p=0∧Xaq (Xa8 c.p)=s)∨(z=3∧c=cn0∧gv=.slice none 0 0∧rv=.slice none 0 0∧∀cn:Cn,cn.Ok→Xc4 cn.p=0→Xa8 cn.p≠bs s))∧Bw w w'
theorem Ylg (w:World):CnIn w cn0 (.slice none 0 0) (.slice none 0 0):=
 ⟨Xgv,by decide,by decide,by decide,by decide,by decide,by decide,(fun g hg=>by cases hg),by decide,⟨none,0,rfl,zL _,fun h=>absurd rfl h⟩,⟨none,0,rfl,zL _,fun h=>absurd rfl h⟩⟩
theorem Xux (w wx:World)(cs:Array Value)(h75:cs.size=75)(h1:cs.all (·.oneCell')=true)(hq:wx.heap[w.heap.size]?=some (.cells (cn0.cells (.slice none 0 0) (.slice none 0 0)) 39 (0,0)))(hb:Bw w wx):
    Sv 39 ⟨w.heap.size,0,none⟩ (.agg cs) wx (wx.setRow w.heap.size cs)∧
     (∀tmps:Array Value,tmps.getD 2 undef=.pointer (some ⟨w.heap.size,0,none⟩)→(results Tryz.f12 tmps).run prog (wx.setRow w.heap.size cs)=.ok (.tuple #[.agg cs,tmps.getD 3 undef]) (wx.setRow w.heap.size cs))∧Bw w (wx.setRow w.heap.size cs):=
 ⟨run_storeVar_row (P:=prog) wx w.heap.size _ 39 _ cs hq (by rw[h75];exact Xbg) (by rw[h75];exact Xa2 Xgv _ _) h1,
  fun tmps ht=>Xa1 results12 tmps _ w.heap.size _ _ _ _ ht (setRow_heap wx w.heap.size _ cs _ _ hq) underlying39 rfl (by rw[h75];exact Xbg),
  below_setRow hb (zL _) cs⟩
theorem Xiw (w wx:World)(cs:Array Value)(hcs:cs=cn0.cells (.slice none 0 0) (.slice none 0 0))(hq:wx.heap[w.heap.size]?=some (.cells cs 39 (0,0)))(hb:Bw w wx):
    Sv 39 ⟨w.heap.size,0,none⟩ (.agg (cn0.cells (.slice none 0 0) (.slice none 0 0))) wx (wx.setRow w.heap.size (cn0.cells (.slice none 0 0) (.slice none 0 0)))∧
     (∀tmps:Array Value,tmps.getD 2 undef=.pointer (some ⟨w.heap.size,0,none⟩)→(results Tryz.f12 tmps).run prog (wx.setRow w.heap.size (cn0.cells (.slice none 0 0) (.slice none 0 0)))=.ok (.tuple #[.agg (cn0.cells (.slice none 0 0) (.slice none 0 0)),tmps.getD 3 undef]) (wx.setRow w.heap.size (cn0.cells (.slice none 0 0) (.slice none 0 0))))∧Bw w (wx.setRow w.heap.size (cn0.cells (.slice none 0 0) (.slice none 0 0)))∧CnIn (wx.setRow w.heap.size (cn0.cells (.slice none 0 0) (.slice none 0 0))) cn0 (.slice none 0 0) (.slice none 0 0):=by
 subst hcs
 obtain⟨h1,h2,h3⟩:=Xux w wx _ (Xa2 Xgv _ _) (Xch cn0 (.slice none 0 0) (.slice none 0 0) rfl rfl) hq hb
 exact⟨h1,h2,h3,Ylg _⟩
theorem Yk5:∀j,j<11→(fWords.getD j []).length≤100:=by decide
theorem Ymu:∀j,j<11→∀x∈fWords.getD j [],x<256:=by decide
theorem Xpz {l:List (List Nat)}(h:Xbt l=0):l.length≤20:=by
 unfold Xbt at h
 split at h
 ·cases h
 ·unfold Xcd at h
  split at h
  ·cases h
  ·omega
theorem Xxv {c:Cn}(h:c.p.Vd)(hl:c.p.groups.length≤20):tot c.groups≤100000:=by
 have h80:∀g∈c.groups,g.size≤80:=fun g hg=>by
  have h1:=h.groups.2 (bs g) (List.mem_map.2 ⟨g,hg,rfl⟩)
  unfold Xbf at h1
  split at h1
  ·cases h1
  ·rw[Xaa] at*;omega
 have:=Xxw h80
 have e:c.p.groups.length=c.groups.length:=List.length_map ..
 have:c.groups.length*80≤20*80:=Nat.mul_le_mul_right _ (by omega)
 omega
theorem Xqs (s:ByteArray)(w:World)(hs:s.size≤20000)(hE:Env w):
    Calls prog 12 #[.string s] w (Xf3 s w):=by
 obtain⟨zs,z0⟩:=xq (cn0.cells (.slice none 0 0) (.slice none 0 0))
 obtain⟨e11,he11⟩:∃l:List ByteArray,l=List.replicate 11 ⟨#[]⟩:=⟨_,rfl⟩
 obtain⟨w0,hw0⟩:=xq ((w.alloc (.cells (Tryz.zeroCells39) 39)).alloc (.cells #[.string ⟨#[]⟩,.string ⟨#[]⟩,.string ⟨#[]⟩,.string ⟨#[]⟩,.string ⟨#[]⟩,.string ⟨#[]⟩,.string ⟨#[]⟩,.string ⟨#[]⟩,.string ⟨#[]⟩,.string ⟨#[]⟩,.string ⟨#[]⟩] 80))
 obtain⟨wA,hwA⟩:=xq (w.alloc (.cells (Tryz.zeroCells39) 39))
 have S0:Hid (w0.heap.size=w.heap.size+2):=Hd (by rw[hw0];simp)
 have B0:Hid (Bw w w0):=Hd (by rw[hw0];exact((zR _ _).alloc (zL _) _).alloc (by simp) _)
 have R0:Hid (w0.heap[w.heap.size]?=some (.cells zs 39 (0,0))):=Hd (by rw[hw0,z0,Xh9];exact Xae (heap_alloc_last w _))
 have V0:Hid (w0.heap[w.heap.size+1]?=some (.cells (e11.map Value.string).toArray 80 (0,0))):=Hd (by
  rw[hw0,he11]
  have:=heap_alloc_last (w.alloc (.cells (Tryz.zeroCells39) 39)) (.cells #[.string ⟨#[]⟩,.string ⟨#[]⟩,.string ⟨#[]⟩,.string ⟨#[]⟩,.string ⟨#[]⟩,.string ⟨#[]⟩,.string ⟨#[]⟩,.string ⟨#[]⟩,.string ⟨#[]⟩,.string ⟨#[]⟩,.string ⟨#[]⟩] 80)
  rw[World.size_alloc] at this;exact this)
 have L0:Hid (e11.length=11∧∀v∈e11,v.size≤100000):=Hd (by
  rw[he11];exact⟨by simp,fun v hv=>by rw[List.mem_replicate] at hv;rw[hv.2];decide⟩)
 have HW:=Hd (show w0=wA.alloc (.cells #[.string ⟨#[]⟩,.string ⟨#[]⟩,.string ⟨#[]⟩,.string ⟨#[]⟩,.string ⟨#[]⟩,.string ⟨#[]⟩,.string ⟨#[]⟩,.string ⟨#[]⟩,.string ⟨#[]⟩,.string ⟨#[]⟩,.string ⟨#[]⟩] 80) by rw[hw0,hwA])
 have HA:=Hd hwA
 have SA:Hid (wA.heap.size=w.heap.size+1):=Hd (by rw[hwA];simp)
 have HE:=Hd hE
 have LF:=Hd (fun(wx:World) (h:Bw w wx)=>Yhw wx (hE.on h))
 have LEN:=Hd (Xaa s)
 have Z0:=Hd z0
 clear hw0 hwA hE he11
 go_enter func12,ntmps12
 go_upto_region 1 with fail
 rw[←HA.o]
 clear HA
 go_upto_region 4 with fail
 rw[←HW.o,SA.o]
 clear HW SA
 have LF0:=Hd (LF.o w0 B0.o)
 obtain⟨fw,hfw⟩:=xq fwA
 have IX:Hid (∀j:Nat,j<11→∀w,(Instr.index 80 (.agg fw) (.int .i64 (j:Int))).run prog w=.ok (.string (Xaq (fWords.getD j []))) w):=Hd (fun j h w=>by rw[hfw];exact Yky w h)
 rw[←hfw] at LF0
 clear hfw LF
 go_wp2_with ((with_reducible refine Xac 80 rfl _ rfl ?_);refine⟨_,_,rfl,LF0.o,?_⟩)
 go_loopg [5,6,7,8,9,10,11,12,25] 11 (fun k vr v6 v7 v8 v9 v10 v11 v12 vi wr=>∃(j:Nat) (r:ByteArray) (vl:List ByteArray),j≤11∧k=11-j∧vr=.string r∧vi=.int .i64 (j:Int)∧r.size≤s.size∧Hid (∀cn:Cn,cn.Ok→Xc4 cn.p=0→Xa8 cn.p=bs s→bs r=tlF cn.p j∧(vl.take j).map bs=(Xaz cn.p).take j)∧Hid (vl.length=11∧∀v∈vl,v.size≤100000)∧Hid (wr.heap[w.heap.size+1]?=some (.cells (vl.map Value.string).toArray 80 (0,0)))∧Hid (wr.heap[w.heap.size]?=some (.cells zs 39 (0,0)))∧Hid (Bw w wr))
 case atStart=>exact⟨0,s,e11,by omega,rfl,rfl,rfl,zL _,Hd (fun cn h1 h2 h3=>⟨by rw[Ycp];exact h3.symm,rfl⟩),L0,V0,R0,B0⟩
 case round=>
  clear V0 R0 L0 LF0
  obtain⟨j,r,vl,hj,rfl,rfl,rfl,hrz,hlaw,hvl,hvb,hrb,hb⟩:=hrel
  by_cases hlt:j<11
  ·obtain⟨fj,hfj⟩:=xq (Xaq (fWords.getD j []))
   have ix:=IX.o j hlt
   rw[←hfj] at ix
   have fz:fj.size≤100:=by rw[hfj,Xan];exact Yk5 j hlt
   have FJ:Hid (bs fj=fWords.getD j []):=Hd (by rw[hfj];exact Xci _ (Ymu j hlt))
   have CU:=Hd (Xsq r 10 wr (by omega) (HE.o.on hb.o).mx)
   have k1:(j:Int)<11:=by omega
   have k0:(0:Int)≤(j:Int):=by omega
   have v1:IntKind.i64.wrap ((j:Int)+1)=(j:Int)+1:=IntWalk.i64_in _ (by omega)
   have v0:IntKind.i64.wrap (j:Int)=(j:Int):=IntWalk.i64_in _ (by omega)
   have d1:decide ((j:Int)<11)=true:=zT k1
   clear hfj
   go_wp2_with fail
   refine CU.o.mono ?_
   rintro e w1 ⟨ln,af,en,rfl,hln,haf,hen,hlz,hd⟩
   have afz:af.size≤r.size:=by
    have:=congrArg List.length haf
    rw[Xaa,List.length_drop,Xaa] at this;omega
   have CP:=Hd (Xuv ln (fj++⟨#[32]⟩) w1)
   have b1:Bw wr w1:=Dr.below hd
   have B1:=bh hb b1
   have R1:=Hd ((b1.block _ (zY hrb.o)).trans hrb.o)
   have V1:=Hd ((b1.block _ (zY hvb.o)).trans hvb.o)
   have LNL:Hid (∀cn:Cn,cn.Ok→Xc4 cn.p=0→Xa8 cn.p=bs s→en=true∧bs af=tlF cn.p (j+1)∧∃v,ln=(fj++⟨#[32]⟩)++v∧bs v=(Xaz cn.p).getD j []):=Hd (fun cn h1 h2 h3=>by
    obtain⟨q1,_⟩:=hlaw.o cn h1 h2 h3
    obtain⟨p1,p2,p3⟩:=Yh1 (Xsr h1) (Xe6 h2) hlt
    rw[←q1] at p1 p2 p3
    refine⟨by rw[hen];exact zT p3,by rw[haf];exact p2,Xaq ((Xaz cn.p).getD j []),?_,?_⟩
    ·refine Xg2 ?_
     have hv:∀x∈(Xaz cn.p).getD j [],x<256:=fun x hx=>Xgq ln x (by rw[hln];show x∈Xi2 10 (bs r);rw[p1];exact List.mem_append_right _ (List.mem_cons_of_mem _ hx))
     rw[hln]
     show Xi2 10 (bs r)=_
     rw[p1,Xgw,Xgw,FJ.o,Xci _ hv]
     simp[bs]
    ·exact Xci _ (fun x hx=>Xgq ln x (by rw[hln];show x∈Xi2 10 (bs r);rw[p1];exact List.mem_append_right _ (List.mem_cons_of_mem _ hx))))
   clear CU hln haf hen hd b1 ix hb hrb hvb
   go_wp2_with fail
   refine CP.o.mono ?_
   rintro e w2 ⟨x,ok,rfl,hxz,hcp,rfl⟩
   have STL:Hid (∀cn:Cn,cn.Ok→Xc4 cn.p=0→Xa8 cn.p=bs s→en=true∧ok=true∧bs af=tlF cn.p (j+1)∧bs x=(Xaz cn.p).getD j []):=Hd (fun cn h1 h2 h3=>by
    obtain⟨q1,q2,v,q3,q4⟩:=LNL.o cn h1 h2 h3
    obtain⟨q5,q6⟩:=hcp v q3
    exact⟨q1,q5,q2,by rw[q6];exact q4⟩)
   clear LNL hcp CP
   cases en
   ·have NOT:Hid (∀cn:Cn,cn.Ok→Xc4 cn.p=0→Xa8 cn.p≠bs s):=Hd (fun cn h1 h2 h3=>by have:=(STL.o cn h1 h2 h3).1;cases this)
    clear STL hlaw
    obtain⟨st,rs,bb,hin⟩:=Xiw w w2 zs Z0.o (R1.o) (B1.o)
    have ST:=Hd st;have RES:=Hd rs
    have POST:Hid (Xf3 s w (.returned (.tuple #[.agg (cn0.cells (.slice none 0 0) (.slice none 0 0)),.int .i64 3])) ((w2).setRow w.heap.size (cn0.cells (.slice none 0 0) (.slice none 0 0)))):=Hd ⟨cn0,.slice none 0 0,.slice none 0 0,3,rfl,hin,.inr ⟨rfl,rfl,rfl,rfl,NOT.o⟩,bb⟩
    clear st rs bb hin NOT
    obtain⟨zc,hzc⟩:=xq (cn0.cells (.slice none 0 0) (.slice none 0 0))
    rw[←hzc] at ST RES POST
    have BK:Hid (∀w,(Instr.build 39 #[]).run prog w=.ok (.agg zc) w):=Hd (fun w=>by rw[hzc];kernel_rfl)
    clear hzc
    go_wp2_with (first|((with_reducible refine Xaf 39 rfl rfl ?_);refine⟨_,BK.o _,?_⟩)|((with_reducible refine Xab 39 rfl _ _ rfl ?_);refine⟨_,_,_,rfl,rfl,ST.o,?_⟩))
    exact zP (RES.o _ rfl) rfl POST.o
   cases ok
   ·have NOT:Hid (∀cn:Cn,cn.Ok→Xc4 cn.p=0→Xa8 cn.p≠bs s):=Hd (fun cn h1 h2 h3=>by have:=(STL.o cn h1 h2 h3).2.1;cases this)
    clear STL hlaw
    obtain⟨st,rs,bb,hin⟩:=Xiw w w2 zs Z0.o (R1.o) (B1.o)
    have ST:=Hd st;have RES:=Hd rs
    have POST:Hid (Xf3 s w (.returned (.tuple #[.agg (cn0.cells (.slice none 0 0) (.slice none 0 0)),.int .i64 3])) ((w2).setRow w.heap.size (cn0.cells (.slice none 0 0) (.slice none 0 0)))):=Hd ⟨cn0,.slice none 0 0,.slice none 0 0,3,rfl,hin,.inr ⟨rfl,rfl,rfl,rfl,NOT.o⟩,bb⟩
    clear st rs bb hin NOT
    obtain⟨zc,hzc⟩:=xq (cn0.cells (.slice none 0 0) (.slice none 0 0))
    rw[←hzc] at ST RES POST
    have BK:Hid (∀w,(Instr.build 39 #[]).run prog w=.ok (.agg zc) w):=Hd (fun w=>by rw[hzc];kernel_rfl)
    clear hzc
    go_wp2_with (first|((with_reducible refine Xaf 39 rfl rfl ?_);refine⟨_,BK.o _,?_⟩)|((with_reducible refine Xab 39 rfl _ _ rfl ?_);refine⟨_,_,_,rfl,rfl,ST.o,?_⟩))
    exact zP (RES.o _ rfl) rfl POST.o
   have jl:j<vl.length:=by rw[hvl.o.1];exact hlt
   have hcell:w2.cell? ⟨w.heap.size+1,j,none⟩=some (.string vl[j]):=by rw[cell_of_row w2 _ j _ _ _ V1.o];simp[jl]
   have hfr:w2.frozen? ⟨w.heap.size+1,j,none⟩=false:=by have:=V1.o;simp[World.frozen?,this]
   have V2:Hid ((w2.setCell ⟨w.heap.size+1,j,none⟩ (.string x)).heap[w.heap.size+1]?=some (.cells ((vl.set j x).map Value.string).toArray 80 (0,0))):=Hd (by
    have:=Xd8 V1.o j (.string x)
    rw[List.setIfInBounds_toArray,←List.map_set] at this;exact this)
   have R2:Hid ((w2.setCell ⟨w.heap.size+1,j,none⟩ (.string x)).heap[w.heap.size]?=some (.cells zs 39 (0,0))):=Hd (by
    rw[Below.heap_setCell _ _ _ _ (show w.heap.size≠w.heap.size+1 by omega)];exact R1.o)
   have B2:=Hd (B1.o.setCell (p:=⟨w.heap.size+1,j,none⟩) (Nat.le_succ _) (.string x))
   have VL2:Hid ((vl.set j x).length=11∧∀v∈vl.set j x,v.size≤100000):=Hd ⟨by rw[List.length_set];exact hvl.o.1,fun v hv=>by
    rcases List.mem_or_eq_of_mem_set hv with h|h
    ·exact hvl.o.2 v h
    ·rw[h];omega⟩
   have LAW2:Hid (∀cn:Cn,cn.Ok→Xc4 cn.p=0→Xa8 cn.p=bs s→bs af=tlF cn.p (j+1)∧((vl.set j x).take (j+1)).map bs=(Xaz cn.p).take (j+1)):=Hd (fun cn h1 h2 h3=>by
    obtain⟨_,_,q3,q4⟩:=STL.o cn h1 h2 h3
    obtain⟨_,q5⟩:=hlaw.o cn h1 h2 h3
    refine⟨q3,?_⟩
    have jf:j<(Xaz cn.p).length:=by simp[Xaz];omega
    rw[List.take_succ_eq_append_getElem (by rw[List.length_set];exact jl),List.take_succ_eq_append_getElem jf,List.take_set_of_le (zL _),List.map_append,q5]
    simp[q4,List.getD,jf])
   have afz2:af.size≤s.size:=by omega
   clear STL hlaw hvl V1 R1 B1 hxz afz hlz hrz
   go_wp2_with fail
   go_roundg (11-(j+1))
   case measure=>omega
   case rel=>exact⟨j+1,af,vl.set j x,by omega,rfl,rfl,by go_num,afz2,LAW2,VL2,V2,R2,B2⟩
  ·obtain rfl:j=11:=by omega
   have d1:decide ((11:Int)<11)=false:=by decide
   have CP:=Hd (Xuv r ⟨#[10]⟩ wr)
   have LAWE:Hid (∀cn:Cn,cn.Ok→Xc4 cn.p=0→Xa8 cn.p=bs s→r=(⟨#[10]⟩:ByteArray)++cn.body∧vl.map bs=Xaz cn.p):=Hd (fun cn h1 h2 h3=>by
    obtain⟨q1,q2⟩:=hlaw.o cn h1 h2 h3
    rw[Yg1] at q1
    refine⟨Xg2 (by rw[q1,Xgw];rfl),?_⟩
    rw[List.take_of_length_le (by rw[hvl.o.1];exact zL _),List.take_of_length_le (by simp[Xaz])] at q2
    exact q2)
   clear hlaw IX
   go_wp2_with fail
   refine CP.o.mono ?_
   rintro e w2 ⟨bo,ok,rfl,hbz,hcp,rfl⟩
   have LAWB:Hid (∀cn:Cn,cn.Ok→Xc4 cn.p=0→Xa8 cn.p=bs s→ok=true∧FvGood cn vl bo):=Hd (fun cn h1 h2 h3=>by
    obtain⟨q1,q2⟩:=LAWE.o cn h1 h2 h3
    obtain⟨q3,q4⟩:=hcp cn.body q1
    exact⟨q3,h1,h2,q2,q4⟩)
   clear hcp CP LAWE
   cases ok
   ·have NOT:Hid (∀cn:Cn,cn.Ok→Xc4 cn.p=0→Xa8 cn.p≠bs s):=Hd (fun cn h1 h2 h3=>by have:=(LAWB.o cn h1 h2 h3).1;cases this)
    clear LAWB
    obtain⟨st,rs,bb,hin⟩:=Xiw w w2 zs Z0.o (hrb.o) (hb.o)
    have ST:=Hd st;have RES:=Hd rs
    have POST:Hid (Xf3 s w (.returned (.tuple #[.agg (cn0.cells (.slice none 0 0) (.slice none 0 0)),.int .i64 3])) ((w2).setRow w.heap.size (cn0.cells (.slice none 0 0) (.slice none 0 0)))):=Hd ⟨cn0,.slice none 0 0,.slice none 0 0,3,rfl,hin,.inr ⟨rfl,rfl,rfl,rfl,NOT.o⟩,bb⟩
    clear st rs bb hin NOT
    obtain⟨zc,hzc⟩:=xq (cn0.cells (.slice none 0 0) (.slice none 0 0))
    rw[←hzc] at ST RES POST
    have BK:Hid (∀w,(Instr.build 39 #[]).run prog w=.ok (.agg zc) w):=Hd (fun w=>by rw[hzc];kernel_rfl)
    clear hzc
    go_wp2_with (first|((with_reducible refine Xaf 39 rfl rfl ?_);refine⟨_,BK.o _,?_⟩)|((with_reducible refine Xab 39 rfl _ _ rfl ?_);refine⟨_,_,_,rfl,rfl,ST.o,?_⟩))
    exact zP (RES.o _ rfl) rfl POST.o
   obtain⟨v0,v1,v2,v3,v4,v5,v6,v7,v8,v9,v10,rfl⟩:=Ykm hvl.o.1
   have LD:=Hd (run_loadVar_row (P:=prog) w2 (w.heap.size+1) _ 80 _ _ _ hvb.o underlying80 rfl Ycv)
   have FV:=Hd (Yk7 w2 v0 v1 v2 v3 v4 v5 v6 v7 v8 v9 v10 bo hvl.o.2 (by omega) (HE.o.on hb.o))
   have R2:=hrb;have B2:=hb
   clear hvl hvb hrb hb
   go_wp2_with ((with_reducible refine Xac 80 rfl _ rfl ?_);refine⟨_,_,rfl,LD.o,?_⟩)
   refine FV.o.mono ?_
   rintro e w3 ⟨c,gv,rv,z,rfl,hin,hgood,hgo,hro,hb3⟩
   obtain⟨w4,hw4⟩:=xq (w3.alloc (.cells (c.cells gv rv) 39))
   have hb4:Bw w3 w4:=by rw[hw4];exact(zR _ _).alloc (zL _) _
   have R3:=(hb3.block _ (zY R2.o)).trans R2.o
   have R4:=Hd ((hb4.block _ (zY R3)).trans R3)
   have B3:=bg B2.o hb3
   have B4:=Hd (bg B3 hb4)
   have IN4:=Hd (hin.on hb4)
   have OK:=hin.ok
   have GRO:Hid ((∀k,gv.ownBlock=some k→w.heap.size<k)∧∀k,rv.ownBlock=some k→w.heap.size<k):=Hd ⟨fun k hk=>by have:=hgo k hk;have:=zY R2.o;omega,fun k hk=>by have:=hro k hk;have:=zY R2.o;omega⟩
   have LAWC:Hid (∀cn:Cn,cn.Ok→Xc4 cn.p=0→Xa8 cn.p=bs s→z=0∧c.p=cn.p):=Hd (fun cn h1 h2 h3=>hgood cn (LAWB.o cn h1 h2 h3).2)
   obtain⟨cs,hcs⟩:=xq (c.cells gv rv)
   have CSZ:Hid (cs.size=75):=Hd (by rw[hcs];exact Xa2 OK _ _)
   have ONE:Hid (cs.all (·.oneCell')=true):=Hd (by
    rw[hcs]
    obtain⟨_,_,e1,_⟩:=hin.srow
    obtain⟨_,_,e2,_⟩:=hin.irow
    exact Xch _ _ _ (by rw[e1];rfl) (by rw[e2];rfl))
   have STN:Hid (Sv 39 ⟨w3.heap.size,0,none⟩ (.agg cs) (w3.alloc (.cells (Tryz.zeroCells39) 39)) w4):=Hd (by
    rw[hw4,←hcs]
    exact run_storeVar_new w3 39 _ cs (by rw[CSZ.o];exact Xbg) (by rw[CSZ.o];kernel_rfl) ONE.o)
   have Q4:Hid (w4.heap[w3.heap.size]?=some (.cells cs 39 (0,0))):=Hd (by rw[hw4,←hcs];exact heap_alloc_last w3 _)
   have GW:Hid (w.heap.size<w3.heap.size):=Hd (zY R3)
   rw[←hcs]
   have HCS:=Hd hcs
   clear hb3 hb4 R3 B3 hin hgood hgo hro hcs hw4 LAWB R2 B2 FV LD
   go_upto_region 18 with((with_reducible refine Xab 39 rfl _ _ rfl ?_);refine⟨_,_,_,rfl,rfl,STN.o,?_⟩)
   clear STN
   obtain⟨g,hg⟩:=xq w3.heap.size
   rw[←hg] at Q4 GW⊢
   clear hg
   by_cases hz:z≠0
   ·have q1:(z !=0)=true:=by simpa using hz
    have NOT:Hid (∀cn:Cn,cn.Ok→Xc4 cn.p=0→Xa8 cn.p≠bs s):=Hd (fun cn h1 h2 h3=>hz (LAWC.o cn h1 h2 h3).1)
    clear LAWC
    obtain⟨st,rs,bb,hin⟩:=Xiw w w4 zs Z0.o (R4.o) (B4.o)
    have ST:=Hd st;have RES:=Hd rs
    have POST:Hid (Xf3 s w (.returned (.tuple #[.agg (cn0.cells (.slice none 0 0) (.slice none 0 0)),.int .i64 3])) ((w4).setRow w.heap.size (cn0.cells (.slice none 0 0) (.slice none 0 0)))):=Hd ⟨cn0,.slice none 0 0,.slice none 0 0,3,rfl,hin,.inr ⟨rfl,rfl,rfl,rfl,NOT.o⟩,bb⟩
    clear st rs bb hin NOT
    obtain⟨zc,hzc⟩:=xq (cn0.cells (.slice none 0 0) (.slice none 0 0))
    rw[←hzc] at ST RES POST
    have BK:Hid (∀w,(Instr.build 39 #[]).run prog w=.ok (.agg zc) w):=Hd (fun w=>by rw[hzc];kernel_rfl)
    clear hzc
    go_wp2_with (first|((with_reducible refine Xaf 39 rfl rfl ?_);refine⟨_,BK.o _,?_⟩)|((with_reducible refine Xab 39 rfl _ _ rfl ?_);refine⟨_,_,_,rfl,rfl,ST.o,?_⟩))
    exact zP (RES.o _ rfl) rfl POST.o
   have hz0:z=0:=by simpa using hz
   subst hz0
   clear hz
   have FMX:=Hd (Xjw w4 c gv rv IN4.o (fun h0=>Xm0 IN4.o.ok (by have:=Xpz (Xlp h0).1;have e:c.p.groups.length=c.groups.length:=List.length_map ..;omega) (Xxv (Xe6 h0) (Xpz (Xlp h0).1)) (by have:=(Xyr (Xlp h0).2.1).1;show c.refs.length≤30;have e:c.p.refs.length=c.refs.length:=rfl;omega) (by have:=IN4.o.name;have:=IN4.o.subject;have:=IN4.o.ctl;have:=IN4.o.dist;omega) IN4.o.body h0) (HE.o.on B4.o))
   obtain⟨k,hk⟩:=xq (Xc4 c.p)
   obtain⟨S,hS⟩:=xq (Xaq (if Xc4 c.p=0 then Xa8 c.p else[]))
   unfold Yji at FMX
   rw[←hk,←HCS.o] at FMX
   rw[hk,←hS,←hk] at FMX
   have LD4:=Hd (run_loadVar_row (P:=prog) w4 g _ 39 _ _ _ Q4.o underlying39 rfl (by rw[CSZ.o];exact Xbg))
   have HK:=Hd hk;have HS:=Hd hS
   clear hk hS
   go_upto_region 20 with fail
   refine wp_region_list ?_
   simp only[]
   refine Xac 39 rfl _ rfl ⟨_,_,rfl,LD4.o,?_⟩
   go_wp2_with fail
   refine FMX.o.mono ?_
   rintro e w5 ⟨rfl,hb5⟩
   have R5:=Hd ((hb5.block _ (zY R4.o)).trans R4.o)
   have B5:=bh B4 hb5
   have Q5:=Hd ((hb5.block _ (zY Q4.o)).trans Q4.o)
   have IN5:=Hd (IN4.o.on hb5)
   clear FMX hb5 LD4 R4 B4 Q4
   by_cases hk0:k≠0
   ·have q1:((k:Int) !=0)=true:=Xam (by omega)
    have NOT:Hid (∀cn:Cn,cn.Ok→Xc4 cn.p=0→Xa8 cn.p≠bs s):=Hd (fun cn h1 h2 h3=>hk0 (by rw[HK.o,(LAWC.o cn h1 h2 h3).2];exact h2))
    clear LAWC hk0
    obtain⟨st,rs,bb,hin⟩:=Xiw w w5 zs Z0.o (R5.o) (B5.o)
    have ST:=Hd st;have RES:=Hd rs
    have POST:Hid (Xf3 s w (.returned (.tuple #[.agg (cn0.cells (.slice none 0 0) (.slice none 0 0)),.int .i64 3])) ((w5).setRow w.heap.size (cn0.cells (.slice none 0 0) (.slice none 0 0)))):=Hd ⟨cn0,.slice none 0 0,.slice none 0 0,3,rfl,hin,.inr ⟨rfl,rfl,rfl,rfl,NOT.o⟩,bb⟩
    clear st rs bb hin NOT
    obtain⟨zc,hzc⟩:=xq (cn0.cells (.slice none 0 0) (.slice none 0 0))
    rw[←hzc] at ST RES POST
    have BK:Hid (∀w,(Instr.build 39 #[]).run prog w=.ok (.agg zc) w):=Hd (fun w=>by rw[hzc];kernel_rfl)
    clear hzc
    go_wp2_with (first|((with_reducible refine Xaf 39 rfl rfl ?_);refine⟨_,BK.o _,?_⟩)|((with_reducible refine Xab 39 rfl _ _ rfl ?_);refine⟨_,_,_,rfl,rfl,ST.o,?_⟩))
    exact zP (RES.o _ rfl) rfl POST.o
   have k00:k=0:=by simpa using hk0
   have q1:((k:Int) !=0)=false:=Xau (by omega)
   have H0:Hid (Xc4 c.p=0):=Hd (by rw[←HK.o];exact k00)
   have SF:Hid (S=Xaq (Xa8 c.p)):=Hd (by rw[HS.o,qP H0.o])
   clear hk0 k00 HK
   by_cases hss:S=s
   ·have q2:(S.toList==s.toList)=true:=by rw[hss];exact beq_self_eq_true _
    obtain⟨st,rs,bb⟩:=Xux w w5 cs CSZ.o ONE.o (by rw[←Z0.o];exact R5.o) B5.o
    have ST:=Hd st;have RES:=Hd rs
    have fr:Fr1 w.heap.size w5 (w5.setRow w.heap.size cs):=⟨rfl,rfl,rfl,by simp[World.setRow],fun k _ hne=>setRow_other w5 w.heap.size k cs hne⟩
    have LD5:=Hd (run_loadVar_row (P:=prog) w5 g _ 39 _ _ _ Q5.o underlying39 rfl (by rw[CSZ.o];exact Xbg))
    have POST:Hid (Xf3 s w (.returned (.tuple #[.agg cs,.int .i64 0])) (w5.setRow w.heap.size cs)):=Hd ⟨c,gv,rv,0,by rw[HCS.o],⟨IN5.o.ok,IN5.o.name,IN5.o.subject,IN5.o.ctl,IN5.o.dist,IN5.o.body,IN5.o.gl,IN5.o.gz,IN5.o.rl,IN5.o.srow.fr fr (fun k hk=>by have:=GRO.o.1 k hk;omega),IN5.o.irow.fr fr (fun k hk=>by have:=GRO.o.2 k hk;omega)⟩,.inl ⟨rfl,H0.o,by rw[←SF.o];exact hss⟩,bb⟩
    clear st rs bb fr hss
    go_upto_region 23 with fail
    refine wp_region_list ?_
    simp only[]
    refine Xac 39 rfl _ rfl ⟨_,_,rfl,LD5.o,?_⟩
    go_wp2_with ((with_reducible refine Xab 39 rfl _ _ rfl ?_);refine⟨_,_,_,rfl,rfl,ST.o,?_⟩)
    exact zP (RES.o _ rfl) rfl POST.o
   ·have q2:(S.toList==s.toList)=false:=by
       rw[beq_eq_false_iff_ne,ByteArray.toList_eq,ByteArray.toList_eq]
       exact fun h=>hss (ByteArray.ext (Array.toList_inj.1 h))
    have NOT:Hid (∀cn:Cn,cn.Ok→Xc4 cn.p=0→Xa8 cn.p≠bs s):=Hd (fun cn h1 h2 h3=>hss (by rw[SF.o,(LAWC.o cn h1 h2 h3).2,h3,Xd3]))
    clear LAWC hss
    obtain⟨st,rs,bb,hin⟩:=Xiw w w5 zs Z0.o (R5.o) (B5.o)
    have ST:=Hd st;have RES:=Hd rs
    have POST:Hid (Xf3 s w (.returned (.tuple #[.agg (cn0.cells (.slice none 0 0) (.slice none 0 0)),.int .i64 3])) ((w5).setRow w.heap.size (cn0.cells (.slice none 0 0) (.slice none 0 0)))):=Hd ⟨cn0,.slice none 0 0,.slice none 0 0,3,rfl,hin,.inr ⟨rfl,rfl,rfl,rfl,NOT.o⟩,bb⟩
    clear st rs bb hin NOT
    obtain⟨zc,hzc⟩:=xq (cn0.cells (.slice none 0 0) (.slice none 0 0))
    rw[←hzc] at ST RES POST
    have BK:Hid (∀w,(Instr.build 39 #[]).run prog w=.ok (.agg zc) w):=Hd (fun w=>by rw[hzc];kernel_rfl)
    clear hzc
    go_wp2_with (first|((with_reducible refine Xaf 39 rfl rfl ?_);refine⟨_,BK.o _,?_⟩)|((with_reducible refine Xab 39 rfl _ _ rfl ?_);refine⟨_,_,_,rfl,rfl,ST.o,?_⟩))
    exact zP (RES.o _ rfl) rfl POST.o
def ldN (c:Nat):Nat:=if c<128 then 1 else if 192≤c∧c<224 then 2 else if 224≤c∧c<240 then 3 else if 240≤c∧c<248 then 4 else 0
def ldV (c:Nat):Nat:=if c<128 then c else if 192≤c∧c<224 then c-192 else if 224≤c∧c<240 then c-224 else if 240≤c∧c<248 then c-240 else 0
def bgV (l:List Nat)(k:Nat):Nat:=((l.take k).drop 1).foldl (fun v x=>64*v+(x-128)) (ldV (l.getD 0 0))
def bgC (l:List Nat)(k:Nat):Bool:=((l.take k).drop 1).all (fun x=>decide (128≤x)&&decide (x≤191))
def Xht (n:Nat):Nat:=[0,0,128,2048,65536].getD n 0
def Xn0 (n:Nat):Nat:=[0,127,2047,65535,1114111].getD n 0
def Yiz (l:List Nat):Nat:=max (bgV l l.length*64^(ldN (l.getD 0 0)-l.length)) (Xht (ldN (l.getD 0 0)))
def Yi0 (l:List Nat):Nat:=min ((bgV l l.length+1)*64^(ldN (l.getD 0 0)-l.length)-1) (Xn0 (ldN (l.getD 0 0)))
def bgB (l:List Nat):Bool:=
 decide (ldN (l.getD 0 0)≠0)&&decide (l.length≤ldN (l.getD 0 0))&&bgC l l.length&&!(decide (55296≤Yiz l)&&decide (Yi0 l≤57343))&&decide (Yiz l≤Yi0 l)
theorem Yiy (l:List Nat):bgV l 1=ldV (l.getD 0 0):=by
 cases l<;>simp[bgV]
theorem Yi1 (l:List Nat):bgC l 1=true:=by
 cases l<;>simp[bgC]
theorem Xfy (l:List Nat)(n:Nat)(h1:1≤n)(h:n<l.length):(l.take (n+1)).drop 1=(l.take n).drop 1++[l.getD n 0]:=by
 rw[List.take_succ_eq_append_getElem h,List.drop_append_of_le_length (by rw[List.length_take];omega)]
 simp[List.getD,h]
theorem Yfb (l:List Nat)(n:Nat)(h1:1≤n)(h:n<l.length):bgV l (n+1)=64*bgV l n+(l.getD n 0-128):=by
 unfold bgV
 rw[Xfy l n h1 h,List.foldl_append]
 rfl
theorem Yfc (l:List Nat)(n:Nat)(h1:1≤n)(h:n<l.length):bgC l (n+1)=(bgC l n&&(decide (128≤l.getD n 0)&&decide (l.getD n 0≤191))):=by
 unfold bgC
 rw[Xfy l n h1 h,List.all_append]
 simp
theorem Xu1 (l:List Nat)(n:Nat)(h1:1≤n)(h:n<l.length)(hx:l.getD n 0<128∨191<l.getD n 0):bgC l l.length=false:=by
 unfold bgC
 rw[List.all_eq_false]
 refine⟨l.getD n 0,?_,?_⟩
 ·rw[List.take_length,List.mem_drop_iff_getElem]
  refine⟨n-1,by omega,?_⟩
  simp[List.getD,h,show 1+(n-1)=n by omega]
 ·simp only[Bool.and_eq_true,decide_eq_true_eq];omega
theorem Xc5 (f i c:Nat):Xg1 f i c=true↔(128≤c∧c≤191∧(i=1→(f=224→160≤c)∧(f=240→144≤c)∧(f=237→c≤159)∧(f=244→c≤143))):=by
 unfold Xg1
 simp only[Bool.and_eq_true,decide_eq_true_eq]
 by_cases h1:i=1
 ·subst h1
  simp only[true_and,true_implies]
  (repeat' split)<;>omega
 ·rw[qN (fun h=>h1 h.1),qN (fun h=>h1 h.1),qN (fun h=>h1 h.1),qN (fun h=>h1 h.1)]
  simp only[h1,false_implies,and_true]
theorem Ylq:∀c,c<256→(bgB [c]=decide (Xgi c≠0))∧(Xgi c≠0→ldN c=Xgi c):=by decide+kernel
theorem Xvj {c:Nat}:(Xgi c=1→c≤127)∧(Xgi c=2→194≤c∧c≤223)∧(Xgi c=3→224≤c∧c≤239)∧(Xgi c=4→240≤c∧c≤244):=by
 unfold Xgi
 (repeat' split)<;>omega
theorem Yix (l:List Nat)(hb:∀x∈l,x<256)(h0:Xgi (l.getD 0 0)≠0)(hl:l.length=Xgi (l.getD 0 0)):bgB l=Xb7 l∧(Xb7 l=true→bgV l l.length=cpt l):=by
 have hu:=Xvj (c:=l.getD 0 0)
 match l,hb,h0,hl,hu with
 |[],_,_,hl,_=>simp[Xgi] at hl
 |[a],hb,h0,hl,hu=>
  simp only[List.getD_cons_zero,List.length_cons,List.length_nil,Nat.zero_add] at*
  have ha:=hu.1 hl.symm
  have e1:ldN a=1:=by unfold ldN;rw[qP (by omega)]
  have e2:ldV a=a:=by unfold ldV;rw[qP (by omega)]
  have hw:Xb7 [a]=true:=by rw[Xca];simp[←hl];omega
  refine⟨?_,fun _=>?_⟩
  ·rw[hw]
   simp[bgB,Yiz,Yi0,bgV,bgC,e1,e2,Xht,Xn0]
   omega
  ·simp[cpt,bgV,e2,(Xfr hw).1,←hl]
 |[a,b],hb,h0,hl,hu=>
  simp only[List.getD_cons_zero,List.length_cons,List.length_nil,Nat.zero_add] at*
  have ha:=hu.2.1 hl.symm
  have e1:ldN a=2:=by unfold ldN;rw[qN (by omega),qP (by omega)]
  have e2:ldV a=a-192:=by unfold ldV;rw[qN (by omega),qP (by omega)]
  have hw:Xb7 [a,b]=true↔128≤b∧b≤191:=by
   rw[Xca]
   simp only[List.getD_cons_zero,List.length_cons,List.length_nil,Nat.zero_add,←hl]
   constructor
   ·rintro⟨_,_,h⟩
    have:=h 1 (by omega) (by omega)
    simp[Xc5] at this
    omega
   ·intro h
    refine⟨by omega,by omega,fun i h1 h2=>?_⟩
    obtain rfl:i=1:=by omega
    simp[Xc5]
    omega
  refine⟨?_,fun h=>?_⟩
  ·rw[Bool.eq_iff_iff,hw]
   simp[bgB,Yiz,Yi0,bgV,bgC,e1,e2,Xht,Xn0]
   omega
  ·have:=hw.1 h
   simp[cpt,bgV,e2,(Xfr h).1,←hl]
   omega
 |[a,b,c],hb,h0,hl,hu=>
  simp only[List.getD_cons_zero,List.length_cons,List.length_nil,Nat.zero_add] at*
  have ha:=hu.2.2.1 hl.symm
  have e1:ldN a=3:=by unfold ldN;rw[qN (by omega),qN (by omega),qP (by omega)]
  have e2:ldV a=a-224:=by unfold ldV;rw[qN (by omega),qN (by omega),qP (by omega)]
  have hw:Xb7 [a,b,c]=true↔128≤b∧b≤191∧128≤c∧c≤191∧(a=224→160≤b)∧(a=237→b≤159):=by
   rw[Xca]
   simp only[List.getD_cons_zero,List.length_cons,List.length_nil,Nat.zero_add,←hl]
   constructor
   ·rintro⟨_,_,h⟩
    have h1:=h 1 (by omega) (by omega)
    have h2:=h 2 (by omega) (by omega)
    simp[Xc5] at h1 h2
    omega
   ·intro h
    refine⟨by omega,by omega,fun i h1 h2=>?_⟩
    rcases(by omega:i=1∨i=2) with rfl|rfl
    ·simp[Xc5]
     omega
    ·simp[Xc5]
     omega
  refine⟨?_,fun h=>?_⟩
  ·rw[Bool.eq_iff_iff,hw]
   simp[bgB,Yiz,Yi0,bgV,bgC,e1,e2,Xht,Xn0]
   omega
  ·have:=hw.1 h
   simp[cpt,bgV,e2,(Xfr h).1,←hl]
   omega
 |[a,b,c,d],hb,h0,hl,hu=>
  simp only[List.getD_cons_zero,List.length_cons,List.length_nil,Nat.zero_add] at*
  have ha:=hu.2.2.2 hl.symm
  have e1:ldN a=4:=by unfold ldN;rw[qN (by omega),qN (by omega),qN (by omega),qP (by omega)]
  have e2:ldV a=a-240:=by unfold ldV;rw[qN (by omega),qN (by omega),qN (by omega),qP (by omega)]
  have hw:Xb7 [a,b,c,d]=true↔128≤b∧b≤191∧128≤c∧c≤191∧128≤d∧d≤191∧(a=240→144≤b)∧(a=244→b≤143):=by
   rw[Xca]
   simp only[List.getD_cons_zero,List.length_cons,List.length_nil,Nat.zero_add,←hl]
   constructor
   ·rintro⟨_,_,h⟩
    have h1:=h 1 (by omega) (by omega)
    have h2:=h 2 (by omega) (by omega)
    have h3:=h 3 (by omega) (by omega)
    simp[Xc5] at h1 h2 h3
    omega
   ·intro h
    refine⟨by omega,by omega,fun i h1 h2=>?_⟩
    rcases(by omega:i=1∨i=2∨i=3) with rfl|rfl|rfl
    ·simp[Xc5]
     omega
    ·simp[Xc5]
     omega
    ·simp[Xc5]
     omega
  refine⟨?_,fun h=>?_⟩
  ·rw[Bool.eq_iff_iff,hw]
   simp[bgB,Yiz,Yi0,bgV,bgC,e1,e2,Xht,Xn0]
   omega
  ·have:=hw.1 h
   simp[cpt,bgV,e2,(Xfr h).1,←hl]
   omega
 |a::b::c::d::e::l,_,_,hl,_=>
  have:=Xj9 ((a::b::c::d::e::l).getD 0 0)
  rw[←hl] at this
  simp at this
theorem Yeq (l:List Nat)(hb:∀x∈l,x<256)(n:Nat)(hn:n=Xgi (l.getD 0 0))(h0:n≠0)(hl:n≤l.length):
    bgB (l.take n)=decide (rn l≠0)∧(rn l≠0→bgV (l.take n) n=cpt l∧rn l=n):=by
 have hg:∀i,i<n→(l.take n).getD i 0=l.getD i 0:=fun i hi=>by simp[List.getD,hi]
 have g0:=hg 0 (by omega)
 have hlen:(l.take n).length=n:=by rw[List.length_take];omega
 have hw:Xb7 (l.take n)=Xb7 l:=by
  rw[Bool.eq_iff_iff,Xca,Xca,g0,hlen,←hn]
  constructor
  ·rintro⟨a,b,c⟩
   exact⟨a,hl,fun i h1 h2=>by rw[←hg i h2];exact c i h1 h2⟩
  ·rintro⟨a,b,c⟩
   exact⟨a,zL _,fun i h1 h2=>by rw[hg i h2];exact c i h1 h2⟩
 obtain⟨h1,h2⟩:=Yix (l.take n) (fun x hx=>hb x (List.mem_of_mem_take hx)) (by rw[g0];omega) (by rw[g0,hlen,hn])
 rw[hw] at h1 h2
 refine⟨?_,fun hr=>?_⟩
 ·rw[h1,Bool.eq_iff_iff,decide_eq_true_eq,rn_ne]
 ·have hwt:=rn_ne.1 hr
  have e1:rn l=n:=by rw[(Xfr hwt).1,hn]
  have e2:rn (l.take n)=n:=by rw[(Xfr (hw.trans hwt)).1,g0,hn]
  have h3:=h2 hwt
  rw[hlen] at h3
  refine⟨h3.trans ?_,e1⟩
  unfold cpt
  rw[e1,e2,g0,List.take_take,Nat.min_self]
theorem Yc6 (l:List Nat)(h:l.length<Xgi (l.getD 0 0)):rn l=0:=Xkl (Xjp l (fun h'=>by omega))
theorem Yc7 (l:List Nat)(h:Xgi (l.getD 0 0)=0):rn l=0:=Xkl (Xjp l (fun h'=>h'.1 h))
theorem Yd6 (w:World)(c:Nat)(hc:c<256):Rx 218 #[.int .u8 (c:Int)] w (.tuple #[.int .i64 (ldN c:Int),.int .i64 (ldV c:Int)]):=by
 have hk:c<128∨(128≤c∧c<192)∨(192≤c∧c<224)∨(224≤c∧c<240)∨(240≤c∧c<248)∨248≤c:=by omega
 have e0:ldN c=if c<128 then 1 else if 192≤c∧c<224 then 2 else if 224≤c∧c<240 then 3 else if 240≤c∧c<248 then 4 else 0:=rfl
 have e1:ldV c=if c<128 then c else if 192≤c∧c<224 then c-192 else if 224≤c∧c<240 then c-224 else if 240≤c∧c<248 then c-240 else 0:=rfl
 have E0:=Hd e0;have E1:=Hd e1
 clear e0 e1
 rcases hk with h|⟨h,h2⟩|⟨h,h2⟩|⟨h,h2⟩|⟨h,h2⟩|h
 all_goals
  go_enter func218,ntmps218
  go_wp2_with fail
  go_ret2
  refine⟨?_,rfl⟩
  rw[E0.o,E1.o]
  first
   |rw[qP (by omega),qP (by omega)];rfl
   |rw[qN (by omega),qP (by omega),qN (by omega),qP (by omega)];simp;omega
   |rw[qN (by omega),qN (by omega),qP (by omega),qN (by omega),qN (by omega),qP (by omega)];simp;omega
   |rw[qN (by omega),qN (by omega),qN (by omega),qP (by omega),qN (by omega),qN (by omega),qN (by omega),qP (by omega)];simp;omega
   |rw[qN (by omega),qN (by omega),qN (by omega),qN (by omega),qN (by omega),qN (by omega),qN (by omega),qN (by omega)];rfl
theorem Xzj (w:World)(n:Nat)(hn:n≤4):zJ 219 #[.int .i64 (n:Int)] w (.int .i64 (Xht n:Int)):=by
 rcases(by omega:n=0∨n=1∨n=2∨n=3∨n=4) with rfl|rfl|rfl|rfl|rfl
 all_goals
  go_enter func219,ntmps219
  go_wp2_with fail
  go_ret
  exact⟨rfl,(zR _ _).alloc (zL _) _⟩
theorem Ydx (w:World)(n:Nat)(hn:n≤4):zJ 220 #[.int .i64 (n:Int)] w (.int .i64 (Xn0 n:Int)):=by
 rcases(by omega:n=0∨n=1∨n=2∨n=3∨n=4) with rfl|rfl|rfl|rfl|rfl
 all_goals
  go_enter func220,ntmps220
  go_wp2_with fail
  go_ret
  exact⟨rfl,(zR _ _).alloc (zL _) _⟩
theorem Xt2 (w:World)(n:Nat):Rx 68 #[.int .i64 (n:Int)] w (.bool (Xuw n)):=by
 obtain⟨b,hb⟩:=xq (Xuw n)
 rw[←hb]
 have HB:=Hd hb
 clear hb
 rcases(by omega:n<32∨(32≤n∧n<127)∨(127≤n∧n≤159)∨(n=8232)∨(n=8233)∨(159<n∧n≠8232∧n≠8233)) with h|⟨h,h2⟩|⟨h,h2⟩|rfl|rfl|⟨h,h2,h3⟩
 all_goals
  try have q1:((n:Int)==8232)=false:=Xaj (by omega)
  try have q2:((n:Int)==8233)=false:=Xaj (by omega)
  go_enter func68,ntmps68
  go_wp2_with fail
  go_ret
  exact⟨Xa0 (by rw[HB.o,Bool.eq_iff_iff];simp[Xuw];try omega),rfl⟩
theorem Xhc (s:ByteArray)(w:World)(q:Int)(k:Nat)(hq:q=(k:Int))(hk:k<s.size)(x:Nat)(hx:x=(bs s).getD k 0):
    (Instr.index 9 (.string s) (.int .i64 q)).run prog w=.ok (.int .u8 (x:Int)) w:=by
 rw[Xa5 9 underlying9 s .i64 q k hq hk,hx]
def Xvb (l:List Nat)(w:World)(e:Ending)(w':World):Prop:=
 ∃n v:Nat,e=.returned (.tuple #[.bool (bgB l),.int .i64 (n:Int),.int .i64 (v:Int)])∧(bgB l=true→n=ldN (l.getD 0 0)∧v=bgV l l.length)∧Bw w w'
theorem Xix (s:ByteArray)(w:World)(h0:0<s.size)(h4:s.size≤4):
    Calls prog 165 #[.string s] w (Xvb (bs s) w):=by
 obtain⟨c,hc⟩:=xq ((bs s).getD 0 0)
 have hc2:c<256:=by rw[hc];exact Xba s 0
 have x0:=Yb9 s c hc h0
 obtain⟨n,hn⟩:=xq (ldN c)
 obtain⟨v0,hv0⟩:=xq (ldV c)
 have hn4:n≤4:=by rw[hn];unfold ldN;(repeat' split)<;>omega
 have hv4:v0<128:=by rw[hv0];unfold ldV;(repeat' split)<;>omega
 have L0:=Hd (Yd6 · c hc2)
 rw[←hn,←hv0] at L0
 obtain⟨B,hB⟩:=xq (bgB (bs s))
 have HB:Hid (B=(decide (n≠0)&&decide (s.size≤n)&&bgC (bs s) s.size&&!(decide (55296≤max (bgV (bs s) s.size*64^(n-s.size)) (Xht n))&&decide (min ((bgV (bs s) s.size+1)*64^(n-s.size)-1) (Xn0 n)≤57343))&&decide (max (bgV (bs s) s.size*64^(n-s.size)) (Xht n)≤min ((bgV (bs s) s.size+1)*64^(n-s.size)-1) (Xn0 n)))):=Hd (by
  rw[hB];unfold bgB Yiz Yi0;rw[←hc,←hn,Xaa])
 have FIN:Hid (∀(b:Bool) (a v:Nat) (w':World),b=B→(B=true→a=n∧v=bgV (bs s) s.size)→Bw w w'→Xvb (bs s) w (.returned (.tuple #[.bool b,.int .i64 (a:Int),.int .i64 (v:Int)])) w'):=Hd (by
  rintro b a v w' rfl h1 h2
  exact⟨a,v,by rw[hB],fun h=>by rw[←hc,←hn,Xaa];exact h1 (hB.trans h),h2⟩)
 have V1:Hid (bgV (bs s) 1=v0):=Hd (by rw[Yiy,←hc,←hv0])
 clear hn hv0 hB hc hc2
 by_cases n0:n=0
 ·have z1:((n:Int)==0)=true:=Xa4 (by omega)
  go_enter func165,ntmps165
  go_wp2_with (go_at_call 218;refine(L0.o _).mono ?_;rintro e w' ⟨rfl,rfl⟩)
  go_ret3
  exact FIN.o false 0 0 _ (by rw[HB.o];simp[n0]) (fun h=>by rw[HB.o] at h;simp[n0] at h) (zR _ _)
 have z1:((n:Int)==0)=false:=Xaj (by omega)
 by_cases hgt:n<s.size
 ·go_enter func165,ntmps165
  go_wp2_with (go_at_call 218;refine(L0.o _).mono ?_;rintro e w' ⟨rfl,rfl⟩)
  go_ret3
  have e1:decide (s.size≤n)=false:=by simp;omega
  exact FIN.o false 0 0 _ (by rw[HB.o,e1];simp) (fun h=>by rw[HB.o,e1] at h;simp at h) (zR _ _)
 go_enter func165,ntmps165
 go_wp2_with (go_at_call 218;refine(L0.o _).mono ?_;rintro e w' ⟨rfl,rfl⟩)
 go_loopg [6,7] s.size (fun k v i wr=>∃j vv:Nat,1≤j∧j≤s.size∧k=s.size+1-j∧i=.int .i64 (j:Int)∧v=.int .i64 (vv:Int)∧Hid (vv=bgV (bs s) j)∧Hid (bgC (bs s) j=true)∧((j=1∧vv<128)∨(j=2∧vv<8192)∨(j=3∧vv<524288)∨(j=4∧vv<33554432))∧Hid (Dr w wr))
 case atStart=>exact⟨1,v0,by omega,by omega,by omega,rfl,rfl,Hd V1.o.symm,Hd (Yi1 _),by omega,Hd (Dr.refl _)⟩
 case round=>
  obtain⟨j,vv,j1,j2,rfl,rfl,rfl,hv,hcc,hd,hdr⟩:=hrel
  have vlt:vv<33554432:=by omega
  by_cases hlt:j<s.size
  ·obtain⟨x,hx⟩:=xq ((bs s).getD j 0)
   have hx2:x<256:=by rw[hx];exact Xba s j
   have y1:=fun w=>Xhc s w j j rfl hlt x hx
   have HX:=Hd hx
   clear hx
   by_cases hlo:x<128
   ·go_wp2_with fail
    go_ret3
    have e1:=Xu1 (bs s) j j1 (by rw[Xaa];exact hlt) (by rw[←HX.o];omega)
    rw[Xaa] at e1
    exact FIN.o false 0 0 _ (by rw[HB.o,e1];simp) (fun h=>by rw[HB.o,e1] at h;simp at h) (Dr.below (by(first|exact hdr.o|exact hdr.o.drewN _)))
   by_cases hhi:191<x
   ·go_wp2_with fail
    go_ret3
    have e1:=Xu1 (bs s) j j1 (by rw[Xaa];exact hlt) (by rw[←HX.o];omega)
    rw[Xaa] at e1
    exact FIN.o false 0 0 _ (by rw[HB.o,e1];simp) (fun h=>by rw[HB.o,e1] at h;simp at h) (Dr.below (by(first|exact hdr.o|exact hdr.o.drewN _)))
   go_wp2_with fail
   go_roundg (s.size+1-(j+1))
   case measure=>omega
   case rel=>exact⟨j+1,64*vv+(x-128),by omega,by omega,rfl,by go_num,by go_num,Hd (by rw[Yfb _ _ j1 (by rw[Xaa];exact hlt),←HX.o,hv.o]),Hd (by rw[Yfc _ _ j1 (by rw[Xaa];exact hlt),←HX.o,hcc.o];simp;omega),by omega,(by(first|exact hdr|exact Hd (hdr.o.drewN _)))⟩
  ·obtain rfl:j=s.size:=by omega
   have d0:(vv<128*64^3):=by omega
   clear d0
   go_wp2_with fail
   go_loopg [8,9,10] n (fun k lo hi i wr=>∃q a b:Nat,q+s.size≤n∧k=n-q∧i=.int .i64 ((s.size+q:Nat):Int)∧lo=.int .i64 (a:Int)∧hi=.int .i64 (b:Int)∧Hid (a=vv*64^q)∧Hid (b+1=(vv+1)*64^q)∧((q=0∧b<33554432)∨(q=1∧b<2147483648)∨(q=2∧b<137438953472)∨(q=3∧b<8796093022208))∧a≤b∧Hid (Dr w wr))
   case atStart=>exact⟨0,vv,vv,by omega,by omega,by go_num,rfl,rfl,Hd (by simp),Hd (by simp),by omega,by omega,(by(first|exact hdr|exact Hd (hdr.o.drewN _)))⟩
   case round=>
    obtain⟨q,a,b,hq,rfl,rfl,rfl,rfl,ha,hb,hbd,hab,hdr2⟩:=hrel
    have blt:b<8796093022208:=by omega
    by_cases hql:q+s.size<n
    ·go_wp2_with fail
     go_roundg (n-(q+1))
     case measure=>omega
     case rel=>exact⟨q+1,64*a,64*b+63,by omega,rfl,by go_num,by go_num,by go_num,Hd (by rw[ha.o,Nat.pow_succ,Nat.mul_comm 64 (vv*64^q),Nat.mul_assoc]),Hd (by rw[Nat.pow_succ,←Nat.mul_assoc,←hb.o];omega),by omega,by omega,(by(first|exact hdr2|exact Hd (hdr2.o.drewN _)))⟩
    ·have hqe:q=n-s.size:=by omega
     have LE:=Hd (Xzj · n hn4)
     have MO:=Hd (Ydx · n hn4)
     obtain⟨lo4,hlo4⟩:=xq (Xht n)
     obtain⟨hi4,hhi4⟩:=xq (Xn0 n)
     rw[←hlo4] at LE HB
     rw[←hhi4] at MO HB
     have HB2:Hid (B=(!(decide (55296≤max a lo4)&&decide (min b hi4≤57343))&&decide (max a lo4≤min b hi4))):=Hd (by
      rw[HB.o,←hqe,hcc.o,←hv.o,←ha.o,←hb.o,Nat.add_sub_cancel]
      rw[zT n0,zT (show s.size≤n by omega)]
      simp)
     have HV:=Hd hv.o.symm
     clear HB hlo4 hhi4 ha hb hcc hv V1 L0 x0 hd hdr hbd
     go_wp2_with fail
     refine(LE.o _).mono ?_
     rintro e w2 ⟨rfl,hb2⟩
     have D2:=Hd (hb2)
     clear hb2
     by_cases hm:a<lo4
     all_goals
      go_wp2_with fail
      refine(MO.o _).mono ?_
      rintro e w3 ⟨rfl,hb3⟩
      have BW:=Dr.below hdr2.o
      have D3:=Hd (BW.trans ((bg D2.o hb3).mono BW.size))
      clear BW
      clear hb3 D2
      rcases Nat.lt_trichotomy b hi4 with hm2|hm2|hm2
      all_goals
       go_wp2_with fail
       all_goals
        go_ret3
        first
         |exact FIN.o true n vv _ (by rw[HB2.o];simp;omega) (fun _=>⟨rfl,HV.o.symm⟩) D3.o
         |exact FIN.o false 0 0 _ (by rw[HB2.o];simp;omega) (fun h=>by rw[HB2.o] at h;simp at h;omega) D3.o
end Go.Proofs.YtjolcnopipbkhaaGreatDoor
