/- CanonicalForm (printed by gen_lf.py). -/
import Derived.Test.YtjolcnopipbkhaaGreatDoorFo18
namespace Go.Proofs.YtjolcnopipbkhaaGreatDoor
open Go.Proofs.Tryz
open Go.RowKit Go.Maps
set_option linter.unusedVariables false
set_option maxHeartbeats 100000000
set_option maxRecDepth 100000
theorem Xwo {c:Cn}(ok:c.Ok)(f:FitsP c)(h0:Xc4 c.p=0):(Xa8 c.p).length≤20000:=by
 have vd:=Xe6 h0
 have h1:=f.gl
 have h2:=f.gt
 have h3:=f.rl
 have h4:=f.tx
 have h5:=f.body
 rw[Xle]
 have e0:c.p.name.length=c.name.size:=Xaa _
 have e1:(Xbv c.p.author).length=2*16:=by rw[←ok.author.len];exact Xbs _
 have e2:(Xdq c.p.date).length≤21:=Xdh vd.date.1
 have e3:(Xaw [44] c.p.groups).length≤tot c.groups+c.groups.length:=by
  have:=Xhv 44 (c.groups.map bs)
  rw[List.map_map,List.length_map] at this
  have e:c.groups.map (List.length∘bs)=c.groups.map ByteArray.size:=List.map_congr_left (fun g _=>Xaa g)
  rw[e] at this
  exact this
 have e4:c.p.subject.length=c.subject.size:=Xaa _
 have e5:(Xaw [32] (c.p.refs.map Xcr)).length≤c.refs.length*71+c.refs.length:=by
  have:=Xhv 32 (c.refs.map Xcr)
  rw[List.map_map,List.length_map] at this
  rw[Xka 71 (c.refs.map (List.length∘Xcr)) (fun x hx=>by
   obtain⟨y,hy,rfl⟩:=List.mem_map.1 hx
   exact Xdy (ok.refs y hy)),List.length_map] at this
  exact this
 have e6:(Xg8 c.p.sup).length≤71:=by
  unfold Xg8
  split
  ·simp
  ·exact Nat.le_of_eq (Xdy ok.sup)
 have e7:c.p.ctl.length=c.ctl.size:=Xaa _
 have e8:c.p.dist.length=c.dist.size:=Xaa _
 have e9:(Xi7 c.p).length≤1022:=by
  unfold Xi7
  rw[List.length_append,List.length_cons]
  have h1:(Xdq c.p.number).length≤21:=Xdh vd.number.1
  have h2:(Xfk (Xho c.p)).length≤1000:=Yaw (fun x hx=>by
   unfold Xho at hx
   rcases List.mem_cons.1 hx with rfl|hx
   ·omega
   ·exact ok.root.lt x hx) (by unfold Xho;rw[List.length_cons];show c.root.length+1=17;rw[ok.root.len])
  omega
 have e10:(Xdq c.p.leaf).length≤21:=Xdh vd.leaf.1
 have e11:c.p.body.length=c.body.size:=Xaa _
 omega
theorem Ybk (w:World):(Instr.build 26 #[]).run prog w=.ok (.agg (idA zero32)) w:=by kernel_rfl
theorem zero32_okf:IdOk zero32:=⟨by simp[zero32],fun x hx=>by simp[zero32] at hx;omega⟩
theorem Ykn (w:World)(c:Cn)(gv rv:Value)(ha:CnArg w c gv rv)(hE:Env w):
    zJ 3 #[.agg (c.cells gv rv)] w (.bool true):=by
 obtain⟨w0,hw0⟩:=xq (w.alloc (.cells (c.cells gv rv) 28))
 have B0:Bw w w0:=by rw[hw0];exact(zR _ _).alloc (zL _) _
 have C0:CB w0 w.heap.size c gv rv 28:=by rw[hw0];exact CB.new w c gv rv _
 have U:∀wx,Bw w0 wx→Bw w wx:=fun wx h=>bg B0 h
 have ok:=ha.ok
 obtain⟨ca,hca⟩:=xq (c.cells gv rv)
 obtain⟨k,hk⟩:=xq (Xc4 c.p)
 obtain⟨S,hS⟩:=xq (Xaq (if Xc4 c.p=0 then Xa8 c.p else[]))
 obtain⟨idl,hidl⟩:=xq (idV c.p)
 have IDO:Hid (IdOk idl):=Hd (by rw[hidl];exact Ykz ok.root.lt)
 obtain⟨ids,hids⟩:=xq (idA idl)
 obtain⟨dg,hdg⟩:=xq (idA (idl.take 16))
 have LA:Hid (∀wx,Bw w0 wx→Ld 28 ⟨w.heap.size,0,none⟩ wx (.agg ca)):=Hd (fun wx h=>by rw[hca];exact CB.allR (C0.on h) ok)
 have KN:Hid (∀wx,Bw w0 wx→zJ 5 #[] wx (.bool true)):=Hd (fun wx h=>Xzr wx (hE.on (U wx h)))
 have FA:Hid (∀wx,Bw w0 wx→Calls prog 6 #[.agg ca] wx (Ynh c wx)):=Hd (fun wx h=>by rw[hca];exact Xzi wx c gv rv (ha.on (U wx h)))
 have RC:Hid (FitsP c→∀wx,Bw w0 wx→zJ 7 #[.agg ca] wx (.int .i64 (k:Int))):=Hd (fun f wx h=>by rw[hca,hk];exact Xpo wx c gv rv (f.inn (ha.on (U wx h))))
 have RF:Hid (FitsP c→k=0→∀wx,Bw w0 wx→zJ 13 #[.agg ca] wx (.string S)):=Hd (fun f h0 wx h=>by
  rw[hk] at h0
  rw[hca,hS,qP h0];exact Xpk wx c gv rv (f.inn (ha.on (U wx h))) h0 (Xh0 ok f h0))
 have RI:Hid (FitsP c→k=0→∀wx,Bw w0 wx→zJ 14 #[.agg ca] wx (.agg ids)):=Hd (fun f h0 wx h=>by
  rw[hk] at h0
  rw[hca,hids,hidl];exact Yha wx c gv rv (f.inn (ha.on (U wx h))) h0 (Xh0 ok f h0))
 have OW:Hid (FitsP c→∀wx,Bw w0 wx→Calls prog 9 #[.agg ca] wx fun e w'=>∃cs g1 r1,e=.returned (.agg cs)∧cs=c.cells g1 r1∧CnIn w' c g1 r1∧Bw wx w'):=Hd (fun f wx h=>by
  have hin:=f.inn (ha.on (U wx h))
  rw[hca]
  refine(Yhm wx c gv rv hin).mono ?_
  rintro e w' ⟨g1,r1,rfl,o1,o2,hb⟩
  exact⟨_,g1,r1,rfl,rfl,Yj9 hin o1 o2,hb⟩)
 have FM:Hid (FitsP c→∀wx cs g1 r1,cs=c.cells g1 r1→CnIn wx c g1 r1→Env wx→zJ 8 #[.agg cs] wx (.tuple #[.string S,.int .i64 (k:Int)])):=Hd (fun f wx cs g1 r1 hcs h hEx=>by
  rw[hcs,hS,hk]
  exact Xjw wx c g1 r1 h (Xh0 ok f) hEx)
 have IDX:Hid (FitsP c→∀wx cs g1 r1,cs=c.cells g1 r1→CnIn wx c g1 r1→Env wx→zJ 10 #[.agg cs] wx (.tuple #[.agg ids,.int .i64 (k:Int)])):=Hd (fun f wx cs g1 r1 hcs h hEx=>by
  rw[hcs,hids,hidl,hk]
  exact Xz2 wx c g1 r1 h (Xh0 ok f) hEx)
 have CH:Hid (∀wx cs g1 r1,cs=c.cells g1 r1→CnIn wx c g1 r1→Env wx→zJ 11 #[.agg cs] wx (.int .i64 (k:Int))):=Hd (fun wx cs g1 r1 hcs h hEx=>by rw[hcs,hk];exact Xqr wx c g1 r1 h hEx)
 have PA:Hid (FitsP c→k=0→∀wx,Bw w0 wx→Calls prog 12 #[.string S] wx fun e w'=>∃(d:Cn) (ds:Array Value) (g1 r1:Value),e=.returned (.tuple #[.agg ds,.int .i64 0])∧ds=d.cells g1 r1∧CnIn w' d g1 r1∧d.p=c.p∧Bw wx w'):=Hd (fun f h0 wx h=>by
  rw[hk] at h0
  have hz:S.size≤20000:=by rw[hS,qP h0,Xan];exact Xwo ok f h0
  refine(Xqs S wx hz (hE.on (U wx h))).mono ?_
  rintro e w' ⟨d,g1,r1,z,rfl,hin,hcase,hb⟩
  rcases hcase with⟨rfl,hd,hs⟩|⟨_,_,_,_,hn⟩
  ·refine⟨d,_,g1,r1,rfl,rfl,hin,?_,hb⟩
   refine Yem (Xsr hin.ok) (Xsr ok) hd h0 ?_
   have:=congrArg bs hs
   rw[Xci _ (Xdg hin.ok hd),hS,qP h0,Xci _ (Xdg ok h0)] at this
   exact this
  ·refine absurd ?_ (hn c ok h0)
   rw[hS,qP h0,Xci _ (Xdg ok h0)])
 have S1:Hid (k≠0→S.toList.isEmpty=true):=Hd (fun h=>by
  rw[hk] at h;rw[hS,qN h,show Xaq []=⟨#[]⟩ from rfl,ByteArray.toList_eq];rfl)
 have I1:Hid (k≠0→∀w,(Op.equal 26 (.agg ids) (.agg (idA zero32))).run prog w=.ok true w):=Hd (fun h w=>by
  rw[hk] at h
  have e:idl=zero32:=by rw[hidl];unfold idV;rw[qN h]
  have:=Xh3 underlying26 (by kernel_rfl) (by kernel_rfl) w IDO.o.len IDO.o.lt zero32_okf.len zero32_okf.lt
  rw[zT e,←hids] at this
  exact this)
 have I2:Hid (∀w,(Op.equal 26 (.agg ids) (.agg ids)).run prog w=.ok true w):=Hd (fun w=>by
  have:=Xh3 underlying26 (by kernel_rfl) (by kernel_rfl) w IDO.o.len IDO.o.lt IDO.o.len IDO.o.lt
  rw[zT rfl,←hids] at this
  exact this)
 have I3:Hid (∀w,(Op.equal 22 (.agg dg) (.agg dg)).run prog w=.ok true w):=Hd (fun w=>by
  have hl:(idl.take 16).length=16:=by rw[List.length_take,IDO.o.len];rfl
  have hx:∀x∈idl.take 16,x<256:=fun x hx=>IDO.o.lt x (List.mem_of_mem_take hx)
  have:=Xh3 underlying22 (by kernel_rfl) (by kernel_rfl) w hl hx hl hx
  rw[zT rfl,←hdg] at this
  exact this)
 have D1X:Hid (∀wx,zJ 15 #[.agg ids] wx (.agg dg)):=Hd (fun wx=>by rw[hids,hdg];exact Ye7 wx IDO.o)
 have D2X:Hid (∀wx,zJ 16 #[.agg ids] wx (.agg dg)):=Hd (fun wx=>by rw[hids,hdg];exact Xvv wx IDO.o)
 have SM:Hid (FitsP c→∀wx d ds g1 r1,ds=d.cells g1 r1→CnIn wx d g1 r1→d.p=c.p→Bw w0 wx→zJ 17 #[.agg ds,.agg ca] wx (.bool true)):=Hd (fun f wx d ds g1 r1 hds hin hp hb=>by
  have:=Yc0 wx d c g1 r1 gv rv hin (f.inn (ha.on (U wx hb))) hp
  rw[←hds,←hca] at this
  exact this)
 have EQX:Hid (∀wx d ds g1 r1 cs g2 r2,ds=d.cells g1 r1→CnIn wx d g1 r1→d.p=c.p→cs=c.cells g2 r2→CnIn wx c g2 r2→zJ 19 #[.agg ds,.agg cs] wx (.bool true)):=Hd (fun wx d ds g1 r1 cs g2 r2 hds hin hp hcs hin2=>by
  have:=Ybf wx d c g1 r1 g2 r2 hin hin2 hp
  rw[←hds,←hcs] at this
  exact this)
 have BK:Hid (∀wx d ds g1 r1,ds=d.cells g1 r1→CnIn wx d g1 r1→zJ 18 #[.agg ds] wx (.agg ds)):=Hd (fun wx d ds g1 r1 hds hin=>by
  rw[hds]
  obtain⟨_,_,e1,_⟩:=hin.srow
  obtain⟨_,_,e2,_⟩:=hin.irow
  rw[e1,e2]
  exact Yff wx d hin.ok _ _ _ _ _ _)
 have ENV:Hid (∀wx,Bw w0 wx→Env wx):=Hd (fun wx h=>hE.on (U wx h))
 have NEW:Hid (∀wx,∃wy,Sv 26 ⟨wx.heap.size,0,none⟩ (.agg ids) (wx.alloc (.cells #[.int .u8 0,.int .u8 0,.int .u8 0,.int .u8 0,.int .u8 0,.int .u8 0,.int .u8 0,.int .u8 0,.int .u8 0,.int .u8 0,.int .u8 0,.int .u8 0,.int .u8 0,.int .u8 0,.int .u8 0,.int .u8 0,.int .u8 0,.int .u8 0,.int .u8 0,.int .u8 0,.int .u8 0,.int .u8 0,.int .u8 0,.int .u8 0,.int .u8 0,.int .u8 0,.int .u8 0,.int .u8 0,.int .u8 0,.int .u8 0,.int .u8 0,.int .u8 0] 26)) wy∧IB wy wx.heap.size 26 idl∧Bw wx wy):=Hd (fun wx=>by
  refine⟨wx.alloc (.cells ids 26),run_storeVar_new wx 26 _ ids (by rw[hids,Xag,IDO.o.len];exact Xa3) (by rw[hids,Xag,IDO.o.len];kernel_rfl) (by rw[hids];exact Xdf _),by unfold IB;rw[hids];exact heap_alloc_last wx _,(zR _ _).alloc (zL _) _⟩)
 have LDI:Hid (∀wx b,IB wx b 26 idl→Ld 26 ⟨b,0,none⟩ wx (.agg ids)):=Hd (fun wx b h=>by rw[hids];exact h.load underlying26 (by rw[IDO.o.len];exact Xa3))
 have UB:Hid (∀wx,Bw w0 wx→Bw w wx):=Hd U
 rw[←hca] at hw0⊢
 have HW:=Hd hw0
 have D0:Hid (Bw w0 w0):=Hd (zR _ _)
 clear hw0 B0 C0 U hca hk hS hidl hids hdg ok ha hE
 go_enter func3,ntmps3
 go_upto_region 1 with fail
 rw[←HW.o]
 clear HW
 go_wp2_with fail
 refine(KN.o w0 D0.o).mono ?_
 rintro e w1 ⟨rfl,hb⟩
 have D1:=bh D0 hb
 clear hb
 go_wp2_with ((with_reducible refine Xb0 28 _ rfl (by kernel_rfl) ?_);refine⟨_,_,rfl,LA.o w1 D1.o,?_⟩)
 refine(FA.o w1 D1.o).mono ?_
 rintro e w2 ⟨⟨b1,rfl,hf1⟩,hb⟩
 have D2:=bh D1 hb
 have HF1:=Hd hf1
 clear hb hf1
 cases b1 with
 |false=>
  go_wp2_with fail
  refine(KN.o w2 D2.o).mono ?_
  rintro e w3 ⟨rfl,hb⟩
  have FIN:=Hd (UB.o _ (bg D2.o hb))
  clear hb
  go_wp2_with fail
  go_ret
  exact⟨rfl,FIN.o⟩
 |true=>
 have f:=HF1.o.1 (by simp)
 replace RC:=Hd (RC.o f);replace RF:=Hd (RF.o f);replace RI:=Hd (RI.o f);replace OW:=Hd (OW.o f);replace FM:=Hd (FM.o f);replace IDX:=Hd (IDX.o f);replace PA:=Hd (PA.o f);replace SM:=Hd (SM.o f)
 clear f HF1 FA D0 D1 KN
 have LA2:=Hd (LA.o w2 D2.o)
 go_wp2_with ((with_reducible refine Xac 28 rfl _ rfl ?_);refine⟨_,_,rfl,LA2.o,?_⟩)
 refine(RC.o w2 D2.o).mono ?_
 rintro e w3 ⟨rfl,hb⟩
 have D3:=bh D2 hb
 clear hb RC LA2 D2
 have LA3:=Hd (LA.o w3 D3.o)
 go_wp2_with ((with_reducible refine Xac 28 rfl _ rfl ?_);refine⟨_,_,rfl,LA3.o,?_⟩)
 refine(OW.o w3 D3.o).mono ?_
 rintro e w4 ⟨cs,g1,r1,rfl,hcs,hin,hb⟩
 have D4:=bh D3 hb
 have FX:=Hd (FM.o w4 cs g1 r1 hcs hin (ENV.o w4 D4.o))
 clear hcs hin hb LA3 D3 FM
 go_wp2_with fail
 refine FX.o.mono ?_
 rintro e w5 ⟨rfl,hb⟩
 have D5:=bh D4 hb
 clear hb FX D4
 have LA5:=Hd (LA.o w5 D5.o)
 go_wp2_with ((with_reducible refine Xac 28 rfl _ rfl ?_);refine⟨_,_,rfl,LA5.o,?_⟩)
 refine(OW.o w5 D5.o).mono ?_
 rintro e w6 ⟨cs,g1,r1,rfl,hcs,hin,hb⟩
 have D6:=bh D5 hb
 have FX:=Hd (IDX.o w6 cs g1 r1 hcs hin (ENV.o w6 D6.o))
 clear hcs hin hb LA5 D5 IDX
 go_wp2_with fail
 refine FX.o.mono ?_
 rintro e w7 ⟨rfl,hb⟩
 have D7:=bh D6 hb
 clear hb FX D6
 obtain⟨w8,st,ib,hb⟩:=NEW.o w7
 have ST:=Hd st
 have D8:=bh D7 hb
 obtain⟨g,hg⟩:=xq w7.heap.size
 rw[←hg] at ib
 have IB8:=Hd ib
 clear st ib hb D7 NEW
 go_upto_region 6 with((with_reducible refine Xab 26 rfl _ _ rfl ?_);refine⟨_,_,_,rfl,rfl,ST.o,?_⟩)
 rw[←hg]
 clear ST hg
 have LA8:=Hd (LA.o w8 D8.o)
 go_wp2_with ((with_reducible refine Xac 28 rfl _ rfl ?_);refine⟨_,_,rfl,LA8.o,?_⟩)
 refine(OW.o w8 D8.o).mono ?_
 rintro e w9 ⟨cs,g1,r1,rfl,hcs,hin,hb⟩
 have D9:=bh D8 hb
 have IB9:=Hd (IB8.o.below hb)
 have FX:=Hd (CH.o w9 cs g1 r1 hcs hin (ENV.o w9 D9.o))
 clear hcs hin hb LA8 D8 IB8 CH
 go_wp2_with fail
 refine FX.o.mono ?_
 rintro e w10 ⟨rfl,hb⟩
 have D10:=bh D9 hb
 have IB10:=Hd (IB9.o.below hb)
 clear hb FX D9 IB9
 by_cases hk0:k=0
 ·have q1:((k:Int) !=0)=false:=Xau (by omega)
  replace RF:=Hd (RF.o hk0);replace RI:=Hd (RI.o hk0)
  have PX:=Hd (PA.o hk0 w10 D10.o)
  have qk:((k:Int) !=(k:Int))=false:=by simp
  clear hk0 S1 I1 PA
  go_wp2_with fail
  refine PX.o.mono ?_
  rintro e w11 ⟨d,ds,g1,r1,rfl,hds,hin,hp,hb⟩
  obtain⟨w12,hw12⟩:=xq (w11.alloc (.cells ds 39))
  have DSZ:Hid (ds.size=75):=Hd (by rw[hds];exact Xa2 hin.ok _ _)
  have ONE:ds.all (·.oneCell')=true:=by
   rw[hds]
   obtain⟨_,_,e1,_⟩:=hin.srow
   obtain⟨_,_,e2,_⟩:=hin.irow
   exact Xch _ _ _ (by rw[e1];rfl) (by rw[e2];rfl)
  have STN:Hid (Sv 39 ⟨w11.heap.size,0,none⟩ (.agg ds) (w11.alloc (.cells (Tryz.zeroCells39) 39)) w12):=Hd (by
   rw[hw12]
   exact run_storeVar_new w11 39 _ ds (by rw[DSZ.o];exact Xbg) (by rw[DSZ.o];kernel_rfl) ONE)
  have hb12:Bw w11 w12:=by rw[hw12];exact(zR _ _).alloc (zL _) _
  have D11:=bg D10.o hb
  have D12:=Hd (bg D11 hb12)
  have Q12:w12.heap[w11.heap.size]?=some (.cells ds 39 (0,0)):=by rw[hw12];exact heap_alloc_last w11 _
  obtain⟨gd,hgd⟩:=xq w11.heap.size
  have LD:Hid (∀wx,Bw w12 wx→Ld 39 ⟨gd,0,none⟩ wx (.agg ds)):=Hd (fun wx h=>run_loadVar_row wx gd _ 39 _ _ _ (by rw[hgd];exact(h.block _ (zY Q12)).trans Q12) underlying39 rfl (by rw[DSZ.o];exact Xbg))
  have LI:Hid (∀wx,Bw w12 wx→Ld 26 ⟨g,0,none⟩ wx (.agg ids)):=Hd (fun wx h=>LDI.o wx g (((IB10.o.below hb).below hb12).below h))
  have LC:Hid (∀wx,Bw w12 wx→Ld 28 ⟨w.heap.size,0,none⟩ wx (.agg ca)):=Hd (fun wx h=>LA.o wx (bg D12.o h))
  have HIN:=Hd (hin.on hb12)
  have HDS:=Hd hds;have HP:=Hd hp
  have U12:Hid (∀wx,Bw w12 wx→Bw w0 wx):=Hd (fun wx h=>bg D12.o h)
  clear PX hin hds hp hb hb12 D11 Q12 ONE hw12 D10 IB10 DSZ LDI LA
  go_upto_region 11 with((with_reducible refine Xab 39 rfl _ _ rfl ?_);refine⟨_,_,_,rfl,rfl,STN.o,?_⟩)
  rw[←hgd]
  clear STN hgd
  refine wp_region_held (S:=fun wx=>Bw w12 wx) (by kernel_rfl) ?_
  change wpAnyH _ _ _ _ _ _ _ _ w12.drew
  obtain⟨wd,hwd⟩:=xq w12.drew
  rw[←hwd]
  have E0:Hid (Bw w12 wd):=Hd (by rw[hwd];exact(zR _ _).drew)
  clear hwd
  have hB:(fun wx:World=>Bw w12 wx) wd:=E0.o
  refine Xad 0 (.string S) rfl (fun w' hw'=>by go_simp) hB ?_
  refine Xad 1 (.agg ca) rfl (fun w' hw'=>Xai (ty:=28) (x:=.tmp 1) (ad:=⟨w.heap.size,0,none⟩) rfl (by kernel_rfl) (LC.o w' hw')) hB ?_
  refine Xbm (i:=2) (f:=13) (args:=#[.agg ca]) (by kernel_rfl) rfl (by kernel_rfl) (by kernel_rfl) ?_
  refine(RF.o wd (U12.o wd E0.o)).mono ?_
  rintro e y1 ⟨rfl,hb⟩
  have E1:=bh E0 hb
  clear hb
  replace hB:=E1.o
  refine⟨_,rfl,hB,?_⟩
  refine Xad 3 (.bool true) rfl (fun w' hw'=>by go_simp) hB ?_
  refine Xad 4 (.bool true) rfl (fun w' hw'=>by go_simp) hB ?_
  refine Xad 5 (.agg ids) rfl (fun w' hw'=>Xai (ty:=26) (x:=.tmp 6) (ad:=⟨g,0,none⟩) rfl (by kernel_rfl) (LI.o w' hw')) hB ?_
  refine Xad 6 (.agg ca) rfl (fun w' hw'=>Xai (ty:=28) (x:=.tmp 1) (ad:=⟨w.heap.size,0,none⟩) rfl (by kernel_rfl) (LC.o w' hw')) hB ?_
  refine Xbm (i:=7) (f:=14) (args:=#[.agg ca]) (by kernel_rfl) rfl (by kernel_rfl) (by kernel_rfl) ?_
  refine(RI.o y1 (U12.o y1 E1.o)).mono ?_
  rintro e y2 ⟨rfl,hb⟩
  have E2:=bh E1 hb
  clear hb
  replace hB:=E2.o
  refine⟨_,rfl,hB,?_⟩
  refine Xad 8 (.bool true) rfl (fun w' hw'=>Xh1 (t:=26) (x:=.tmp 66) (y:=.tmp 68) (xs:=ids) (ys:=ids) rfl (by kernel_rfl) (by kernel_rfl) Xeo (I2.o w')) hB ?_
  refine Xad 9 (.bool true) rfl (fun w' hw'=>by go_simp) hB ?_
  refine Xad 10 (.bool true) rfl (fun w' hw'=>by go_simp) hB ?_
  refine Xad 11 (.agg ids) rfl (fun w' hw'=>Xai (ty:=26) (x:=.tmp 6) (ad:=⟨g,0,none⟩) rfl (by kernel_rfl) (LI.o w' hw')) hB ?_
  refine Xad 13 (.agg ids) rfl (fun w' hw'=>Xai (ty:=26) (x:=.tmp 6) (ad:=⟨g,0,none⟩) rfl (by kernel_rfl) (LI.o w' hw')) hB ?_
  refine Xbm (i:=12) (f:=15) (args:=#[.agg ids]) (by kernel_rfl) rfl (by kernel_rfl) (by kernel_rfl) ?_
  refine(D1X.o y2).mono ?_
  rintro e y3 ⟨rfl,hb⟩
  have E3:=bh E2 hb
  clear hb
  replace hB:=E3.o
  refine⟨_,rfl,hB,?_⟩
  refine Xbm (i:=14) (f:=16) (args:=#[.agg ids]) (by kernel_rfl) rfl (by kernel_rfl) (by kernel_rfl) ?_
  refine(D2X.o y3).mono ?_
  rintro e y4 ⟨rfl,hb⟩
  have E4:=bh E3 hb
  clear hb
  replace hB:=E4.o
  refine⟨_,rfl,hB,?_⟩
  refine Xad 15 (.bool true) rfl (fun w' hw'=>Xh1 (t:=22) (x:=.tmp 73) (y:=.tmp 75) (xs:=dg) (ys:=dg) rfl (by kernel_rfl) (by kernel_rfl) (by kernel_rfl) (I3.o w')) hB ?_
  refine Xad 16 (.bool true) rfl (fun w' hw'=>by go_simp) hB ?_
  refine Xad 17 (.bool true) rfl (fun w' hw'=>by go_simp) hB ?_
  refine Xad 18 (.int .i64 0) rfl (fun w' hw'=>by go_simp) hB ?_
  refine Xad 19 (.bool true) rfl (fun w' hw'=>by go_simp) hB ?_
  refine Xad 20 (.bool true) rfl (fun w' hw'=>by go_simp) hB ?_
  refine Xad 21 (.bool true) rfl (fun w' hw'=>by go_simp) hB ?_
  refine Xad 22 (.agg ds) rfl (fun w' hw'=>Xai (ty:=39) (x:=.tmp 8) (ad:=⟨gd,0,none⟩) rfl (by kernel_rfl) (LD.o w' hw')) hB ?_
  refine Xad 24 (.agg ca) rfl (fun w' hw'=>Xai (ty:=28) (x:=.tmp 1) (ad:=⟨w.heap.size,0,none⟩) rfl (by kernel_rfl) (LC.o w' hw')) hB ?_
  refine Xbm (i:=23) (f:=18) (args:=#[.agg ds]) (by kernel_rfl) rfl (by kernel_rfl) (by kernel_rfl) ?_
  refine(BK.o y4 d ds g1 r1 HDS.o (HIN.o.on E4.o)).mono ?_
  rintro e y5 ⟨rfl,hb⟩
  have E5:=bh E4 hb
  clear hb
  replace hB:=E5.o
  refine⟨_,rfl,hB,?_⟩
  refine Xbm (i:=25) (f:=17) (args:=#[.agg ds,.agg ca]) (by kernel_rfl) rfl (by kernel_rfl) (by kernel_rfl) ?_
  refine(SM.o y5 d ds g1 r1 HDS.o (HIN.o.on E5.o) HP.o (U12.o y5 E5.o)).mono ?_
  rintro e y6 ⟨rfl,hb⟩
  have E6:=bh E5 hb
  clear hb
  replace hB:=E6.o
  refine⟨_,rfl,hB,?_⟩
  refine Xad 26 (.bool true) rfl (fun w' hw'=>by go_simp) hB ?_
  refine Xad 27 (.bool true) rfl (fun w' hw'=>by go_simp) hB ?_
  refine Xad 28 (.agg ds) rfl (fun w' hw'=>Xai (ty:=39) (x:=.tmp 8) (ad:=⟨gd,0,none⟩) rfl (by kernel_rfl) (LD.o w' hw')) hB ?_
  refine Xad 29 (.agg ca) rfl (fun w' hw'=>Xai (ty:=28) (x:=.tmp 1) (ad:=⟨w.heap.size,0,none⟩) rfl (by kernel_rfl) (LC.o w' hw')) hB ?_
  refine Xbm (i:=30) (f:=9) (args:=#[.agg ca]) (by kernel_rfl) rfl (by kernel_rfl) (by kernel_rfl) ?_
  refine(OW.o y6 (U12.o y6 E6.o)).mono ?_
  rintro e y7 ⟨cs,g2,r2,rfl,hcs,hin2,hb⟩
  have E7:=bh E6 hb
  have FX:=Hd (EQX.o y7 d ds g1 r1 cs g2 r2 HDS.o (HIN.o.on E7.o) HP.o hcs hin2);clear hcs hin2
  clear hb
  replace hB:=E7.o
  refine⟨_,rfl,hB,?_⟩
  refine Xbm (i:=31) (f:=19) (args:=#[.agg ds,.agg cs]) (by kernel_rfl) rfl (by kernel_rfl) (by kernel_rfl) ?_
  refine(FX.o).mono ?_
  rintro e y8 ⟨rfl,hb⟩
  have E8:=bh E7 hb
  clear hb
  replace hB:=E8.o
  refine⟨_,rfl,hB,?_⟩
  refine Xad 32 (.bool true) rfl (fun w' hw'=>by go_simp) hB ?_
  refine Xad 33 (.bool true) rfl (fun w' hw'=>by go_simp) hB ?_
  have FIN:=Hd (UB.o _ (U12.o _ E8.o))
  refine wpAnyH_done (by kernel_rfl) ?_ _
  clear hB
  go_simp
  refine‹∀(a:Act) (w_1:World),_→_› _ _ ?_
  go_wp2_with fail
  go_ret
  exact⟨rfl,FIN.o⟩
 ·have q1:((k:Int) !=0)=true:=Xam (by omega)
  have qk:((k:Int) !=(k:Int))=false:=by simp
  have e1:=S1.o hk0
  have E1:=Hd (I1.o hk0)
  have LI:=Hd (LDI.o w10 g IB10.o)
  have BZ:Hid (∀(o:Oper) (a:Act) (w:World),o.op=.build 26 #[]→(execOp a.eval o).run prog w=.ok (.value (.agg (idA zero32))) w):=Hd (fun o a w ho=>Xc1 (ps:=#[]) ho (by simpa using Ybk w))
  have FIN:=Hd (UB.o _ D10.o)
  obtain⟨zz,hzz⟩:=xq (idA zero32)
  rw[←hzz] at E1 BZ
  clear hk0 S1 I1 PA RF RI LDI IB10 hzz
  go_wp2_with (first
   |((with_reducible refine Xb0 26 _ rfl (by kernel_rfl) ?_);refine⟨_,_,rfl,LI.o,?_⟩)
   |((with_reducible refine Xe4 26 _ _ rfl (by kernel_rfl) Xeo ?_);refine⟨_,_,_,rfl,rfl,E1.o _,?_⟩;skip)
   |(with_reducible refine Xe3 (by kernel_rfl) (BZ.o _ _ _ rfl) ?_))
  go_ret
  exact⟨rfl,FIN.o⟩
end Go.Proofs.YtjolcnopipbkhaaGreatDoor
