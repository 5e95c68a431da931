/- bulletinref17.Parse: the error of a command. -/
import Derived.Test.YtjolcnopipbkhaaGreatDoorFo16
namespace Go.Proofs.YtjolcnopipbkhaaGreatDoor
open Go.Proofs.Tryz
open Go.RowKit Go.Maps
set_option linter.unusedVariables false
set_option maxHeartbeats 100000000
set_option maxRecDepth 100000
theorem RB.weak {w:World}{p k:Nat}{m mo:Bool}(h:RB w p k m mo){mo':Bool}(hm:mo'=true→mo=true):RB w p k m mo':=by
 obtain⟨cs,h1,h2⟩:=h
 exact⟨cs,h1,h2.cl,h2.kind,h2.mod,fun e=>h2.mods (hm e)⟩
theorem RC.weak' {cs:Array Value}{k:Nat}{m mo:Bool}(h:RC cs k m mo){mo':Bool}(hm:mo'=true→mo=true):RC cs k m mo':=⟨h.cl,h.kind,h.mod,fun e=>h.mods (hm e)⟩
theorem RB.setK {w:World}{p k:Nat}{m mo:Bool}(h:RB w p k m mo)(k':Nat):RB (w.setCell ⟨p,0,none⟩ (.int .i64 (k':Int))) p k' m mo:=by
 obtain⟨cs,h3,h4⟩:=h
 have hb:=Xd8 h3 0 (.int .i64 (k':Int))
 exact⟨_,hb,Xqp h4.cl 0 rfl,Array.getElem?_setIfInBounds_self_of_lt (by rw[h4.cl.1];omega),by rw[Array.getElem?_setIfInBounds_ne (by omega)];exact h4.mod,fun e=>by rw[Array.getElem?_setIfInBounds_ne (by omega)];exact h4.mods e⟩
theorem Xni (k:Nat):(Xcu k).length≤4∧∀a∈Xcu k,a≤6:=by
 unfold Xcu
 split
 ·decide
 split
 ·decide
 split
 ·decide
 split<;>decide
theorem Xyd {t:List Nat}(h:rst t=[]):t=[]:=by
 cases t with
 |nil=>rfl
 |cons x u=>exact absurd h (Xkc 32 u)
def Xgx (l:List Nat)(w:World)(e:Ending)(w':World):Prop:=
 ∃(cs:Array Value) (a:Int),e=.returned (.tuple #[.agg cs,.int .i64 a,.int .i64 ((Xea l:Nat):Int)])∧Cl 56 cs∧Bw w w'
theorem Xe8 (w wx:World)(cs:Array Value)(hc:Cl 56 cs)(hq:wx.heap[w.heap.size]?=some (.cells z17 121 (0,0)))(hb:Bw w wx):
    Sv 121 ⟨w.heap.size,0,none⟩ (.agg cs) wx (wx.setRow w.heap.size cs)∧
     (∀tmps:Array Value,tmps.getD 2 undef=.pointer (some ⟨w.heap.size,0,none⟩)→(results Tryz.f72 tmps).run prog (wx.setRow w.heap.size cs)=.ok (.tuple #[.agg cs,tmps.getD 3 undef,tmps.getD 4 undef]) (wx.setRow w.heap.size cs))∧Bw w (wx.setRow w.heap.size cs):=
 ⟨run_storeVar_row (P:=prog) wx w.heap.size _ 121 z17 cs hq (by rw[hc.1];exact Xbr) (by rw[hc.1,cl_z17.1]) hc.2,
  fun tmps ht=>Xat results72 tmps _ w.heap.size _ _ _ _ ht (setRow_heap wx w.heap.size z17 cs _ _ hq) underlying121 rfl (by rw[hc.1];exact Xbr),
  below_setRow hb (zL _) cs⟩
theorem Xhg {p b o:Nat}{w w':World}(h:Fr1 p w w')(hb:b<w.heap.size)(hne:b≠p):w'.cell? ⟨b,o,none⟩=w.cell? ⟨b,o,none⟩:=by
 have:=h.other b hb hne
 unfold World.cell?;simp only[this]
theorem Ycu (k j:Nat)(h:j<(Xcu k).length)(h1:1≤k)(h5:k≤5)(a:Nat)(ha:a=(Xcu k)[j])(h4:a=4):j=3:=by
 have e:(Xcu k)[j]?=some 4:=by rw[List.getElem?_eq_getElem h,←ha,h4]
 have hl:=(Xni k).1
 rcases(by omega:k=1∨k=2∨k=3∨k=4∨k=5) with rfl|rfl|rfl|rfl|rfl<;>
  (rcases(by omega:j=0∨j=1∨j=2∨j=3) with rfl|rfl|rfl|rfl)<;>first|rfl|(exfalso;revert e;decide)
theorem Xpd (s:ByteArray)(w:World)(hs:s.size≤10000000):
    Calls prog 72 #[.string s] w (Xgx (bs s) w):=by
 obtain⟨w0,hw0⟩:=xq (w.alloc (.cells z17 121))
 have B0:Hid (Bw w w0):=Hd (by rw[hw0];exact(zR _ _).alloc (zL _) _)
 have Q0:Hid (w0.heap[w.heap.size]?=some (.cells z17 121 (0,0))):=Hd (by rw[hw0];exact heap_alloc_last w _)
 have S0:Hid (w0.heap.size=w.heap.size+1):=Hd (by rw[hw0];simp)
 have HW:=Hd hw0
 have LEN:=Hd (Xaa s)
 clear hw0
 go_enter func72,ntmps72
 go_upto_region 1 with fail
 have W':=HW.o
 unfold z17 at W'
 rw[←W']
 clear W' HW
 by_cases h1000:1000<s.size
 ·have F:Hid (Xea (bs s)=5):=Hd (by unfold Xea;rw[qP (by rw[LEN.o];exact h1000)])
  obtain⟨st,rs,bb⟩:=Xe8 w w0 z17 cl_z17 (Q0.o) (B0.o)
  have ST:=Hd st;have RES:=Hd rs;have BB:=Hd bb
  have A0:Hid (∀a:Int,Xgx (bs s) w (.returned (.tuple #[.agg z17,.int .i64 a,.int .i64 5])) ((w0).setRow w.heap.size z17)):=Hd (fun a=>⟨z17,a,by rw[F.o];rfl,cl_z17,BB.o⟩)
  clear st rs bb
  go_wp2_with (first|((with_reducible refine Xaf 121 rfl rfl ?_);refine⟨_,Xdo _,?_⟩)|((with_reducible refine Xab 121 rfl _ _ rfl ?_);refine⟨_,_,_,rfl,rfl,ST.o,?_⟩))
  exact zP (RES.o _ rfl) rfl (A0.o _)
 have CS:=Xw1 (bs s) (by rw[LEN.o];omega)
 have WD:=Hd (Xmk s 32 w0 (by omega) (by omega))
 go_wp2_with fail
 refine WD.o.mono ?_
 rintro e w1 ⟨v,gs,rfl,hgs,⟨sa,scap,rfl,hscap,hrow⟩,hgz,hgn,hown,hb1⟩
 obtain⟨x,ws,hx,_,hrst,hxl,hF⟩:=CS
 rw[hx] at hgs
 match gs,hgs with
 |[],hgs=>cases hgs
 |g0::gr,hgs=>
 injection hgs with hg0 hgr
 subst hg0
 obtain⟨gs,hgsd⟩:=xq (g0::gr)
 rw[←hgsd] at hscap hrow hgz hgn hown⊢
 have GS:Hid (gs.map bs=bs g0::ws):=Hd (by rw[hgsd,←hgr];rfl)
 have n1:1≤gs.length:=by rw[hgsd];simp
 obtain⟨b',off,rfl,hbl,hcl⟩:=hrow (by rw[hgsd];simp)
 have hc0:=hcl 0 (by omega)
 rw[Nat.add_zero,show gs[0]'(by omega)=g0 by simp[hgsd]] at hc0
 obtain⟨n,hn⟩:=xq gs.length
 have HN:=Hd hn
 have GZ:=Hd hgz
 have hg0z:g0.size≤1000:=by have:=hgz g0 (by rw[hgsd];simp);omega
 have hnn:n≤1001:=by omega
 have CELL:=Hd hcl
 rw[←hn] at hscap n1⊢
 have G0L:=Hd (Xaa g0)
 have HRST:=Hd hrst
 have HF:=Hd hF
 obtain⟨p,hp⟩:=xq w1.heap.size
 obtain⟨w2,hw2⟩:=xq (w1.alloc (.cells z17 121))
 have STN:Hid (∀zz:Array Value,zz.size=56→Sv 121 ⟨w1.heap.size,0,none⟩ (.agg z17) (w1.alloc (.cells zz 121)) (w1.alloc (.cells z17 121))):=Hd (fun zz hz=>run_storeVar_new w1 121 zz z17 (by rw[cl_z17.1];exact Xbr) (by rw[hz,cl_z17.1]) cl_z17.2)
 have B2:Bw w0 w2:=by rw[hw2];exact hb1.alloc hb1.size _
 have R2:Hid (RB w2 p 0 false true):=Hd ⟨z17,by rw[hw2,hp];exact heap_alloc_last w1 _,Yj5⟩
 have Q2:Hid (w2.heap[w.heap.size]?=some (.cells z17 121 (0,0))):=Hd ((B2.block _ (zY Q0.o)).trans Q0.o)
 have BW2:Hid (Bw w w2):=bh B0 B2
 have CELL2:Hid (∀j (h:j<gs.length),w2.cell? ⟨b',off+j,none⟩=some (.string gs[j])):=Hd (fun j h=>by
  rw[hw2];exact(((zR w1.heap.size w1).alloc (zL _) _).cell (p:=⟨b',off+j,none⟩) hbl).trans (hcl j h))
 have hbp:b'<p:=by rw[hp];exact hbl
 have S2:Hid (w2.heap.size=p+1):=Hd (by rw[hw2,hp];simp)
 have hwp:w.heap.size<p:=by have:=hb1.size;have:=S0.o;omega
 have C02:Hid (w2.cell? ⟨b',off,none⟩=some (.string g0)):=Hd (by
  rw[hw2];exact(((zR w1.heap.size w1).alloc (zL _) _).cell (p:=⟨b',off,none⟩) hbl).trans hc0)
 clear hn hgsd hgr hgs hgz hcl hrow hown hc0 hx hrst hF hb1
 go_upto_region 5 with(first|((with_reducible refine Xaf 121 rfl rfl ?_);refine⟨_,Xdo _,?_⟩)|((with_reducible refine Xab 121 rfl _ _ rfl ?_);refine⟨_,_,_,rfl,rfl,STN.o _ rfl,?_⟩))
 rw[←hw2,←hp]
 clear hw2 hp STN hbl B2 WD B0 Q0 S0 CELL
 obtain⟨kx,hkx⟩:=xq (Xha (bs g0))
 have KX:=Hd hkx
 have hk5:kx≤5:=by rw[hkx];exact Yeb _
 clear hkx
 go_wp2_with fail
 go_loopg [7] 5 (fun k i wr=>∃j:Nat,j≤5∧k=5-j∧i=.int .i64 ((j:Int)+1)∧Hid (RB wr p (if kx≤j then kx else 0) false true)∧Hid (Fr1 p w2 wr))
 case atStart=>exact⟨0,by omega,rfl,rfl,Hd (by have e:(if kx≤0 then kx else 0)=0:=by split<;>omega
                                               rw[e];exact R2.o),Hd (Fr1.refl _ _)⟩
 case round=>
  obtain⟨j,hj,rfl,rfl,hrb,hfr⟩:=hrel
  have hb2:b'<w2.heap.size:=by have:=S2.o;omega
  by_cases hlt:j<5
  ·have NM:Hid (∀w,zJ 120 #[.int .i64 ((j:Int)+1)] w (.string (Xjk (j+1)))):=Hd (fun w=>Xre w (j+1) (by omega) (by omega))
   have EQB:=Xzs (k:=j+1) (x:=g0) (by omega) (by omega)
   rw[←KX.o] at EQB
   obtain⟨b,hb⟩:=xq (decide (kx=j+1))
   rw[←hb] at EQB
   obtain⟨ks,hks⟩:=xq (Xjk (j+1))
   rw[←hks] at NM EQB
   have C0:Hid (∀wx,Fr1 p w2 wx→wx.cell? ⟨b',off,none⟩=some (.string g0)):=Hd (fun wx h=>(Xhg h hb2 (by omega)).trans C02.o)
   have k0:(0:Int)≤(j:Int):=by omega
   have v1:IntKind.i64.wrap ((j:Int)+1+1)=(j:Int)+1+1:=IntWalk.i64_in _ (by omega)
   have v2:IntKind.i64.wrap ((j:Int)+1)=(j:Int)+1:=IntWalk.i64_in _ (by omega)
   clear hks
   go_upto_region 8 with fail
   have HS:(fun wx:World=>Fr1 p w2 wx) wr.drew:=hfr.o.trans (Fr1.of_below (Dr.below ⟨1,rfl⟩))
   have RD:Hid (RB wr.drew p (if kx≤j then kx else 0) false true):=Hd hrb.o.drew
   refine wp_region_held (S:=fun wx:World=>Fr1 p w2 wx) (by kernel_rfl) ?_
   change wpAnyH _ _ _ _ _ _ _ _ wr.drew
   obtain⟨wd,hwd⟩:=xq wr.drew
   rw[←hwd] at HS RD⊢
   clear hwd hrb hfr
   refine Xad 0 (.int .i64 ((j:Int)+1)) rfl (fun _ _=>by go_simp) HS ?_
   refine Xad 2 (.slice (some ⟨b',off,none⟩) n scap) rfl (fun _ _=>by go_simp) HS ?_
   refine Xad 3 (.pointer (some ⟨b',off,none⟩)) rfl (fun _ _=>by go_simp;exact fun hh=>absurd hh (by omega)) HS ?_
   refine Xad 4 (.string g0) rfl (fun w' hw'=>by have c0:=C0.o w' hw';go_simp) HS ?_
   refine Xak (i:=1) (by kernel_rfl) ?_
   refine Xao (f:=120) (args:=#[.int .i64 ((j:Int)+1)]) rfl rfl (by go_simp) ?_
   refine(NM.o wd).mono ?_
   rintro e w7 ⟨rfl,hb7⟩
   have HS7:(fun wx:World=>Fr1 p w2 wx) w7:=HS.trans (Fr1.of_below hb7)
   have R7:=Hd (RD.o.on hb7)
   have F7:=Hd HS7
   refine⟨_,rfl,HS7,?_⟩
   refine Xad 5 (.bool b) rfl (fun _ _=>by go_simp) HS7 ?_
   refine wpAnyH_done (by kernel_rfl) ?_ _
   clear HS HS7 hb7 RD NM C0
   cases b
   ·have e1:(if kx≤j+1 then kx else 0)=(if kx≤j then kx else 0):=by
       have:kx≠j+1:=by simpa using hb
       by_cases h:kx≤j
       ·rw[qP h,qP (by omega)]
       ·rw[qN h,qN (by omega)]
    have R8:Hid (RB w7 p (if kx≤j+1 then kx else 0) false true):=Hd (by rw[e1];exact R7.o)
    clear e1 R7 hb
    go_simp
    refine‹∀(a:Act) (w_1:World),_→_› _ _ ?_
    go_wp2_with fail
    go_roundg (5-(j+1))
    case measure=>omega
    case rel=>exact⟨j+1,by omega,rfl,by go_num,R8,F7⟩
   ·have e1:kx=j+1:=by simpa using hb
    obtain⟨u,cu,fu⟩:=R7.o.cell (show 0<56 by omega)
    have R8:Hid (RB (w7.setCell ⟨p,0,none⟩ (.int .i64 ((j:Int)+1))) p (if kx≤j+1 then kx else 0) false true):=Hd (by rw[qP (by omega),e1];exact R7.o.setK (j+1))
    have F8:Hid (Fr1 p w2 (w7.setCell ⟨p,0,none⟩ (.int .i64 ((j:Int)+1)))):=Hd (F7.o.trans (Fr1.setC _))
    clear e1 R7 hb F7
    go_simp
    refine‹∀(a:Act) (w_1:World),_→_› _ _ ?_
    go_wp2_with fail
    go_roundg (5-(j+1))
    case measure=>omega
    case rel=>exact⟨j+1,by omega,rfl,by go_num,R8,F8⟩
  ·obtain rfl:j=5:=by omega
   rw[qP hk5] at hrb
   have QR:=Hd ((hfr.o.other _ (zY Q2.o) (by omega)).trans Q2.o)
   have BR:=Hd (BW2.o.trans (hfr.o.below BW2.o.size (Nat.le_of_lt hwp)))
   have CELLR:Hid (∀j (h:j<gs.length),wr.cell? ⟨b',off+j,none⟩=some (.string gs[j])):=Hd (fun j h=>(Xhg hfr.o hb2 (by omega)).trans (CELL2.o j h))
   have c0:wr.cell? ⟨b',off,none⟩=some (.string g0):=(Xhg hfr.o hb2 (by omega)).trans C02.o
   have ck:=hrb.o.kind
   have hbr:b'<wr.heap.size:=Nat.lt_of_lt_of_le hb2 hfr.o.size
   have hpr:=hrb.o.lt
   clear hfr CELL2 C02 R2 Q2 BW2
   by_cases hk0:kx=0
   ·have q1:((kx:Int)==0)=true:=Xa4 (by omega)
    have F:Hid (Xea (bs s)=11):=Hd (by rw[HF.o,qP (KX.o.symm.trans hk0)])
    obtain⟨st,rs,bb⟩:=Xe8 w wr z17 cl_z17 (QR.o) (BR.o)
    have ST:=Hd st;have RES:=Hd rs;have BB:=Hd bb
    have A0:Hid (∀a:Int,Xgx (bs s) w (.returned (.tuple #[.agg z17,.int .i64 a,.int .i64 11])) ((wr).setRow w.heap.size z17)):=Hd (fun a=>⟨z17,a,by rw[F.o];rfl,cl_z17,BB.o⟩)
    clear st rs bb
    clear hk0
    go_wp2_with (first|((with_reducible refine Xaf 121 rfl rfl ?_);refine⟨_,Xdo _,?_⟩)|((with_reducible refine Xab 121 rfl _ _ rfl ?_);refine⟨_,_,_,rfl,rfl,ST.o,?_⟩))
    exact zP (RES.o _ rfl) rfl (A0.o _)
   have q1:((kx:Int)==0)=false:=Xaj (by omega)
   have FC:Hid (Xea (bs s)=chF kx (Xcu kx) false ((bs s).drop g0.size)):=Hd (by rw[HF.o,qN (by rw[←KX.o];exact hk0),←KX.o,G0L.o])
   have SO:=Hd (Xvn wr kx (by omega) hk5)
   go_wp2_with fail
   refine SO.o.mono ?_
   rintro e w4 ⟨vl,rfl,⟨la,lcap,rfl,hlcap,hlrow⟩,hb4,hlown⟩
   obtain⟨L,hL⟩:=xq ((Xcu kx).length)
   have HL:=Hd hL
   have L4:L≤4:=by rw[hL];exact(Xni kx).1
   have LR:Hid (0<L→∃bl lo,la=some ⟨bl,lo,none⟩∧bl<w4.heap.size∧bl≠p∧∀j (h:j<(Xcu kx).length),w4.cell? ⟨bl,lo+j,none⟩=some (.string (Xgj (Xcu kx)[j]))):=Hd (fun h0=>by
    obtain⟨bl,lo,h1,h2,h3⟩:=hlrow (by intro e;rw[List.map_eq_nil_iff] at e;rw[hL,e] at h0;simp at h0)
    refine⟨bl,lo,h1,h2,?_,fun j h=>by have:=h3 j (by rw[List.length_map];exact h);rw[List.getElem_map] at this;exact this⟩
    have:=hlown bl (by rw[h1];rfl)
    omega)
   clear hlrow
   rw[List.length_map,←hL] at hlcap⊢
   have R4:=Hd (hrb.o.on hb4)
   have Q4:=Hd ((hb4.block _ (zY QR.o)).trans QR.o)
   have B4:=bh BR hb4
   have CELL4:Hid (∀j (h:j<gs.length),w4.cell? ⟨b',off+j,none⟩=some (.string gs[j])):=Hd (fun j h=>(hb4.cell (p:=⟨b',off+j,none⟩) hbr).trans (CELLR.o j h))
   have hb4':b'<w4.heap.size:=Nat.lt_of_lt_of_le hbr hb4.size
   have hw4:w.heap.size<w4.heap.size:=by have:=hb4.size;omega
   have hp4:p<w4.heap.size:=by have:=hb4.size;omega
   have RST0:Hid (rst ((bs s).drop g0.size)=(gs.map bs).drop 1):=Hd (by rw[GS.o,←G0L.o];exact HRST.o)
   have g0s:g0.size≤s.size:=by rw[←G0L.o,←LEN.o];exact hxl
   clear hlown hb4 hrb CELLR QR BR c0 ck SO hL hpr hbr q1 HF KX HRST
   go_wp2_with fail
   go_loopg [8,9,11,12,13] L (fun k vat vn vi v12 v13 wr=>∃(j ta nn:Nat) (m:Bool),j≤L∧k=L-j∧vat=.int .i64 (ta:Int)∧vn=.int .i64 (nn:Int)∧vi=.int .i64 (j:Int)∧Hid (Xea (bs s)=chF kx ((Xcu kx).drop j) m ((bs s).drop ta))∧Hid (rst ((bs s).drop ta)=(gs.map bs).drop nn)∧ta≤s.size∧nn≤n∧Hid (RB wr p kx m (decide (j<4)))∧Hid (Fr1 p w4 wr))
   case atStart=>exact⟨0,g0.size,1,false,by omega,rfl,rfl,rfl,rfl,FC,RST0,g0s,n1,R4,Hd (Fr1.refl _ _)⟩
   case round=>
    obtain⟨j,ta,nn,m,hjL,rfl,rfl,rfl,rfl,hlaw,hrst,hta,hnn',hrb,hfr⟩:=hrel
    have HQ:=Hd ((hfr.o.other _ (zY Q4.o) (by omega)).trans Q4.o)
    have HB:=Hd (B4.o.trans (hfr.o.below B4.o.size (Nat.le_of_lt hwp)))
    have c35:=hrb.o.modc
    have ck:=hrb.o.kind
    by_cases hlt:j<L
    ·have hjl:j<(Xcu kx).length:=by rw[←HL.o];exact hlt
     obtain⟨bl,lo,rfl,hblw,hblp,hlc⟩:=LR.o (by omega)
     obtain⟨a,ha⟩:=xq ((Xcu kx)[j])
     have HA:Hid (a≤6):=Hd ((Xni kx).2 a (by rw[ha];exact zG hjl))
     have DRP:Hid ((Xcu kx).drop j=a::(Xcu kx).drop (j+1)):=Hd (by rw[List.drop_eq_getElem_cons hjl,ha])
     have AJ:Hid (a=4→j=3):=Hd (Ycu kx j hjl (by omega) hk5 a ha)
     obtain⟨sb,hsb⟩:=xq (Xgj a)
     have SB:=Hd hsb
     have CSB:Hid (w4.cell? ⟨bl,lo+j,none⟩=some (.string sb)):=Hd (by rw[hsb,ha];exact hlc j hjl)
     have cst:wr.cell? ⟨bl,lo+j,none⟩=some (.string sb):=(Xhg hfr.o hblw hblp).trans CSB.o
     have j0:(0:Int)≤(j:Int):=by omega
     have j1:(j:Int)<(L:Int):=by omega
     clear hlc ha
     by_cases hsk:a=4∧m=false
     ·obtain⟨h4,rfl⟩:=hsk
      have e4:(sb.toList==[97,117,116,104,111,114,115])=true:=by rw[hsb,h4];kernel_rfl
      clear hsb
      have LAW9:Hid (Xea (bs s)=chF kx ((Xcu kx).drop (j+1)) false ((bs s).drop ta)):=Hd (by rw[hlaw.o,DRP.o,h4,Yir])
      have R9:Hid (RB wr p kx false (decide (j+1<4))):=Hd (hrb.o.weak (fun h=>by simp at h⊢;omega))
      have v1:IntKind.i64.wrap ((j:Int)+1)=(j:Int)+1:=IntWalk.i64_in _ (by omega)
      clear h4 hlaw hrb DRP AJ SB CSB LR
      go_wp2_with fail
      go_roundg (L-(j+1))
      case measure=>omega
      case rel=>exact⟨j+1,ta,nn,false,by omega,rfl,rfl,rfl,by go_num,LAW9,hrst,hta,hnn',R9,hfr⟩
     ·have NS:=Hd hsk
      clear hsk LR
      go_upto_region 18 with fail
      go_cut [60] from 51 to 60 (fun v wx=>v=.bool false∧wr=wx)
      case first=>
       by_cases h4:a=4
       ·have e4:(sb.toList==[97,117,116,104,111,114,115])=true:=by rw[hsb,h4];kernel_rfl
        obtain rfl:m=true:=by cases m;exact absurd ⟨h4,rfl⟩ NS.o;rfl
        clear hsb h4
        go_wp2_with fail
        go_meet
        exact⟨rfl,rfl⟩
       ·have e4:(sb.toList==[97,117,116,104,111,114,115])=false:=by rw[hsb];exact Ymd HA.o h4
        clear hsb h4
        go_wp2_with fail
        go_meet
        exact⟨rfl,rfl⟩
      case rest=>
      obtain⟨rfl,hw⟩:=hcut
      subst hw
      clear hsb
      by_cases hq:nn=n
      ·have q4:((nn:Int)==(n:Int))=true:=Xa4 (by omega)
       have F:Hid (Xea (bs s)=4):=Hd (by
        have h:=hrst.o
        rw[hq,HN.o,←List.length_map (f:=bs),List.drop_length] at h
        rw[hlaw.o,Xyd h,DRP.o,Ye6 NS.o])
       obtain⟨st,rs,bb⟩:=Xe8 w wr z17 cl_z17 (HQ.o) (HB.o)
       have ST:=Hd st;have RES:=Hd rs;have BB:=Hd bb
       have A0:Hid (∀a:Int,Xgx (bs s) w (.returned (.tuple #[.agg z17,.int .i64 a,.int .i64 4])) ((wr).setRow w.heap.size z17)):=Hd (fun a=>⟨z17,a,by rw[F.o];rfl,cl_z17,BB.o⟩)
       clear st rs bb
       clear hq
       go_wp2_with (first|((with_reducible refine Xaf 121 rfl rfl ?_);refine⟨_,Xdo _,?_⟩)|((with_reducible refine Xab 121 rfl _ _ rfl ?_);refine⟨_,_,_,rfl,rfl,ST.o,?_⟩))
       exact zP (RES.o _ rfl) rfl (A0.o _)
      have q4:((nn:Int)==(n:Int))=false:=Xaj (by omega)
      have hnl:nn<gs.length:=by rw[←HN.o];omega
      obtain⟨gx,hgx⟩:=xq (gs[nn])
      have CX:Hid (w4.cell? ⟨b',off+nn,none⟩=some (.string gx)):=Hd (by rw[hgx];exact CELL4.o nn hnl)
      have gxz:gx.size≤1000:=by have:=GZ.o gx (by rw[hgx];exact zG hnl);omega
      have RS1:rst ((bs s).drop ta)=bs gx::(gs.map bs).drop (nn+1):=by
       rw[hrst.o,List.drop_eq_getElem_cons (by rw[List.length_map];exact hnl),List.getElem_map,←hgx]
      have GXL:=Xaa gx
      have RD:=Xtx (bs s) ta (bs gx) _ RS1
      rw[GXL,LEN.o] at RD
      have RSTX:=Hd RD.2.2.1
      have TAX:=RD.2.2.2
      obtain⟨we,hwe⟩:=xq (Ycd a (bs gx))
      have LAWX:Hid (Xea (bs s)=fe we (chF kx ((Xcu kx).drop (j+1)) (if a=3 then decide (bs gx=Xi1) else m) ((bs s).drop (ta+1+gx.size)))):=Hd (by
       rw[hlaw.o,DRP.o,Yiq NS.o RS1,GXL,hwe])
      obtain⟨ds,hd1,hd2⟩:=hrb.o
      have DRC:=Hd hd2
      have hj4:j<4:=by omega
      have CW:Hid (∀w,Calls prog 122 #[.agg ds,.string sb,.string gx] w fun e w'=>∃es,e=.returned (.tuple #[.agg es,.int .i64 (we:Int)])∧RC es kx (if a=3 then decide (bs gx=Xi1) else m) (decide (a≠4))∧Bw w w'):=Hd (fun w=>by
       rw[hwe,SB.o];exact Xyb w ds kx a m gx HA.o (by omega) (hd2.weak' (fun _=>by simpa using hj4)))
      have A4:Hid (j+1<4→¬a=4):=Hd (fun h e=>by have:=AJ.o e;omega)
      have LZ:Hid (∀wx:World,wx.heap[p]?=some (.cells ds 121 (0,0))→Ld 121 ⟨p,0,none⟩ wx (.agg ds)):=Hd (fun wx h=>Xal wx p 56 _ _ ds _ _ h rfl underlying121 Xbr DRC.o.cl.1)
      have CLx:Hid (∀wx,Fr1 p w4 wx→wx.cell? ⟨bl,lo+j,none⟩=some (.string sb)):=Hd (fun wx h=>(Xhg h hblw hblp).trans CSB.o)
      have CXx:Hid (∀wx,Fr1 p w4 wx→wx.cell? ⟨b',off+nn,none⟩=some (.string gx)):=Hd (fun wx h=>(Xhg h hb4' (by omega)).trans CX.o)
      have i0:(0:Int)≤(j:Int):=by omega
      have i1:(j:Int)<(L:Int):=by omega
      have i2:(0:Int)≤(nn:Int):=by omega
      have i3:(nn:Int)<(n:Int):=by omega
      have v0:IntKind.i64.wrap (j:Int)=(j:Int):=IntWalk.i64_in _ (by omega)
      have v1:IntKind.i64.wrap ((j:Int)+1)=(j:Int)+1:=IntWalk.i64_in _ (by omega)
      have v2:IntKind.i64.wrap (nn:Int)=(nn:Int):=IntWalk.i64_in _ (by omega)
      have v3:IntKind.i64.wrap ((nn:Int)+1)=(nn:Int)+1:=IntWalk.i64_in _ (by omega)
      have v4:IntKind.i64.wrap ((ta:Int)+1)=(ta:Int)+1:=IntWalk.i64_in _ (by omega)
      have v5:IntKind.i64.wrap ((ta:Int)+1+(gx.size:Int))=(ta:Int)+1+(gx.size:Int):=IntWalk.i64_in _ (by omega)
      clear hwe hgx RS1 RD GXL hd2 hlaw hrst hrb hq cst
      go_upto_region 21 with fail
      go_cut [12,13] from 68 to 80 (fun v12 v13 wx=>∃(g:Nat) (es:Array Value),v12=.pointer (some ⟨g,0,none⟩)∧v13=.int .i64 (we:Int)∧Hid (wx.heap[g]?=some (.cells es 121 (0,0)))∧Hid (wx.heap[p]?=some (.cells ds 121 (0,0)))∧Hid (Fr1 p w4 wx)∧Hid (wx.heap[w.heap.size]?=some (.cells z17 121 (0,0)))∧Hid (Bw w wx)∧Hid (RC es kx (if a=3 then decide (bs gx=Xi1) else m) (decide (a≠4))))
      case first=>
       have HS:(fun wx:World=>wx.heap[p]?=some (.cells ds 121 (0,0))∧Fr1 p w4 wx) wr.drew:=⟨hd1,hfr.o.trans (Fr1.of_below (Dr.below ⟨1,rfl⟩))⟩
       have HQd:=Hd (show wr.drew.heap[w.heap.size]?=some (.cells z17 121 (0,0)) from HQ.o)
       have HBd:=Hd HB.o.drew
       refine wp_region_held (S:=fun wx:World=>wx.heap[p]?=some (.cells ds 121 (0,0))∧Fr1 p w4 wx) (by kernel_rfl) ?_
       change wpAnyH _ _ _ _ _ _ _ _ wr.drew
       obtain⟨wd,hwd⟩:=xq wr.drew
       rw[←hwd] at HS HQd HBd⊢
       clear hwd hd1 hfr HQ HB
       refine Xad 0 (.agg ds) rfl (fun w' hw'=>Xai (ty:=121) (x:=.tmp 6) (ad:=⟨p,0,none⟩) rfl (by kernel_rfl) (LZ.o w' hw'.1)) HS ?_
       refine Xad 1 (.slice (some ⟨bl,lo,none⟩) L lcap) rfl (fun _ _=>by go_simp) HS ?_
       refine Xad 2 (.int .i64 (j:Int)) rfl (fun _ _=>by go_simp) HS ?_
       refine Xad 3 (.pointer (some ⟨bl,lo+j,none⟩)) rfl (fun _ _=>by go_simp) HS ?_
       refine Xad 4 (.string sb) rfl (fun w' hw'=>by have c0:=CLx.o w' hw'.2;go_simp) HS ?_
       refine Xad 5 (.slice (some ⟨b',off,none⟩) n scap) rfl (fun _ _=>by go_simp) HS ?_
       refine Xad 6 (.int .i64 (nn:Int)) rfl (fun _ _=>by go_simp) HS ?_
       refine Xad 7 (.pointer (some ⟨b',off+nn,none⟩)) rfl (fun _ _=>by go_simp) HS ?_
       refine Xad 8 (.string gx) rfl (fun w' hw'=>by have c0:=CXx.o w' hw'.2;go_simp) HS ?_
       refine Xef (i:=9) (k:=13) (by kernel_rfl) ?_ ?_
       ·skip
        refine Xao (f:=122) (args:=#[.agg ds,.string sb,.string gx]) rfl rfl (by go_simp) ?_
        refine(CW.o wd).mono ?_
        rintro e w6 ⟨es,rfl,herc,hb6⟩
        have ERC:=Hd herc
        have HS6:(fun wx:World=>wx.heap[p]?=some (.cells ds 121 (0,0))∧Fr1 p w4 wx) w6:=⟨(hb6.block _ (zY HS.1)).trans HS.1,HS.2.trans (Fr1.of_below hb6)⟩
        have B6:=(zR w6.heap.size w6).alloc (zL _) (.cells z17 121)
        have HS7:(fun wx:World=>wx.heap[p]?=some (.cells ds 121 (0,0))∧Fr1 p w4 wx) (w6.alloc (.cells z17 121)):=⟨(B6.block _ (zY HS6.1)).trans HS6.1,HS6.2.trans (Fr1.of_below B6)⟩
        have B7:=(zR w6.heap.size w6).alloc (zL _) (.cells es 121)
        have HS8:(fun wx:World=>wx.heap[p]?=some (.cells ds 121 (0,0))∧Fr1 p w4 wx) (w6.alloc (.cells es 121)):=⟨(B7.block _ (zY HS6.1)).trans HS6.1,HS6.2.trans (Fr1.of_below B7)⟩
        have st8:=run_storeVar_new (P:=prog) w6 121 z17 es (by rw[ERC.o.cl.1];exact Xbr) (by rw[ERC.o.cl.1,cl_z17.1]) ERC.o.cl.2
        refine⟨_,rfl,HS6,?_⟩
        refine Xad 10 (.tuple #[.agg es,.int .i64 (we:Int)]) rfl (fun _ _=>by go_simp) HS6 ?_
        refine Xad 11 (.agg es) rfl (fun _ _=>by go_simp) HS6 ?_
        refine Xad 12 (.int .i64 (we:Int)) rfl (fun _ _=>by go_simp) HS6 ?_
        refine Xay (i:=13) (v:=.pointer (some ⟨w6.heap.size,0,none⟩)) (by kernel_rfl) rfl rfl (Xja w6 rfl) HS7 ?_
        refine Xa6 (i:=14) (by kernel_rfl) rfl rfl (Xar (t:=121) (ad:=⟨w6.heap.size,0,none⟩) (u:=.agg es) rfl (by kernel_rfl) (by kernel_rfl) st8) HS8 ?_
        refine Xay (i:=15) (v:=.int .i64 (we:Int)) (by kernel_rfl) rfl rfl (Xap rfl (by kernel_rfl)) HS8 ?_
        refine wpAnyH_done (by kernel_rfl) ?_ _
        have G8':(w6.alloc (.cells es 121)).heap[w6.heap.size]?=some (.cells es 121 (0,0)):=heap_alloc_last w6 _
        have Q8':=((bg hb6 B7).block _ (zY HQd.o)).trans HQd.o
        have B8':=HBd.o.trans ((bg hb6 B7).mono HBd.o.size)
        obtain⟨w8,hw8⟩:=xq (w6.alloc (.cells es 121))
        obtain⟨g,hg⟩:=xq w6.heap.size
        rw[←hw8] at G8' Q8' B8' HS8⊢
        rw[←hg] at G8'⊢
        have G8:=Hd G8';have P8:=Hd HS8.1;have F8:=Hd HS8.2;have Q8:=Hd Q8';have B8:=Hd B8'
        clear G8' Q8' B8' HS HS6 HS7 HS8 B6 B7 st8 hb6 herc hw8 hg HQd HBd LZ CLx CXx CW
        go_simp
        refine‹∀(a:Act) (w_1:World),_→_› _ _ ?_
        go_wp2_with fail
        go_meet
        exact⟨g,es,rfl,rfl,G8,P8,F8,Q8,B8,ERC⟩
       ·skip
        have BA:=(zR wd.heap.size wd).alloc (zL _) (.cells z17 121)
        have HSA:(fun wx:World=>wx.heap[p]?=some (.cells ds 121 (0,0))∧Fr1 p w4 wx) (wd.alloc (.cells z17 121)):=⟨(BA.block _ (zY HS.1)).trans HS.1,HS.2.trans (Fr1.of_below BA)⟩
        refine Xbw rfl rfl (Xb1 (Xja wd rfl) ⟨HSA,?_⟩)
        have GA:(wd.alloc (.cells z17 121)).heap[wd.heap.size]?=some (.cells z17 121 (0,0)):=heap_alloc_last wd _
        refine Xak (i:=9) (by kernel_rfl) ?_
        refine Xao (f:=122) (args:=#[.agg ds,.string sb,.string gx]) rfl rfl (by go_simp) ?_
        refine(CW.o _).mono ?_
        rintro e w6 ⟨es,rfl,herc,hb6⟩
        have ERC:=Hd herc
        have HS6:(fun wx:World=>wx.heap[p]?=some (.cells ds 121 (0,0))∧Fr1 p w4 wx) w6:=⟨(hb6.block _ (zY HSA.1)).trans HSA.1,HSA.2.trans (Fr1.of_below hb6)⟩
        have G6:=(hb6.block _ (zY GA)).trans GA
        have B6w:=bg BA hb6
        have Q6:=(B6w.block _ (zY HQd.o)).trans HQd.o
        have gp:wd.heap.size≠p:=by have:=zY HS.1;omega
        have gw:wd.heap.size≠w.heap.size:=by have:=zY HQd.o;omega
        have HS8:(fun wx:World=>wx.heap[p]?=some (.cells ds 121 (0,0))∧Fr1 p w4 wx) (w6.setRow wd.heap.size es):=⟨(setRow_other w6 wd.heap.size p es gp.symm).trans HS6.1,⟨HS6.2.os,HS6.2.tape,HS6.2.output,by simpa using HS6.2.size,fun k hk hne=>(setRow_other w6 wd.heap.size k es (by have:=HS.2.size;omega)).trans (HS6.2.other k hk hne)⟩⟩
        have st8:=run_storeVar_row (P:=prog) w6 wd.heap.size _ 121 z17 es G6 (by rw[ERC.o.cl.1];exact Xbr) (by rw[ERC.o.cl.1,cl_z17.1]) ERC.o.cl.2
        refine⟨_,rfl,HS6,?_⟩
        refine Xad 10 (.tuple #[.agg es,.int .i64 (we:Int)]) rfl (fun _ _=>by go_simp) HS6 ?_
        refine Xad 11 (.agg es) rfl (fun _ _=>by go_simp) HS6 ?_
        refine Xad 12 (.int .i64 (we:Int)) rfl (fun _ _=>by go_simp) HS6 ?_
        refine Xa6 (i:=14) (by kernel_rfl) rfl rfl (Xar (t:=121) (ad:=⟨wd.heap.size,0,none⟩) (u:=.agg es) rfl (by kernel_rfl) (by kernel_rfl) st8) HS8 ?_
        refine Xay (i:=15) (v:=.int .i64 (we:Int)) (by kernel_rfl) rfl rfl (Xap rfl (by kernel_rfl)) HS8 ?_
        refine wpAnyH_done (by kernel_rfl) ?_ _
        have G8':=setRow_heap w6 wd.heap.size z17 es _ _ G6
        have Q8':(w6.setRow wd.heap.size es).heap[w.heap.size]?=some (.cells z17 121 (0,0)):=(setRow_other w6 wd.heap.size w.heap.size es gw.symm).trans Q6
        have B8':Bw w (w6.setRow wd.heap.size es):=below_setRow (bg HBd.o B6w) (by have:=zY HQd.o;omega) es
        obtain⟨w8,hw8⟩:=xq (w6.setRow wd.heap.size es)
        obtain⟨g,hg⟩:=xq wd.heap.size
        rw[←hw8] at G8' Q8' B8' HS8⊢
        rw[←hg] at G8'⊢
        have G8:=Hd G8';have P8:=Hd HS8.1;have F8:=Hd HS8.2;have Q8:=Hd Q8';have B8:=Hd B8'
        clear G8' Q8' B8' HS HS6 HSA GA G6 B6w Q6 gp gw HS8 BA st8 hb6 herc hw8 hg HQd HBd LZ CLx CXx CW
        go_simp
        refine‹∀(a:Act) (w_1:World),_→_› _ _ ?_
        go_wp2_with fail
        go_meet
        exact⟨g,es,rfl,rfl,G8,P8,F8,Q8,B8,ERC⟩
      case rest=>
      obtain⟨g,es,rfl,rfl,G8,P8,F8,Q8,B8,ERC⟩:=hcut
      obtain⟨w8,hw8⟩:=xq wc
      rw[←hw8] at G8 P8 F8 Q8 B8⊢
      clear hw8 hd1 hfr HQ HB LZ CLx CXx CW
      obtain⟨st8,rs8,bb8⟩:=Xe8 w w8 z17 cl_z17 Q8.o B8.o
      by_cases e0:we=0
      ·have q5:((we:Int) !=0)=false:=Xau (by omega)
       have LD:=Hd (Xal w8 g 56 _ _ es _ _ G8.o rfl underlying121 Xbr ERC.o.cl.1)
       have ST:=Hd (run_storeVar_row (P:=prog) w8 p _ 121 ds es P8.o (by rw[ERC.o.cl.1];exact Xbr) (by rw[ERC.o.cl.1,DRC.o.cl.1]) ERC.o.cl.2)
       have R9:Hid (RB ((w8).setRow p es) p kx (if a=3 then decide (bs gx=Xi1) else m) (decide (j+1<4))):=Hd ⟨es,setRow_heap w8 p ds es _ _ P8.o,ERC.o.weak' (fun h=>by simp at h⊢;exact A4.o h)⟩
       have F9:Hid (Fr1 p w4 ((w8).setRow p es)):=Hd (F8.o.trans ⟨rfl,rfl,rfl,by simp[World.setRow],fun k hk hne=>setRow_other w8 p k es hne⟩)
       have cx9:((w8).setRow p es).cell? ⟨b',off+nn,none⟩=some (.string gx):=(Xhg F9.o hb4' (by omega)).trans (CX.o)
       have LAW9:Hid (Xea (bs s)=chF kx ((Xcu kx).drop (j+1)) (if a=3 then decide (bs gx=Xi1) else m) ((bs s).drop (ta+1+gx.size))):=Hd (by rw[LAWX.o,e0];rfl)
       clear e0 G8 P8 F8 Q8 B8 st8 rs8 bb8 LAWX ERC A4
       go_wp2_with (first|((with_reducible refine Xac 121 rfl _ rfl ?_);refine⟨_,_,rfl,LD.o,?_⟩)|((with_reducible refine Xab 121 rfl _ _ rfl ?_);refine⟨_,_,_,rfl,rfl,ST.o,?_⟩))
       go_roundg (L-(j+1))
       case measure=>omega
       case rel=>exact⟨j+1,ta+1+gx.size,nn+1,_,by omega,rfl,by go_num,by go_num,by go_num,LAW9,RSTX,TAX,by omega,R9,F9⟩
      ·have q5:((we:Int) !=0)=true:=Xam (by omega)
       have F:Hid (Xea (bs s)=we):=Hd (by rw[LAWX.o];unfold fe;rw[qP e0])
       have ST:=Hd st8;have RES:=Hd rs8;have BB:=Hd bb8
       have A0:Hid (∀a:Int,Xgx (bs s) w (.returned (.tuple #[.agg z17,.int .i64 a,.int .i64 (we:Int)])) ((w8).setRow w.heap.size z17)):=Hd (fun a=>⟨z17,a,by rw[F.o],cl_z17,BB.o⟩)
       clear e0 G8 P8 F8 Q8 B8 st8 rs8 bb8 LAWX ERC A4
       go_wp2_with (first|((with_reducible refine Xaf 121 rfl rfl ?_);refine⟨_,Xdo _,?_⟩)|((with_reducible refine Xab 121 rfl _ _ rfl ?_);refine⟨_,_,_,rfl,rfl,ST.o,?_⟩))
       exact zP (RES.o _ rfl) rfl (A0.o _)
    ·obtain rfl:j=L:=by omega
     have LAWE:Hid (Xea (bs s)=Yl6 kx ((bs s).drop ta)):=Hd (by rw[hlaw.o,List.drop_of_length_le (by rw[HL.o];exact zL _)];rfl)
     clear hlaw
     by_cases hq:nn=n
     ·have q4:((nn:Int)==(n:Int))=true:=Xa4 (by omega)
      have F:Hid (Xea (bs s)=0):=Hd (by
       have h:=hrst.o
       rw[hq,HN.o,←List.length_map (f:=bs),List.drop_length] at h
       rw[LAWE.o,Xyd h];unfold Yl6;split<;>rfl)
      obtain⟨ds,hd1,hd2⟩:=hrb.o
      have DRC:=Hd hd2
      obtain⟨st,rs,bb⟩:=Xe8 w wr ds hd2.cl HQ.o HB.o
      have ST:=Hd st;have RES:=Hd rs;have BB:=Hd bb
      have LD:=Hd (Xal wr p 56 _ _ ds _ _ hd1 rfl underlying121 Xbr hd2.cl.1)
      have A0:Hid (∀a:Int,Xgx (bs s) w (.returned (.tuple #[.agg ds,.int .i64 a,.int .i64 0])) (wr.setRow w.heap.size ds)):=Hd (fun a=>⟨ds,a,by rw[F.o];rfl,DRC.o.cl,BB.o⟩)
      clear st rs bb hd1 hd2 hq hrb hrst
      go_wp2_with (first|((with_reducible refine Xac 121 rfl _ rfl ?_);refine⟨_,_,rfl,LD.o,?_⟩)|((with_reducible refine Xab 121 rfl _ _ rfl ?_);refine⟨_,_,_,rfl,rfl,ST.o,?_⟩))
      exact zP (RES.o _ rfl) rfl (A0.o _)
     have q4:((nn:Int)==(n:Int))=false:=Xaj (by omega)
     have hne:rst ((bs s).drop ta)≠[]:=by
      rw[hrst.o];intro h;rw[List.drop_eq_nil_iff,List.length_map,←HN.o] at h;omega
     have hts:ta<s.size:=by
      rcases Nat.lt_or_ge ta s.size with h|h
      ·exact h
      ·exact absurd (by rw[List.drop_eq_nil_of_le (by rw[LEN.o];exact h)];rfl) hne
     have TE:Hid (∃c,(bs s).drop ta=c::(bs s).drop (ta+1)):=Hd ⟨_,List.drop_eq_getElem_cons (by rw[LEN.o];exact hts)⟩
     clear hne hq hrst
     by_cases h3:kx=3
     ·subst h3
      have v4:IntKind.i64.wrap ((ta:Int)+1)=(ta:Int)+1:=IntWalk.i64_in _ (by omega)
      have t0:(0:Int)≤(ta:Int)+1:=by omega
      have t1:(ta:Int)+1≤(s.size:Int):=by omega
      obtain⟨u,cu,fu⟩:=hrb.o.cell (show 37<56 by omega)
      go_upto_region 32 with fail
      obtain⟨tx,htx⟩:=xq (s.extract (ta+1) s.size)
      have TXB:Hid (bs tx=(bs s).drop (ta+1)):=Hd (by rw[htx,Xom])
      obtain⟨r6,c6⟩:=hrb.o.set 37 (u:=.string tx) rfl (by omega) (by omega) (by omega) (by omega)
      have q6:(wr.setCell ⟨p,37,none⟩ (.string tx)).heap[w.heap.size]?=some (.cells z17 121 (0,0)):=by
       rw[Below.heap_setCell _ _ _ _ (show w.heap.size≠p by omega)];exact HQ.o
      have b6:Bw w (wr.setCell ⟨p,37,none⟩ (.string tx)):=HB.o.setCell (p:=⟨p,37,none⟩) (Nat.le_of_lt hwp) _
      obtain⟨w6,hw6⟩:=xq (wr.setCell ⟨p,37,none⟩ (.string tx))
      rw[←hw6] at r6 c6 q6 b6
      rw[←htx,←hw6]
      have TXL:tx.size≤1000:=by
       have h:=congrArg List.length TXB.o
       rw[Xaa,List.length_drop,LEN.o] at h;omega
      have R6:=Hd r6;have Q6:=Hd q6;have B6:=Hd b6
      have FT:Hid (Xea (bs s)=if tx.size=0 then 4 else Xnf (bs tx)):=Hd (by
       obtain⟨c,hc⟩:=TE.o
       rw[LAWE.o,hc,←TXB.o]
       show(if bs tx=[] then 4 else Xnf (bs tx))=_
       by_cases h:tx.size=0
       ·rw[qP h,qP (by rw[←List.length_eq_zero_iff,Xaa];exact h)]
       ·rw[qN h,qN (by rw[←List.length_eq_zero_iff,Xaa];exact h)])
      clear htx hw6 r6 q6 b6 cu fu LAWE TE TXB hrb hfr HQ HB ck c35
      by_cases he:tx.size=0
      ·have qe:tx.toList.isEmpty=true:=by
          rw[show tx=⟨#[]⟩ from ByteArray.ext (Array.eq_empty_of_size_eq_zero he),ByteArray.toList_eq];rfl
       have F:Hid (Xea (bs s)=4):=Hd (by rw[FT.o,qP he])
       obtain⟨st,rs,bb⟩:=Xe8 w w6 z17 cl_z17 (Q6.o) (B6.o)
       have ST:=Hd st;have RES:=Hd rs;have BB:=Hd bb
       have A0:Hid (∀a:Int,Xgx (bs s) w (.returned (.tuple #[.agg z17,.int .i64 a,.int .i64 4])) ((w6).setRow w.heap.size z17)):=Hd (fun a=>⟨z17,a,by rw[F.o];rfl,cl_z17,BB.o⟩)
       clear st rs bb
       clear he FT
       go_wp2_with (first|((with_reducible refine Xaf 121 rfl rfl ?_);refine⟨_,Xdo _,?_⟩)|((with_reducible refine Xab 121 rfl _ _ rfl ?_);refine⟨_,_,_,rfl,rfl,ST.o,?_⟩))
       exact zP (RES.o _ rfl) rfl (A0.o _)
      ·have qe:tx.toList.isEmpty=false:=Xd2 he
       have TXX:=Hd (fun w=>Xvm tx w (by unfold maxLen;omega))
       obtain⟨te,hte⟩:=xq (Xnf (bs tx))
       have F:Hid (Xea (bs s)=te):=Hd (by rw[FT.o,qN he,hte])
       rw[←hte] at TXX
       clear he FT hte
       go_wp2_with fail
       refine(TXX.o w6).mono ?_
       rintro e w7 ⟨rfl,hd7⟩
       have b7:Bw w6 w7:=Dr.below hd7
       have Q7:=Hd ((b7.block _ (zY Q6.o)).trans Q6.o)
       have B7:=bh B6 b7
       have R7:=Hd (R6.o.on b7)
       clear TXX hd7 b7 R6 Q6 B6 c6
       by_cases e0:te=0
       ·have q5:((te:Int) !=0)=false:=Xau (by omega)
        obtain⟨ds,hd1,hd2⟩:=R7.o
        have DRC:=Hd hd2
        obtain⟨st,rs,bb⟩:=Xe8 w w7 ds hd2.cl Q7.o B7.o
        have ST:=Hd st;have RES:=Hd rs;have BB:=Hd bb
        have LD:=Hd (Xal w7 p 56 _ _ ds _ _ hd1 rfl underlying121 Xbr hd2.cl.1)
        have A0:Hid (∀a:Int,Xgx (bs s) w (.returned (.tuple #[.agg ds,.int .i64 a,.int .i64 0])) (w7.setRow w.heap.size ds)):=Hd (fun a=>⟨ds,a,by rw[F.o,e0];rfl,DRC.o.cl,BB.o⟩)
        clear st rs bb hd1 hd2 e0
        go_wp2_with (first|((with_reducible refine Xac 121 rfl _ rfl ?_);refine⟨_,_,rfl,LD.o,?_⟩)|((with_reducible refine Xab 121 rfl _ _ rfl ?_);refine⟨_,_,_,rfl,rfl,ST.o,?_⟩))
        exact zP (RES.o _ rfl) rfl (A0.o _)
       ·have q5:((te:Int) !=0)=true:=Xam (by omega)
        obtain⟨st,rs,bb⟩:=Xe8 w w7 z17 cl_z17 (Q7.o) (B7.o)
        have ST:=Hd st;have RES:=Hd rs;have BB:=Hd bb
        have A0:Hid (∀a:Int,Xgx (bs s) w (.returned (.tuple #[.agg z17,.int .i64 a,.int .i64 (te:Int)])) ((w7).setRow w.heap.size z17)):=Hd (fun a=>⟨z17,a,by rw[F.o],cl_z17,BB.o⟩)
        clear st rs bb
        clear e0
        go_wp2_with (first|((with_reducible refine Xaf 121 rfl rfl ?_);refine⟨_,Xdo _,?_⟩)|((with_reducible refine Xab 121 rfl _ _ rfl ?_);refine⟨_,_,_,rfl,rfl,ST.o,?_⟩))
        exact zP (RES.o _ rfl) rfl (A0.o _)
     ·have q3:((kx:Int) !=3)=true:=Xam (by omega)
      have F:Hid (Xea (bs s)=5):=Hd (by
       obtain⟨c,hc⟩:=TE.o
       rw[LAWE.o,hc];unfold Yl6;rw[qN h3];rfl)
      obtain⟨st,rs,bb⟩:=Xe8 w wr z17 cl_z17 (HQ.o) (HB.o)
      have ST:=Hd st;have RES:=Hd rs;have BB:=Hd bb
      have A0:Hid (∀a:Int,Xgx (bs s) w (.returned (.tuple #[.agg z17,.int .i64 a,.int .i64 5])) ((wr).setRow w.heap.size z17)):=Hd (fun a=>⟨z17,a,by rw[F.o];rfl,cl_z17,BB.o⟩)
      clear st rs bb
      clear h3 TE
      go_wp2_with (first|((with_reducible refine Xaf 121 rfl rfl ?_);refine⟨_,Xdo _,?_⟩)|((with_reducible refine Xab 121 rfl _ _ rfl ?_);refine⟨_,_,_,rfl,rfl,ST.o,?_⟩))
      exact zP (RES.o _ rfl) rfl (A0.o _)
theorem Xp5:prog.eqGuardType prog.depth 26=false:=by kernel_rfl
theorem str_ctl {s:ByteArray}:(bs s=[])↔s.size=0:=by rw[←List.length_eq_zero_iff,Xaa]
theorem Xvz (w:World)(c:Cn)(gv rv:Value)(hok:c.Ok)(hz:c.ctl.size≤1000000):
    zJ 30 #[.agg (c.cells gv rv)] w (.int .i64 ((Xxg c.p:Nat):Int)):=by
 obtain⟨zs,hzs⟩:=xq (idA zero32)
 have BZ:Hid (∀w,(Instr.build 26 #[]).run prog w=.ok (.agg zs) w):=Hd (fun w=>by rw[hzs];kernel_rfl)
 obtain⟨T,hT⟩:=xq (Xxg c.p)
 rw[←hT]
 have TD:Hid (T=if c.ctl.size=0 then 0 else if sqz (bs c.ctl)=false then 3 else fe (Xea (bs c.ctl)) (if c.sup=zero32 then 0 else 11)):=Hd (by
  rw[hT];unfold Xxg
  show(if bs c.ctl=[] then 0 else fe (eIf (!sqz (bs c.ctl)) 3) (fe (Xea (bs c.ctl)) (eIf (!decide (c.sup=zero32)) 11)))=_
  by_cases h0:c.ctl.size=0
  ·rw[qP h0,qP (str_ctl.2 h0)]
  ·rw[qN h0,qN (fun h=>h0 (str_ctl.1 h))]
   cases sqz (bs c.ctl)
   ·rfl
   ·by_cases hs:c.sup=zero32
    ·rw[qP hs,zT hs];rfl
    ·rw[qN hs,zW hs];rfl)
 obtain⟨w0,hw0⟩:=xq (w.alloc (.cells (c.cells gv rv) 28))
 have B0:Hid (Bw w w0):=Hd (by rw[hw0];exact(zR _ _).alloc (zL _) _)
 have C0:CB w0 w.heap.size c gv rv 28:=by rw[hw0];exact CB.new w c gv rv _
 have cc:w0.cell? ⟨w.heap.size,53,none⟩=some (.string c.ctl):=C0.at (Xjn hok gv rv)
 have SUP:Hid (∀wx,Bw w0 wx→Ld 26 ⟨w.heap.size,21,none⟩ wx (.agg (idA c.sup))):=Hd (fun wx h=>(C0.on h).sup hok)
 have CC:Hid (∀wx,Bw w0 wx→wx.cell? ⟨w.heap.size,53,none⟩=some (.string c.ctl)):=Hd (fun wx h=>(C0.on h).at (Xjn hok gv rv))
 have EQ:Hid (∀w,(Op.equal 26 (.agg (idA c.sup)) (.agg zs)).run prog w=.ok (decide (c.sup=zero32)) w):=Hd (fun w=>by
  rw[hzs];exact Xh3 underlying26 (by kernel_rfl) (by kernel_rfl) w hok.sup.len hok.sup.lt zero_ok.len zero_ok.lt)
 obtain⟨cs,hcs⟩:=xq (c.cells gv rv)
 obtain⟨t,ht⟩:=xq c.ctl
 obtain⟨su,hsu⟩:=xq (idA c.sup)
 obtain⟨q,hq⟩:=xq (decide (c.sup=zero32))
 have TD2:Hid (T=if t.size=0 then 0 else if sqz (bs t)=false then 3 else fe (Xea (bs t)) (if q=true then 0 else 11)):=Hd (by
  rw[TD.o,ht,hq];simp)
 rw[←hcs] at hw0⊢
 rw[←ht] at cc CC hz
 rw[←hsu] at SUP EQ
 rw[←hq] at EQ
 have HW:=Hd hw0
 have SQ:=Hd (fun w=>Xty t w (by unfold maxLen;omega))
 have PP:=Hd (fun w=>Xpd t w (by omega))
 clear hw0 hcs ht hsu hq hT TD C0 hzs hok
 go_enter func30,ntmps30
 go_upto_region 1 with fail
 rw[←HW.o]
 clear HW
 by_cases h0:t.size=0
 ·have F:Hid (T=0):=Hd (by rw[TD2.o,qP h0])
  have qe:t.toList.isEmpty=true:=by
   rw[show t=⟨#[]⟩ from ByteArray.ext (Array.eq_empty_of_size_eq_zero h0),ByteArray.toList_eq];rfl
  clear h0
  go_wp2_with fail
  go_ret
  exact⟨by rw[F.o];rfl,B0.o⟩
 have qe:t.toList.isEmpty=false:=Xd2 h0
 have TD3:Hid (T=if sqz (bs t)=false then 3 else fe (Xea (bs t)) (if q=true then 0 else 11)):=Hd (by rw[TD2.o,qN h0])
 clear h0 TD2
 obtain⟨z,hz2⟩:=xq (sqz (bs t))
 rw[←hz2] at SQ TD3
 clear hz2
 go_wp2_with fail
 refine(SQ.o w0).mono ?_
 rintro e w1 ⟨rfl,hd1⟩
 have b1:Bw w0 w1:=Dr.below hd1
 have B1:=Hd b1
 have cc1:=CC.o w1 b1
 clear hd1 b1 SQ cc
 cases z
 ·have F:Hid (T=3):=Hd (by rw[TD3.o];rfl)
  go_wp2_with fail
  go_ret
  exact⟨by rw[F.o];rfl,bg B0.o B1.o⟩
 have TD4:Hid (T=fe (Xea (bs t)) (if q=true then 0 else 11)):=Hd (by rw[TD3.o];rfl)
 clear TD3
 go_wp2_with fail
 refine(PP.o w1).mono ?_
 rintro e w2 ⟨ds,a,rfl,hcl,hb2⟩
 obtain⟨er,her⟩:=xq (Xea (bs t))
 rw[←her] at TD4⊢
 have DCL:=Hd hcl
 have B2:=bh B1 hb2
 have STN:Hid (∀zz:Array Value,zz.size=56→Sv 121 ⟨w2.heap.size,0,none⟩ (.agg ds) (w2.alloc (.cells zz 121)) (w2.alloc (.cells ds 121))):=Hd (fun zz hz=>run_storeVar_new w2 121 zz ds (by rw[DCL.o.1];exact Xbr) (by rw[hz,DCL.o.1]) DCL.o.2)
 have B3:=Hd (B2.o.alloc B2.o.size (.cells ds 121))
 clear her hcl hb2 PP cc1 CC
 by_cases e0:er=0
 ·have q5:((er:Int) !=0)=false:=Xau (by omega)
  have TD5:Hid (T=if q=true then 0 else 11):=Hd (by rw[TD4.o,e0];rfl)
  have LD:=Hd (SUP.o _ B3.o)
  clear e0 TD4
  cases q
  ·have F:Hid (T=11):=Hd (by rw[TD5.o];rfl)
   go_wp2_with (first
    |((with_reducible refine Xab 121 rfl _ _ rfl ?_);refine⟨_,_,_,rfl,rfl,STN.o _ rfl,?_⟩)
    |((with_reducible refine Xac 26 rfl _ rfl ?_);refine⟨_,_,rfl,LD.o,?_⟩)
    |((with_reducible refine Xaf 26 rfl rfl ?_);refine⟨_,BZ.o _,?_⟩)
    |((with_reducible refine Xmf 26 rfl _ _ rfl Xp5 ?_);refine⟨_,_,_,rfl,rfl,EQ.o _,?_⟩))
   go_ret
   exact⟨by rw[F.o];rfl,bg B0.o B3.o⟩
  ·have F:Hid (T=0):=Hd (by rw[TD5.o];rfl)
   go_wp2_with (first
    |((with_reducible refine Xab 121 rfl _ _ rfl ?_);refine⟨_,_,_,rfl,rfl,STN.o _ rfl,?_⟩)
    |((with_reducible refine Xac 26 rfl _ rfl ?_);refine⟨_,_,rfl,LD.o,?_⟩)
    |((with_reducible refine Xaf 26 rfl rfl ?_);refine⟨_,BZ.o _,?_⟩)
    |((with_reducible refine Xmf 26 rfl _ _ rfl Xp5 ?_);refine⟨_,_,_,rfl,rfl,EQ.o _,?_⟩))
   go_ret
   exact⟨by rw[F.o];rfl,bg B0.o B3.o⟩
 ·have q5:((er:Int) !=0)=true:=Xam (by omega)
  have F:Hid (T=er):=Hd (by rw[TD4.o];unfold fe;rw[qP e0])
  clear e0 TD4
  go_wp2_with ((with_reducible refine Xab 121 rfl _ _ rfl ?_);refine⟨_,_,_,rfl,rfl,STN.o _ rfl,?_⟩)
  go_ret
  exact⟨by rw[F.o];rfl,bg B0.o B3.o⟩
theorem Yao {o:Oper}{a:Act}{w:World}{x:Operand}{h:Int}(ho:o.op=.binOp .shl 3 (.const (.int .i64 1)) x 3)(hx:a.eval x=.int .i64 h)(h1:1≤h)(h8:h≤8):
    (execOp a.eval o).run prog w=.ok (.value (.int .i64 (2^h.toNat))) w:=by
 unfold execOp
 rw[ho]
 simp only[hx]
 rcases(by omega:h=1∨h=2∨h=3∨h=4∨h=5∨h=6∨h=7∨h=8) with rfl|rfl|rfl|rfl|rfl|rfl|rfl|rfl<;>rfl
theorem Xwc {h:Int}(h1:1≤h)(h8:h≤8):Xbh h=2^h.toNat:=by
 unfold Xbh Xav
 rw[zT h1,zT h8];rfl
theorem Xpo (w:World)(c:Cn)(gv rv:Value)(hin:CnIn w c gv rv):
    zJ 7 #[.agg (c.cells gv rv)] w (.int .i64 ((Xc4 c.p:Nat):Int)):=by
 have IN:=Hd hin
 have OK:=Hd hin.ok
 obtain⟨T,hT⟩:=xq (Xc4 c.p)
 rw[←hT]
 obtain⟨w0,hw0⟩:=xq (w.alloc (.cells (c.cells gv rv) 28))
 have B0:Hid (Bw w w0):=Hd (by rw[hw0];exact(zR _ _).alloc (zL _) _)
 have C0:CB w0 w.heap.size c gv rv 28:=by rw[hw0];exact CB.new w c gv rv _
 have CBW:Hid (∀wx,Bw w0 wx→CB wx w.heap.size c gv rv 28):=Hd (fun wx h=>C0.on h)
 have INW:Hid (∀wx,Bw w0 wx→CnIn wx c gv rv):=Hd (fun wx h=>hin.on (bg B0.o h))
 obtain⟨v1,hv1⟩:=xq (Xfp (bs c.name) 60)
 obtain⟨d2,hd2⟩:=xq ((decide (c.date<0)||decide (105190559<c.date)))
 obtain⟨v3,hv3⟩:=xq (Xbt (c.groups.map bs))
 obtain⟨v4,hv4⟩:=xq (Xfp (bs c.subject) 200)
 obtain⟨v5,hv5⟩:=xq (Xe9 c.refs)
 obtain⟨v6,hv6⟩:=xq (Xxg c.p)
 obtain⟨v7,hv7⟩:=xq (Xli (bs c.dist))
 obtain⟨v12,hv12⟩:=xq (Xf1 (bs c.body))
 obtain⟨nu,hnu⟩:=xq c.number
 obtain⟨ht,hht⟩:=xq c.height
 obtain⟨lf,hlf⟩:=xq c.leaf
 have TD1:Hid (T=fe v1 (fe (eIf d2 13) (fe v3 (fe v4 (fe v5 (fe v6 (fe v7 (fe (eIf (decide (nu<0)||decide (1000<nu)) 2) (fe (eIf (!Xav ht) 2) (fe (eIf (decide (lf<0)||decide (Xbh ht≤lf)) 2) (fe (eIf (decide (57344<c.body.size)) 5) v12))))))))))):=Hd (by
  rw[hT,hv1,hd2,hv3,hv4,hv5,hv6,hv7,hv12,hnu,hht,hlf,←Xaa c.body];rfl)
 have K1:=Hd (fun w=>Xkj c.name 60 w (by have:=hin.name;omega) (by omega))
 have K2:=Hd (fun w=>Xvl w c.date)
 have K3:=Hd (fun wx (h:CnIn wx c gv rv)=>Xrg wx gv c.groups h.srow h.gl h.gz)
 have K4:=Hd (fun w=>Xkj c.subject 200 w (by have:=hin.subject;omega) (by omega))
 have K5:=Hd (fun wx (h:CnIn wx c gv rv)=>Xph wx rv c.refs h.irow h.rl h.ok.refs)
 have K5b:=Hd (fun wx v (h:IRow wx v c.refs)=>Xpn wx v c.refs h hin.rl hin.ok.refs)
 have K6:=Hd (fun w=>Xvz w c gv rv hin.ok hin.ctl)
 have K7:=Hd (fun w=>Xyt c.dist w (by have:=hin.dist;unfold maxLen;omega))
 have K12:=Hd (fun w=>Xyw c.body w (by have:=hin.body;omega))
 have F0:Hid (∀wx,Bw w0 wx→wx.cell? ⟨w.heap.size,0,none⟩=some (.string c.name)):=Hd (fun wx h=>(CBW.o wx h).at (Ya9 c gv rv))
 have F17:Hid (∀wx,Bw w0 wx→wx.cell? ⟨w.heap.size,17,none⟩=some (.int .i64 c.date)):=Hd (fun wx h=>by have e:=(CBW.o wx h).at (Xln OK.o gv rv);first|exact e|(rw[←hnu] at e;exact e)|(rw[←hht] at e;exact e)|(rw[←hlf] at e;exact e))
 have F18:Hid (∀wx,Bw w0 wx→wx.cell? ⟨w.heap.size,18,none⟩=some (gv)):=Hd (fun wx h=>by have e:=(CBW.o wx h).at (Xh8 OK.o gv rv);first|exact e|(rw[←hnu] at e;exact e)|(rw[←hht] at e;exact e)|(rw[←hlf] at e;exact e))
 have F19:Hid (∀wx,Bw w0 wx→wx.cell? ⟨w.heap.size,19,none⟩=some (.string c.subject)):=Hd (fun wx h=>by have e:=(CBW.o wx h).at (Xlm OK.o gv rv);first|exact e|(rw[←hnu] at e;exact e)|(rw[←hht] at e;exact e)|(rw[←hlf] at e;exact e))
 have F20:Hid (∀wx,Bw w0 wx→wx.cell? ⟨w.heap.size,20,none⟩=some (rv)):=Hd (fun wx h=>by have e:=(CBW.o wx h).at (Xh7 OK.o gv rv);first|exact e|(rw[←hnu] at e;exact e)|(rw[←hht] at e;exact e)|(rw[←hlf] at e;exact e))
 have F54:Hid (∀wx,Bw w0 wx→wx.cell? ⟨w.heap.size,54,none⟩=some (.string c.dist)):=Hd (fun wx h=>by have e:=(CBW.o wx h).at (Xll OK.o gv rv);first|exact e|(rw[←hnu] at e;exact e)|(rw[←hht] at e;exact e)|(rw[←hlf] at e;exact e))
 have F55:Hid (∀wx,Bw w0 wx→wx.cell? ⟨w.heap.size,55,none⟩=some (.int .i64 nu)):=Hd (fun wx h=>by have e:=(CBW.o wx h).at (Xjm OK.o gv rv);first|exact e|(rw[←hnu] at e;exact e)|(rw[←hht] at e;exact e)|(rw[←hlf] at e;exact e))
 have F56:Hid (∀wx,Bw w0 wx→wx.cell? ⟨w.heap.size,56,none⟩=some (.int .i64 ht)):=Hd (fun wx h=>by have e:=(CBW.o wx h).at (Xst OK.o gv rv);first|exact e|(rw[←hnu] at e;exact e)|(rw[←hht] at e;exact e)|(rw[←hlf] at e;exact e))
 have F73:Hid (∀wx,Bw w0 wx→wx.cell? ⟨w.heap.size,73,none⟩=some (.int .i64 lf)):=Hd (fun wx h=>by have e:=(CBW.o wx h).at (Xh6 OK.o gv rv);first|exact e|(rw[←hnu] at e;exact e)|(rw[←hht] at e;exact e)|(rw[←hlf] at e;exact e))
 have F74:Hid (∀wx,Bw w0 wx→wx.cell? ⟨w.heap.size,74,none⟩=some (.string c.body)):=Hd (fun wx h=>by have e:=(CBW.o wx h).at (Xjl OK.o gv rv);first|exact e|(rw[←hnu] at e;exact e)|(rw[←hht] at e;exact e)|(rw[←hlf] at e;exact e))
 have FA:Hid (∀wx,Bw w0 wx→Ld 28 ⟨w.heap.size,0,none⟩ wx (.agg (c.cells gv rv))):=Hd (fun wx h=>(CBW.o wx h).allR OK.o)
 rw[←hv1] at K1;rw[←hd2] at K2;rw[←hv3] at K3;rw[←hv4] at K4;rw[←hv5] at K5b;rw[←hv6] at K6;rw[←hv7] at K7
 have BPD:Hid (∀w e w',Yb1 (bs c.body) w e w'→∃n:Int,e=.returned (.tuple #[.int .i64 n,.int .i64 (v12:Int)])∧Bw w w'):=Hd (fun w e w' h=>by rw[hv12];exact h)
 obtain⟨cs,hcs⟩:=xq (c.cells gv rv)
 rw[←hcs] at hw0 FA K6⊢
 obtain⟨nm,hnm⟩:=xq c.name
 obtain⟨dt,hdt⟩:=xq c.date
 obtain⟨sj,hsj⟩:=xq c.subject
 obtain⟨di,hdi⟩:=xq c.dist
 obtain⟨bo,hbo⟩:=xq c.body
 have BSZ:bo.size≤1000000:=by rw[hbo];exact hin.body
 rw[←hnm] at K1 F0;rw[←hdt] at K2 F17;rw[←hsj] at K4 F19;rw[←hdi] at K7 F54;rw[←hbo] at K12 F74 TD1 BPD
 have HW:=Hd hw0
 clear hw0 hcs hnm hdt hsj hdi hbo hnu hht hlf hv1 hd2 hv3 hv4 hv5 hv6 hv7 hv12 hT C0 hin CBW IN
 have f0:=F0.o w0 (zR _ _)
 clear F0
 go_enter func7,ntmps7
 go_upto_region 1 with fail
 rw[←HW.o]
 clear HW
 have b0:Hid (Bw w0 w0):=Hd (zR _ _)
 go_wp2_with fail
 refine(K1.o w0).mono ?_
 rintro e w1 ⟨rfl,hb⟩
 have b1:=bh b0 hb
 clear hb K1 f0 b0
 by_cases e0:v1≠0
 ·have q0:((v1:Int) !=0)=true:=Xam (by omega)
  have F:Hid (T=v1):=Hd (by rw[TD1.o];unfold fe;rw[qP e0])
  clear TD1 e0
  go_wp2_with fail
  go_ret
  exact⟨by rw[F.o];rfl,bg B0.o b1.o⟩
 have q0:((v1:Int) !=0)=false:=Xau (by omega)
 have TD2:Hid (T=fe (eIf d2 13) (fe v3 (fe v4 (fe v5 (fe v6 (fe v7 (fe (eIf (decide (nu<0)||decide (1000<nu)) 2) (fe (eIf (!Xav ht) 2) (fe (eIf (decide (lf<0)||decide (Xbh ht≤lf)) 2) (fe (eIf (decide (57344<bo.size)) 5) v12)))))))))):=Hd (by rw[TD1.o,show v1=0 by omega];rfl)
 clear TD1 e0
 have f0:=F17.o w1 b1.o
 clear F17
 go_wp2_with fail
 refine(K2.o w1).mono ?_
 rintro e w2 ⟨rfl,rfl⟩
 clear K2 f0
 cases d2
 case true=>
  have F:Hid (T=13):=Hd (by rw[TD2.o];rfl)
  clear TD2 q0
  simp only[Bool.not_true]
  go_wp2_with fail
  go_ret
  exact⟨by rw[F.o];rfl,bg B0.o b1.o⟩
 simp only[Bool.not_false]
 have TD3:Hid (T=fe v3 (fe v4 (fe v5 (fe v6 (fe v7 (fe (eIf (decide (nu<0)||decide (1000<nu)) 2) (fe (eIf (!Xav ht) 2) (fe (eIf (decide (lf<0)||decide (Xbh ht≤lf)) 2) (fe (eIf (decide (57344<bo.size)) 5) v12))))))))):=Hd (by rw[TD2.o];rfl)
 clear TD2 q0
 have f0:=F18.o w1 b1.o
 clear F18
 go_wp2_with fail
 refine(K3.o w1 (INW.o w1 b1.o)).mono ?_
 rintro e w3 ⟨rfl,hb⟩
 have b3:=bh b1 hb
 clear hb K3 f0 b1
 by_cases e0:v3≠0
 ·have q0:((v3:Int) !=0)=true:=Xam (by omega)
  have F:Hid (T=v3):=Hd (by rw[TD3.o];unfold fe;rw[qP e0])
  clear TD3 e0
  go_wp2_with fail
  go_ret
  exact⟨by rw[F.o];rfl,bg B0.o b3.o⟩
 have q0:((v3:Int) !=0)=false:=Xau (by omega)
 have TD4:Hid (T=fe v4 (fe v5 (fe v6 (fe v7 (fe (eIf (decide (nu<0)||decide (1000<nu)) 2) (fe (eIf (!Xav ht) 2) (fe (eIf (decide (lf<0)||decide (Xbh ht≤lf)) 2) (fe (eIf (decide (57344<bo.size)) 5) v12)))))))):=Hd (by rw[TD3.o,show v3=0 by omega];rfl)
 clear TD3 e0
 have f0:=F19.o w3 b3.o
 clear F19
 go_wp2_with fail
 refine(K4.o w3).mono ?_
 rintro e w4 ⟨rfl,hb⟩
 have b4:=bh b3 hb
 clear hb K4 f0 q0 b3
 by_cases e0:v4≠0
 ·have q0:((v4:Int) !=0)=true:=Xam (by omega)
  have F:Hid (T=v4):=Hd (by rw[TD4.o];unfold fe;rw[qP e0])
  clear TD4 e0
  go_wp2_with fail
  go_ret
  exact⟨by rw[F.o];rfl,bg B0.o b4.o⟩
 have q0:((v4:Int) !=0)=false:=Xau (by omega)
 have TD5:Hid (T=fe v5 (fe v6 (fe v7 (fe (eIf (decide (nu<0)||decide (1000<nu)) 2) (fe (eIf (!Xav ht) 2) (fe (eIf (decide (lf<0)||decide (Xbh ht≤lf)) 2) (fe (eIf (decide (57344<bo.size)) 5) v12))))))):=Hd (by rw[TD4.o,show v4=0 by omega];rfl)
 clear TD4 e0
 have f0:=F20.o w4 b4.o
 clear F20
 go_wp2_with fail
 refine(K5.o w4 (INW.o w4 b4.o)).mono ?_
 rintro e w5 ⟨v',rfl,hir,hb⟩
 have b5:=bh b4 hb
 have IR5:=Hd hir
 clear hb hir K5 f0 b4 q0 INW
 go_wp2_with fail
 refine(K5b.o w5 v' IR5.o).mono ?_
 rintro e w6 ⟨rfl,hb⟩
 have b6:=bh b5 hb
 clear hb K5b IR5 b5
 by_cases e0:v5≠0
 ·have q0:((v5:Int) !=0)=true:=Xam (by omega)
  have F:Hid (T=v5):=Hd (by rw[TD5.o];unfold fe;rw[qP e0])
  clear TD5 e0
  go_wp2_with fail
  go_ret
  exact⟨by rw[F.o];rfl,bg B0.o b6.o⟩
 have q0:((v5:Int) !=0)=false:=Xau (by omega)
 have TD6:Hid (T=fe v6 (fe v7 (fe (eIf (decide (nu<0)||decide (1000<nu)) 2) (fe (eIf (!Xav ht) 2) (fe (eIf (decide (lf<0)||decide (Xbh ht≤lf)) 2) (fe (eIf (decide (57344<bo.size)) 5) v12)))))):=Hd (by rw[TD5.o,show v5=0 by omega];rfl)
 clear TD5 e0
 have LD:=Hd (FA.o w6 b6.o)
 clear FA
 go_wp2_with ((with_reducible refine Xac 28 rfl _ rfl ?_);refine⟨_,_,rfl,LD.o,?_⟩)
 refine(K6.o w6).mono ?_
 rintro e w7 ⟨rfl,hb⟩
 have b7:=bh b6 hb
 clear hb K6 LD q0 b6
 by_cases e0:v6≠0
 ·have q0:((v6:Int) !=0)=true:=Xam (by omega)
  have F:Hid (T=v6):=Hd (by rw[TD6.o];unfold fe;rw[qP e0])
  clear TD6 e0
  go_wp2_with fail
  go_ret
  exact⟨by rw[F.o];rfl,bg B0.o b7.o⟩
 have q0:((v6:Int) !=0)=false:=Xau (by omega)
 have TD7:Hid (T=fe v7 (fe (eIf (decide (nu<0)||decide (1000<nu)) 2) (fe (eIf (!Xav ht) 2) (fe (eIf (decide (lf<0)||decide (Xbh ht≤lf)) 2) (fe (eIf (decide (57344<bo.size)) 5) v12))))):=Hd (by rw[TD6.o,show v6=0 by omega];rfl)
 clear TD6 e0
 have f0:=F54.o w7 b7.o
 clear F54
 go_wp2_with fail
 refine(K7.o w7).mono ?_
 rintro e w8 ⟨rfl,hb⟩
 have b8:=Hd (b7.o.trans ((Dr.below hb:Bw w7 w8).mono b7.o.size))
 clear hb K7 f0 q0 b7
 by_cases e0:v7≠0
 ·have q0:((v7:Int) !=0)=true:=Xam (by omega)
  have F:Hid (T=v7):=Hd (by rw[TD7.o];unfold fe;rw[qP e0])
  clear TD7 e0
  go_wp2_with fail
  go_ret
  exact⟨by rw[F.o];rfl,bg B0.o b8.o⟩
 have q0:((v7:Int) !=0)=false:=Xau (by omega)
 have TD8:Hid (T=fe (eIf (decide (nu<0)||decide (1000<nu)) 2) (fe (eIf (!Xav ht) 2) (fe (eIf (decide (lf<0)||decide (Xbh ht≤lf)) 2) (fe (eIf (decide (57344<bo.size)) 5) v12)))):=Hd (by rw[TD7.o,show v7=0 by omega];rfl)
 clear TD7 e0
 have g55:=F55.o w8 b8.o
 have g56:=F56.o w8 b8.o
 have g73:=F73.o w8 b8.o
 have f0:=F74.o w8 b8.o
 clear F55 F56 F73
 by_cases h1:nu<0
 ·have p1:decide (nu<0)=true:=zT h1
  have F:Hid (T=2):=Hd (by rw[TD8.o,p1];rfl)
  clear TD8
  go_upto_region 21 with fail
  go_quiet (fail)
  obtain⟨wd,hwd⟩:=xq (w8.drewN nq)
  have b9:Hid (Bw w0 wd):=Hd (by rw[hwd];exact b8.o.trans ((Dr.below ⟨nq,rfl⟩).mono b8.o.size))
  rw[←hwd]
  clear hwd
  go_wp2_with fail
  go_ret
  exact⟨by rw[F.o];rfl,bg B0.o b9.o⟩
 have p1:decide (nu<0)=false:=zW h1
 by_cases h2:1000<nu
 ·have p2:decide (1000<nu)=true:=zT h2
  have F:Hid (T=2):=Hd (by rw[TD8.o,p1,p2];rfl)
  clear TD8
  go_upto_region 21 with fail
  go_quiet (fail)
  obtain⟨wd,hwd⟩:=xq (w8.drewN nq)
  have b9:Hid (Bw w0 wd):=Hd (by rw[hwd];exact b8.o.trans ((Dr.below ⟨nq,rfl⟩).mono b8.o.size))
  rw[←hwd]
  clear hwd
  go_wp2_with fail
  go_ret
  exact⟨by rw[F.o];rfl,bg B0.o b9.o⟩
 have p2:decide (1000<nu)=false:=zW h2
 by_cases h3:ht<1
 ·have p3:decide (ht<1)=true:=zT h3
  have F:Hid (T=2):=Hd (by rw[TD8.o,p1,p2,show Xav ht=false by unfold Xav;rw[zW (show¬(1≤ht) by omega)];rfl];rfl)
  clear TD8
  go_upto_region 21 with fail
  go_quiet (fail)
  obtain⟨wd,hwd⟩:=xq (w8.drewN nq)
  have b9:Hid (Bw w0 wd):=Hd (by rw[hwd];exact b8.o.trans ((Dr.below ⟨nq,rfl⟩).mono b8.o.size))
  rw[←hwd]
  clear hwd
  go_wp2_with fail
  go_ret
  exact⟨by rw[F.o];rfl,bg B0.o b9.o⟩
 have p3:decide (ht<1)=false:=zW h3
 by_cases h4:8<ht
 ·have p4:decide (8<ht)=true:=zT h4
  have F:Hid (T=2):=Hd (by rw[TD8.o,p1,p2,show Xav ht=false by unfold Xav;rw[zT (show 1≤ht by omega),zW (show¬(ht≤8) by omega)];rfl];rfl)
  clear TD8
  go_upto_region 21 with fail
  go_quiet (fail)
  obtain⟨wd,hwd⟩:=xq (w8.drewN nq)
  have b9:Hid (Bw w0 wd):=Hd (by rw[hwd];exact b8.o.trans ((Dr.below ⟨nq,rfl⟩).mono b8.o.size))
  rw[←hwd]
  clear hwd
  go_wp2_with fail
  go_ret
  exact⟨by rw[F.o];rfl,bg B0.o b9.o⟩
 have p4:decide (8<ht)=false:=zW h4
 have TD9:Hid (T=fe (eIf (decide (lf<0)||decide ((2:Int)^ht.toNat≤lf)) 2) (fe (eIf (decide (57344<bo.size)) 5) v12)):=Hd (by
  rw[TD8.o,p1,p2,show Xav ht=true by unfold Xav;rw[zT (show 1≤ht by omega),zT (show ht≤8 by omega)];rfl,Xwc (show 1≤ht by omega) (show ht≤8 by omega)];rfl)
 clear TD8
 have TD8:=TD9
 clear TD9
 by_cases h5:lf<0
 ·have p5:decide (lf<0)=true:=zT h5
  have F:Hid (T=2):=Hd (by rw[TD8.o,p5];rfl)
  clear TD8
  go_upto_region 21 with fail
  go_quiet (fail)
  obtain⟨wd,hwd⟩:=xq (w8.drewN nq)
  have b9:Hid (Bw w0 wd):=Hd (by rw[hwd];exact b8.o.trans ((Dr.below ⟨nq,rfl⟩).mono b8.o.size))
  rw[←hwd]
  clear hwd
  go_wp2_with fail
  go_ret
  exact⟨by rw[F.o];rfl,bg B0.o b9.o⟩
 have p5:decide (lf<0)=false:=zW h5
 obtain⟨N,hN⟩:∃N:Int,N=2^ht.toNat:=⟨_,rfl⟩
 have SH:Hid (∀(o:Oper) (a:Act) (w:World) (x:Operand),o.op=.binOp .shl 3 (.const (.int .i64 1)) x 3→a.eval x=.int .i64 ht→(execOp a.eval o).run prog w=.ok (.value (.int .i64 N)) w):=Hd (fun o a w x ho hx=>by rw[hN];exact Yao ho hx (by omega) (by omega))
 rw[←hN] at TD8
 clear hN
 by_cases h6:N≤lf
 ·have p6:decide (N≤lf)=true:=zT h6
  have F:Hid (T=2):=Hd (by rw[TD8.o,p5,p6];rfl)
  clear TD8
  go_upto_region 21 with fail
  have HS:(fun wx:World=>wx.cell? ⟨w.heap.size,55,none⟩=some (.int .i64 nu)∧wx.cell? ⟨w.heap.size,56,none⟩=some (.int .i64 ht)∧wx.cell? ⟨w.heap.size,73,none⟩=some (.int .i64 lf)) w8.drew:=⟨g55,g56,g73⟩
  refine wp_region_held (S:=fun wx:World=>wx.cell? ⟨w.heap.size,55,none⟩=some (.int .i64 nu)∧wx.cell? ⟨w.heap.size,56,none⟩=some (.int .i64 ht)∧wx.cell? ⟨w.heap.size,73,none⟩=some (.int .i64 lf)) (by kernel_rfl) ?_
  change wpAnyH _ _ _ _ _ _ _ _ w8.drew
  obtain⟨wd,hwd⟩:=xq w8.drew
  have b9:Hid (Bw w0 wd):=Hd (by rw[hwd];exact b8.o.drew)
  have f0:wd.cell? ⟨w.heap.size,74,none⟩=some (.string bo):=F74.o wd b9.o
  rw[←hwd] at HS⊢
  clear hwd g55 g56 g73
  refine Xad 0 (.pointer (some ⟨w.heap.size,55,none⟩)) rfl (fun _ _=>by go_simp) HS ?_
  refine Xad 1 (.int .i64 nu) rfl (fun w' hw'=>by obtain⟨c1,c2,c3⟩:=hw';go_simp) HS ?_
  refine Xad 2 (.bool false) rfl (fun _ _=>by go_simp) HS ?_
  refine Xad 3 (.bool false) rfl (fun _ _=>by go_simp) HS ?_
  refine Xad 4 (.pointer (some ⟨w.heap.size,55,none⟩)) rfl (fun _ _=>by go_simp) HS ?_
  refine Xad 5 (.int .i64 nu) rfl (fun w' hw'=>by obtain⟨c1,c2,c3⟩:=hw';go_simp) HS ?_
  refine Xad 6 (.bool false) rfl (fun _ _=>by go_simp) HS ?_
  refine Xad 7 (.bool false) rfl (fun _ _=>by go_simp) HS ?_
  refine Xad 8 (.bool false) rfl (fun _ _=>by go_simp) HS ?_
  refine Xad 9 (.pointer (some ⟨w.heap.size,56,none⟩)) rfl (fun _ _=>by go_simp) HS ?_
  refine Xad 10 (.int .i64 ht) rfl (fun w' hw'=>by obtain⟨c1,c2,c3⟩:=hw';go_simp) HS ?_
  refine Xad 11 (.bool false) rfl (fun _ _=>by go_simp) HS ?_
  refine Xad 12 (.bool false) rfl (fun _ _=>by go_simp) HS ?_
  refine Xad 13 (.bool false) rfl (fun _ _=>by go_simp) HS ?_
  refine Xad 14 (.pointer (some ⟨w.heap.size,56,none⟩)) rfl (fun _ _=>by go_simp) HS ?_
  refine Xad 15 (.int .i64 ht) rfl (fun w' hw'=>by obtain⟨c1,c2,c3⟩:=hw';go_simp) HS ?_
  refine Xad 16 (.bool false) rfl (fun _ _=>by go_simp) HS ?_
  refine Xad 17 (.bool false) rfl (fun _ _=>by go_simp) HS ?_
  refine Xad 18 (.bool false) rfl (fun _ _=>by go_simp) HS ?_
  refine Xad 19 (.pointer (some ⟨w.heap.size,73,none⟩)) rfl (fun _ _=>by go_simp) HS ?_
  refine Xad 20 (.int .i64 lf) rfl (fun w' hw'=>by obtain⟨c1,c2,c3⟩:=hw';go_simp) HS ?_
  refine Xad 21 (.bool false) rfl (fun _ _=>by go_simp) HS ?_
  refine Xad 22 (.bool false) rfl (fun _ _=>by go_simp) HS ?_
  refine Xad 23 (.bool false) rfl (fun _ _=>by go_simp) HS ?_
  refine Xad 24 (.pointer (some ⟨w.heap.size,73,none⟩)) rfl (fun _ _=>by go_simp) HS ?_
  refine Xad 25 (.int .i64 lf) rfl (fun w' hw'=>by obtain⟨c1,c2,c3⟩:=hw';go_simp) HS ?_
  refine Xad 26 (.pointer (some ⟨w.heap.size,56,none⟩)) rfl (fun _ _=>by go_simp) HS ?_
  refine Xad 27 (.int .i64 ht) rfl (fun w' hw'=>by obtain⟨c1,c2,c3⟩:=hw';go_simp) HS ?_
  refine Xad 28 (.int .i64 N) rfl (fun _ _=>SH.o _ _ _ _ rfl (by kernel_rfl)) HS ?_
  refine Xad 29 (.bool true) rfl (fun _ _=>by go_simp) HS ?_
  refine Xad 30 (.bool true) rfl (fun _ _=>by go_simp) HS ?_
  refine wpAnyH_done (by kernel_rfl) ?_ _
  clear HS
  go_simp
  refine‹∀(a:Act) (w_1:World),_→_› _ _ ?_
  go_wp2_with fail
  go_ret
  exact⟨by rw[F.o];rfl,bg B0.o b9.o⟩
 ·have p6:decide (N≤lf)=false:=zW h6
  have TD10:Hid (T=fe (eIf (decide (57344<bo.size)) 5) v12):=Hd (by rw[TD8.o,p5,p6];rfl)
  clear TD8
  go_upto_region 21 with fail
  have HS:(fun wx:World=>wx.cell? ⟨w.heap.size,55,none⟩=some (.int .i64 nu)∧wx.cell? ⟨w.heap.size,56,none⟩=some (.int .i64 ht)∧wx.cell? ⟨w.heap.size,73,none⟩=some (.int .i64 lf)) w8.drew:=⟨g55,g56,g73⟩
  refine wp_region_held (S:=fun wx:World=>wx.cell? ⟨w.heap.size,55,none⟩=some (.int .i64 nu)∧wx.cell? ⟨w.heap.size,56,none⟩=some (.int .i64 ht)∧wx.cell? ⟨w.heap.size,73,none⟩=some (.int .i64 lf)) (by kernel_rfl) ?_
  change wpAnyH _ _ _ _ _ _ _ _ w8.drew
  obtain⟨wd,hwd⟩:=xq w8.drew
  have b9:Hid (Bw w0 wd):=Hd (by rw[hwd];exact b8.o.drew)
  have f0:wd.cell? ⟨w.heap.size,74,none⟩=some (.string bo):=F74.o wd b9.o
  rw[←hwd] at HS⊢
  clear hwd g55 g56 g73
  refine Xad 0 (.pointer (some ⟨w.heap.size,55,none⟩)) rfl (fun _ _=>by go_simp) HS ?_
  refine Xad 1 (.int .i64 nu) rfl (fun w' hw'=>by obtain⟨c1,c2,c3⟩:=hw';go_simp) HS ?_
  refine Xad 2 (.bool false) rfl (fun _ _=>by go_simp) HS ?_
  refine Xad 3 (.bool false) rfl (fun _ _=>by go_simp) HS ?_
  refine Xad 4 (.pointer (some ⟨w.heap.size,55,none⟩)) rfl (fun _ _=>by go_simp) HS ?_
  refine Xad 5 (.int .i64 nu) rfl (fun w' hw'=>by obtain⟨c1,c2,c3⟩:=hw';go_simp) HS ?_
  refine Xad 6 (.bool false) rfl (fun _ _=>by go_simp) HS ?_
  refine Xad 7 (.bool false) rfl (fun _ _=>by go_simp) HS ?_
  refine Xad 8 (.bool false) rfl (fun _ _=>by go_simp) HS ?_
  refine Xad 9 (.pointer (some ⟨w.heap.size,56,none⟩)) rfl (fun _ _=>by go_simp) HS ?_
  refine Xad 10 (.int .i64 ht) rfl (fun w' hw'=>by obtain⟨c1,c2,c3⟩:=hw';go_simp) HS ?_
  refine Xad 11 (.bool false) rfl (fun _ _=>by go_simp) HS ?_
  refine Xad 12 (.bool false) rfl (fun _ _=>by go_simp) HS ?_
  refine Xad 13 (.bool false) rfl (fun _ _=>by go_simp) HS ?_
  refine Xad 14 (.pointer (some ⟨w.heap.size,56,none⟩)) rfl (fun _ _=>by go_simp) HS ?_
  refine Xad 15 (.int .i64 ht) rfl (fun w' hw'=>by obtain⟨c1,c2,c3⟩:=hw';go_simp) HS ?_
  refine Xad 16 (.bool false) rfl (fun _ _=>by go_simp) HS ?_
  refine Xad 17 (.bool false) rfl (fun _ _=>by go_simp) HS ?_
  refine Xad 18 (.bool false) rfl (fun _ _=>by go_simp) HS ?_
  refine Xad 19 (.pointer (some ⟨w.heap.size,73,none⟩)) rfl (fun _ _=>by go_simp) HS ?_
  refine Xad 20 (.int .i64 lf) rfl (fun w' hw'=>by obtain⟨c1,c2,c3⟩:=hw';go_simp) HS ?_
  refine Xad 21 (.bool false) rfl (fun _ _=>by go_simp) HS ?_
  refine Xad 22 (.bool false) rfl (fun _ _=>by go_simp) HS ?_
  refine Xad 23 (.bool false) rfl (fun _ _=>by go_simp) HS ?_
  refine Xad 24 (.pointer (some ⟨w.heap.size,73,none⟩)) rfl (fun _ _=>by go_simp) HS ?_
  refine Xad 25 (.int .i64 lf) rfl (fun w' hw'=>by obtain⟨c1,c2,c3⟩:=hw';go_simp) HS ?_
  refine Xad 26 (.pointer (some ⟨w.heap.size,56,none⟩)) rfl (fun _ _=>by go_simp) HS ?_
  refine Xad 27 (.int .i64 ht) rfl (fun w' hw'=>by obtain⟨c1,c2,c3⟩:=hw';go_simp) HS ?_
  refine Xad 28 (.int .i64 N) rfl (fun _ _=>SH.o _ _ _ _ rfl (by kernel_rfl)) HS ?_
  refine Xad 29 (.bool false) rfl (fun _ _=>by go_simp) HS ?_
  refine Xad 30 (.bool false) rfl (fun _ _=>by go_simp) HS ?_
  refine wpAnyH_done (by kernel_rfl) ?_ _
  clear HS
  go_simp
  refine‹∀(a:Act) (w_1:World),_→_› _ _ ?_
  by_cases h7:57344<bo.size
  ·have F:Hid (T=5):=Hd (by rw[TD10.o,zT h7];rfl)
   clear TD10
   go_wp2_with fail
   go_ret
   exact⟨by rw[F.o];rfl,bg B0.o b9.o⟩
  ·have F:Hid (T=v12):=Hd (by rw[TD10.o,zW h7];rfl)
   clear TD10
   go_wp2_with fail
   refine(K12.o wd).mono ?_
   intro e w10 hp
   obtain⟨n,rfl,hb⟩:=BPD.o _ _ _ hp
   have b10:=bh b9 hb
   clear hp hb K12 BPD
   go_wp2_with fail
   go_ret
   exact⟨by rw[F.o];rfl,bg B0.o b10.o⟩
def Xly (h:W8):Nat→List Nat→W8
 |0,_=>h
 |n+1,l=>Xly (Xg6 h (ldF (l.take 64))) n (l.drop 64)
theorem Xlr (n:Nat):∀(h:W8) (l:List Nat),Xly h (n+1) l=Xg6 (Xly h n l) (ldF ((l.drop (64*n)).take 64)):=by
 induction n with
 |zero=>intro h l;rfl
 |succ n ih=>
  intro h l
  rw[Xly,ih,Xly,List.drop_drop,show 64+64*n=64*(n+1) by omega]
theorem Xu0 (n:Nat):∀(h:W8) (l r:List Nat),64*n≤l.length→Xly h n (l++r)=Xly h n l:=by
 induction n with
 |zero=>intro h l r _;rfl
 |succ n ih=>
  intro h l r hl
  rw[Xly,Xly,List.take_append_of_le_length (by omega),List.drop_append_of_le_length (by omega)]
  exact ih _ _ _ (by rw[List.length_drop];omega)
structure Rep (h:Hs) (d:List Nat):Prop where
 len:h.len=d.length
 st:h.st=Xly sh0 (d.length/64) d
 bl:h.blk.length=64
 blk:h.blk.take (d.length%64)=d.drop (64*(d.length/64))
theorem Yde {h:Hs}{d:List Nat}(r:Rep h d)(b:List Nat)(hb:b≠[]):Rep (Xcp h b) (d++b.take (min (64-h.len%64) b.length)):=by
 have hb1:0<b.length:=List.length_pos_iff.2 hb
 obtain⟨p,hp⟩:=xq (d.length%64)
 obtain⟨q,hq⟩:=xq (d.length/64)
 have hd:d.length=64*q+p:=by omega
 have hp2:p<64:=by omega
 have hlp:h.len%64=p:=by rw[r.len,hp]
 obtain⟨n,hn⟩:=xq (min (64-p) b.length)
 have n1:1≤n:=by omega
 have n2:p+n≤64:=by omega
 have n3:n≤b.length:=by omega
 have rb:=r.blk
 have rs:=r.st
 rw[←hp,←hq] at rb
 rw[←hq] at rs
 have bl:=r.bl
 have lt:(b.take n).length=n:=by rw[List.length_take];omega
 have ld:(d.drop (64*q)).length=p:=by rw[List.length_drop];omega
 have le:(d++b.take n).length=64*q+(p+n):=by rw[List.length_append,lt];omega
 have ed:(d++b.take n).drop (64*q)=d.drop (64*q)++b.take n:=List.drop_append_of_le_length (by omega)
 rw[hlp,←hn]
 have E:Xcp h b=⟨if(h.len+n)%64=0 then Xg6 h.st (ldF (h.blk.take p++b.take n++h.blk.drop (p+n))) else h.st,h.blk.take p++b.take n++h.blk.drop (p+n),h.len+n⟩:=by
  unfold Xcp
  simp only[hlp,←hn]
 rw[E]
 by_cases h64:p+n=64
 ·have e1:(d++b.take n).length/64=q+1:=by rw[le];omega
  have e2:(d++b.take n).length%64=0:=by rw[le];omega
  have e3:(h.len+n)%64=0:=by rw[r.len];omega
  have e4:h.blk.drop (p+n)=[]:=List.drop_of_length_le (by omega)
  refine⟨by rw[le];show h.len+n=_;rw[r.len];omega,?_,?_,?_⟩
  ·rw[e1,Xlr,ed,qP e3,e4,List.append_nil,rb,rs,Xu0 _ _ _ _ (by omega)]
   rw[List.take_of_length_le (l:=d.drop (64*q)++b.take n) (by rw[List.length_append,ld,lt];omega)]
  ·show(h.blk.take p++b.take n++h.blk.drop (p+n)).length=64
   rw[e4,rb,List.append_nil,List.length_append,ld,lt];omega
  ·rw[e2,e1,List.take_zero]
   exact(List.drop_of_length_le (by rw[le];omega)).symm
 ·have e1:(d++b.take n).length/64=q:=by rw[le];omega
  have e2:(d++b.take n).length%64=p+n:=by rw[le];omega
  have e3:¬(h.len+n)%64=0:=by rw[r.len];omega
  refine⟨by rw[le];show h.len+n=_;rw[r.len];omega,?_,?_,?_⟩
  ·rw[e1,qN e3,rs,Xu0 _ _ _ _ (by omega)]
  ·show(h.blk.take p++b.take n++h.blk.drop (p+n)).length=64
   rw[rb,List.length_append,List.length_append,ld,lt,List.length_drop];omega
  ·rw[e2,e1,ed]
   show(h.blk.take p++b.take n++h.blk.drop (p+n)).take (p+n)=_
   rw[rb,List.take_append_of_le_length (by rw[List.length_append,ld,lt];omega),List.take_of_length_le (l:=d.drop (64*q)++b.take n) (by rw[List.length_append,ld,lt];omega)]
theorem Xyn:∀(k:Nat) {h:Hs} {d:List Nat} (b:List Nat),Rep h d→b.length≤k→Rep (wrN k h b) (d++b)
 |0,h,d,b,r,hb=>by
  have:b=[]:=List.length_eq_zero_iff.1 (by omega)
  subst this
  rw[List.append_nil];exact r
 |k+1,h,d,b,r,hb=>by
  unfold wrN
  by_cases h0:b=[]
  ·rw[qP h0,h0,List.append_nil];exact r
  ·rw[qN h0]
   have hb1:0<b.length:=List.length_pos_iff.2 h0
   have:=Xyn k (b.drop (min (64-h.len%64) b.length)) (Yde r b h0) (by rw[List.length_drop];omega)
   rwa [List.append_assoc,List.take_append_drop] at this
theorem Xyo {h:Hs}{d:List Nat}(b:List Nat)(r:Rep ⟨if h.len=0 then sh0 else h.st,h.blk,h.len⟩ d):Rep (wrF h b) (d++b):=Xyn _ _ r (zL _)
theorem Xyp {h:Hs}{d:List Nat}(r:Rep h d):Rep ⟨if h.len=0 then sh0 else h.st,h.blk,h.len⟩ d:=by
 refine⟨r.len,?_,r.bl,r.blk⟩
 show(if h.len=0 then sh0 else h.st)=_
 split
 ·have:d=[]:=List.length_eq_zero_iff.1 (by have:=r.len;omega)
  subst this;rfl
 ·exact r.st
def pdF (l:List Nat):List Nat:=l++Xrn l.length
theorem Xpt (n:Nat):(Xrn n).length=9+Yf5 n:=by simp[Xrn];omega
theorem Yhj (l:List Nat):(pdF l).length=64*((pdF l).length/64):=by
 unfold pdF
 rw[List.length_append,Xpt]
 unfold Yf5
 omega
theorem Yg3 (l:List Nat):Xi4 l=dgF (Xly sh0 ((pdF l).length/64) (pdF l)):=by
 have r0:Rep ⟨if hs0.len=0 then sh0 else hs0.st,hs0.blk,hs0.len⟩ []:=⟨rfl,rfl,rfl,rfl⟩
 have r1:Rep (wrF hs0 l) l:=by have:=Xyo l r0;rwa [List.nil_append] at this
 have r2:=Xyo (Xrn (wrF hs0 l).len) (Xyp r1)
 unfold Xi4 smF
 rw[r2.st,r1.len]
 rfl
def be4 (a b c d:Nat):Nat:=((Xdx a 24|||Xdx b 16)|||Xdx c 8)|||d
def Xop (a b c d:Nat):Nat:=Xdx (Xdx (Xdx (Xdx 0 8|||a) 8|||b) 8|||c) 8|||d
theorem Xil {x b:Nat}(k:Nat)(hk:2^k∣x)(hb:b<2^k):x|||b=x+b:=by
 obtain⟨y,rfl⟩:=hk
 exact(Nat.two_pow_add_eq_or_of_lt hb y).symm
theorem Yls {a b c d:Nat}(ha:a<256)(hb:b<256)(hc:c<256)(hd:d<256):Xop a b c d=be4 a b c d:=by
 have h1:be4 a b c d=a*16777216+b*65536+c*256+d:=by
  unfold be4 Xdx
  rw[Nat.mod_eq_of_lt (by omega),Nat.mod_eq_of_lt (by omega),Nat.mod_eq_of_lt (by omega)]
  have e1:a*2^24|||b*2^16=a*2^24+b*2^16:=Xil 24 ⟨a,by omega⟩ (by omega)
  have e2:a*2^24+b*2^16|||c*2^8=a*2^24+b*2^16+c*2^8:=Xil 16 ⟨a*256+b,by omega⟩ (by omega)
  have e3:a*2^24+b*2^16+c*2^8|||d=a*2^24+b*2^16+c*2^8+d:=Xil 8 ⟨a*65536+b*256+c,by omega⟩ (by omega)
  rw[e1,e2,e3]
 have h2:Xop a b c d=a*16777216+b*65536+c*256+d:=by
  unfold Xop Xdx
  rw[show 0*2^8%4294967296=0 from rfl,Nat.zero_or]
  rw[Nat.mod_eq_of_lt (show a*2^8<4294967296 by omega),Xil 8 ⟨a,by omega⟩ (by omega:b<2^8)]
  rw[Nat.mod_eq_of_lt (show(a*2^8+b)*2^8<4294967296 by omega),Xil 8 ⟨a*2^8+b,by omega⟩ (by omega:c<2^8)]
  rw[Nat.mod_eq_of_lt (show((a*2^8+b)*2^8+c)*2^8<4294967296 by omega),Xil 8 ⟨(a*2^8+b)*2^8+c,by omega⟩ (by omega:d<2^8)]
  omega
 rw[h1,h2]
def beW (b:List Nat)(t:Nat):Nat:=be4 (b.getD (4*t) 0) (b.getD (4*t+1) 0) (b.getD (4*t+2) 0) (b.getD (4*t+3) 0)
def sg0 (x:Nat):Nat:=rot x 7^^^rot x 18^^^x/2^3
def sg1 (x:Nat):Nat:=rot x 17^^^rot x 19^^^x/2^10
def Xtv (b ws:List Nat)(t:Nat):Nat:=if t<16 then beW b t else Xa9 (Xa9 (Xa9 (sg1 (ws.getD (t-2) 0)) (ws.getD (t-7) 0)) (sg0 (ws.getD (t-15) 0))) (ws.getD (t-16) 0)
def Xkh (b ws:List Nat)(t:Nat):List Nat:=ws.set t (Xtv b ws t)
def Xcv (b:List Nat)(n:Nat):List Nat:=(List.range n).foldl (Xkh b) (List.replicate 64 0)
theorem Xeu (b:List Nat)(n:Nat):Xcv b (n+1)=Xkh b (Xcv b n) n:=by simp[Xcv,List.range_succ]
def Xno (b:List Nat):List Nat:=Xcv b 64
theorem Xhn (b:List Nat)(n:Nat):(Xcv b n).length=64:=by
 induction n with
 |zero=>simp[Xcv]
 |succ n ih=>rw[Xeu,Xkh,List.length_set,ih]
theorem Xhz {l:List Nat}{i j v:Nat}(hi:i<l.length):(l.set i v).getD j 0=if j=i then v else l.getD j 0:=by
 rw[List.getD_eq_getElem?_getD,List.getD_eq_getElem?_getD,List.getElem?_set]
 by_cases h:i=j
 ·subst h;simp[hi]
 ·rw[qN h,qN (fun e=>h e.symm)]
theorem Xnn (b:List Nat){t n:Nat}(ht:t<n)(hn:n≤64):(Xcv b n).getD t 0=(Xcv b (t+1)).getD t 0:=by
 induction n with
 |zero=>omega
 |succ n ih=>
  by_cases h:t=n
  ·rw[h]
  ·rw[Xeu,Xkh,Xhz (by rw[Xhn];omega),qN h]
   exact ih (by omega) (by omega)
theorem Yfw (b:List Nat){t:Nat}(ht:t<64):(Xno b).getD t 0=Xtv b (Xno b) t:=by
 have e:(Xno b).getD t 0=Xtv b (Xcv b t) t:=by
  unfold Xno
  rw[Xnn b ht (zL _),Xeu,Xkh,Xhz (by rw[Xhn];omega),qP rfl]
 rw[e]
 unfold Xtv
 by_cases h:t<16
 ·rw[qP h,qP h]
 ·rw[qN h,qN h]
  have k:∀d,0<d→d≤16→(Xcv b t).getD (t-d) 0=(Xno b).getD (t-d) 0:=fun d h1 h2=>by
   unfold Xno
   rw[Xnn b (show t-d<t by omega) (by omega),Xnn b (show t-d<64 by omega) (zL _)]
  rw[k 2 (by omega) (by omega),k 7 (by omega) (by omega),k 15 (by omega) (by omega),k 16 (by omega) (by omega)]
theorem Yd8 (b0 b1 b2 b3 b4 b5 b6 b7 b8 b9 b10 b11 b12 b13 b14 b15 b16 b17 b18 b19 b20 b21 b22 b23 b24 b25 b26 b27 b28 b29 b30 b31 b32 b33 b34 b35 b36 b37 b38 b39 b40 b41 b42 b43 b44 b45 b46 b47 b48 b49 b50 b51 b52 b53 b54 b55 b56 b57 b58 b59 b60 b61 b62 b63:Nat):ldF (b0::b1::b2::b3::b4::b5::b6::b7::b8::b9::b10::b11::b12::b13::b14::b15::b16::b17::b18::b19::b20::b21::b22::b23::b24::b25::b26::b27::b28::b29::b30::b31::b32::b33::b34::b35::b36::b37::b38::b39::b40::b41::b42::b43::b44::b45::b46::b47::b48::b49::b50::b51::b52::b53::b54::b55::b56::b57::b58::b59::b60::b61::b62::b63::[])=[Xop b0 b1 b2 b3,Xop b4 b5 b6 b7,Xop b8 b9 b10 b11,Xop b12 b13 b14 b15,Xop b16 b17 b18 b19,Xop b20 b21 b22 b23,Xop b24 b25 b26 b27,Xop b28 b29 b30 b31,Xop b32 b33 b34 b35,Xop b36 b37 b38 b39,Xop b40 b41 b42 b43,Xop b44 b45 b46 b47,Xop b48 b49 b50 b51,Xop b52 b53 b54 b55,Xop b56 b57 b58 b59,Xop b60 b61 b62 b63]:=by kernel_rfl
theorem Ykl:∀{b:List Nat},b.length=64→∃b0 b1 b2 b3 b4 b5 b6 b7 b8 b9 b10 b11 b12 b13 b14 b15 b16 b17 b18 b19 b20 b21 b22 b23 b24 b25 b26 b27 b28 b29 b30 b31 b32 b33 b34 b35 b36 b37 b38 b39 b40 b41 b42 b43 b44 b45 b46 b47 b48 b49 b50 b51 b52 b53 b54 b55 b56 b57 b58 b59 b60 b61 b62 b63,b=(b0::b1::b2::b3::b4::b5::b6::b7::b8::b9::b10::b11::b12::b13::b14::b15::b16::b17::b18::b19::b20::b21::b22::b23::b24::b25::b26::b27::b28::b29::b30::b31::b32::b33::b34::b35::b36::b37::b38::b39::b40::b41::b42::b43::b44::b45::b46::b47::b48::b49::b50::b51::b52::b53::b54::b55::b56::b57::b58::b59::b60::b61::b62::b63::[])
 |b0::b1::b2::b3::b4::b5::b6::b7::b8::b9::b10::b11::b12::b13::b14::b15::b16::b17::b18::b19::b20::b21::b22::b23::b24::b25::b26::b27::b28::b29::b30::b31::b32::b33::b34::b35::b36::b37::b38::b39::b40::b41::b42::b43::b44::b45::b46::b47::b48::b49::b50::b51::b52::b53::b54::b55::b56::b57::b58::b59::b60::b61::b62::b63::[],_=>⟨b0,b1,b2,b3,b4,b5,b6,b7,b8,b9,b10,b11,b12,b13,b14,b15,b16,b17,b18,b19,b20,b21,b22,b23,b24,b25,b26,b27,b28,b29,b30,b31,b32,b33,b34,b35,b36,b37,b38,b39,b40,b41,b42,b43,b44,b45,b46,b47,b48,b49,b50,b51,b52,b53,b54,b55,b56,b57,b58,b59,b60,b61,b62,b63,rfl⟩
theorem Yko {b:List Nat}(hl:b.length=64)(h:∀x∈b,x<256):∀t,t<16→(ldF b).getD t 0=beW b t:=by
 obtain⟨b0,b1,b2,b3,b4,b5,b6,b7,b8,b9,b10,b11,b12,b13,b14,b15,b16,b17,b18,b19,b20,b21,b22,b23,b24,b25,b26,b27,b28,b29,b30,b31,b32,b33,b34,b35,b36,b37,b38,b39,b40,b41,b42,b43,b44,b45,b46,b47,b48,b49,b50,b51,b52,b53,b54,b55,b56,b57,b58,b59,b60,b61,b62,b63,rfl⟩:=Ykl hl
 intro t ht
 rw[Yd8]
 have e:∀i,i<64→((b0::b1::b2::b3::b4::b5::b6::b7::b8::b9::b10::b11::b12::b13::b14::b15::b16::b17::b18::b19::b20::b21::b22::b23::b24::b25::b26::b27::b28::b29::b30::b31::b32::b33::b34::b35::b36::b37::b38::b39::b40::b41::b42::b43::b44::b45::b46::b47::b48::b49::b50::b51::b52::b53::b54::b55::b56::b57::b58::b59::b60::b61::b62::b63::[]):List Nat).getD i 0<256:=fun i hi=>by
  rw[List.getD_eq_getElem?_getD,List.getElem?_eq_getElem (by simpa using hi),Option.getD_some]
  exact h _ (zG _)
 unfold beW
 rw[←Yls (e _ (by omega)) (e _ (by omega)) (e _ (by omega)) (e _ (by omega))]
 clear e h
 rcases(by omega:t=0∨t=1∨t=2∨t=3∨t=4∨t=5∨t=6∨t=7∨t=8∨t=9∨t=10∨t=11∨t=12∨t=13∨t=14∨t=15) with rfl|rfl|rfl|rfl|rfl|rfl|rfl|rfl|rfl|rfl|rfl|rfl|rfl|rfl|rfl|rfl<;>rfl
def Xvr (ws:List Nat)(h:W8)(n:Nat):W8:=(List.range n).foldl (fun v t=>rnd v (shK.getD t 0) (ws.getD t 0)) h
theorem Xkk (ws:List Nat)(h:W8)(n:Nat):Xvr ws h (n+1)=rnd (Xvr ws h n) (shK.getD n 0) (ws.getD n 0):=by simp[Xvr,List.range_succ]
theorem Ydj (h:W8)(w:List Nat)(hw:w.length=16)(n:Nat):(Xnw h w n).2.length=16:=by
 induction n with
 |zero=>exact hw
 |succ n ih=>
  rw[Xev]
  show(Xif _ n).length=16
  unfold Xif
  split
  ·exact ih
  ·rw[List.length_set];exact ih
theorem Yd7 (b:List Nat)(n:Nat):(Xxf b n).length=16:=by
 induction n with
 |zero=>simp[Xxf]
 |succ n ih=>rw[Xk0,Xp1,List.length_set,ih]
theorem Yja (a b c d:Nat):Xa9 d (Xa9 (Xa9 c a) b)=Xa9 (Xa9 (Xa9 a b) c) d:=by unfold Xa9;omega
theorem Xyz (h:W8)(w:List Nat):(Xnw h w 0).2=w:=rfl
theorem Yjp {b:List Nat}(hl:b.length=64)(hb:∀x∈b,x<256)(h:W8)(n:Nat)(hn:n≤64):∀t,t<max n 16→max n 16≤t+16→(Xnw h (ldF b) n).2.getD (t%16) 0=(Xno b).getD t 0:=by
 induction n with
 |zero=>
  intro t h1 h2
  have h3:t<16:=by omega
  rw[Xyz,Nat.mod_eq_of_lt h3,Yfw b (by omega),Xtv,qP h3]
  exact Yko hl hb t h3
 |succ n ih=>
  intro t h1 h2
  have ih:=ih (by omega)
  rw[Xev]
  show(Xif _ n).getD (t%16) 0=_
  unfold Xif
  by_cases hn16:n<16
  ·rw[qP hn16]
   exact ih t (by omega) (by omega)
  ·rw[qN hn16,Xhz (by rw[Ydj h (ldF b) (Yd7 b 64)];omega)]
   by_cases htn:t=n
   ·subst htn
    rw[qP rfl,Yfw b (by omega),Xtv,qN hn16]
    unfold Yma
    rw[ih (t-15) (by omega) (by omega),ih (t-2) (by omega) (by omega),ih (t-7) (by omega) (by omega)]
    have e:=ih (t-16) (by omega) (by omega)
    rw[show(t-16)%16=t%16 by omega] at e
    rw[e]
    exact Yja _ _ _ _
   ·rw[qN (by omega)]
    exact ih t (by omega) (by omega)
theorem Yj0 {b:List Nat}(hl:b.length=64)(hb:∀x∈b,x<256)(h:W8)(n:Nat)(hn:n≤64):(Xnw h (ldF b) n).1=Xvr (Xno b) h n:=by
 induction n with
 |zero=>rfl
 |succ n ih=>
  have w:=Yjp hl hb h (n+1) hn n (by omega) (by omega)
  rw[Xev,Xkk,←ih (by omega),←w,Xev]
  rfl
theorem Yhg {b:List Nat}(hl:b.length=64)(hb:∀x∈b,x<256)(h:W8):Xg6 h (ldF b)=Xg7 h (Xvr (Xno b) h 64):=by
 unfold Xg6
 rw[Yj0 hl hb h 64 (zL _)]
theorem Xck {P:Program}{w:World}{ops:Array Oper}{rest:List Oper}{o:Oper}{a:Act}{Q:Exit→Act→World→Prop}(hgd:o.guard=none)(sl x:Operand)(t u:TypeId)
    (ho:o.op=.call {callee:=.builtin .append,args:=#[sl,x],argTypes:=#[t,u]}) (v y:Value) (hs:a.eval sl=v) (hx:a.eval x=y) (v':Value) (w':World)
    (hr:(Builtin.append_ #[t,u] o.type #[v,y]).run P w=.ok v' w') (h:wpList P ops Q rest (a.put o.dst v') w'):wpList P ops Q (o::rest) a w:=by
 refine wpList_plain hgd fun K hK=>?_
 unfold Oper.wp execOp
 simp only[ho,resolve,invoke,builtin,Sem.run_bind,Sem.run_pure,Result.andThen_ok,List.map_toArray,List.map_cons,List.map_nil,hs,hx,hr]
 exact hK _ _ h
theorem Yi5 {B:Nat}{w:World}{v:Value}{xs:List Nat}(h:OW B xs v w)(hB:B≤w.heap.size)(hl:xs.length≤20000000)(b:Nat)(ty:TypeId):
    ∃v' w',(Builtin.append_ #[82,82] ty #[v,.slice (some ⟨w.heap.size,0,none⟩) 1 1]).run prog (w.alloc (.cells #[.int .u8 (b:Int)] 5))=.ok v' w'∧OW B (xs++[b]) v' w'∧(∀w0,Below B w0 w→Below B w0 w'):=by
 obtain⟨i0,hi0,hz0,hz1,hz2⟩:=info_parts Xhw
 have hsl:∃a c,v=.slice a xs.length c:=by
  rcases h.2 with⟨rfl,e⟩|⟨g,c,cur,e,_⟩
  ·exact⟨none,0,by rw[e]⟩
  ·exact⟨_,c,e⟩
 have hw:OW B xs v (w.alloc (.cells #[.int .u8 (b:Int)] 5)):=h.alloc _
 obtain⟨v',w',h1,h2,h3,_⟩:=run_append_own (P:=prog) (w.alloc (.cells #[.int .u8 (b:Int)] 5)) B 82 ty 5 i0 (.int .u8 0) 1 1 underlying82 hi0 hz0 hz1 hz2 rfl (by decide) v xs.length (xs.map U) hw ⟨w.heap.size,0,none⟩ 1 1 [.int .u8 (b:Int)] rfl (World.news_of_block (cs:=#[.int .u8 (b:Int)]) (t:=5) (fr:=(0,0)) (zN w _)) (by simp[Value.oneCell']) (by unfold maxLen;omega) (by omega) (by simp;omega)
 exact⟨v',w',h1,OW.app (ys:=[b]) rfl rfl h2,fun w0 hb=>Xe1 hb hB (zL _) h h3⟩
theorem Ylu {B:Nat}{w:World}{v:Value}{xs:List Nat}(h:OW B xs v w)(hB:B≤w.heap.size)(hl:xs.length≤20000000){a:Option Addr}{l:List Nat}(hr:Rd w a l)(hll:l.length≤20000000)(hne:0<l.length∨0<xs.length∨∃g,v=.slice (some ⟨g,0,none⟩) 0 0)(cap:Nat)(ty:TypeId):
    ∃v' w',(Builtin.append_ #[82,82] ty #[v,.slice a l.length cap]).run prog w=.ok v' w'∧OW B (xs++l) v' w'∧(∀w0,Below B w0 w→Below B w0 w'):=by
 obtain⟨i0,hi0,hz0,hz1,hz2⟩:=info_parts Xhw
 by_cases h0:0<l.length
 ·obtain⟨b,off,rfl,hbw,hc⟩:=hr.at_ h0
  obtain⟨v',w',h1,h2,h3,_⟩:=run_append_own (P:=prog) w B 82 ty 5 i0 (.int .u8 0) 1 1 underlying82 hi0 hz0 hz1 hz2 rfl (by decide) v xs.length (xs.map U) h ⟨b,off,none⟩ l.length cap (l.map U) (by simp) (fun j u hu=>by
   rw[List.getElem?_map] at hu
   have hj:j<l.length:=by
    by_cases hj:j<l.length
    ·exact hj
    ·rw[List.getElem?_eq_none (by omega)] at hu;cases hu
   rw[List.getElem?_eq_getElem hj] at hu
   rw[Addr.add_mid,hc j hj];exact hu) (fun u hu=>by obtain⟨y,_,rfl⟩:=List.mem_map.1 hu;rfl) (by unfold maxLen;omega) (by omega) hB
  exact⟨v',w',h1,OW.app rfl rfl h2,fun w0 hb=>Below.grown hb h3 (by have:=hb.size;omega) (fun k hk=>(h.lt k hk).1)⟩
 ·have e:l=[]:=List.length_eq_zero_iff.1 (by omega)
  subst e
  refine⟨v,w,?_,by rw[List.append_nil];exact h,fun _ hb=>hb⟩
  rcases hne with hne|hne|⟨g,rfl⟩
  ·omega
  ·obtain⟨g,c,rfl,hgc,_⟩:=h.slice hne
   cases a with
   |none=>simp[Builtin.append_,run_underlying (P:=prog) underlying82,sizeOf,typeInfo,hi0,Builtin.lenOf,Builtin.firstCells,loadCells,storeCells,hgc]
   |some ad=>simp[Builtin.append_,run_underlying (P:=prog) underlying82,sizeOf,typeInfo,hi0,Builtin.lenOf,Builtin.firstCells,loadCells,loadCellsFrom,storeCells,hgc]
  ·cases a with
   |none=>simp[Builtin.append_,run_underlying (P:=prog) underlying82,sizeOf,typeInfo,hi0,Builtin.lenOf,Builtin.firstCells,loadCells,loadCellsFrom,storeCells]
   |some ad=>simp[Builtin.append_,run_underlying (P:=prog) underlying82,sizeOf,typeInfo,hi0,Builtin.lenOf,Builtin.firstCells,loadCells,loadCellsFrom,storeCells]
theorem Xdj (w:World)(x:Nat)(hx:x<4294967296)(m:Nat)(hm:1≤m)(hm2:m<32)(k:Int)(hk:k=(m:Int)):
    Calls prog 112 #[.int .u32 (x:Int),.int .i64 k] w fun e w'=>e=.returned (.int .u32 ((rot x m:Nat):Int))∧∃n,w'=w.drewN n:=by
 subst hk
 have v1:IntKind.i64.wrap (32-(m:Int))=((32-m:Nat):Int):=by
  rw[IntWalk.i64_in _ (by omega)];omega
 obtain⟨r,hr⟩:=xq (32-m)
 rw[←hr] at v1
 have hr2:r≤31:=by omega
 have hm0:(0:Int)≤(m:Int):=by omega
 have hr0:(0:Int)≤(r:Int):=by omega
 have HR:=Hd hr
 have hmm:(m:Int)<32:=by omega
 have hrr:(r:Int)<32:=by omega
 clear hr
 go_enter func112,ntmps112
 go_wp2_with fail
 go_quiet (fail)
 go_wp2_with fail
 go_ret
 refine⟨?_,nq,rfl⟩
 have e1:((x:Int)*2^r%4294967296)=((x*2^r%4294967296:Nat):Int):=by rw[Int.natCast_emod,Int.natCast_mul,Int.natCast_pow];rfl
 have e3:((x:Int)/2^m)=((x/2^m:Nat):Int):=by rw[Int.natCast_ediv,Int.natCast_pow];rfl
 show Ending.returned (.int .u32 (bits .or .u32 ((x:Int)/2^m) ((x:Int)*2^r%4294967296)))=_
 rw[e1,e3,u32_or_nat _ _ (Nat.lt_of_le_of_lt (Nat.div_le_self _ _) hx) (by omega),Nat.or_comm,HR.o]
 rfl
theorem Xor {B:Nat}{w:World}{v:Value}{xs:List Nat}(h:OW B xs v w)(hB:B≤w.heap.size)(hl:xs.length≤20000000)(z:Int)(b:Nat)(hz:z=(b:Int))(ty:TypeId):
    ∃v' w',(Builtin.append_ #[82,82] ty #[v,.slice (some ⟨w.heap.size,0,none⟩) 1 1]).run prog (w.alloc (.cells #[.int .u8 z] 5))=.ok v' w'∧OW B (xs++[b]) v' w'∧(∀w0,Below B w0 w→Below B w0 w'):=by
 subst hz;exact Yi5 h hB hl b ty
theorem Ydl (l:List Nat)(j:Nat):l++128::List.replicate (j+1) 0=(l++128::List.replicate j 0)++[0]:=by rw[Xpm,List.append_assoc]
theorem Yc2 (w:World)(a:Option Addr)(cap:Nat)(l:List Nat)(hr:Rd w a l)(hl:l.length≤10000000):
    Calls prog 110 #[.slice a l.length cap] w fun e w'=>∃v,e=.returned v∧OW w.heap.size (pdF l) v w'∧Bw w w':=by
 obtain⟨n,hn⟩:=xq l.length
 obtain⟨w1,hw1⟩:=xq (w.alloc (.cells #[] 5))
 have O1:OW w.heap.size [] (.slice (some ⟨w.heap.size,0,none⟩) 0 0) w1:=by
  rw[hw1];exact⟨rfl,.inr ⟨w.heap.size,0,#[],rfl,zL _,heap_alloc_last w _,zL _,by decide,rfl,rfl⟩⟩
 have B1:Bw w w1:=by rw[hw1];exact(zR _ _).alloc (zL _) _
 obtain⟨v2,w2,r2,o2,b2⟩:=Ylu O1 B1.size (by simp) (hr.onB B1) (by omega) (.inr (.inr ⟨_,rfl⟩)) cap 82
 rw[List.nil_append] at o2
 have B2:=b2 _ B1
 obtain⟨v3,w3,r3,o3,b3⟩:=Xor o2 B2.size (by omega) 128 128 rfl 82
 have B3:=b3 _ B2
 have R2:=Hd r2;have R3:=Hd r3
 have HW1:=Hd hw1
 have O3:Hid (OW w.heap.size (l++128::List.replicate 0 0) v3 w3):=Hd o3
 have BB3:=Hd B3
 rw[←hn] at R2
 have hn2:n≤10000000:=by omega
 obtain⟨P,hP⟩:=xq (Yf5 n)
 have hP2:P=(119-n%64)%64:=hP
 have HN:=Hd hn;have HP:=Hd hP
 rw[←hn]
 clear hw1 O1 B1 r2 o2 b2 B2 r3 o3 b3 B3 hr hl hn hP
 go_enter func110,ntmps110
 go_wp2_with (at_builtin;first
  |(rw[←HW1.o];refine Xck rfl _ _ _ _ rfl _ _ rfl rfl _ _ R2.o ?_)
  |(refine Xck rfl _ _ _ _ rfl _ _ rfl rfl _ _ R3.o ?_))
 clear R2 R3 HW1
 go_loopg [3] P (fun k v wr=>∃j:Nat,j≤P∧k=P-j∧Hid (OW w.heap.size (l++128::List.replicate j 0) v wr)∧Hid (Bw w wr))
 case atStart=>exact⟨0,by omega,rfl,O3,BB3⟩
 case round=>
  clear O3 BB3
  obtain⟨j,hj,rfl,ow,bw⟩:=hrel
  obtain⟨m,hm⟩:=xq (n+1+j)
  have hml:(l++128::List.replicate j 0:List Nat).length=m:=by rw[List.length_append,←HN.o];simp;omega
  obtain⟨g,c,rfl,hgc,hcm,hBg,hgw⟩:=ow.o.slice (by rw[hml];omega)
  rw[hml] at hgc⊢
  have hm1:1≤m:=by omega
  have hm2:m≤10000100:=by omega
  unfold maxLen at hcm
  obtain⟨r,hr⟩:=xq (m%64)
  have jt:(m:Int).tmod 64=(r:Int):=by rw[Int.tmod_eq_emod_of_nonneg (by omega)];omega
  have je:(m:Int)%64=(r:Int):=by omega
  by_cases hlt:j<P
  ·have hne:((r:Int) !=56)=true:=by
      have:r≠56:=by omega
      simpa using(by omega:¬((r:Int)=56))
   obtain⟨v4,w4,r4,o4,b4⟩:=Xor ow.o bw.o.size (by rw[hml];omega) 0 0 rfl 82
   rw[hml] at r4
   have R4:=Hd r4
   have O4:Hid (OW w.heap.size (l++128::List.replicate (j+1) 0) v4 w4):=Hd (by rw[Ydl];exact o4)
   have B4:=Hd (b4 _ bw.o)
   clear r4 o4 b4 hr hm hP2 hml hgc
   go_wp2_with (at_builtin;refine Xck rfl _ _ _ _ rfl _ _ rfl rfl _ _ R4.o ?_)
   go_roundg (P-(j+1))
   case measure=>omega
   case rel=>exact⟨j+1,by omega,rfl,O4,B4⟩
  ·obtain rfl:j=P:=by omega
   have he:((r:Int) !=56)=false:=by
    have:r=56:=by omega
    rw[this];rfl
   have O2:Hid (OW w.heap.size (l++Xl0 n 0) (.slice (some ⟨g,0,none⟩) m c) wr):=Hd (by have:=ow.o;rw[hml] at this;rw[Yf4,←HP.o];exact this)
   have B2:=Hd bw.o
   obtain⟨C,hC⟩:=xq (n*8)
   have eC:((n:Int)*8)%18446744073709551616=(C:Int):=by omega
   have eC2:((n:Int)*8)=(C:Int):=by omega
   have hC2:C≤800000000:=by omega
   have n64:(n:Int)%18446744073709551616=(n:Int):=by omega
   have HCN:=Hd hC
   have hPN:Hid (∀q,(l++Xl0 n q).length=m+q):=Hd (fun q=>by rw[List.length_append,←HN.o];unfold Xl0;rw[←HP.o];simp;omega)
   clear hr hm hP2 hml hgc ow bw hC
   go_wp2_with fail
   go_loopg [3,5] 8 (fun k v i wq=>∃q:Nat,q≤8∧k=8-q∧i=.int .i64 (7-(q:Int))∧Hid (OW w.heap.size (l++Xl0 n q) v wq)∧Hid (Bw w wq))
   case atStart=>exact⟨0,by omega,rfl,rfl,O2,B2⟩
   case round=>
    clear O2 B2 he jt je
    obtain⟨q,hq,rfl,rfl,ow,bw⟩:=hrel
    by_cases hq8:q<8
    ·obtain⟨g2,c2,rfl,hgc2,hcm2,_⟩:=ow.o.slice (by rw[hPN.o];omega)
     rw[hPN.o] at hgc2⊢
     obtain⟨r2,hr2⟩:=xq (56-8*q)
     have e56:8*((7:Int)-(q:Int))=(r2:Int):=by omega
     obtain⟨y,hy⟩:=xq (Yio n q)
     have YI:(C:Int)/2^r2%256=((y:Nat):Int):=by
      rw[hy,Yio,show 8*n=C by rw[HCN.o];omega,←hr2,show C%18446744073709551616=C from Nat.mod_eq_of_lt (by omega),Int.natCast_emod,Int.natCast_ediv,Int.natCast_pow];rfl
     obtain⟨v4,w4,r4,o4,b4⟩:=Xor ow.o bw.o.size (by rw[hPN.o];omega) _ y YI 82
     rw[hPN.o] at r4
     have R4:=Hd r4
     have O4:Hid (OW w.heap.size (l++Xl0 n (q+1)) v4 w4):=Hd (by rw[Xpr,←hy,←List.append_assoc];exact o4)
     have B4:=Hd (b4 _ bw.o)
     obtain⟨m2,hm2⟩:=xq (m+q)
     rw[←hm2] at R4⊢
     have hk0:¬((7:Int)-(q:Int)<0):=by omega
     have hk1:(0:Int)≤7-(q:Int):=by omega
     have hr3:r2<64:=by omega
     clear hr2 hy hm2 ow bw r4 o4 b4 YI
     go_wp2_with (at_builtin;refine Xck rfl _ _ _ _ rfl _ _ rfl rfl _ _ R4.o ?_)
     go_roundg (8-(q+1))
     case measure=>omega
     case rel=>exact⟨q+1,by omega,rfl,by go_num,O4,B4⟩
    ·obtain rfl:q=8:=by omega
     have FIN:Hid (OW w.heap.size (pdF l) u3 wr):=Hd (by have:=ow.o;rw[Xps] at this;unfold pdF;rw[←HN.o];exact this)
     have BF:=Hd bw.o
     clear ow bw
     go_wp2_with fail
     go_ret
     exact⟨_,rfl,FIN.o,BF.o⟩
end Go.Proofs.YtjolcnopipbkhaaGreatDoor
