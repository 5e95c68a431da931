/- bulletinref17.word whole; bulletinref17.sorts. -/
import Derived.Test.YtohmdledkhgdaaaGreatDoorPa36
namespace Go.Proofs.YtohmdledkhgdaaaGreatDoor
open Go.RowKit
set_option linter.unusedVariables false
set_option maxRecDepth 100000
def Xf3 (a:Nat):ByteArray:=if a=0 then⟨#[116,97,114,103,101,116]⟩ else if a=1 then⟨#[103,114,111,117,112]⟩ else if a=2 then⟨#[118,101,114,115,105,111,110]⟩ else if a=3 then⟨#[109,111,100,101]⟩ else if a=4 then⟨#[97,117,116,104,111,114,115]⟩ else if a=5 then⟨#[110,117,109,98,101,114]⟩ else⟨#[112,117,98,108,105,99]⟩
theorem Xwc (w:World) (cs:Array Value) (k a:Nat) (m:Bool) (x:ByteArray) (ha:a≤6) (hs:x.size≤100000) (h:RC cs k m true):
    Calls Tryz.prog 133 #[.agg cs,.string (Xf3 a),.string x] w (Xbk k a m (bs x) w):=by
 rcases(by omega:a=0∨a=1∨a=2∨a=3∨a=4∨a=5∨a=6) with rfl|rfl|rfl|rfl|rfl|rfl|rfl
 ·exact Xnx w cs k m x hs h
 ·exact Xpu w cs k m x (by omega) h
 ·exact Xmj w cs k m x hs h
 ·exact Xtr w cs k m x hs h
 ·exact Xmk w cs k m x hs h
 ·exact Xnz w cs k m x hs h
 ·exact Xny w cs k m x hs h
theorem Yi9 {a:Nat} (h:a≤6) (h4:a≠4):((Xf3 a).toList==[97,117,116,104,111,114,115])=false:=by
 rcases(by omega:a=0∨a=1∨a=2∨a=3∨a=5∨a=6) with rfl|rfl|rfl|rfl|rfl|rfl<;>kernel_rfl
theorem Xxq {x:List Nat} {k:Nat} (h:Xgr x=k) (hk:k≠0):bs (Xin k)=x:=by
 unfold Xgr at h
 split at h
 ·subst h;rename_i e;rw[e];decide
 split at h
 ·subst h;rename_i e;rw[e];decide
 split at h
 ·subst h;rename_i e;rw[e];decide
 split at h
 ·subst h;rename_i e;rw[e];decide
 split at h
 ·subst h;rename_i e;rw[e];decide
 ·exact absurd h.symm hk
theorem Xqh {k:Nat} (h1:1≤k) (h5:k≤5):Xgr (bs (Xin k))=k:=by
 rcases(by omega:k=1∨k=2∨k=3∨k=4∨k=5) with rfl|rfl|rfl|rfl|rfl<;>decide
theorem Ybp (x:List Nat):Xgr x≤5:=by
 unfold Xgr
 split
 ·omega
 split
 ·omega
 split
 ·omega
 split
 ·omega
 split<;>omega
theorem Xxp {k:Nat} {x:ByteArray} (h1:1≤k) (h5:k≤5):((Xin k).toList==x.toList)=decide (Xgr (bs x)=k):=by
 by_cases e:Xgr (bs x)=k
 ·rw[decide_eq_true e,Xgm (Xxq e (by omega))];exact beq_self_eq_true _
 ·rw[decide_eq_false e,beq_eq_false_iff_ne,ByteArray.toList_eq,ByteArray.toList_eq]
  intro h
  have h2:Xin k=x:=ByteArray.ext (Array.toList_inj.1 h)
  exact e (by rw[←h2];exact Xqh h1 h5)
theorem Xtu (w:World) (k:Nat) (h1:1≤k) (h5:k≤5):
    Calls Tryz.prog 132 #[.int .i64 (k:Int)] w fun e w'=>∃v,e=.returned v∧SRow w' v ((Xck k).map Xf3)∧Below w.heap.size w w'∧(∀a,v.ownBlock=some a→w.heap.size≤a):=by
 have AT:∀(l:List ByteArray),SRow (w.alloc (.cells (l.map Value.string).toArray 9)) (.slice (some ⟨w.heap.size,0,none⟩) l.length l.length) l:=fun l=>
  ⟨_,_,rfl,Nat.le_refl _,fun _=>⟨_,0,rfl,by simp,fun j h=>by
    rw[Nat.zero_add,cell_of_row _ w.heap.size j _ _ _ (heap_alloc_last w _)]
    simp[h]⟩⟩
 have OWN:∀(n:Nat) a,(Value.slice (some ⟨w.heap.size,0,none⟩) n n).ownBlock=some a→w.heap.size≤a:=fun n a h=>by
  have:some w.heap.size=some a:=h
  cases this;exact Nat.le_refl _
 have BB:=fun(o:Obj)=>(Below.refl w.heap.size w).alloc (Nat.le_refl _) o
 rcases(by omega:k=1∨k=2∨k=3∨k=4∨k=5) with rfl|rfl|rfl|rfl|rfl
 ·have A:=Hd (AT [Xf3 0]);have O:=Hd (OWN 1);have B:=Hd BB
  clear AT OWN BB
  go_enter Tryz.func132,Tryz.ntmps132
  go_wp2_with fail
  go_ret
  exact⟨_,rfl,A.out,B.out _,O.out⟩
 ·have A:=Hd (AT [Xf3 0,Xf3 1]);have O:=Hd (OWN 2);have B:=Hd BB
  clear AT OWN BB
  go_enter Tryz.func132,Tryz.ntmps132
  go_wp2_with fail
  go_ret
  exact⟨_,rfl,A.out,B.out _,O.out⟩
 ·have A:=Hd (AT [Xf3 1,Xf3 2,Xf3 3,Xf3 4]);have O:=Hd (OWN 4);have B:=Hd BB
  clear AT OWN BB
  go_enter Tryz.func132,Tryz.ntmps132
  go_wp2_with fail
  go_ret
  exact⟨_,rfl,A.out,B.out _,O.out⟩
 ·have A:=Hd (AT [Xf3 1,Xf3 2]);have O:=Hd (OWN 2);have B:=Hd BB
  clear AT OWN BB
  go_enter Tryz.func132,Tryz.ntmps132
  go_wp2_with fail
  go_ret
  exact⟨_,rfl,A.out,B.out _,O.out⟩
 ·have A:=Hd (AT [Xf3 5,Xf3 6]);have O:=Hd (OWN 2);have B:=Hd BB
  clear AT OWN BB
  go_enter Tryz.func132,Tryz.ntmps132
  go_wp2_with fail
  go_ret
  exact⟨_,rfl,A.out,B.out _,O.out⟩
theorem Xic {o:Oper} {a:Act} (w:World) (ho:o.op=.alloc 140):(execOp a.eval o).run Tryz.prog w=.ok (.value (.pointer (some ⟨w.heap.size,0,none⟩))) (w.alloc (.cells z17 140)):=by
 unfold execOp
 rw[ho]
 rfl
theorem Xdd (w:World):(Instr.build 140 #[]).run Tryz.prog w=.ok (.agg z17) w:=by kernel_rfl
theorem RB.weak {w:World} {p k:Nat} {m mo:Bool} (h:RB w p k m mo) {mo':Bool} (hm:mo'=true→mo=true):RB w p k m mo':=by
 obtain⟨cs,h1,h2⟩:=h
 exact⟨cs,h1,h2.cl,h2.kind,h2.mod,fun e=>h2.mods (hm e)⟩
theorem RC.weak' {cs:Array Value} {k:Nat} {m mo:Bool} (h:RC cs k m mo) {mo':Bool} (hm:mo'=true→mo=true):RC cs k m mo':=⟨h.cl,h.kind,h.mod,fun e=>h.mods (hm e)⟩
theorem RB.setK {w:World} {p k:Nat} {m mo:Bool} (h:RB w p k m mo) (k':Nat):RB (w.setCell ⟨p,0,none⟩ (.int .i64 (k':Int))) p k' m mo:=by
 obtain⟨cs,h3,h4⟩:=h
 have hb:=Xd0 h3 0 (.int .i64 (k':Int))
 exact⟨_,hb,Xpa h4.cl 0 rfl,Array.getElem?_setIfInBounds_self_of_lt (by rw[h4.cl.1];omega),by rw[Array.getElem?_setIfInBounds_ne (by omega)];exact h4.mod,fun e=>by rw[Array.getElem?_setIfInBounds_ne (by omega)];exact h4.mods e⟩
theorem Xmg (k:Nat):(Xck k).length≤4∧∀a∈Xck k,a≤6:=by
 unfold Xck
 split
 ·decide
 split
 ·decide
 split
 ·decide
 split<;>decide
theorem Xwe {t:List Nat} (h:rst t=[]):t=[]:=by
 cases t with
 |nil=>rfl
 |cons x u=>exact absurd h (Xje 32 u)
def Xgg (l:List Nat) (w:World) (e:Ending) (w':World):Prop:=
 ∃(cs:Array Value) (a:Int),e=.returned (.tuple #[.agg cs,.int .i64 a,.int .i64 ((Xd4 l:Nat):Int)])∧Cl 56 cs∧Below w.heap.size w w'
theorem Xeq (w wx:World) (cs:Array Value) (hc:Cl 56 cs) (hq:wx.heap[w.heap.size]?=some (.cells z17 140 (0,0))) (hb:Below w.heap.size w wx):
    (storeVar 140 ⟨w.heap.size,0,none⟩ (.agg cs)).run Tryz.prog wx=.ok () (wx.setRow w.heap.size cs)∧
     (∀tmps:Array Value,tmps.getD 2 undef=.pointer (some ⟨w.heap.size,0,none⟩)→(results Tryz.f89 tmps).run Tryz.prog (wx.setRow w.heap.size cs)=.ok (.tuple #[.agg cs,tmps.getD 3 undef,tmps.getD 4 undef]) (wx.setRow w.heap.size cs))∧Below w.heap.size w (wx.setRow w.heap.size cs):=
 ⟨run_storeVar_row (P:=Tryz.prog) wx w.heap.size _ 140 z17 cs hq (by rw[hc.1];exact Xbo) (by rw[hc.1,cl_z17.1]) hc.2,
  fun tmps ht=>Xas Tryz.results89 tmps _ w.heap.size _ _ _ _ ht (setRow_heap wx w.heap.size z17 cs _ _ hq) Tryz.underlying140 rfl (by rw[hc.1];exact Xbo),
  below_setRow hb (Nat.le_refl _) cs⟩
theorem Xgw {p b o:Nat} {w w':World} (h:Fr1 p w w') (hb:b<w.heap.size) (hne:b≠p):w'.cell? ⟨b,o,none⟩=w.cell? ⟨b,o,none⟩:=by
 have:=h.other b hb hne
 unfold World.cell?;simp only[this]
theorem Yaf (k j:Nat) (h:j<(Xck k).length) (h1:1≤k) (h5:k≤5) (a:Nat) (ha:a=(Xck k)[j]) (h4:a=4):j=3:=by
 have e:(Xck k)[j]?=some 4:=by rw[List.getElem?_eq_getElem h,←ha,h4]
 have hl:=(Xmg k).1
 rcases(by omega:k=1∨k=2∨k=3∨k=4∨k=5) with rfl|rfl|rfl|rfl|rfl<;>
  (rcases(by omega:j=0∨j=1∨j=2∨j=3) with rfl|rfl|rfl|rfl)<;>first|rfl|(exfalso;revert e;decide)
set_option maxHeartbeats 8000000 in
theorem Xn1 (s:ByteArray) (w:World) (hs:s.size≤10000000):
    Calls Tryz.prog 89 #[.string s] w (Xgg (bs s) w):=by
 obtain⟨w0,hw0⟩:∃w0,w0=w.alloc (.cells z17 140):=⟨_,rfl⟩
 have B0:Hid (Below w.heap.size w w0):=Hd (by rw[hw0];exact(Below.refl _ _).alloc (Nat.le_refl _) _)
 have Q0:Hid (w0.heap[w.heap.size]?=some (.cells z17 140 (0,0))):=Hd (by rw[hw0];exact heap_alloc_last w _)
 have S0:Hid (w0.heap.size=w.heap.size+1):=Hd (by rw[hw0];simp)
 have HW:=Hd hw0
 have LEN:=Hd (Xaa s)
 clear hw0
 go_enter Tryz.func89,Tryz.ntmps89
 go_upto_region 1 with fail
 have W':=HW.out
 unfold z17 at W'
 rw[←W']
 clear W' HW
 by_cases h1000:1000<s.size
 ·have F:Hid (Xd4 (bs s)=5):=Hd (by unfold Xd4;rw[if_pos (by rw[LEN.out];exact h1000)])
  obtain⟨st,rs,bb⟩:=Xeq w w0 z17 cl_z17 (Q0.out) (B0.out)
  have ST:=Hd st;have RES:=Hd rs;have BB:=Hd bb
  have A0:Hid (∀a:Int,Xgg (bs s) w (.returned (.tuple #[.agg z17,.int .i64 a,.int .i64 5])) ((w0).setRow w.heap.size z17)):=Hd (fun a=>⟨z17,a,by rw[F.out];rfl,cl_z17,BB.out⟩)
  clear st rs bb
  go_wp2_with (first|((with_reducible refine Xae 140 rfl rfl ?_);refine⟨_,Xdd _,?_⟩)|((with_reducible refine Xab 140 rfl _ _ rfl ?_);refine⟨_,_,_,rfl,rfl,ST.out,?_⟩))
  exact bodyPost_ret (RES.out _ rfl) rfl (A0.out _)
 have CS:=Xu6 (bs s) (by rw[LEN.out];omega)
 have WD:=Hd (Xli s 32 w0 (by omega) (by omega))
 go_wp2_with fail
 refine WD.out.mono ?_
 rintro e w1 ⟨v,gs,rfl,hgs,⟨sa,scap,rfl,hscap,hrow⟩,hgz,hgn,hown,hb1⟩
 obtain⟨x,ws,hx,_,hrst,hxl,hF⟩:=CS
 rw[hx] at hgs
 match gs,hgs with
 |[],hgs=>cases hgs
 |g0::gr,hgs=>
 injection hgs with hg0 hgr
 subst hg0
 obtain⟨gs,hgsd⟩:∃gs,gs=g0::gr:=⟨_,rfl⟩
 rw[←hgsd] at hscap hrow hgz hgn hown⊢
 have GS:Hid (gs.map bs=bs g0::ws):=Hd (by rw[hgsd,←hgr];rfl)
 have n1:1≤gs.length:=by rw[hgsd];simp
 obtain⟨b',off,rfl,hbl,hcl⟩:=hrow (by rw[hgsd];simp)
 have hc0:=hcl 0 (by omega)
 rw[Nat.add_zero,show gs[0]'(by omega)=g0 by simp[hgsd]] at hc0
 obtain⟨n,hn⟩:∃n,n=gs.length:=⟨_,rfl⟩
 have HN:=Hd hn
 have GZ:=Hd hgz
 have hg0z:g0.size≤1000:=by have:=hgz g0 (by rw[hgsd];simp);omega
 have hnn:n≤1001:=by omega
 have CELL:=Hd hcl
 rw[←hn] at hscap n1⊢
 have G0L:=Hd (Xaa g0)
 have HRST:=Hd hrst
 have HF:=Hd hF
 obtain⟨p,hp⟩:∃p,p=w1.heap.size:=⟨_,rfl⟩
 obtain⟨w2,hw2⟩:∃w2,w2=w1.alloc (.cells z17 140):=⟨_,rfl⟩
 have STN:Hid (∀zz:Array Value,zz.size=56→(storeVar 140 ⟨w1.heap.size,0,none⟩ (.agg z17)).run Tryz.prog (w1.alloc (.cells zz 140))=.ok () (w1.alloc (.cells z17 140))):=Hd (fun zz hz=>run_storeVar_new w1 140 zz z17 (by rw[cl_z17.1];exact Xbo) (by rw[hz,cl_z17.1]) cl_z17.2)
 have B2:Below w0.heap.size w0 w2:=by rw[hw2];exact hb1.alloc hb1.size _
 have R2:Hid (RB w2 p 0 false true):=Hd ⟨z17,by rw[hw2,hp];exact heap_alloc_last w1 _,Yg9⟩
 have Q2:Hid (w2.heap[w.heap.size]?=some (.cells z17 140 (0,0))):=Hd ((B2.block _ (lt_of_block Q0.out)).trans Q0.out)
 have BW2:Hid (Below w.heap.size w w2):=Hd (B0.out.trans (B2.mono B0.out.size))
 have CELL2:Hid (∀j (h:j<gs.length),w2.cell? ⟨b',off+j,none⟩=some (.string gs[j])):=Hd (fun j h=>by
  rw[hw2];exact(((Below.refl w1.heap.size w1).alloc (Nat.le_refl _) _).cell (p:=⟨b',off+j,none⟩) hbl).trans (hcl j h))
 have hbp:b'<p:=by rw[hp];exact hbl
 have S2:Hid (w2.heap.size=p+1):=Hd (by rw[hw2,hp];simp)
 have hwp:w.heap.size<p:=by have:=hb1.size;have:=S0.out;omega
 have C02:Hid (w2.cell? ⟨b',off,none⟩=some (.string g0)):=Hd (by
  rw[hw2];exact(((Below.refl w1.heap.size w1).alloc (Nat.le_refl _) _).cell (p:=⟨b',off,none⟩) hbl).trans hc0)
 clear hn hgsd hgr hgs hgz hcl hrow hown hc0 hx hrst hF hb1
 go_upto_region 5 with(first|((with_reducible refine Xae 140 rfl rfl ?_);refine⟨_,Xdd _,?_⟩)|((with_reducible refine Xab 140 rfl _ _ rfl ?_);refine⟨_,_,_,rfl,rfl,STN.out _ rfl,?_⟩))
 rw[←hw2,←hp]
 clear hw2 hp STN hbl B2 WD B0 Q0 S0 CELL
 obtain⟨kx,hkx⟩:∃kx,kx=Xgr (bs g0):=⟨_,rfl⟩
 have KX:=Hd hkx
 have hk5:kx≤5:=by rw[hkx];exact Ybp _
 clear hkx
 go_wp2_with fail
 go_loopg [7] 5 (fun k i wr=>∃j:Nat,j≤5∧k=5-j∧i=.int .i64 ((j:Int)+1)∧Hid (RB wr p (if kx≤j then kx else 0) false true)∧Hid (Fr1 p w2 wr))
 case atStart=>exact⟨0,by omega,rfl,rfl,Hd (by have e:(if kx≤0 then kx else 0)=0:=by split<;>omega
                                               rw[e];exact R2.out),Hd (Fr1.refl _ _)⟩
 case round=>
  obtain⟨j,hj,rfl,rfl,hrb,hfr⟩:=hrel
  have hb2:b'<w2.heap.size:=by have:=S2.out;omega
  by_cases hlt:j<5
  ·have NM:Hid (∀w,Calls Tryz.prog 131 #[.int .i64 ((j:Int)+1)] w fun e w'=>e=.returned (.string (Xin (j+1)))∧Below w.heap.size w w'):=Hd (fun w=>Xpx w (j+1) (by omega) (by omega))
   have EQB:=Xxp (k:=j+1) (x:=g0) (by omega) (by omega)
   rw[←KX.out] at EQB
   obtain⟨b,hb⟩:∃b,b=decide (kx=j+1):=⟨_,rfl⟩
   rw[←hb] at EQB
   obtain⟨ks,hks⟩:∃ks,ks=Xin (j+1):=⟨_,rfl⟩
   rw[←hks] at NM EQB
   have C0:Hid (∀wx,Fr1 p w2 wx→wx.cell? ⟨b',off,none⟩=some (.string g0)):=Hd (fun wx h=>(Xgw h hb2 (by omega)).trans C02.out)
   have k0:(0:Int)≤(j:Int):=by omega
   have v1:IntKind.i64.wrap ((j:Int)+1+1)=(j:Int)+1+1:=IntWalk.i64_in _ (by omega)
   have v2:IntKind.i64.wrap ((j:Int)+1)=(j:Int)+1:=IntWalk.i64_in _ (by omega)
   clear hks
   go_upto_region 8 with fail
   have HS:(fun wx:World=>Fr1 p w2 wx) wr.drew:=hfr.out.trans (Fr1.of_below (Dr.below ⟨1,rfl⟩))
   have RD:Hid (RB wr.drew p (if kx≤j then kx else 0) false true):=Hd hrb.out.drew
   refine wp_region_held (S:=fun wx:World=>Fr1 p w2 wx) (by kernel_rfl) ?_
   change wpAnyH _ _ _ _ _ _ _ _ wr.drew
   obtain⟨wd,hwd⟩:∃wd,wd=wr.drew:=⟨_,rfl⟩
   rw[←hwd] at HS RD⊢
   clear hwd hrb hfr
   refine Xad 0 (.int .i64 ((j:Int)+1)) rfl (fun _ _=>by go_simp) HS ?_
   refine Xad 2 (.slice (some ⟨b',off,none⟩) n scap) rfl (fun _ _=>by go_simp) HS ?_
   refine Xad 3 (.pointer (some ⟨b',off,none⟩)) rfl (fun _ _=>by go_simp;exact fun hh=>absurd hh (by omega)) HS ?_
   refine Xad 4 (.string g0) rfl (fun w' hw'=>by have c0:=C0.out w' hw';go_simp) HS ?_
   refine Xav (i:=1) (by kernel_rfl) ?_
   refine Xao (f:=131) (args:=#[.int .i64 ((j:Int)+1)]) rfl rfl (by go_simp) ?_
   refine(NM.out wd).mono ?_
   rintro e w7 ⟨rfl,hb7⟩
   have HS7:(fun wx:World=>Fr1 p w2 wx) w7:=HS.trans (Fr1.of_below hb7)
   have R7:=Hd (RD.out.on hb7)
   have F7:=Hd HS7
   refine⟨_,rfl,HS7,?_⟩
   refine Xad 5 (.bool b) rfl (fun _ _=>by go_simp) HS7 ?_
   refine wpAnyH_done (by kernel_rfl) ?_ _
   clear HS HS7 hb7 RD NM C0
   cases b
   ·have e1:(if kx≤j+1 then kx else 0)=(if kx≤j then kx else 0):=by
       have:kx≠j+1:=by simpa using hb
       by_cases h:kx≤j
       ·rw[if_pos h,if_pos (by omega)]
       ·rw[if_neg h,if_neg (by omega)]
    have R8:Hid (RB w7 p (if kx≤j+1 then kx else 0) false true):=Hd (by rw[e1];exact R7.out)
    clear e1 R7 hb
    go_simp
    refine‹∀(a:Act) (w_1:World),_→_› _ _ ?_
    go_wp2_with fail
    go_roundg (5-(j+1))
    case measure=>omega
    case rel=>exact⟨j+1,by omega,rfl,by go_num,R8,F7⟩
   ·have e1:kx=j+1:=by simpa using hb
    obtain⟨u,cu,fu⟩:=R7.out.cell (show 0<56 by omega)
    have R8:Hid (RB (w7.setCell ⟨p,0,none⟩ (.int .i64 ((j:Int)+1))) p (if kx≤j+1 then kx else 0) false true):=Hd (by rw[if_pos (by omega),e1];exact R7.out.setK (j+1))
    have F8:Hid (Fr1 p w2 (w7.setCell ⟨p,0,none⟩ (.int .i64 ((j:Int)+1)))):=Hd (F7.out.trans (Fr1.setC _))
    clear e1 R7 hb F7
    go_simp
    refine‹∀(a:Act) (w_1:World),_→_› _ _ ?_
    go_wp2_with fail
    go_roundg (5-(j+1))
    case measure=>omega
    case rel=>exact⟨j+1,by omega,rfl,by go_num,R8,F8⟩
  ·obtain rfl:j=5:=by omega
   rw[if_pos hk5] at hrb
   have QR:=Hd ((hfr.out.other _ (lt_of_block Q2.out) (by omega)).trans Q2.out)
   have BR:=Hd (BW2.out.trans (hfr.out.below BW2.out.size (Nat.le_of_lt hwp)))
   have CELLR:Hid (∀j (h:j<gs.length),wr.cell? ⟨b',off+j,none⟩=some (.string gs[j])):=Hd (fun j h=>(Xgw hfr.out hb2 (by omega)).trans (CELL2.out j h))
   have c0:wr.cell? ⟨b',off,none⟩=some (.string g0):=(Xgw hfr.out hb2 (by omega)).trans C02.out
   have ck:=hrb.out.kind
   have hbr:b'<wr.heap.size:=Nat.lt_of_lt_of_le hb2 hfr.out.size
   have hpr:=hrb.out.lt
   clear hfr CELL2 C02 R2 Q2 BW2
   by_cases hk0:kx=0
   ·have q1:((kx:Int)==0)=true:=Xa6 (by omega)
    have F:Hid (Xd4 (bs s)=11):=Hd (by rw[HF.out,if_pos (KX.out.symm.trans hk0)])
    obtain⟨st,rs,bb⟩:=Xeq w wr z17 cl_z17 (QR.out) (BR.out)
    have ST:=Hd st;have RES:=Hd rs;have BB:=Hd bb
    have A0:Hid (∀a:Int,Xgg (bs s) w (.returned (.tuple #[.agg z17,.int .i64 a,.int .i64 11])) ((wr).setRow w.heap.size z17)):=Hd (fun a=>⟨z17,a,by rw[F.out];rfl,cl_z17,BB.out⟩)
    clear st rs bb
    clear hk0
    go_wp2_with (first|((with_reducible refine Xae 140 rfl rfl ?_);refine⟨_,Xdd _,?_⟩)|((with_reducible refine Xab 140 rfl _ _ rfl ?_);refine⟨_,_,_,rfl,rfl,ST.out,?_⟩))
    exact bodyPost_ret (RES.out _ rfl) rfl (A0.out _)
   have q1:((kx:Int)==0)=false:=Xak (by omega)
   have FC:Hid (Xd4 (bs s)=chF kx (Xck kx) false ((bs s).drop g0.size)):=Hd (by rw[HF.out,if_neg (by rw[←KX.out];exact hk0),←KX.out,G0L.out])
   have SO:=Hd (Xtu wr kx (by omega) hk5)
   go_wp2_with fail
   refine SO.out.mono ?_
   rintro e w4 ⟨vl,rfl,⟨la,lcap,rfl,hlcap,hlrow⟩,hb4,hlown⟩
   obtain⟨L,hL⟩:∃L,L=(Xck kx).length:=⟨_,rfl⟩
   have HL:=Hd hL
   have L4:L≤4:=by rw[hL];exact(Xmg kx).1
   have LR:Hid (0<L→∃bl lo,la=some ⟨bl,lo,none⟩∧bl<w4.heap.size∧bl≠p∧∀j (h:j<(Xck kx).length),w4.cell? ⟨bl,lo+j,none⟩=some (.string (Xf3 (Xck kx)[j]))):=Hd (fun h0=>by
    obtain⟨bl,lo,h1,h2,h3⟩:=hlrow (by intro e;rw[List.map_eq_nil_iff] at e;rw[hL,e] at h0;simp at h0)
    refine⟨bl,lo,h1,h2,?_,fun j h=>by have:=h3 j (by rw[List.length_map];exact h);rw[List.getElem_map] at this;exact this⟩
    have:=hlown bl (by rw[h1];rfl)
    omega)
   clear hlrow
   rw[List.length_map,←hL] at hlcap⊢
   have R4:=Hd (hrb.out.on hb4)
   have Q4:=Hd ((hb4.block _ (lt_of_block QR.out)).trans QR.out)
   have B4:=Hd (BR.out.trans (hb4.mono BR.out.size))
   have CELL4:Hid (∀j (h:j<gs.length),w4.cell? ⟨b',off+j,none⟩=some (.string gs[j])):=Hd (fun j h=>(hb4.cell (p:=⟨b',off+j,none⟩) hbr).trans (CELLR.out j h))
   have hb4':b'<w4.heap.size:=Nat.lt_of_lt_of_le hbr hb4.size
   have hw4:w.heap.size<w4.heap.size:=by have:=hb4.size;omega
   have hp4:p<w4.heap.size:=by have:=hb4.size;omega
   have RST0:Hid (rst ((bs s).drop g0.size)=(gs.map bs).drop 1):=Hd (by rw[GS.out,←G0L.out];exact HRST.out)
   have g0s:g0.size≤s.size:=by rw[←G0L.out,←LEN.out];exact hxl
   clear hlown hb4 hrb CELLR QR BR c0 ck SO hL hpr hbr q1 HF KX HRST
   go_wp2_with fail
   go_loopg [8,9,11,12,13] L (fun k vat vn vi v12 v13 wr=>∃(j ta nn:Nat) (m:Bool),j≤L∧k=L-j∧vat=.int .i64 (ta:Int)∧vn=.int .i64 (nn:Int)∧vi=.int .i64 (j:Int)∧Hid (Xd4 (bs s)=chF kx ((Xck kx).drop j) m ((bs s).drop ta))∧Hid (rst ((bs s).drop ta)=(gs.map bs).drop nn)∧ta≤s.size∧nn≤n∧Hid (RB wr p kx m (decide (j<4)))∧Hid (Fr1 p w4 wr))
   case atStart=>exact⟨0,g0.size,1,false,by omega,rfl,rfl,rfl,rfl,FC,RST0,g0s,n1,R4,Hd (Fr1.refl _ _)⟩
   case round=>
    obtain⟨j,ta,nn,m,hjL,rfl,rfl,rfl,rfl,hlaw,hrst,hta,hnn',hrb,hfr⟩:=hrel
    have HQ:=Hd ((hfr.out.other _ (lt_of_block Q4.out) (by omega)).trans Q4.out)
    have HB:=Hd (B4.out.trans (hfr.out.below B4.out.size (Nat.le_of_lt hwp)))
    have c35:=hrb.out.modc
    have ck:=hrb.out.kind
    by_cases hlt:j<L
    ·have hjl:j<(Xck kx).length:=by rw[←HL.out];exact hlt
     obtain⟨bl,lo,rfl,hblw,hblp,hlc⟩:=LR.out (by omega)
     obtain⟨a,ha⟩:∃a,a=(Xck kx)[j]:=⟨_,rfl⟩
     have HA:Hid (a≤6):=Hd ((Xmg kx).2 a (by rw[ha];exact List.getElem_mem hjl))
     have DRP:Hid ((Xck kx).drop j=a::(Xck kx).drop (j+1)):=Hd (by rw[List.drop_eq_getElem_cons hjl,ha])
     have AJ:Hid (a=4→j=3):=Hd (Yaf kx j hjl (by omega) hk5 a ha)
     obtain⟨sb,hsb⟩:∃sb,sb=Xf3 a:=⟨_,rfl⟩
     have SB:=Hd hsb
     have CSB:Hid (w4.cell? ⟨bl,lo+j,none⟩=some (.string sb)):=Hd (by rw[hsb,ha];exact hlc j hjl)
     have cst:wr.cell? ⟨bl,lo+j,none⟩=some (.string sb):=(Xgw hfr.out hblw hblp).trans CSB.out
     have j0:(0:Int)≤(j:Int):=by omega
     have j1:(j:Int)<(L:Int):=by omega
     clear hlc ha
     by_cases hsk:a=4∧m=false
     ·obtain⟨h4,rfl⟩:=hsk
      have e4:(sb.toList==[97,117,116,104,111,114,115])=true:=by rw[hsb,h4];kernel_rfl
      clear hsb
      have LAW9:Hid (Xd4 (bs s)=chF kx ((Xck kx).drop (j+1)) false ((bs s).drop ta)):=Hd (by rw[hlaw.out,DRP.out,h4,Yf1])
      have R9:Hid (RB wr p kx false (decide (j+1<4))):=Hd (hrb.out.weak (fun h=>by simp at h⊢;omega))
      have v1:IntKind.i64.wrap ((j:Int)+1)=(j:Int)+1:=IntWalk.i64_in _ (by omega)
      clear h4 hlaw hrb DRP AJ SB CSB LR
      go_wp2_with fail
      go_roundg (L-(j+1))
      case measure=>omega
      case rel=>exact⟨j+1,ta,nn,false,by omega,rfl,rfl,rfl,by go_num,LAW9,hrst,hta,hnn',R9,hfr⟩
     ·have NS:=Hd hsk
      clear hsk LR
      go_upto_region 18 with fail
      go_cut [60] from 51 to 60 (fun v wx=>v=.bool false∧wr=wx)
      case first=>
       by_cases h4:a=4
       ·have e4:(sb.toList==[97,117,116,104,111,114,115])=true:=by rw[hsb,h4];kernel_rfl
        obtain rfl:m=true:=by cases m;exact absurd ⟨h4,rfl⟩ NS.out;rfl
        clear hsb h4
        go_wp2_with fail
        go_meet
        exact⟨rfl,rfl⟩
       ·have e4:(sb.toList==[97,117,116,104,111,114,115])=false:=by rw[hsb];exact Yi9 HA.out h4
        clear hsb h4
        go_wp2_with fail
        go_meet
        exact⟨rfl,rfl⟩
      case rest=>
      obtain⟨rfl,hw⟩:=hcut
      subst hw
      clear hsb
      by_cases hq:nn=n
      ·have q4:((nn:Int)==(n:Int))=true:=Xa6 (by omega)
       have F:Hid (Xd4 (bs s)=4):=Hd (by
        have h:=hrst.out
        rw[hq,HN.out,←List.length_map (f:=bs),List.drop_length] at h
        rw[hlaw.out,Xwe h,DRP.out,Ych NS.out])
       obtain⟨st,rs,bb⟩:=Xeq w wr z17 cl_z17 (HQ.out) (HB.out)
       have ST:=Hd st;have RES:=Hd rs;have BB:=Hd bb
       have A0:Hid (∀a:Int,Xgg (bs s) w (.returned (.tuple #[.agg z17,.int .i64 a,.int .i64 4])) ((wr).setRow w.heap.size z17)):=Hd (fun a=>⟨z17,a,by rw[F.out];rfl,cl_z17,BB.out⟩)
       clear st rs bb
       clear hq
       go_wp2_with (first|((with_reducible refine Xae 140 rfl rfl ?_);refine⟨_,Xdd _,?_⟩)|((with_reducible refine Xab 140 rfl _ _ rfl ?_);refine⟨_,_,_,rfl,rfl,ST.out,?_⟩))
       exact bodyPost_ret (RES.out _ rfl) rfl (A0.out _)
      have q4:((nn:Int)==(n:Int))=false:=Xak (by omega)
      have hnl:nn<gs.length:=by rw[←HN.out];omega
      obtain⟨gx,hgx⟩:∃gx,gx=gs[nn]:=⟨_,rfl⟩
      have CX:Hid (w4.cell? ⟨b',off+nn,none⟩=some (.string gx)):=Hd (by rw[hgx];exact CELL4.out nn hnl)
      have gxz:gx.size≤1000:=by have:=GZ.out gx (by rw[hgx];exact List.getElem_mem hnl);omega
      have RS1:rst ((bs s).drop ta)=bs gx::(gs.map bs).drop (nn+1):=by
       rw[hrst.out,List.drop_eq_getElem_cons (by rw[List.length_map];exact hnl),List.getElem_map,←hgx]
      have GXL:=Xaa gx
      have RD:=Xr5 (bs s) ta (bs gx) _ RS1
      rw[GXL,LEN.out] at RD
      have RSTX:=Hd RD.2.2.1
      have TAX:=RD.2.2.2
      obtain⟨we,hwe⟩:∃we,we=Xzy a (bs gx):=⟨_,rfl⟩
      have LAWX:Hid (Xd4 (bs s)=fe we (chF kx ((Xck kx).drop (j+1)) (if a=3 then decide (bs gx=Xh4) else m) ((bs s).drop (ta+1+gx.size)))):=Hd (by
       rw[hlaw.out,DRP.out,Yf0 NS.out RS1,GXL,hwe])
      obtain⟨ds,hd1,hd2⟩:=hrb.out
      have DRC:=Hd hd2
      have hj4:j<4:=by omega
      have CW:Hid (∀w,Calls Tryz.prog 133 #[.agg ds,.string sb,.string gx] w fun e w'=>∃es,e=.returned (.tuple #[.agg es,.int .i64 (we:Int)])∧RC es kx (if a=3 then decide (bs gx=Xh4) else m) (decide (a≠4))∧Below w.heap.size w w'):=Hd (fun w=>by
       rw[hwe,SB.out];exact Xwc w ds kx a m gx HA.out (by omega) (hd2.weak' (fun _=>by simpa using hj4)))
      have A4:Hid (j+1<4→¬a=4):=Hd (fun h e=>by have:=AJ.out e;omega)
      have LZ:Hid (∀wx:World,wx.heap[p]?=some (.cells ds 140 (0,0))→(loadVar 140 ⟨p,0,none⟩).run Tryz.prog wx=.ok (.agg ds) wx):=Hd (fun wx h=>Xal wx p 56 _ _ ds _ _ h rfl Tryz.underlying140 Xbo DRC.out.cl.1)
      have CLx:Hid (∀wx,Fr1 p w4 wx→wx.cell? ⟨bl,lo+j,none⟩=some (.string sb)):=Hd (fun wx h=>(Xgw h hblw hblp).trans CSB.out)
      have CXx:Hid (∀wx,Fr1 p w4 wx→wx.cell? ⟨b',off+nn,none⟩=some (.string gx)):=Hd (fun wx h=>(Xgw h hb4' (by omega)).trans CX.out)
      have i0:(0:Int)≤(j:Int):=by omega
      have i1:(j:Int)<(L:Int):=by omega
      have i2:(0:Int)≤(nn:Int):=by omega
      have i3:(nn:Int)<(n:Int):=by omega
      have v0:IntKind.i64.wrap (j:Int)=(j:Int):=IntWalk.i64_in _ (by omega)
      have v1:IntKind.i64.wrap ((j:Int)+1)=(j:Int)+1:=IntWalk.i64_in _ (by omega)
      have v2:IntKind.i64.wrap (nn:Int)=(nn:Int):=IntWalk.i64_in _ (by omega)
      have v3:IntKind.i64.wrap ((nn:Int)+1)=(nn:Int)+1:=IntWalk.i64_in _ (by omega)
      have v4:IntKind.i64.wrap ((ta:Int)+1)=(ta:Int)+1:=IntWalk.i64_in _ (by omega)
      have v5:IntKind.i64.wrap ((ta:Int)+1+(gx.size:Int))=(ta:Int)+1+(gx.size:Int):=IntWalk.i64_in _ (by omega)
      clear hwe hgx RS1 RD GXL hd2 hlaw hrst hrb hq cst
      go_upto_region 21 with fail
      go_cut [12,13] from 68 to 80 (fun v12 v13 wx=>∃(g:Nat) (es:Array Value),v12=.pointer (some ⟨g,0,none⟩)∧v13=.int .i64 (we:Int)∧Hid (wx.heap[g]?=some (.cells es 140 (0,0)))∧Hid (wx.heap[p]?=some (.cells ds 140 (0,0)))∧Hid (Fr1 p w4 wx)∧Hid (wx.heap[w.heap.size]?=some (.cells z17 140 (0,0)))∧Hid (Below w.heap.size w wx)∧Hid (RC es kx (if a=3 then decide (bs gx=Xh4) else m) (decide (a≠4))))
      case first=>
       have HS:(fun wx:World=>wx.heap[p]?=some (.cells ds 140 (0,0))∧Fr1 p w4 wx) wr.drew:=⟨hd1,hfr.out.trans (Fr1.of_below (Dr.below ⟨1,rfl⟩))⟩
       have HQd:=Hd (show wr.drew.heap[w.heap.size]?=some (.cells z17 140 (0,0)) from HQ.out)
       have HBd:=Hd HB.out.drew
       refine wp_region_held (S:=fun wx:World=>wx.heap[p]?=some (.cells ds 140 (0,0))∧Fr1 p w4 wx) (by kernel_rfl) ?_
       change wpAnyH _ _ _ _ _ _ _ _ wr.drew
       obtain⟨wd,hwd⟩:∃wd,wd=wr.drew:=⟨_,rfl⟩
       rw[←hwd] at HS HQd HBd⊢
       clear hwd hd1 hfr HQ HB
       refine Xad 0 (.agg ds) rfl (fun w' hw'=>Xaw (ty:=140) (x:=.tmp 6) (ad:=⟨p,0,none⟩) rfl (by kernel_rfl) (LZ.out w' hw'.1)) HS ?_
       refine Xad 1 (.slice (some ⟨bl,lo,none⟩) L lcap) rfl (fun _ _=>by go_simp) HS ?_
       refine Xad 2 (.int .i64 (j:Int)) rfl (fun _ _=>by go_simp) HS ?_
       refine Xad 3 (.pointer (some ⟨bl,lo+j,none⟩)) rfl (fun _ _=>by go_simp) HS ?_
       refine Xad 4 (.string sb) rfl (fun w' hw'=>by have c0:=CLx.out w' hw'.2;go_simp) HS ?_
       refine Xad 5 (.slice (some ⟨b',off,none⟩) n scap) rfl (fun _ _=>by go_simp) HS ?_
       refine Xad 6 (.int .i64 (nn:Int)) rfl (fun _ _=>by go_simp) HS ?_
       refine Xad 7 (.pointer (some ⟨b',off+nn,none⟩)) rfl (fun _ _=>by go_simp) HS ?_
       refine Xad 8 (.string gx) rfl (fun w' hw'=>by have c0:=CXx.out w' hw'.2;go_simp) HS ?_
       refine Xf0 (i:=9) (k:=13) (by kernel_rfl) ?_ ?_
       ·skip
        refine Xao (f:=133) (args:=#[.agg ds,.string sb,.string gx]) rfl rfl (by go_simp) ?_
        refine(CW.out wd).mono ?_
        rintro e w6 ⟨es,rfl,herc,hb6⟩
        have ERC:=Hd herc
        have HS6:(fun wx:World=>wx.heap[p]?=some (.cells ds 140 (0,0))∧Fr1 p w4 wx) w6:=⟨(hb6.block _ (lt_of_block HS.1)).trans HS.1,HS.2.trans (Fr1.of_below hb6)⟩
        have B6:=(Below.refl w6.heap.size w6).alloc (Nat.le_refl _) (.cells z17 140)
        have HS7:(fun wx:World=>wx.heap[p]?=some (.cells ds 140 (0,0))∧Fr1 p w4 wx) (w6.alloc (.cells z17 140)):=⟨(B6.block _ (lt_of_block HS6.1)).trans HS6.1,HS6.2.trans (Fr1.of_below B6)⟩
        have B7:=(Below.refl w6.heap.size w6).alloc (Nat.le_refl _) (.cells es 140)
        have HS8:(fun wx:World=>wx.heap[p]?=some (.cells ds 140 (0,0))∧Fr1 p w4 wx) (w6.alloc (.cells es 140)):=⟨(B7.block _ (lt_of_block HS6.1)).trans HS6.1,HS6.2.trans (Fr1.of_below B7)⟩
        have st8:=run_storeVar_new (P:=Tryz.prog) w6 140 z17 es (by rw[ERC.out.cl.1];exact Xbo) (by rw[ERC.out.cl.1,cl_z17.1]) ERC.out.cl.2
        refine⟨_,rfl,HS6,?_⟩
        refine Xad 10 (.tuple #[.agg es,.int .i64 (we:Int)]) rfl (fun _ _=>by go_simp) HS6 ?_
        refine Xad 11 (.agg es) rfl (fun _ _=>by go_simp) HS6 ?_
        refine Xad 12 (.int .i64 (we:Int)) rfl (fun _ _=>by go_simp) HS6 ?_
        refine Xa2 (i:=13) (v:=.pointer (some ⟨w6.heap.size,0,none⟩)) (by kernel_rfl) rfl rfl (Xic w6 rfl) HS7 ?_
        refine Xba (i:=14) (by kernel_rfl) rfl rfl (Xax (t:=140) (ad:=⟨w6.heap.size,0,none⟩) (u:=.agg es) rfl (by kernel_rfl) (by kernel_rfl) st8) HS8 ?_
        refine Xa2 (i:=15) (v:=.int .i64 (we:Int)) (by kernel_rfl) rfl rfl (Xap rfl (by kernel_rfl)) HS8 ?_
        refine wpAnyH_done (by kernel_rfl) ?_ _
        have G8':(w6.alloc (.cells es 140)).heap[w6.heap.size]?=some (.cells es 140 (0,0)):=heap_alloc_last w6 _
        have Q8':=((hb6.trans (B7.mono hb6.size)).block _ (lt_of_block HQd.out)).trans HQd.out
        have B8':=HBd.out.trans ((hb6.trans (B7.mono hb6.size)).mono HBd.out.size)
        obtain⟨w8,hw8⟩:∃w8,w8=w6.alloc (.cells es 140):=⟨_,rfl⟩
        obtain⟨g,hg⟩:∃g,g=w6.heap.size:=⟨_,rfl⟩
        rw[←hw8] at G8' Q8' B8' HS8⊢
        rw[←hg] at G8'⊢
        have G8:=Hd G8';have P8:=Hd HS8.1;have F8:=Hd HS8.2;have Q8:=Hd Q8';have B8:=Hd B8'
        clear G8' Q8' B8' HS HS6 HS7 HS8 B6 B7 st8 hb6 herc hw8 hg HQd HBd LZ CLx CXx CW
        go_simp
        refine‹∀(a:Act) (w_1:World),_→_› _ _ ?_
        go_wp2_with fail
        go_meet
        exact⟨g,es,rfl,rfl,G8,P8,F8,Q8,B8,ERC⟩
       ·skip
        have BA:=(Below.refl wd.heap.size wd).alloc (Nat.le_refl _) (.cells z17 140)
        have HSA:(fun wx:World=>wx.heap[p]?=some (.cells ds 140 (0,0))∧Fr1 p w4 wx) (wd.alloc (.cells z17 140)):=⟨(BA.block _ (lt_of_block HS.1)).trans HS.1,HS.2.trans (Fr1.of_below BA)⟩
        refine Xbt rfl rfl (Xb0 (Xic wd rfl) ⟨HSA,?_⟩)
        have GA:(wd.alloc (.cells z17 140)).heap[wd.heap.size]?=some (.cells z17 140 (0,0)):=heap_alloc_last wd _
        refine Xav (i:=9) (by kernel_rfl) ?_
        refine Xao (f:=133) (args:=#[.agg ds,.string sb,.string gx]) rfl rfl (by go_simp) ?_
        refine(CW.out _).mono ?_
        rintro e w6 ⟨es,rfl,herc,hb6⟩
        have ERC:=Hd herc
        have HS6:(fun wx:World=>wx.heap[p]?=some (.cells ds 140 (0,0))∧Fr1 p w4 wx) w6:=⟨(hb6.block _ (lt_of_block HSA.1)).trans HSA.1,HSA.2.trans (Fr1.of_below hb6)⟩
        have G6:=(hb6.block _ (lt_of_block GA)).trans GA
        have B6w:=BA.trans (hb6.mono BA.size)
        have Q6:=(B6w.block _ (lt_of_block HQd.out)).trans HQd.out
        have gp:wd.heap.size≠p:=by have:=lt_of_block HS.1;omega
        have gw:wd.heap.size≠w.heap.size:=by have:=lt_of_block HQd.out;omega
        have HS8:(fun wx:World=>wx.heap[p]?=some (.cells ds 140 (0,0))∧Fr1 p w4 wx) (w6.setRow wd.heap.size es):=⟨(setRow_other w6 wd.heap.size p es gp.symm).trans HS6.1,⟨HS6.2.os,HS6.2.tape,HS6.2.output,by simpa using HS6.2.size,fun k hk hne=>(setRow_other w6 wd.heap.size k es (by have:=HS.2.size;omega)).trans (HS6.2.other k hk hne)⟩⟩
        have st8:=run_storeVar_row (P:=Tryz.prog) w6 wd.heap.size _ 140 z17 es G6 (by rw[ERC.out.cl.1];exact Xbo) (by rw[ERC.out.cl.1,cl_z17.1]) ERC.out.cl.2
        refine⟨_,rfl,HS6,?_⟩
        refine Xad 10 (.tuple #[.agg es,.int .i64 (we:Int)]) rfl (fun _ _=>by go_simp) HS6 ?_
        refine Xad 11 (.agg es) rfl (fun _ _=>by go_simp) HS6 ?_
        refine Xad 12 (.int .i64 (we:Int)) rfl (fun _ _=>by go_simp) HS6 ?_
        refine Xba (i:=14) (by kernel_rfl) rfl rfl (Xax (t:=140) (ad:=⟨wd.heap.size,0,none⟩) (u:=.agg es) rfl (by kernel_rfl) (by kernel_rfl) st8) HS8 ?_
        refine Xa2 (i:=15) (v:=.int .i64 (we:Int)) (by kernel_rfl) rfl rfl (Xap rfl (by kernel_rfl)) HS8 ?_
        refine wpAnyH_done (by kernel_rfl) ?_ _
        have G8':=setRow_heap w6 wd.heap.size z17 es _ _ G6
        have Q8':(w6.setRow wd.heap.size es).heap[w.heap.size]?=some (.cells z17 140 (0,0)):=(setRow_other w6 wd.heap.size w.heap.size es gw.symm).trans Q6
        have B8':Below w.heap.size w (w6.setRow wd.heap.size es):=below_setRow (HBd.out.trans (B6w.mono HBd.out.size)) (by have:=lt_of_block HQd.out;omega) es
        obtain⟨w8,hw8⟩:∃w8,w8=w6.setRow wd.heap.size es:=⟨_,rfl⟩
        obtain⟨g,hg⟩:∃g,g=wd.heap.size:=⟨_,rfl⟩
        rw[←hw8] at G8' Q8' B8' HS8⊢
        rw[←hg] at G8'⊢
        have G8:=Hd G8';have P8:=Hd HS8.1;have F8:=Hd HS8.2;have Q8:=Hd Q8';have B8:=Hd B8'
        clear G8' Q8' B8' HS HS6 HSA GA G6 B6w Q6 gp gw HS8 BA st8 hb6 herc hw8 hg HQd HBd LZ CLx CXx CW
        go_simp
        refine‹∀(a:Act) (w_1:World),_→_› _ _ ?_
        go_wp2_with fail
        go_meet
        exact⟨g,es,rfl,rfl,G8,P8,F8,Q8,B8,ERC⟩
      case rest=>
      obtain⟨g,es,rfl,rfl,G8,P8,F8,Q8,B8,ERC⟩:=hcut
      obtain⟨w8,hw8⟩:∃w8,w8=wc:=⟨_,rfl⟩
      rw[←hw8] at G8 P8 F8 Q8 B8⊢
      clear hw8 hd1 hfr HQ HB LZ CLx CXx CW
      obtain⟨st8,rs8,bb8⟩:=Xeq w w8 z17 cl_z17 Q8.out B8.out
      by_cases e0:we=0
      ·have q5:((we:Int) !=0)=false:=Xat (by omega)
       have LD:=Hd (Xal w8 g 56 _ _ es _ _ G8.out rfl Tryz.underlying140 Xbo ERC.out.cl.1)
       have ST:=Hd (run_storeVar_row (P:=Tryz.prog) w8 p _ 140 ds es P8.out (by rw[ERC.out.cl.1];exact Xbo) (by rw[ERC.out.cl.1,DRC.out.cl.1]) ERC.out.cl.2)
       have R9:Hid (RB ((w8).setRow p es) p kx (if a=3 then decide (bs gx=Xh4) else m) (decide (j+1<4))):=Hd ⟨es,setRow_heap w8 p ds es _ _ P8.out,ERC.out.weak' (fun h=>by simp at h⊢;exact A4.out h)⟩
       have F9:Hid (Fr1 p w4 ((w8).setRow p es)):=Hd (F8.out.trans ⟨rfl,rfl,rfl,by simp[World.setRow],fun k hk hne=>setRow_other w8 p k es hne⟩)
       have cx9:((w8).setRow p es).cell? ⟨b',off+nn,none⟩=some (.string gx):=(Xgw F9.out hb4' (by omega)).trans (CX.out)
       have LAW9:Hid (Xd4 (bs s)=chF kx ((Xck kx).drop (j+1)) (if a=3 then decide (bs gx=Xh4) else m) ((bs s).drop (ta+1+gx.size))):=Hd (by rw[LAWX.out,e0];rfl)
       clear e0 G8 P8 F8 Q8 B8 st8 rs8 bb8 LAWX ERC A4
       go_wp2_with (first|((with_reducible refine Xac 140 rfl _ rfl ?_);refine⟨_,_,rfl,LD.out,?_⟩)|((with_reducible refine Xab 140 rfl _ _ rfl ?_);refine⟨_,_,_,rfl,rfl,ST.out,?_⟩))
       go_roundg (L-(j+1))
       case measure=>omega
       case rel=>exact⟨j+1,ta+1+gx.size,nn+1,_,by omega,rfl,by go_num,by go_num,by go_num,LAW9,RSTX,TAX,by omega,R9,F9⟩
      ·have q5:((we:Int) !=0)=true:=Xam (by omega)
       have F:Hid (Xd4 (bs s)=we):=Hd (by rw[LAWX.out];unfold fe;rw[if_pos e0])
       have ST:=Hd st8;have RES:=Hd rs8;have BB:=Hd bb8
       have A0:Hid (∀a:Int,Xgg (bs s) w (.returned (.tuple #[.agg z17,.int .i64 a,.int .i64 (we:Int)])) ((w8).setRow w.heap.size z17)):=Hd (fun a=>⟨z17,a,by rw[F.out],cl_z17,BB.out⟩)
       clear e0 G8 P8 F8 Q8 B8 st8 rs8 bb8 LAWX ERC A4
       go_wp2_with (first|((with_reducible refine Xae 140 rfl rfl ?_);refine⟨_,Xdd _,?_⟩)|((with_reducible refine Xab 140 rfl _ _ rfl ?_);refine⟨_,_,_,rfl,rfl,ST.out,?_⟩))
       exact bodyPost_ret (RES.out _ rfl) rfl (A0.out _)
    ·obtain rfl:j=L:=by omega
     have LAWE:Hid (Xd4 (bs s)=Yi4 kx ((bs s).drop ta)):=Hd (by rw[hlaw.out,List.drop_of_length_le (by rw[HL.out];exact Nat.le_refl _)];rfl)
     clear hlaw
     by_cases hq:nn=n
     ·have q4:((nn:Int)==(n:Int))=true:=Xa6 (by omega)
      have F:Hid (Xd4 (bs s)=0):=Hd (by
       have h:=hrst.out
       rw[hq,HN.out,←List.length_map (f:=bs),List.drop_length] at h
       rw[LAWE.out,Xwe h];unfold Yi4;split<;>rfl)
      obtain⟨ds,hd1,hd2⟩:=hrb.out
      have DRC:=Hd hd2
      obtain⟨st,rs,bb⟩:=Xeq w wr ds hd2.cl HQ.out HB.out
      have ST:=Hd st;have RES:=Hd rs;have BB:=Hd bb
      have LD:=Hd (Xal wr p 56 _ _ ds _ _ hd1 rfl Tryz.underlying140 Xbo hd2.cl.1)
      have A0:Hid (∀a:Int,Xgg (bs s) w (.returned (.tuple #[.agg ds,.int .i64 a,.int .i64 0])) (wr.setRow w.heap.size ds)):=Hd (fun a=>⟨ds,a,by rw[F.out];rfl,DRC.out.cl,BB.out⟩)
      clear st rs bb hd1 hd2 hq hrb hrst
      go_wp2_with (first|((with_reducible refine Xac 140 rfl _ rfl ?_);refine⟨_,_,rfl,LD.out,?_⟩)|((with_reducible refine Xab 140 rfl _ _ rfl ?_);refine⟨_,_,_,rfl,rfl,ST.out,?_⟩))
      exact bodyPost_ret (RES.out _ rfl) rfl (A0.out _)
     have q4:((nn:Int)==(n:Int))=false:=Xak (by omega)
     have hne:rst ((bs s).drop ta)≠[]:=by
      rw[hrst.out];intro h;rw[List.drop_eq_nil_iff,List.length_map,←HN.out] at h;omega
     have hts:ta<s.size:=by
      rcases Nat.lt_or_ge ta s.size with h|h
      ·exact h
      ·exact absurd (by rw[List.drop_eq_nil_of_le (by rw[LEN.out];exact h)];rfl) hne
     have TE:Hid (∃c,(bs s).drop ta=c::(bs s).drop (ta+1)):=Hd ⟨_,List.drop_eq_getElem_cons (by rw[LEN.out];exact hts)⟩
     clear hne hq hrst
     by_cases h3:kx=3
     ·subst h3
      have v4:IntKind.i64.wrap ((ta:Int)+1)=(ta:Int)+1:=IntWalk.i64_in _ (by omega)
      have t0:(0:Int)≤(ta:Int)+1:=by omega
      have t1:(ta:Int)+1≤(s.size:Int):=by omega
      obtain⟨u,cu,fu⟩:=hrb.out.cell (show 37<56 by omega)
      go_upto_region 32 with fail
      obtain⟨tx,htx⟩:∃tx,tx=s.extract (ta+1) s.size:=⟨_,rfl⟩
      have TXB:Hid (bs tx=(bs s).drop (ta+1)):=Hd (by rw[htx,Xnb])
      obtain⟨r6,c6⟩:=hrb.out.set 37 (u:=.string tx) rfl (by omega) (by omega) (by omega) (by omega)
      have q6:(wr.setCell ⟨p,37,none⟩ (.string tx)).heap[w.heap.size]?=some (.cells z17 140 (0,0)):=by
       rw[Below.heap_setCell _ _ _ _ (show w.heap.size≠p by omega)];exact HQ.out
      have b6:Below w.heap.size w (wr.setCell ⟨p,37,none⟩ (.string tx)):=HB.out.setCell (p:=⟨p,37,none⟩) (Nat.le_of_lt hwp) _
      obtain⟨w6,hw6⟩:∃w6,w6=wr.setCell ⟨p,37,none⟩ (.string tx):=⟨_,rfl⟩
      rw[←hw6] at r6 c6 q6 b6
      rw[←htx,←hw6]
      have TXL:tx.size≤1000:=by
       have h:=congrArg List.length TXB.out
       rw[Xaa,List.length_drop,LEN.out] at h;omega
      have R6:=Hd r6;have Q6:=Hd q6;have B6:=Hd b6
      have FT:Hid (Xd4 (bs s)=if tx.size=0 then 4 else Xmd (bs tx)):=Hd (by
       obtain⟨c,hc⟩:=TE.out
       rw[LAWE.out,hc,←TXB.out]
       show(if bs tx=[] then 4 else Xmd (bs tx))=_
       by_cases h:tx.size=0
       ·rw[if_pos h,if_pos (by rw[←List.length_eq_zero_iff,Xaa];exact h)]
       ·rw[if_neg h,if_neg (by rw[←List.length_eq_zero_iff,Xaa];exact h)])
      clear htx hw6 r6 q6 b6 cu fu LAWE TE TXB hrb hfr HQ HB ck c35
      by_cases he:tx.size=0
      ·have qe:tx.toList.isEmpty=true:=by
          rw[show tx=⟨#[]⟩ from ByteArray.ext (Array.eq_empty_of_size_eq_zero he),ByteArray.toList_eq];rfl
       have F:Hid (Xd4 (bs s)=4):=Hd (by rw[FT.out,if_pos he])
       obtain⟨st,rs,bb⟩:=Xeq w w6 z17 cl_z17 (Q6.out) (B6.out)
       have ST:=Hd st;have RES:=Hd rs;have BB:=Hd bb
       have A0:Hid (∀a:Int,Xgg (bs s) w (.returned (.tuple #[.agg z17,.int .i64 a,.int .i64 4])) ((w6).setRow w.heap.size z17)):=Hd (fun a=>⟨z17,a,by rw[F.out];rfl,cl_z17,BB.out⟩)
       clear st rs bb
       clear he FT
       go_wp2_with (first|((with_reducible refine Xae 140 rfl rfl ?_);refine⟨_,Xdd _,?_⟩)|((with_reducible refine Xab 140 rfl _ _ rfl ?_);refine⟨_,_,_,rfl,rfl,ST.out,?_⟩))
       exact bodyPost_ret (RES.out _ rfl) rfl (A0.out _)
      ·have qe:tx.toList.isEmpty=false:=Xdr he
       have TXX:=Hd (fun w=>Xtt tx w (by unfold maxLen;omega))
       obtain⟨te,hte⟩:∃te,te=Xmd (bs tx):=⟨_,rfl⟩
       have F:Hid (Xd4 (bs s)=te):=Hd (by rw[FT.out,if_neg he,hte])
       rw[←hte] at TXX
       clear he FT hte
       go_wp2_with fail
       refine(TXX.out w6).mono ?_
       rintro e w7 ⟨rfl,hd7⟩
       have b7:Below w6.heap.size w6 w7:=Dr.below hd7
       have Q7:=Hd ((b7.block _ (lt_of_block Q6.out)).trans Q6.out)
       have B7:=Hd (B6.out.trans (b7.mono B6.out.size))
       have R7:=Hd (R6.out.on b7)
       clear TXX hd7 b7 R6 Q6 B6 c6
       by_cases e0:te=0
       ·have q5:((te:Int) !=0)=false:=Xat (by omega)
        obtain⟨ds,hd1,hd2⟩:=R7.out
        have DRC:=Hd hd2
        obtain⟨st,rs,bb⟩:=Xeq w w7 ds hd2.cl Q7.out B7.out
        have ST:=Hd st;have RES:=Hd rs;have BB:=Hd bb
        have LD:=Hd (Xal w7 p 56 _ _ ds _ _ hd1 rfl Tryz.underlying140 Xbo hd2.cl.1)
        have A0:Hid (∀a:Int,Xgg (bs s) w (.returned (.tuple #[.agg ds,.int .i64 a,.int .i64 0])) (w7.setRow w.heap.size ds)):=Hd (fun a=>⟨ds,a,by rw[F.out,e0];rfl,DRC.out.cl,BB.out⟩)
        clear st rs bb hd1 hd2 e0
        go_wp2_with (first|((with_reducible refine Xac 140 rfl _ rfl ?_);refine⟨_,_,rfl,LD.out,?_⟩)|((with_reducible refine Xab 140 rfl _ _ rfl ?_);refine⟨_,_,_,rfl,rfl,ST.out,?_⟩))
        exact bodyPost_ret (RES.out _ rfl) rfl (A0.out _)
       ·have q5:((te:Int) !=0)=true:=Xam (by omega)
        obtain⟨st,rs,bb⟩:=Xeq w w7 z17 cl_z17 (Q7.out) (B7.out)
        have ST:=Hd st;have RES:=Hd rs;have BB:=Hd bb
        have A0:Hid (∀a:Int,Xgg (bs s) w (.returned (.tuple #[.agg z17,.int .i64 a,.int .i64 (te:Int)])) ((w7).setRow w.heap.size z17)):=Hd (fun a=>⟨z17,a,by rw[F.out],cl_z17,BB.out⟩)
        clear st rs bb
        clear e0
        go_wp2_with (first|((with_reducible refine Xae 140 rfl rfl ?_);refine⟨_,Xdd _,?_⟩)|((with_reducible refine Xab 140 rfl _ _ rfl ?_);refine⟨_,_,_,rfl,rfl,ST.out,?_⟩))
        exact bodyPost_ret (RES.out _ rfl) rfl (A0.out _)
     ·have q3:((kx:Int) !=3)=true:=Xam (by omega)
      have F:Hid (Xd4 (bs s)=5):=Hd (by
       obtain⟨c,hc⟩:=TE.out
       rw[LAWE.out,hc];unfold Yi4;rw[if_neg h3];rfl)
      obtain⟨st,rs,bb⟩:=Xeq w wr z17 cl_z17 (HQ.out) (HB.out)
      have ST:=Hd st;have RES:=Hd rs;have BB:=Hd bb
      have A0:Hid (∀a:Int,Xgg (bs s) w (.returned (.tuple #[.agg z17,.int .i64 a,.int .i64 5])) ((wr).setRow w.heap.size z17)):=Hd (fun a=>⟨z17,a,by rw[F.out];rfl,cl_z17,BB.out⟩)
      clear st rs bb
      clear h3 TE
      go_wp2_with (first|((with_reducible refine Xae 140 rfl rfl ?_);refine⟨_,Xdd _,?_⟩)|((with_reducible refine Xab 140 rfl _ _ rfl ?_);refine⟨_,_,_,rfl,rfl,ST.out,?_⟩))
      exact bodyPost_ret (RES.out _ rfl) rfl (A0.out _)
end Go.Proofs.YtohmdledkhgdaaaGreatDoor
