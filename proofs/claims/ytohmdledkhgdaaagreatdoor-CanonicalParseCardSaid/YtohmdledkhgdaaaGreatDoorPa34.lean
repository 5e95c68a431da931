/- bulletinref11.Parse. -/
import Derived.Test.YtohmdledkhgdaaaGreatDoorPa33
namespace Go.Proofs.YtohmdledkhgdaaaGreatDoor
open Go.RowKit
set_option linter.unusedVariables false
set_option maxRecDepth 100000
def Yka:ByteArray:=⟨#[64,104,97,115,104,62]⟩
theorem Yfp:bs Yka=sHash:=by decide
set_option maxHeartbeats 4000000 in
theorem Xtx (s:ByteArray) (w:World) (hs:s.size≤10000000):
    Calls Tryz.prog 167 #[.string s] w (Xl8 (bs s) w):=by
 obtain⟨zs,hzs⟩:∃zs,zs=idA zero32:=⟨_,rfl⟩
 have LEN:=Hd (Xaa s)
 have HZS:=Hd hzs
 have zc:Cl 32 zs:=by rw[hzs];exact⟨by rw[Xag];rfl,Xed _⟩
 have ZCL:=Hd zc
 have BU:Hid (∀w,(Instr.build 124 #[]).run Tryz.prog w=.ok (.agg zs) w):=Hd (fun w=>by rw[hzs];kernel_rfl)
 have START:Hid ((w.alloc (.cells (Array.replicate 32 (.int .u8 0)) 124)).alloc (.cells (Array.replicate 32 (.int .u8 0)) 124)=(w.alloc (.cells zs 124)).alloc (.cells zs 124)):=Hd (by rw[hzs];rfl)
 have SZ:(Tryz.prog.info? 124).map (·.size)=some 32:=by kernel_rfl
 have FIN:Hid (∀(w4:World) (cs:Array Value),Cl 32 cs→w4.heap[w.heap.size]?=some (.cells zs 124 (0,0))→Below w.heap.size w w4→
     (storeVar 124 ⟨w.heap.size,0,none⟩ (.agg cs)).run Tryz.prog w4=.ok () (w4.setRow w.heap.size cs)∧
     (∀tmps:Array Value,tmps.getD 2 undef=.pointer (some ⟨w.heap.size,0,none⟩)→(results Tryz.f167 tmps).run Tryz.prog (w4.setRow w.heap.size cs)=.ok (.tuple #[.agg cs,tmps.getD 3 undef,tmps.getD 4 undef]) (w4.setRow w.heap.size cs))∧
     Below w.heap.size w (w4.setRow w.heap.size cs)):=Hd (fun w4 cs hcl hg hb=>
  ⟨run_storeVar_row (P:=Tryz.prog) w4 w.heap.size _ 124 zs cs hg (by rw[hcl.1];exact SZ) (by rw[hcl.1,ZCL.out.1]) hcl.2,
   fun tmps h2=>Xas Tryz.results167 tmps _ w.heap.size _ _ _ _ h2 (setRow_heap w4 w.heap.size zs cs _ _ hg) Tryz.underlying124 rfl (by rw[hcl.1];exact SZ),
   below_setRow hb (Nat.le_refl _) cs⟩)
 have NO:Hid (Xe4 (bs s)=none→∀a er:Int,er≠0→∀w',Below w.heap.size w w'→Xl8 (bs s) w (.returned (.tuple #[.agg zs,.int .i64 a,.int .i64 er])) w'):=Hd (fun h a er he w' hb=>⟨a,er,by rw[h,HZS.out];exact⟨rfl,he⟩,hb⟩)
 have BAD:Hid (∀j,j<71→j<s.size→Xge j ((bs s).getD j 0)=false→Xe4 (bs s)=none):=Hd (fun j h1 h2 h3=>Xxa h1 (by rw[LEN.out];exact h2) h3)
 obtain⟨mn,hmn⟩:∃mn:Nat,mn=min s.size 71:=⟨_,rfl⟩
 have hm1:mn≤s.size:=by omega
 have hm2:mn≤71:=by omega
 have HMN:=Hd hmn
 obtain⟨D,hD⟩:∃D,D=((bs s).drop 1).take 64:=⟨_,rfl⟩
 have DAT:Hid (∀j,j<64→D.getD j 0=(bs s).getD (1+j) 0):=Hd (fun j hj=>by rw[hD,Xkf hj,Xff])
 have HD:=Hd hD
 have PZ:Hid (zs=idA (pn 32 D 0)):=Hd (by rw[hzs,Xwy];rfl)
 have SZh:=Hd SZ
 clear hzs hmn hD zc SZ
 go_enter Tryz.func167,Tryz.ntmps167
 go_wp2_with fail
 go_loopg [7] mn (fun k i wr=>∃j:Nat,j≤mn∧k=mn-j∧i=.int .i64 (j:Int)∧Hid (∀q,q<j→Xge q ((bs s).getD q 0)=true)∧Hid (wr.heap[w.heap.size]?=some (.cells zs 124 (0,0)))∧Hid (wr.heap[w.heap.size+1]?=some (.cells (idA (pn 32 D (min (j-1) 64))) 124 (0,0)))∧Hid (Below w.heap.size w wr))
 case atStart=>
  refine⟨0,by omega,rfl,rfl,Hd (fun q hq=>by omega),Hd ?_,Hd ?_,Hd (((Below.refl _ _).alloc (Nat.le_refl _) _).alloc (by simp) _)⟩
  ·have h:((w.alloc (.cells zs 124)).alloc (.cells zs 124)).heap[w.heap.size]?=some (.cells zs 124 (0,0)):=Xaf (heap_alloc_last w _)
   rw[←START.out] at h
   exact h
  ·have h:=heap_alloc_last (w.alloc (.cells zs 124)) (.cells zs 124)
   rw[World.size_alloc,←START.out] at h
   show _=some (Obj.cells (idA (pn 32 D 0)) _ _)
   rw[←PZ.out]
   exact h
 case round=>
  obtain⟨j,hj,rfl,rfl,hg,hres,hcell,hbel⟩:=hrel
  by_cases hlt:j<mn
  ·obtain⟨c,hc⟩:∃c,c=(bs s).getD j 0:=⟨_,rfl⟩
   have hc2:c<256:=by rw[hc];exact Xa8 s j
   have y1:=fun w=>Xgs s w j j rfl (by omega) c hc
   have HC:=Hd hc
   have G2:Hid (Xge j c=true→∀q,q<j+1→Xge q ((bs s).getD q 0)=true):=Hd (fun h q hq=>by
    by_cases e:q=j
    ·rw[e,←hc];exact h
    ·exact hg.out q (by omega))
   have NN:=Hd (fun h:Xge j c=false=>NO.out (BAD.out j (by omega) (by omega) (by rw[←hc];exact h)))
   clear hc hg
   rcases(by omega:j=0∨(1≤j∧j≤64)∨64<j) with h0|⟨h0,h64⟩|h64
   ·have y0:=fun w=>Xgs s w 0 0 rfl (by omega) c (by rw[HC.out,h0])
    have n0:((j:Int)==0)=true:=Xa6 (by omega)
    clear y1
    by_cases e:c=60
    ·have q1:((c:Int) !=60)=false:=Xat (by omega)
     have G3:=Hd (G2.out (by unfold Xge;rw[if_pos (by omega),decide_eq_true e]))
     have CL2:Hid (wr.heap[w.heap.size+1]?=some (.cells (idA (pn 32 D (min (j+1-1) 64))) 124 (0,0))):=Hd (by
      have:=hcell.out
      rw[show min (j-1) 64=0 by omega] at this
      rw[show min (j+1-1) 64=0 by omega]
      exact this)
     clear e G2 NN NO FIN BU START PZ
     go_wp2_with fail
     go_roundg (mn-(j+1))
     case measure=>omega
     case rel=>exact⟨j+1,by omega,rfl,by go_num,G3,by(first|exact hres|exact Hd hres.out),by(first|exact CL2|exact Hd CL2.out),by(first|exact hbel|exact Hd hbel.out.drew)⟩
    ·have q1:((c:Int) !=60)=true:=Xam (by omega)
     have N3:=Hd (NN.out (by unfold Xge;rw[if_pos (by omega),decide_eq_false e]))
     obtain⟨ST,RES,BB⟩:=FIN.out wr zs ZCL.out hres.out hbel.out
     have ST:=Hd ST;have RES:=Hd RES;have BB:=Hd BB
     clear e G2 NN NO FIN
     go_wp2_with (first
      |((with_reducible refine Xae 124 rfl rfl ?_);refine⟨_,BU.out _,?_⟩)
      |((with_reducible refine Xab 124 rfl _ _ rfl ?_);refine⟨_,_,_,rfl,rfl,ST.out,?_⟩))
     exact bodyPost_ret (RES.out _ rfl) rfl (N3.out _ 6 (by decide) _ BB.out)
   ·have n0:((j:Int)==0)=false:=Xak (by omega)
    have IX:=Hd (fun w=>Xt1 w c hc2)
    by_cases hd:hdB c=true
    ·rw[Xm0 hd] at IX
     obtain⟨y,hy⟩:∃y,y=hv c:=⟨_,rfl⟩
     have hy16:y<16:=by rw[hy];exact Xx0 c
     rw[←hy] at IX
     obtain⟨k,hk⟩:∃k,k=(j-1)/2:=⟨_,rfl⟩
     have hk16:k<32:=by omega
     have emin:min (j-1) 64=j-1:=by omega
     have hcl:=hcell.out
     rw[emin] at hcl
     obtain⟨v,hv'⟩:∃v,(pn 32 D (j-1))[k]?=some v:=⟨_,Xod hk16⟩
     obtain⟨hst,hv16⟩:=Xwz hk (by omega) hv'
     rw[DAT.out (j-1) (by omega),show 1+(j-1)=j by omega,←HC.out,←hy] at hst
     have hc1:wr.cell? ⟨w.heap.size+1,k,none⟩=some (.int .u8 (v:Int)):=by rw[cell_of_row wr _ k _ _ _ hcl];unfold idA;rw[List.getElem?_toArray,List.getElem?_map,hv'];rfl
     have hc1d:wr.drew.cell? ⟨w.heap.size+1,k,none⟩=some (.int .u8 (v:Int)):=hc1
     have hfk:wr.frozen? ⟨w.heap.size+1,k,none⟩=false:=by simp[World.frozen?,hcl]
     have hfkd:wr.drew.frozen? ⟨w.heap.size+1,k,none⟩=false:=hfk
     obtain⟨z,hz⟩:∃z,z=v*16+y:=⟨_,rfl⟩
     rw[←hz] at hst
     have s1:IntKind.u8.wrap ((v:Int)*16)=(v:Int)*16:=by rw[IntKind.wrap_u8];omega
     have s3:IntKind.u8.wrap (y:Int)=(y:Int):=by rw[IntKind.wrap_u8];omega
     have s2:IntKind.u8.wrap ((v:Int)*16+(y:Int))=(z:Int):=by rw[IntKind.wrap_u8];omega
     have hdv:Int.tdiv ((j:Int)-1) 2=(k:Int):=by rw[Int.tdiv_eq_ediv_of_nonneg (by omega)];omega
     have wk:IntKind.i64.wrap (k:Int)=(k:Int):=IntWalk.i64_in _ (by omega)
     have HW:Hid (∀w2:World,w2.heap[w.heap.size+1]?=wr.heap[w.heap.size+1]?→(w2.setCell ⟨w.heap.size+1,k,none⟩ (.int .u8 (z:Int))).heap[w.heap.size+1]?=some (.cells (idA (pn 32 D (min (j+1-1) 64))) 124 (0,0))):=Hd (fun w2 h2=>by
      rw[show min (j+1-1) 64=j-1+1 by omega,hst,←Xqk];exact Xd0 (h2.trans hcl) k _)
     have RW:Hid (∀w2:World,w2.heap[w.heap.size]?=wr.heap[w.heap.size]?→(w2.setCell ⟨w.heap.size+1,k,none⟩ (.int .u8 (z:Int))).heap[w.heap.size]?=some (.cells zs 124 (0,0))):=Hd (fun w2 h2=>by
      rw[Below.heap_setCell _ _ _ _ (show w.heap.size≠w.heap.size+1 by omega)];exact h2.trans hres.out)
     have BW:Hid (∀w2:World,Below w.heap.size w w2→Below w.heap.size w (w2.setCell ⟨w.heap.size+1,k,none⟩ (.int .u8 (z:Int)))):=Hd (fun w2 h2=>h2.setCell (p:=⟨w.heap.size+1,k,none⟩) (Nat.le_succ _) _)
     have BD:=Hd hbel.out.drew
     have G3:=Hd (G2.out (by unfold Xge;rw[if_neg (by omega),if_pos (by omega)];exact hd))
     clear hd hy hv' hst hz hcell hres FIN NO BU START hk PZ hcl emin G2 NN
     go_wp2_with (go_at_call 208;refine(IX.out _).mono ?_;rintro e w' ⟨rfl,rfl⟩)
     go_roundg (mn-(j+1))
     case measure=>omega
     case rel=>exact⟨j+1,by omega,rfl,by go_num,G3,Hd (RW.out _ rfl),Hd (HW.out _ rfl),Hd (BW.out _ (by first|exact hbel.out|exact BD.out))⟩
    ·have hd':hdB c=false:=by simpa using hd
     rw[Xql hd'] at IX
     have N3:=Hd (NN.out (by unfold Xge;rw[if_neg (by omega),if_pos (by omega)];exact hd'))
     obtain⟨ST,RES,BB⟩:=FIN.out wr zs ZCL.out hres.out hbel.out
     have ST:=Hd ST;have RES:=Hd RES;have BB:=Hd BB
     clear hd hd' FIN NO G2 NN
     go_wp2_with (first
      |(go_at_call 208;refine(IX.out _).mono ?_;rintro e w' ⟨rfl,rfl⟩)
      |((with_reducible refine Xae 124 rfl rfl ?_);refine⟨_,BU.out _,?_⟩)
      |((with_reducible refine Xab 124 rfl _ _ rfl ?_);refine⟨_,_,_,rfl,rfl,ST.out,?_⟩))
     exact bodyPost_ret (RES.out _ rfl) rfl (N3.out _ 6 (by decide) _ BB.out)
   ·have n0:((j:Int)==0)=false:=Xak (by omega)
    obtain⟨x,hx⟩:∃x,x=sHash.getD (j-65) 0:=⟨_,rfl⟩
    generalize hE:({data:=#[64,104,97,115,104,62]}:ByteArray)=E
    have hE2:E=Yka:=hE.symm
    have es:E.size=6:=by rw[hE2];rfl
    have y2:=fun w=>Xgs E w ((j:Int)-65) (j-65) (by omega) (by omega) x (by rw[hE2,Yfp];exact hx)
    have HE:=Hd hE
    clear hE hE2
    have wk:IntKind.i64.wrap ((j:Int)-65)=(j:Int)-65:=IntWalk.i64_in _ (by omega)
    by_cases e:c=x
    ·subst e
     have q1:((c:Int) !=(c:Int))=false:=Xat rfl
     have G3:=Hd (G2.out (by unfold Xge;rw[if_neg (by omega),if_neg (by omega),←hx,decide_eq_true rfl]))
     have CL2:Hid (wr.heap[w.heap.size+1]?=some (.cells (idA (pn 32 D (min (j+1-1) 64))) 124 (0,0))):=Hd (by
      have:=hcell.out
      rw[show min (j-1) 64=64 by omega] at this
      rw[show min (j+1-1) 64=64 by omega]
      exact this)
     clear G2 NN NO FIN BU START PZ hx hcell
     go_upto_region 6 with fail
     refine wp_region_still_lit (by kernel_rfl) (by kernel_rfl) ?_
     repeat still_step
     refine wpStill_nil ?_
     go_wp2_with fail
     have hE:=HE.out
     subst hE
     go_roundg (mn-(j+1))
     case measure=>omega
     case rel=>exact⟨j+1,by omega,rfl,by go_num,G3,by(first|exact hres|exact Hd hres.out),by(first|exact CL2|exact Hd CL2.out),by(first|exact hbel|exact Hd hbel.out.drew)⟩
    ·have q1:((c:Int) !=(x:Int))=true:=Xam (by omega)
     have N3:=Hd (NN.out (by unfold Xge;rw[if_neg (by omega),if_neg (by omega),←hx,decide_eq_false e]))
     obtain⟨ST,RES,BB⟩:=FIN.out wr zs ZCL.out hres.out hbel.out
     obtain⟨ST2,RES2,BB2⟩:=FIN.out wr.drew zs ZCL.out hres.out hbel.out.drew
     have ST2:=Hd ST2;have RES2:=Hd RES2;have BB2:=Hd BB2
     have ST:=Hd ST;have RES:=Hd RES;have BB:=Hd BB
     clear e G2 NN NO FIN hx
     go_upto_region 6 with fail
     refine wp_region_still_lit (by kernel_rfl) (by kernel_rfl) ?_
     repeat still_step
     refine wpStill_nil ?_
     go_wp2_with (first
      |((with_reducible refine Xae 124 rfl rfl ?_);refine⟨_,BU.out _,?_⟩)
      |((with_reducible refine Xab 124 rfl _ _ rfl ?_);first|(refine⟨_,_,_,rfl,rfl,ST.out,?_⟩)|(refine⟨_,_,_,rfl,rfl,ST2.out,?_⟩)))
     first
      |exact bodyPost_ret (RES.out _ rfl) rfl (N3.out _ 6 (by decide) _ BB.out)
      |exact bodyPost_ret (RES2.out _ rfl) rfl (N3.out _ 6 (by decide) _ BB2.out)
  ·obtain rfl:j=mn:=by omega
   by_cases h1:s.size<71
   ·have e1:j=s.size:=by have:=HMN.out;omega
    have NN:=Hd (NO.out (Xmv (by rw[LEN.out];omega)))
    obtain⟨ST,RES,BB⟩:=FIN.out wr zs ZCL.out hres.out hbel.out
    have ST:=Hd ST;have RES:=Hd RES;have BB:=Hd BB
    clear FIN NO
    go_wp2_with (first
     |((with_reducible refine Xae 124 rfl rfl ?_);refine⟨_,BU.out _,?_⟩)
     |((with_reducible refine Xab 124 rfl _ _ rfl ?_);refine⟨_,_,_,rfl,rfl,ST.out,?_⟩))
    exact bodyPost_ret (RES.out _ rfl) rfl (NN.out _ 4 (by decide) _ BB.out)
   ·have e71:j=71:=by have:=HMN.out;omega
    by_cases h2:71<s.size
    ·have NN:=Hd (NO.out (Xmv (by rw[LEN.out];omega)))
     obtain⟨ST,RES,BB⟩:=FIN.out wr zs ZCL.out hres.out hbel.out
     have ST:=Hd ST;have RES:=Hd RES;have BB:=Hd BB
     clear FIN NO
     go_wp2_with (first
      |((with_reducible refine Xae 124 rfl rfl ?_);refine⟨_,BU.out _,?_⟩)
      |((with_reducible refine Xab 124 rfl _ _ rfl ?_);refine⟨_,_,_,rfl,rfl,ST.out,?_⟩))
     exact bodyPost_ret (RES.out _ rfl) rfl (NN.out _ 5 (by decide) _ BB.out)
    ·have h71:s.size=71:=by omega
     have GG:∀q,q<71→Xge q ((bs s).getD q 0)=true:=fun q hq=>hg.out q (by omega)
     have YES:=Hd (Xsl (by rw[LEN.out];exact h71) GG)
     have OK:=Xln YES.out
     have hcell':=hcell.out
     have DL:D.length=2*32:=by rw[HD.out,List.length_take,List.length_drop,LEN.out,h71];rfl
     rw[show min (j-1) 64=2*32 by omega,Yde DL,HD.out] at hcell'
     obtain⟨cs,hcs⟩:∃cs,cs=idA (uh (((bs s).drop 1).take 64)):=⟨_,rfl⟩
     have CL:Cl 32 cs:=by rw[hcs];exact⟨by rw[Xag,OK.len],Xed _⟩
     rw[←hcs] at hcell'
     obtain⟨ST,RES,BB⟩:=FIN.out wr cs CL hres.out hbel.out
     have ST:=Hd ST;have RES:=Hd RES;have BB:=Hd BB
     have LD:=Hd (Xal wr (w.heap.size+1) 32 _ _ cs _ _ hcell' rfl Tryz.underlying124 SZh.out CL.1)
     have HCS:=Hd hcs
     clear FIN NO OK hcell' CL GG hcs hcell hres hbel hg BU START DL
     go_wp2_with (first
      |((with_reducible refine Xac 124 rfl _ rfl ?_);refine⟨_,_,rfl,LD.out,?_⟩)
      |((with_reducible refine Xab 124 rfl _ _ rfl ?_);refine⟨_,_,_,rfl,rfl,ST.out,?_⟩))
     exact bodyPost_ret (RES.out _ rfl) rfl (by unfold Xl8;rw[YES.out];simp only[];rw[←HCS.out];exact⟨_,0,rfl,BB.out⟩)
theorem Xpz (w:World) (v:Value) (gs:List ByteArray) (hr:SRow w v gs) (hl:gs.length≤1000000) (hz:∀g∈gs,g.size≤1000000):
    Calls Tryz.prog 46 #[v] w fun e w'=>e=.returned (.int .i64 (Xbp (gs.map bs):Nat))∧Below w.heap.size w w':=by
 obtain⟨T,hT⟩:∃T,T=Xbp (gs.map bs):=⟨_,rfl⟩
 rw[←hT]
 have C:=Hd (Xty w v gs hr hl hz)
 obtain⟨a,cap,rfl,hc,_⟩:=hr
 obtain⟨m,hm⟩:∃m,m=gs.length:=⟨_,rfl⟩
 rw[←hm] at hc C hl⊢
 by_cases h0:m=0
 ·have T4:Hid (T=4):=Hd (by rw[hT];unfold Xbp;rw[if_pos];rw[hm] at h0;rw[List.length_eq_zero_iff.1 h0];rfl)
  have q1:((m:Int)==0)=true:=Xa6 (by omega)
  clear hT hm hz C
  go_enter Tryz.func46,Tryz.ntmps46
  go_wp2_with fail
  go_ret
  exact⟨by rw[T4.out];rfl,Below.refl _ _⟩
 ·have TL:Hid (T=Xcc Xbg (gs.map bs)):=Hd (by rw[hT];unfold Xbp;rw[if_neg];intro e;exact h0 (by rw[hm,←List.length_map (f:=bs),e];rfl))
  have q1:((m:Int)==0)=false:=Xak (by omega)
  clear hT hm hz
  go_enter Tryz.func46,Tryz.ntmps46
  go_wp2_with fail
  refine C.out.mono ?_
  rintro e w2 ⟨rfl,hb2⟩
  have B2:=Hd hb2
  clear hb2 C
  go_wp2_with fail
  go_ret
  exact⟨by rw[TL.out];rfl,B2.out⟩
theorem Xsm (k:Nat):∀(a b:List Nat),a.take k=b.take k→k≤a.length→k≤b.length→ltL a b=ltL (a.drop k) (b.drop k):=by
 induction k with
 |zero=>intros;simp
 |succ k ih=>
  intro a b h ha hb
  match a,b with
  |[],_=>simp at ha
  |_::_,[]=>simp at hb
  |x::a,y::b=>
   simp only[List.take_succ_cons,List.cons.injEq] at h
   obtain⟨rfl,h⟩:=h
   simp only[List.drop_succ_cons]
   rw[←ih a b h (by simpa using ha) (by simpa using hb)]
   simp[ltL]
theorem Ybi {a b:List Nat} (h:a.take 16=b.take 16) (ha:a.length=16) (hb:b.length=16):ltL a b=false:=by
 rw[Xsm 16 a b h (by omega) (by omega),List.drop_of_length_le (by omega),List.drop_of_length_le (by omega)]
 rfl
theorem Yho {a b:List Nat} {k x y:Nat} (h:a.take k=b.take k) (ha:a.length=16) (hb:b.length=16) (hk:k<16) (hx:x=a.getD k 0) (hy:y=b.getD k 0) (hne:x≠y):ltL a b=decide (x<y):=by
 rw[Xsm k a b h (by omega) (by omega),List.drop_eq_getElem_cons (by omega:k<a.length),List.drop_eq_getElem_cons (by omega:k<b.length)]
 have e1:a[k]=x:=by rw[hx];simp[List.getD,show k<a.length by omega]
 have e2:b[k]=y:=by rw[hy];simp[List.getD,show k<b.length by omega]
 simp[ltL,e1,e2,hne]
theorem Xv2 {a b:List Nat} {k x:Nat} (h:a.take k=b.take k) (ha:a.length=16) (hb:b.length=16) (hk:k<16) (hx:x=a.getD k 0) (hy:x=b.getD k 0):a.take (k+1)=b.take (k+1):=by
 rw[List.take_succ_eq_append_getElem (by omega),List.take_succ_eq_append_getElem (by omega),h]
 have e1:a[k]=x:=by rw[hx];simp[List.getD,show k<a.length by omega]
 have e2:b[k]=x:=by rw[hy];simp[List.getD,show k<b.length by omega]
 rw[e1,e2]
set_option maxHeartbeats 2000000 in
theorem Xwn (w:World) (a:Option Addr) (cap:Nat) (ids:List (List Nat)) (hn:ids.length≤1000000) (hA:Ygo w a ids) (hok:∀x∈ids,AuOk x):
    Calls Tryz.prog 210 #[.slice a ids.length cap] w fun e w'=>e=.returned (.bool (Xlw ids))∧Dr w w':=by
 obtain⟨n,hn'⟩:∃n,n=ids.length:=⟨_,rfl⟩
 have HN:=Hd hn'
 rw[←hn'] at hn⊢
 have HA:=Hd hA;have HOK:=Hd hok
 clear hn' hA hok
 go_enter Tryz.func210,Tryz.ntmps210
 go_wp2_with fail
 go_loopg [3,4] n (fun k i _ wr=>∃j:Nat,(j+1≤n∨j=0)∧k=n-j∧i=.int .i64 ((j:Int)+1)∧Hid (∀q (h:q+1<ids.length),q<j→ltL ids[q] ids[q+1]=true)∧Hid (Dr w wr))
 case atStart=>exact⟨0,.inr rfl,rfl,rfl,Hd (fun q h hq=>by omega),Hd (Dr.refl w)⟩
 case round=>
  obtain⟨j,hj,rfl,rfl,hg,hdr⟩:=hrel
  by_cases hlt:j+1<n
  ·have hl:j+1<ids.length:=by rw[←HN.out];exact hlt
   obtain⟨b,off,rfl,hcells⟩:=HA.out (fun e=>by rw[e] at hl;simp at hl)
   obtain⟨xa,hxa⟩:∃x,x=ids[j]'(by omega):=⟨_,rfl⟩
   obtain⟨xb,hxb⟩:∃x,x=ids[j+1]:=⟨_,rfl⟩
   have o1:=HOK.out xa (by rw[hxa];exact List.getElem_mem _)
   have o2:=HOK.out xb (by rw[hxb];exact List.getElem_mem _)
   have CA:=Hd (fun k u (hu:(idA xa)[k]?=some u)=>hcells j (by omega) k u (by rw[←hxa];exact hu))
   have CB:=Hd (fun k u (hu:(idA xb)[k]?=some u)=>hcells (j+1) hl k u (by rw[←hxb];exact hu))
   have NO:Hid (ltL xa xb=false→Xlw ids=false):=Hd (fun h=>Xxv ids j hl (by rw[←hxa,←hxb];exact h))
   have G2:Hid (ltL xa xb=true→∀q (h:q+1<ids.length),q<j+1→ltL ids[q] ids[q+1]=true):=Hd (fun ht q h hq=>by
    by_cases e:q=j
    ·subst e;rw[←hxa,←hxb];exact ht
    ·exact hg.out q h (by omega))
   have O1:=Hd o1;have O2:=Hd o2
   have w1:IntKind.i64.wrap ((j:Int)+1-1)=(j:Int):=by rw[show(j:Int)+1-1=(j:Int) by omega];exact IntWalk.i64_in _ (by omega)
   have w2:IntKind.i64.wrap ((j:Int)+1+1)=(j:Int)+1+1:=IntWalk.i64_in _ (by omega)
   have w0:IntKind.i64.wrap (j:Int)=(j:Int):=IntWalk.i64_in _ (by omega)
   have p0:(0:Int)≤(j:Int)+1:=by omega
   have p1:(j:Int)+1<(n:Int):=by omega
   have p2:(j:Int)<(n:Int):=by omega
   clear hcells hl o1 o2 HA HOK hg hj hxa hxb
   go_wp2_with fail
   go_loopg [4] 16 (fun kk v wr=>∃k:Nat,k≤16∧kk=16-k∧v=.int .i64 (k:Int)∧Hid (xa.take k=xb.take k)∧Hid (Dr w wr))
   case atStart=>exact⟨0,by omega,rfl,rfl,Hd (by simp),hdr⟩
   case round=>
    clear hdr
    obtain⟨k,hk,rfl,rfl,hs,hdr⟩:=hrel
    by_cases hk16:k<16
    ·obtain⟨x,hx⟩:∃x,x=xa.getD k 0:=⟨_,rfl⟩
     obtain⟨y,hy⟩:∃x,x=xb.getD k 0:=⟨_,rfl⟩
     have hka:k<xa.length:=by rw[O1.out.len];exact hk16
     have hki:(k:Int)<16:=by omega
     have hki0:(0:Int)≤(k:Int):=by omega
     have hkb:k<xb.length:=by rw[O2.out.len];exact hk16
     have cA:wr.cell? ⟨b,off+j*16+k,none⟩=some (.int .u8 (x:Int)):=by
      obtain⟨p,hp⟩:=hdr.out
      rw[hp]
      exact CA.out k _ (by unfold idA;rw[List.getElem?_toArray,List.getElem?_map,List.getElem?_eq_getElem hka,hx];simp[List.getD,hka];rfl)
     have cB:wr.cell? ⟨b,off+(j+1)*16+k,none⟩=some (.int .u8 (y:Int)):=by
      obtain⟨p,hp⟩:=hdr.out
      rw[hp]
      exact CB.out k _ (by unfold idA;rw[List.getElem?_toArray,List.getElem?_map,List.getElem?_eq_getElem hkb,hy];simp[List.getD,hkb];rfl)
     obtain⟨wq,hwq⟩:∃x,x=wr.drew:=⟨_,rfl⟩
     obtain⟨wp,hwp⟩:∃x,x=wq.drew:=⟨_,rfl⟩
     have cAd:wq.cell? ⟨b,off+j*16+k,none⟩=some (.int .u8 (x:Int)):=by rw[hwq];exact cA
     have cBd:wq.cell? ⟨b,off+(j+1)*16+k,none⟩=some (.int .u8 (y:Int)):=by rw[hwq];exact cB
     have cAe:wp.cell? ⟨b,off+j*16+k,none⟩=some (.int .u8 (x:Int)):=by rw[hwp];exact cAd
     have cBe:wp.cell? ⟨b,off+(j+1)*16+k,none⟩=some (.int .u8 (y:Int)):=by rw[hwp];exact cBd
     have HQ:=Hd hwq;have HP:=Hd hwp
     have DQ:Hid (Dr w wq):=Hd (by rw[hwq];exact hdr.out.drewN 1)
     have DP:Hid (Dr w wp):=Hd (by rw[hwp];exact DQ.out.drewN 1)
     clear hwq hwp cA cB
     by_cases e:x=y
     ·subst e
      have q1:((x:Int)==(x:Int))=true:=Xa6 rfl
      have N2:=Hd (Xv2 hs.out O1.out.len O2.out.len hk16 hx hy)
      clear hx hy hs hka hkb
      go_upto_region 5 with fail
      refine wp_region_still_lit (by kernel_rfl) (by kernel_rfl) ?_
      change wpStill _ _ wr.drew (fun a'=>Exit.then _ _ Exit.normal a' wr.drew) _ _
      rw[←HQ.out]
      repeat still_step
      refine wpStill_nil ?_
      go_wp2_with fail
      go_roundg (16-(k+1))
      case measure=>omega
      case rel=>exact⟨k+1,by omega,rfl,by go_num,N2,by(first|exact hdr|exact DQ|exact DP|exact Hd hdr.out.drew|exact Hd (hdr.out.drewN 1))⟩
     ·have q1:((x:Int)==(y:Int))=false:=Xak (by omega)
      have q2:((k:Int)==16)=false:=Xak (by omega)
      have LT:=Hd (Yho hs.out O1.out.len O2.out.len hk16 hx hy e)
      clear hx hy hs hka hkb
      by_cases g:y<x
      ·have q3:decide ((y:Int)<(x:Int))=true:=decide_eq_true (by omega)
       have F:=Hd (NO.out (by rw[LT.out];exact decide_eq_false (by omega)))
       clear e LT NO G2
       go_upto_region 5 with fail
       refine wp_region_still_lit (by kernel_rfl) (by kernel_rfl) ?_
       change wpStill _ _ wr.drew (fun a'=>Exit.then _ _ Exit.normal a' wr.drew) _ _
       rw[←HQ.out]
       repeat still_step
       refine wpStill_nil ?_
       go_upto_region 7 with fail
       refine wp_region_still_lit (by kernel_rfl) (by kernel_rfl) ?_
       change wpStill _ _ wq.drew (fun a'=>Exit.then _ _ Exit.normal a' wq.drew) _ _
       rw[←HP.out]
       repeat still_step
       refine wpStill_nil ?_
       go_wp2_with fail
       go_ret
       exact⟨by rw[F.out];rfl,by(first|exact hdr.out|exact DQ.out|exact DP.out|exact hdr.out.drew|exact hdr.out.drewN _)⟩
      ·have q3:decide ((y:Int)<(x:Int))=false:=decide_eq_false (by omega)
       have F:=Hd (G2.out (by rw[LT.out];exact decide_eq_true (by omega)))
       clear e LT NO G2
       go_upto_region 5 with fail
       refine wp_region_still_lit (by kernel_rfl) (by kernel_rfl) ?_
       change wpStill _ _ wr.drew (fun a'=>Exit.then _ _ Exit.normal a' wr.drew) _ _
       rw[←HQ.out]
       repeat still_step
       refine wpStill_nil ?_
       go_upto_region 7 with fail
       refine wp_region_still_lit (by kernel_rfl) (by kernel_rfl) ?_
       change wpStill _ _ wq.drew (fun a'=>Exit.then _ _ Exit.normal a' wq.drew) _ _
       rw[←HP.out]
       repeat still_step
       refine wpStill_nil ?_
       go_wp2_with fail
       go_roundg (n-(j+1))
       case measure=>omega
       case rel=>exact⟨j+1,.inl hlt,rfl,by go_num,F,by(first|exact hdr|exact DQ|exact DP|exact Hd hdr.out.drew|exact Hd (hdr.out.drewN _))⟩
    ·obtain rfl:k=16:=by omega
     obtain⟨wq,hwq⟩:∃x,x=wr.drew:=⟨_,rfl⟩
     obtain⟨wp,hwp⟩:∃x,x=wq.drew:=⟨_,rfl⟩
     have HQ:=Hd hwq;have HP:=Hd hwp
     have DQ:Hid (Dr w wq):=Hd (by rw[hwq];exact hdr.out.drewN 1)
     have DP:Hid (Dr w wp):=Hd (by rw[hwp];exact DQ.out.drewN 1)
     clear hwq hwp
     have F:=Hd (NO.out (Ybi hs.out O1.out.len O2.out.len))
     clear NO G2 hs
     go_upto_region 5 with fail
     refine wp_region_held (S:=fun _=>True) (by kernel_rfl) ?_
     change wpAnyH _ _ _ _ _ _ _ _ wr.drew
     rw[←HQ.out]
     have hB:(fun _:World=>True) wq:=trivial
     refine Xad 0 (.int .i64 16) rfl (fun _ _=>by go_simp) hB ?_
     refine Xad 1 (.bool false) rfl (fun _ _=>by go_simp) hB ?_
     refine Xad 2 (.bool false) rfl (fun _ _=>by go_simp) hB ?_
     refine Xar 3 rfl hB ?_
     refine Xar 4 rfl hB ?_
     refine Xar 5 rfl hB ?_
     refine Xar 6 rfl hB ?_
     refine Xar 7 rfl hB ?_
     refine Xar 8 rfl hB ?_
     refine Xar 9 rfl hB ?_
     refine Xar 10 rfl hB ?_
     refine Xar 11 rfl hB ?_
     refine Xar 12 rfl hB ?_
     refine Xar 13 rfl hB ?_
     refine Xar 14 rfl hB ?_
     refine Xar 15 rfl hB ?_
     refine Xar 16 rfl hB ?_
     refine Xad 17 (.bool false) rfl (fun _ _=>by go_simp) hB ?_
     refine wpAnyH_done (by kernel_rfl) ?_ _
     go_simp
     refine‹∀(a:Act) (w_1:World),_→_› _ _ ?_
     clear hB
     go_upto_region 7 with fail
     refine wp_region_held (S:=fun _=>True) (by kernel_rfl) ?_
     change wpAnyH _ _ _ _ _ _ _ _ wq.drew
     rw[←HP.out]
     have hB:(fun _:World=>True) wp:=trivial
     refine Xad 0 (.int .i64 16) rfl (fun _ _=>by go_simp) hB ?_
     refine Xad 1 (.bool true) rfl (fun _ _=>by go_simp) hB ?_
     refine Xad 2 (.bool true) rfl (fun _ _=>by go_simp) hB ?_
     refine Xar 3 rfl hB ?_
     refine Xar 4 rfl hB ?_
     refine Xar 5 rfl hB ?_
     refine Xar 6 rfl hB ?_
     refine Xar 7 rfl hB ?_
     refine Xar 8 rfl hB ?_
     refine Xar 9 rfl hB ?_
     refine Xar 10 rfl hB ?_
     refine Xar 11 rfl hB ?_
     refine Xar 12 rfl hB ?_
     refine Xar 13 rfl hB ?_
     refine Xar 14 rfl hB ?_
     refine Xar 15 rfl hB ?_
     refine Xar 16 rfl hB ?_
     refine Xad 17 (.bool true) rfl (fun _ _=>by go_simp) hB ?_
     refine wpAnyH_done (by kernel_rfl) ?_ _
     go_simp
     refine‹∀(a:Act) (w_1:World),_→_› _ _ ?_
     clear hB
     go_wp2_with fail
     go_ret
     exact⟨by rw[F.out];rfl,by(first|exact hdr.out|exact DQ.out|exact DP.out|exact hdr.out.drew|exact hdr.out.drewN _)⟩
  ·have YES:=Hd (Xqj ids (fun i h=>hg.out i h (by rw[←HN.out] at h;omega)))
   go_wp2_with fail
   go_ret
   exact⟨by rw[YES.out];rfl,hdr.out⟩
end Go.Proofs.YtohmdledkhgdaaaGreatDoor
/- Plain functions on lists: what the reference's Decode computes, and that it is the same. -/
namespace Go.Proofs.YtohmdledkhgdaaaGreatDoor
set_option linter.unusedVariables false
def Xdm (s:Nat×Nat×List Nat) (t:Nat):Nat×Nat×List Nat:=if s.2.1+1=8 then(0,0,s.2.2++[2*s.1+t]) else(2*s.1+t,s.2.1+1,s.2.2)
def Xbx (s:Nat×Nat×List Nat) (g:Nat):Nat→Nat×Nat×List Nat
 |0=>s
 |j+1=>Xdm (Xbx s g j) (g/2^(5-j)%2)
theorem Xo5 (b c t:Nat) (xs ys:List Nat):Xdm (b,c,xs++ys) t=((Xdm (b,c,ys) t).1,(Xdm (b,c,ys) t).2.1,xs++(Xdm (b,c,ys) t).2.2):=by
 unfold Xdm;split<;>simp_all
theorem Xq2 (b c g:Nat) (xs ys:List Nat) (j:Nat):Xbx (b,c,xs++ys) g j=((Xbx (b,c,ys) g j).1,(Xbx (b,c,ys) g j).2.1,xs++(Xbx (b,c,ys) g j).2.2):=by
 induction j with
 |zero=>rfl
 |succ j ih=>rw[Xbx,ih,Xo5];rfl
theorem Yjy:∀c:Fin 4,∀b:Fin 64,b.val<2^(2*c.val)→∀g:Fin 64,Xbx (b.val,2*c.val,[]) g.val 6=Xa9 (b.val,2*c.val,[]) g.val:=by decide+kernel
theorem Xq4 {s:Nat×Nat×List Nat} {g:Nat} (hc:s.2.1<8) (hev:s.2.1%2=0) (hb:s.1<2^s.2.1) (hg:g<64):Xbx s g 6=Xa9 s g:=by
 obtain⟨b,c,xs⟩:=s
 simp only at hc hev hb
 have h1:Xbx (b,c,xs) g 6=Xbx (b,c,xs++[]) g 6:=by simp
 have h2:Xa9 (b,c,xs) g=Xb4 id 8 16 (b*2^6+g) (c+6) (xs++[]):=by simp[Xa9]
 have hb64:b<64:=Nat.lt_of_lt_of_le hb (by have:2^c≤2^6:=Nat.pow_le_pow_right (by omega) (by omega)
                                           omega)
 have e:c=2*(c/2):=by omega
 have h3:=Yjy ⟨c/2,by omega⟩ ⟨b,hb64⟩ (by simp only;rw[←e];exact hb) ⟨g,hg⟩
 simp only[←e] at h3
 rw[h1,h2,Xq2,Xo1,h3]
 rfl
theorem Xq3 {s:Nat×Nat×List Nat} {g:Nat} (hc:s.2.1<8) (hb:s.1<2^s.2.1) (j:Nat):(Xbx s g j).2.1<8∧(Xbx s g j).1<2^(Xbx s g j).2.1∧(Xbx s g j).2.2.length≤s.2.2.length+j:=by
 induction j with
 |zero=>exact⟨hc,hb,by simp[Xbx]⟩
 |succ j ih=>
  rw[Xbx]
  generalize Xbx s g j=r at*
  unfold Xdm
  have ht:g/2^(5-j)%2<2:=Nat.mod_lt _ (by omega)
  split
  ·simp;omega
  ·refine⟨by simp;omega,?_,by simp;omega⟩
   simp only[Nat.pow_succ]
   omega
theorem Yb9 (l:List Nat) (hl:∀x∈l,x<64):(Xeh l).2.1%2=0:=by have:=(Xkm l hl).2.2;omega
theorem Xka (l:List Nat) (i:Nat) (hi:i<l.length):Xbi l≤i↔(l.length%4=0∧l.getD i 0=61∧(i=l.length-1∨(i=l.length-2∧l.getD (l.length-1) 0=61))):=by
 unfold Xbi
 by_cases h4:l.length%4=0
 ·by_cases hl:l.getD (l.length-1) 0=61
  ·rw[if_neg (by omega)]
   by_cases h2:l.getD (l.length-2) 0=61
   ·rw[if_pos h2]
    constructor
    ·intro h
     refine⟨h4,?_,by omega⟩
     rcases(by omega:i=l.length-1∨i=l.length-2) with rfl|rfl
     ·exact hl
     ·exact h2
    ·rintro⟨_,_,h⟩;omega
   ·rw[if_neg h2]
    constructor
    ·intro h
     obtain rfl:i=l.length-1:=by omega
     exact⟨h4,hl,.inl rfl⟩
    ·rintro⟨_,h5,h⟩
     rcases h with rfl|⟨rfl,_⟩
     ·omega
     ·exact absurd h5 h2
  ·rw[if_pos (.inr (.inr hl))]
   constructor
   ·intro h;omega
   ·rintro⟨_,h5,h⟩
    rcases h with rfl|⟨_,h6⟩
    ·exact absurd h5 hl
    ·exact absurd h6 hl
 ·rw[if_pos (.inr (.inl h4))]
  constructor
  ·intro h;omega
  ·rintro⟨h5,_⟩;omega
theorem Xu1 (l:List Nat) (i:Nat) (hi:i<l.length) (h:Xbi l≤i):vOf (l.getD i 0)=none:=by
 rw[((Xka l i hi).1 h).2.1]
 decide+kernel
theorem Xz4 {c:Nat} (h:∀i,i<64→al i≠c):vOf c=none:=by
 unfold vOf
 rw[List.find?_eq_none]
 intro i hi
 simp at hi
 simpa using h i hi
theorem Xz3 {c i:Nat} (hi:i<64) (h:al i=c):vOf c=some i:=by
 subst h
 have:∀v:Fin 64,vOf (al v.val)=some v.val:=by decide+kernel
 exact this ⟨i,hi⟩
end Go.Proofs.YtohmdledkhgdaaaGreatDoor
/- Walks of the reference's Value, inPlace and Decode. -/
namespace Go.Proofs.YtohmdledkhgdaaaGreatDoor
open Go.RowKit Go.Maps
set_option linter.unusedVariables false
set_option maxRecDepth 100000
def Xpp (c:Nat):Int:=match vOf c with|some v=>(v:Int)|none=>-1
theorem Xvj:alphS.size=64:=rfl
theorem Ycw:∀v:Fin 64,(bs alphS).getD v.val 0=al v.val:=by decide+kernel
theorem Xzg (j:Nat) (hlt:j<64) (w:World):(Instr.index 9 (.string alphS) (.int .i64 (j:Int))).run Tryz.prog w=.ok (.int .u8 ((al j:Nat):Int)) w:=by
 rw[Xa7 9 Tryz.underlying9 alphS .i64 (j:Int) j rfl (by rw[Xvj];exact hlt),Ycw ⟨j,hlt⟩]
theorem Xhk (w:World) (c:Nat) (hc:c<256):
    Calls Tryz.prog 236 #[.int .u8 (c:Int)] w fun e w'=>e=.returned (.int .i64 (Xpp c))∧w=w':=by
 go_enter Tryz.func236,Tryz.ntmps236
 go_wp2_with fail
 go_loopg [3] 64 (fun k i wr=>∃(j:Nat),w=wr∧j≤64∧k=64-j∧i=.int .i64 (j:Int)∧∀x,x<j→al x≠c)
 case atStart=>exact⟨0,rfl,by omega,by omega,rfl,fun x hx=>by omega⟩
 case round=>
  obtain⟨j,rfl,hj,rfl,rfl,hno⟩:=hrel
  have NO:=Hd hno
  clear hno
  by_cases hlt:j<64
  ·have hx:=fun w=>Xzg j hlt w
   unfold alphS at hx
   obtain⟨q,hq⟩:∃q,q=al j:=⟨_,rfl⟩
   have hq256:q<256:=by rw[hq];have:=Ycx j;omega
   rw[←hq] at hx
   have HQ:=Hd hq
   clear hq
   by_cases he:q=c
   ·have he':((q:Int)==(c:Int))=true:=Xa6 (by omega)
    have HE:=Hd he
    clear he
    go_wp2_with fail
    go_ret
    refine⟨?_,rfl⟩
    unfold Xpp
    rw[Xz3 hlt (by rw[←HQ.out];exact HE.out)]
    rfl
   ·have he':((q:Int)==(c:Int))=false:=Xak (by omega)
    go_wp2_with fail
    go_roundg (64-(j+1))
    case measure=>omega
    case rel=>
     refine⟨j+1,rfl,by omega,rfl,by go_num,fun x hx=>?_⟩
     rcases(by omega:x<j∨x=j) with h|rfl
     ·exact NO.out x h
     ·rw[←HQ.out];exact he
  ·obtain rfl:j=64:=by omega
   go_wp2_with fail
   go_ret
   refine⟨?_,rfl⟩
   unfold Xpp
   rw[Xz4 NO.out]
   rfl
theorem Xn7 (w:World) (s:ByteArray) (i:Nat) (hi:i<s.size) (hs:s.size≤1000000):
    Calls Tryz.prog 237 #[.string s,.int .i64 (i:Int)] w fun e w'=>e=.returned (.bool (decide (Xbi (bs s)≤i)))∧w=w':=by
 have hiff:=Xka (bs s) i (by rw[Xaa];exact hi)
 rw[Xaa] at hiff
 obtain⟨c0,hc0⟩:∃c,c=(bs s).getD i 0:=⟨_,rfl⟩
 obtain⟨c1,hc1⟩:∃c,c=(bs s).getD (s.size-1) 0:=⟨_,rfl⟩
 have hx0:∀w,(Instr.index 9 (.string s) (.int .i64 (i:Int))).run Tryz.prog w=.ok (.int .u8 (c0:Int)) w:=fun w=>by
  rw[Xa7 9 Tryz.underlying9 s .i64 (i:Int) i rfl hi,hc0]
 have hx1:∀w,(Instr.index 9 (.string s) (.int .i64 ((s.size:Int)-1))).run Tryz.prog w=.ok (.int .u8 (c1:Int)) w:=fun w=>by
  rw[Xa7 9 Tryz.underlying9 s .i64 ((s.size:Int)-1) (s.size-1) (by omega) (by omega),hc1]
 rw[←hc0,←hc1] at hiff
 clear hc0 hc1
 by_cases h4:s.size%4=0
 ·have h4':((s.size:Int)%4 !=0)=false:=Xat (by omega)
  by_cases h0:c0=61
  ·have h0':((c0:Int) !=61)=false:=Xat (by omega)
   by_cases h1:i=s.size-1
   ·have hr:decide (Xbi (bs s)≤i)=true:=by rw[decide_eq_true_eq,hiff];exact⟨h4,h0,.inl h1⟩
    rw[hr]
    have h1':((i:Int)==(s.size:Int)-1)=true:=Xa6 (by omega)
    clear hiff hr h0 h1
    go_enter Tryz.func237,Tryz.ntmps237
    go_wp2_with fail
    go_ret
    exact⟨rfl,rfl⟩
   ·have h1':((i:Int)==(s.size:Int)-1)=false:=Xak (by omega)
    by_cases h2:i=s.size-2
    ·have h2':((i:Int)==(s.size:Int)-2)=true:=Xa6 (by omega)
     by_cases h3:c1=61
     ·have h3':((c1:Int)==61)=true:=Xa6 (by omega)
      have hr:decide (Xbi (bs s)≤i)=true:=by rw[decide_eq_true_eq,hiff];exact⟨h4,h0,.inr ⟨h2,h3⟩⟩
      rw[hr]
      clear hiff hr h0 h1 h2 h3
      go_enter Tryz.func237,Tryz.ntmps237
      go_wp2_with fail
      go_ret
      exact⟨rfl,rfl⟩
     ·have h3':((c1:Int)==61)=false:=Xak (by omega)
      have hr:decide (Xbi (bs s)≤i)=false:=by rw[decide_eq_false_iff_not,hiff];rintro⟨_,_,h|⟨_,h⟩⟩;exact h1 h;exact h3 h
      rw[hr]
      clear hiff hr h0 h1 h2 h3
      go_enter Tryz.func237,Tryz.ntmps237
      go_wp2_with fail
      go_ret
      exact⟨rfl,rfl⟩
    ·have h2':((i:Int)==(s.size:Int)-2)=false:=Xak (by omega)
     have hr:decide (Xbi (bs s)≤i)=false:=by rw[decide_eq_false_iff_not,hiff];rintro⟨_,_,h|⟨h,_⟩⟩;exact h1 h;exact h2 h
     rw[hr]
     clear hiff hr h0 h1 h2
     go_enter Tryz.func237,Tryz.ntmps237
     go_wp2_with fail
     go_ret
     exact⟨rfl,rfl⟩
  ·have h0':((c0:Int) !=61)=true:=Xam (by omega)
   have hr:decide (Xbi (bs s)≤i)=false:=by rw[decide_eq_false_iff_not,hiff];rintro⟨_,h,_⟩;exact h0 h
   rw[hr]
   clear hiff hr h0
   go_enter Tryz.func237,Tryz.ntmps237
   go_wp2_with fail
   go_ret
   exact⟨rfl,rfl⟩
 ·have h4':((s.size:Int)%4 !=0)=true:=Xam (by omega)
  have hr:decide (Xbi (bs s)≤i)=false:=by rw[decide_eq_false_iff_not,hiff];rintro⟨h,_⟩;exact h4 h
  rw[hr]
  clear hiff hr
  go_enter Tryz.func237,Tryz.ntmps237
  go_wp2_with fail
  go_ret
  exact⟨rfl,rfl⟩
theorem Xnd (q:Nat) (h:q<256):bits .and .i64 (q:Int) 1=((q%2:Nat):Int):=by
 have:∀q:Fin 256,bits .and .i64 ((q.val:Nat):Int) 1=((q.val%2:Nat):Int):=by decide+kernel
 exact this ⟨q,h⟩
def Ydg (j:Nat):Nat:=j-1
theorem Xtl {c v:Nat} (h:vOf c=some v):Xpp c=(v:Int):=by unfold Xpp;rw[h]
theorem Xtm {c:Nat} (h:vOf c=none):Xpp c=-1:=by unfold Xpp;rw[h]
set_option maxHeartbeats 1000000 in
theorem Xmp (s:ByteArray) (w:World) (hl:s.size≤174764):
    Calls Tryz.prog 211 #[.string s] w (Xni w (Xcj (bs s))):=by
 obtain⟨i0,hi0,hz0,hz1,hz2⟩:=info_parts Xio
 obtain⟨n,hn⟩:∃n,n=Xbi (bs s):=⟨_,rfl⟩
 have hns:n≤s.size:=by rw[hn,←Xaa];exact Xi4 _
 have HN:=Hd hn
 clear hn
 go_enter Tryz.func211,Tryz.ntmps211
 go_wp2_with fail
 go_loopg [5,6,7,8,9] s.size (fun k o v h la i wr=>∃(i' j b c:Nat) (xs vs:List Nat),i'≤s.size∧j=min i' n∧k=s.size-i'∧i=.int .i64 (i':Int)∧v=.int .i64 (b:Int)∧h=.int .i64 (c:Int)∧la=.int .i64 ((Ydg j:Nat):Int)∧Xhi ((bs s).take j)=some vs∧Xeh vs=(b,c,xs)∧wr.ownsRow w.heap.size 5 1 o xs.length (xs.map U)∧Below w.heap.size w wr)
 case atStart=>exact⟨0,0,0,0,[],[],by omega,by omega,by omega,rfl,rfl,rfl,rfl,Xrn,rfl,World.ownsRow_nil _ _ _ _,Below.refl _ _⟩
 case round=>
  obtain⟨i',j,b,c,xs,vs,hi',hj,rfl,rfl,rfl,rfl,rfl,hvs,hst,hown,hbl⟩:=hrel
  have hvl:=Xpo hvs
  have hinv:=Xkm vs hvl.1
  have hev:=Yb9 vs hvl.1
  rw[hst] at hinv hev
  obtain⟨v1,v2⟩:=hvl
  obtain⟨i1,i2,i3⟩:=hinv
  simp only[List.length_take,Xaa] at v2
  simp only at i1 i2 i3 hev
  have hxl:xs.length≤900000:=by omega
  have VS:=Hd hvs;have ST:=Hd hst;have OW:=Hd hown;have BL:=Hd hbl;have I2:=Hd i2;have V1:=Hd v1;have HJ:=Hd hj;have I3:=Hd i3;have V2:=Hd v2
  obtain⟨ao,co,rfl⟩:=Xg2 hown
  clear hvs hst hown hbl i2 v1 hj i3 v2
  by_cases hlt:i'<s.size
  ·have hil:i'<(bs s).length:=by rw[Xaa];exact hlt
   obtain⟨g,hg'⟩:∃g,g=(bs s)[i']:=⟨_,rfl⟩
   have hg:g<256:=by rw[hg'];exact Xga s _ (List.getElem_mem hil)
   have hgD:(bs s).getD i' 0=g:=by rw[hg',List.getD_eq_getElem?_getD,List.getElem?_eq_getElem hil,Option.getD_some]
   have hx:∀w,(Instr.index 9 (.string s) (.int .i64 (i':Int))).run Tryz.prog w=.ok (.int .u8 (g:Int)) w:=fun w=>by
    rw[Xa7 9 Tryz.underlying9 s .i64 (i':Int) i' rfl hlt,hgD]
   have IP:=Hd (Xn7 wr s i' hlt (by omega))
   have HG:=Hd hg';have GD:=Hd hgD
   clear hg' hgD
   cases hv:vOf g with
   |none=>
    have hval:=Xtm hv
    have HV:=Hd hv
    clear hv
    by_cases hp:n≤i'
    ·have hp':decide (Xbi (bs s)≤i')=true:=by rw[←HN.out];simpa using hp
     rw[hp'] at IP
     go_wp2_with (first|(go_at_call 236;refine(Xhk _ _ hg).mono ?_;rintro e w' ⟨rfl,rfl⟩;rw[hval])|(go_at_call 237;refine IP.out.mono ?_;rintro e w' ⟨rfl,rfl⟩))
     go_roundg (s.size-(i'+1))
     case measure=>omega
     case rel=>exact⟨i'+1,j,b,c,xs,vs,by omega,by have:=HJ.out;omega,rfl,by go_num,rfl,rfl,rfl,VS.out,ST.out,OW.out,BL.out⟩
    ·have hp':decide (Xbi (bs s)≤i')=false:=by rw[←HN.out];simpa using hp
     rw[hp'] at IP
     go_wp2_with (first|(go_at_call 236;refine(Xhk _ _ hg).mono ?_;rintro e w' ⟨rfl,rfl⟩;rw[hval])|(go_at_call 237;refine IP.out.mono ?_;rintro e w' ⟨rfl,rfl⟩))
     go_ret3
     have hji:j=i':=by have:=HJ.out;omega
     subst hji
     have hd:=Xs4 VS.out (by rw[←HN.out];omega) hil (by rw[←HG.out];exact HV.out) (by rw[Xaa];omega)
     rw[hd]
     exact⟨_,rfl,World.ownsRow_nil _ _ _ _,BL.out⟩
   |some v=>
    have hv64:=Xvo hv
    have hval:=Xtl hv
    have hp:i'<n:=by
     rcases Nat.lt_or_ge i' n with h|h
     ·exact h
     ·have:=Xu1 (bs s) i' hil (by rw[←HN.out];exact h)
      rw[GD.out,hv] at this
      cases this
    have HV:=Hd hv
    clear hv
    have hji:j=i':=by have:=HJ.out;omega
    subst hji
    go_wp2_with (first|(go_at_call 236;refine(Xhk _ _ hg).mono ?_;rintro e w' ⟨rfl,rfl⟩;rw[hval]))
    go_loopg [5,6,7,11] 6 (fun k o v' h i wr=>∃(m b' c':Nat) (ys:List Nat),m≤6∧k=6-m∧i=.int .i64 (5-(m:Int))∧v'=.int .i64 (b':Int)∧h=.int .i64 (c':Int)∧Xbx (b,c,xs) v m=(b',c',ys)∧wr.ownsRow w.heap.size 5 1 o ys.length (ys.map U)∧Below w.heap.size w wr)
    case atStart=>exact⟨0,b,c,xs,by omega,by omega,rfl,rfl,rfl,rfl,OW.out,BL.out⟩
    case round=>
     obtain⟨m,b',c',ys,hm,rfl,rfl,rfl,rfl,hbr,hown,hbl⟩:=hrel
     have hbi:=Xq3 (s:=(b,c,xs)) (g:=v) i1 I2.out m
     rw[hbr] at hbi
     simp only at hbi
     have hyl:ys.length≤900006:=by omega
     obtain⟨ao',co',rfl⟩:=Xg2 hown
     have BL2:=Hd hbl
     have hbs2:w.heap.size≤wr.heap.size:=hbl.size
     by_cases hm6:m<6
     ·obtain⟨k,hk⟩:∃k,k=5-m:=⟨_,rfl⟩
      obtain⟨q,hq⟩:∃q,q=v/2^k:=⟨_,rfl⟩
      obtain⟨t,htt⟩:∃t,t=q%2:=⟨_,rfl⟩
      have hq256:q<256:=by rw[hq];exact Nat.lt_of_le_of_lt (Nat.div_le_self _ _) (by omega)
      have ek:(5:Int)-(m:Int)=(k:Int):=by omega
      have e1:(v:Int)/2^k=(q:Int):=by rw[hq];push_cast;rfl
      have e2:Go.bits .and .i64 (q:Int) 1=(t:Int):=by rw[htt];exact Xnd q hq256
      have ht2:t<2:=by omega
      have hbb:b'<256:=Nat.lt_of_lt_of_le hbi.2.1 (by have:2^c'≤2^8:=Nat.pow_le_pow_right (by omega) (by omega)
                                                      omega)
      have BR:=Hd hbr;have K:=Hd hk;have Q:=Hd hq;have T:=Hd htt;have BI:=Hd hbi
      have hc8:c'<8:=hbi.1
      clear hbr hk hq htt hbi hbl
      by_cases h8:c'+1=8
      ·have h8':((c':Int)+1==8)=true:=Xa6 (by omega)
       have hv0:2*b'+t<256:=by
        have:=BI.out.2.1
        obtain rfl:c'=7:=by omega
        omega
       obtain⟨z,hz⟩:∃z,z=2*b'+t:=⟨_,rfl⟩
       have ez:2*(b':Int)+(t:Int)=(z:Int):=by omega
       have hz256:z<256:=by omega
       have HZ:=Hd hz
       clear hz
       go_wp2_with ((at_builtin;refine wpList_append_lies _ rfl _ _ _ rfl w.heap.size 5 i0 _ 1 1 Tryz.underlying62 hi0 hz0 hz1 hz2 rfl (by omega) (.slice ao' ys.length co') ys.length (ys.map U) rfl (hown.alloc _) ⟨wr.heap.size,0,none⟩ 1 1 [.int .u8 z] rfl rfl (World.news_of_block (cs:=#[.int .u8 z]) (t:=5) (fr:=(0,0)) (heap_alloc_new wr _)) (by simp[Value.oneCell']) (by omega) (by unfold maxLen;omega) (by omega) (by simp;omega) (wr.heap.size+1) (by simp) ?_;intro gg cap2 w1 hown1 hgrow hat hlt2))
       go_roundg (6-(m+1))
       case measure=>omega
       case rel=>
        refine⟨m+1,0,0,ys++[z],by omega,rfl,by go_num,rfl,rfl,?_,?_,?_⟩
        ·rw[Xbx,BR.out,Xdm,if_pos h8,←K.out,←Q.out,←T.out,HZ.out]
        ·rw[List.length_append,List.map_append];exact hown1
        ·exact(BL2.out.alloc hbs2 _).grown hgrow (by simp;omega) (fun j hj=>(hown.lt j hj).1)
      ·have h8':((c':Int)+1==8)=false:=Xak (by omega)
       go_wp2_with fail
       go_roundg (6-(m+1))
       case measure=>omega
       case rel=>
        refine⟨m+1,2*b'+t,c'+1,ys,by omega,rfl,by go_num,by go_num,by go_num,?_,hown,BL2.out⟩
        rw[Xbx,BR.out,Xdm,if_neg h8,←K.out,←Q.out,←T.out]
     ·obtain rfl:m=6:=by omega
      have hbe:=Xq4 (s:=(b,c,xs)) (g:=v) i1 hev I2.out hv64
      rw[hbr] at hbe
      have BE:=Hd hbe
      clear hbe hbr hbi
      go_wp2_with fail
      go_roundg (s.size-(j+1))
      case measure=>omega
      case rel=>
       refine⟨j+1,j+1,b',c',ys,vs++[v],by omega,by omega,rfl,by go_num,rfl,rfl,by simp[Ydg],?_,?_,hown,BL2.out⟩
       ·rw[List.take_succ_eq_append_getElem hil]
        exact Xnp VS.out (by rw[←HG.out];exact HV.out)
       ·rw[Xl1,ST.out,BE.out]
  ·have hjn:j=n:=by have:=HJ.out;omega
   subst hjn
   have hg:=Xha (l:=bs s) (by rw[←HN.out];exact VS.out) (by rw[Xaa];exact hl)
   rw[ST.out,Xaa,←HN.out] at hg
   have hbj:Hid (j=0→b=0):=fun h=>by
    have h2:=V2.out
    have h3:=I3.out
    have hc0:c=0:=by omega
    have:=I2.out
    rw[hc0] at this
    simpa using this
   have HG:=Hd hg
   clear hg
   by_cases h4:s.size%4=0
   ·have h4':((s.size:Int)%4 !=0)=false:=Xat (by omega)
    by_cases hb0:b=0
    ·have hb':((b:Int) !=0)=false:=Xat (by omega)
     go_wp2_with fail
     go_ret3
     rw[HG.out,if_neg (by omega),if_neg (by simpa using hb0)]
     exact⟨_,rfl,OW.out,BL.out⟩
    ·have hb':((b:Int) !=0)=true:=Xam (by omega)
     go_wp2_with fail
     go_ret3
     rw[HG.out,if_neg (by omega),if_pos (by simpa using hb0)]
     exact⟨_,rfl,World.ownsRow_nil _ _ _ _,BL.out⟩
   ·have h4':((s.size:Int)%4 !=0)=true:=Xam (by omega)
    go_wp2_with fail
    go_ret3
    rw[HG.out,if_pos h4]
    exact⟨_,rfl,World.ownsRow_nil _ _ _ _,BL.out⟩
end Go.Proofs.YtohmdledkhgdaaaGreatDoor
