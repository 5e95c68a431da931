/- Walk of base64.encode. -/
import Derived.Test.YtohmdledkhgdaaaGreatDoorPa06
import Derived.Laws.IdiomStrings
import Derived.Laws.AppendOwn
namespace Go.Proofs.YtohmdledkhgdaaaGreatDoor
open Go.RowKit
set_option linter.unusedVariables false
set_option maxRecDepth 100000
structure Rd (w:World) (a:Option Addr) (l:List Nat):Prop where
 lt:∀x∈l,x<256
 at_:0<l.length→∃b off,a=some ⟨b,off,none⟩∧b<w.heap.size∧∀i (h:i<l.length),w.cell? ⟨b,off+i,none⟩=some (U l[i])
def TX (B:Nat) (xs:List Nat) (w:World):Prop:=∃v,w.heap[B+1]?=some (.cells #[v] 62 (0,0))∧w.ownsRow B 5 1 v xs.length (xs.map U)
theorem TX.drewN {B:Nat} {xs:List Nat} {w:World} (h:TX B xs w) (n:Nat):TX B xs (w.drewN n):=h
theorem TX.close {w wA w1:World} {base gg cap n:Nat} {v:Value} {xs:List Nat} {y:Nat} (hn:n=xs.length)
    (hown1:w1.ownsRow base 5 1 (.slice (some ⟨gg,0,none⟩) (n+1) cap) (n+1) (xs.map U++[.int .u8 y])) (hgrow:wA.grownBy w1 v.ownBlock) (hA:Below w.heap.size w wA)
    (hT1:w1.heap[base+1]?=some (.cells #[v] 62 (0,0))) (hbase:base≤w.heap.size) (hv:w.ownsRow base 5 1 v n (xs.map U)):
    TX base (xs++[y]) (w1.setCell ⟨base+1,0,none⟩ (.slice (some ⟨gg,0,none⟩) (n+1) cap))∧Below base w (w1.setCell ⟨base+1,0,none⟩ (.slice (some ⟨gg,0,none⟩) (n+1) cap)):=by
 subst hn
 have:=Xkt hown1 hgrow hA hT1 (by decide) (by omega) hbase hv
 refine⟨?_,this.2.below⟩
 obtain⟨v',h1,h2⟩:=this.1
 exact⟨v',h1,by rw[List.map_append,List.length_append];exact h2⟩
set_option maxHeartbeats 1000000 in
theorem Xux (w:World) (a:Option Addr) (cap:Nat) (l:List Nat) (hl:l.length≤400000) (hrd:Rd w a l) (ht:Tab w):
    Calls Tryz.prog 178 #[.slice a l.length cap] w fun e w'=>e=.returned (.string (Xaq (Xe5 l)))∧Below w.heap.size w w':=by
 obtain⟨i0,hi0,hz0,hz1,hz2⟩:=info_parts Xio
 obtain⟨n,hn⟩:∃n,n=l.length:=⟨_,rfl⟩
 have hb2:i0.bytes*((n+2)/3*4)≤281474976710656:=by rw[hz2];omega
 have R0:=fun(cs:Array Value) (h:cs.size=((n+2)/3*4)*1)=>Xr9 w cs ((n+2)/3*4) 8 6 217 (by unfold maxLen;omega) h
 have TB:=Hd ht
 have P0:=Hd (Ya0 w w.heap.size ht ht.size (Nat.le_refl _))
 have HC:=Hd hrd.at_;have H2:=Hd hrd.lt;have HN:=Hd hn;have RR:=Hd R0
 rw[←hn]
 have hn4:n≤400000:=by omega
 clear hrd R0 hl hn ht
 go_enter Tryz.func178,Tryz.ntmps178
 go_wp2_with (first|(at_make;refine Xb8 _ rfl _ _ _ rfl 5 i0 _ 1 Tryz.underlying62 hi0 hz0 hz1 .i64 .i64 _ _ 0 ((n+2)/3*4) rfl rfl rfl (by omega) (by omega) hb2 (by unfold maxLen;omega) ?_;intro cs hcs;have CS:=Hd hcs;clear hcs)|(go_at_call 216;refine(Xjn _ 8 6 _ _ w.heap.size (by simp)).mono ?_;rintro e w1 ⟨rfl,rfl⟩))
 go_loopg [23] n (fun k i wr=>∃j b' c' xs,j≤n∧k=n-j∧i=.int .i64 (j:Int)∧Xf9 (l.take j)=(b',c',xs)∧RG w.heap.size 8 6 217 b' c' xs wr∧Below w.heap.size w wr)
 case atStart=>exact⟨0,0,0,[],by omega,by omega,rfl,rfl,RR.out cs CS.out,Xkr _ _ _ _ _ _ _ _⟩
 case round=>
  obtain⟨j,b',c',xs,hj,rfl,rfl,hst,hrg,hbl⟩:=hrel
  have hinv:=Xg9 (l.take j) (fun x hx=>H2.out x (List.mem_of_mem_take hx))
  rw[hst] at hinv
  obtain⟨i1,i2,i3⟩:=hinv
  simp only[List.length_take] at i1 i2 i3
  have hxl:xs.length≤900000:=by omega
  by_cases hlt:j<n
  ·have hjl:j<l.length:=by rw[←HN.out];exact hlt
   obtain⟨b,off,rfl,hbw,hcell⟩:=HC.out (by omega)
   have hx:w.cell? ⟨b,off+j,none⟩=some (U l[j]):=hcell j hjl
   clear hcell
   have hx':wr.cell? ⟨b,off+j,none⟩=some (U l[j]):=(hbl.cell (by exact hbw)).trans hx
   have hg:l[j]<256:=H2.out _ (List.getElem_mem hjl)
   obtain⟨g,hg'⟩:∃g,g=l[j]:=⟨_,rfl⟩
   rw[←hg'] at hx' hg
   unfold U at hx'
   have C1:=Hd (Ykj w wr w.heap.size 8 6 b' c' g al xs hrg hbl P0.out (by omega) (by omega) (by omega) i1 i2 (by omega) hxl)
   have ST:=Hd hst;have HG:=Hd hg'
   clear hst hrg hbl i2 hx hg' i3
   go_wp2_with (go_at_call 239;refine C1.out.mono ?_;rintro e w1 ⟨rfl,hb1,hkm,b1,c1,ys,hd,hr1⟩;have HD:=Hd hd;clear hd)
   go_roundg (n-(j+1))
   case measure=>omega
   case rel=>
    refine⟨j+1,b1,c1,ys,by omega,by omega,by go_num,?_,hr1,hb1⟩
    rw[List.take_succ_eq_append_getElem hjl,Xlz,ST.out,←HG.out]
    exact HD.out
  ·have hjn:j=n:=by omega
   subst hjn
   have L1:=Hd (Xsp wr w.heap.size 8 6 217 b' c' xs hrg)
   obtain⟨v,hv,hown⟩:=hrg.txt
   have TX0:Hid (TX w.heap.size xs wr):=⟨v,hv,hown⟩
   rw[List.take_of_length_le (by rw[HN.out];exact Nat.le_refl _)] at hst
   have ST:=Hd hst;have BL:=Hd hbl;have I2:=Hd i2;have I3:=Hd i3;have HV:=Hd hv
   clear hst hrg hbl i2 i3 hv
   go_upto_if 38 with(go_at_call 240;refine L1.out.mono ?_;rintro e w1 ⟨rfl,nq,rfl⟩)
   go_cut [] (fun wx=>TX w.heap.size (Xbl (b',c',xs)) wx∧Below w.heap.size w wx)
   case first=>
    have tx:TX w.heap.size xs (wr.drewN nq):=TX0.out
    have bx:Below w.heap.size w (wr.drewN nq):=below_drewN BL.out nq
    generalize wr.drewN nq=wx at*
    have tb:=TB.out.below bx TB.out.size
    obtain⟨vx,hvx,hox⟩:=tx
    have hc:=cell_of_one hvx
    have hf:=free_of_one hvx
    have lt:=lt_of_block hvx
    by_cases hcz:0<c'
    ·obtain⟨d,hd⟩:∃d,d=6-c':=⟨_,rfl⟩
     obtain⟨q,hq⟩:∃q,q=b'*2^d:=⟨_,rfl⟩
     have hq64:q<64:=by
      have h1:b'*2^d<2^c'*2^d:=Nat.mul_lt_mul_of_pos_right I2.out (Nat.pow_pos (by omega))
      rw[←Nat.pow_add,show c'+d=6 by omega] at h1
      omega
     have ed:(6:Int)-(c':Int)=(d:Int):=by omega
     have e1:((b':Int)*2^d)=(q:Int):=by rw[hq];push_cast;rfl
     have q0:(0:Int)≤(q:Int):=by omega
     have q1:(q:Int)<64:=by omega
     have qc:wx.cell? ⟨3,q,none⟩=some (U (al q)):=tb.cell q hq64
     unfold U at qc
     have hTA:(wx.drew.alloc (.cells #[.int .u8 (al q)] 5)).heap[w.heap.size+1]?=some (.cells #[vx] 62 (0,0)):=Xaf hvx
     have HTA:=Hd hTA
     have HNE:=Hd (Xd6 (b:=w.heap.size+1) (t:=62) hox hvx (by decide))
     have HB:=Hd bx;have HQ:=Hd hq;have D:=Hd hd;have HX:=Hd hvx
     clear hTA bx tb hq hd hvx
     have hbs:w.heap.size≤wx.heap.size:=HB.out.size
     have hd6:d≤6:=by omega
     have ew:IntKind.i64.wrap (d:Int)=(d:Int):=IntWalk.i64_in _ (by omega)
     have ew2:IntKind.i64.wrap (q:Int)=(q:Int):=IntWalk.i64_in _ (by omega)
     have d0:(0:Int)≤(d:Int):=by omega
     have d1:(d:Int)≤64:=by omega
     go_wp2_with fail
     go_region_law ((refine step_append_lies _ (by rfl) _ _ _ (by rfl) w.heap.size 5 i0 _ 1 1 Tryz.underlying62 hi0 hz0 hz1 hz2 rfl (by omega) vx xs.length (xs.map U) (by rfl) ((hox.drew).alloc _) ⟨wx.heap.size,0,none⟩ 1 1 [.int .u8 (al q)] (by rfl) (by rfl) (World.news_of_block (cs:=#[.int .u8 (al q)]) (t:=5) (fr:=(0,0)) (heap_alloc_new wx _)) (by simp[Value.oneCell']) (by omega) (by unfold maxLen;omega) (by omega) (by simp;omega) (wx.heap.size+1) (by simp) ?_;intro gg cap' w1 hown1 hgrow hat hlt2;have hc1:=Xda hgrow HTA.out HNE.out;have hc2:=cell_of_one hc1;have hc3:=free_of_one hc1;have HC1:=Hd hc1;clear hc1))
     all_goals go_wp2_with fail
     all_goals go_meet
     all_goals
      have fin:=TX.close rfl hown1 hgrow (((Below.refl _ _).alloc (Nat.le_refl _) _).drew) HC1.out hbs hox
      have et:Xbl (b',c',xs)=xs++[al q]:=by simp only[Xbl];rw[if_pos hcz,HQ.out,D.out]
      rw[et]
      exact⟨fin.1,HB.out.trans fin.2⟩
    ·have hcz':decide (0<c')=false:=by simp;omega
     go_wp2_with fail
     go_meet
     have et:Xbl (b',c',xs)=xs:=by simp only[Xbl];rw[if_neg hcz]
     rw[et]
     exact⟨⟨vx,hvx,hox⟩,bx⟩
   case rest=>
    obtain⟨htx,hbx⟩:=hcut
    have i3:=I3.out
    have htl:=Xkj b' c' xs j (by rw[i3,←HN.out];simp)
    have ef:=Xyn ST.out
    have EF:=Hd ef
    clear ef i3
    obtain⟨ts,hts⟩:∃ts,ts=Xbl (b',c',xs):=⟨_,rfl⟩
    rw[←hts] at htx htl EF
    clear I2 I3 ST BL TX0 L1 P0 HC H2 RR hts
    go_wp2_with fail
    go_loopg [] ((4-ts.length%4)%4) (fun k wr=>∃ys,TX w.heap.size ys wr∧Below w.heap.size w wr∧ys.length+k≤900000∧k=(4-ys.length%4)%4∧Xhn ys=Xe5 l)
    case atStart=>exact⟨ts,htx,hbx,by omega,rfl,EF.out⟩
    case round=>
     obtain⟨ys,htx',hbx',hyl,rfl,hpad⟩:=hrel
     have HP:=Hd hpad
     clear hpad htx hbx hxl htl
     obtain⟨v,hv,hown⟩:=htx'
     have hc:=cell_of_one hv
     have hf:=free_of_one hv
     have lt:=lt_of_block hv
     obtain⟨m,hm⟩:∃m,m=ys.length:=⟨_,rfl⟩
     have hconv:=Xmq (P:=Tryz.prog) 62 9 Tryz.underlying62 Tryz.underlying5 Tryz.underlying9 hown
     rw[←hm] at hown hyl
     obtain⟨a',cap',rfl⟩:=Xg2 hown
     have HM:=Hd hm
     by_cases h4:m%4=0
     ·have h4':((m:Int)%4 !=0)=false:=by simp;omega
      clear hm
      go_wp2_with fail
      go_ret
      exact⟨by rw[←HP.out,Xof _ (by rw[←HM.out];exact h4)];rfl,hbx'⟩
     ·have h4':((m:Int)%4 !=0)=true:=by simp;omega
      have hTA:(wr.alloc (.cells #[.int .u8 61] 5)).heap[w.heap.size+1]?=some (.cells #[.slice a' m cap'] 62 (0,0)):=Xaf hv
      have HTA:=Hd hTA
      have HNE:=Hd (Xd6 (b:=w.heap.size+1) (t:=62) hown hv (by decide))
      have HV:=Hd hv;have HB:=Hd hbx'
      have hbs:w.heap.size≤wr.heap.size:=HB.out.size
      clear hm hTA hv hbx' hconv
      go_wp2_with ((at_builtin;refine wpList_append_lies _ rfl _ _ _ rfl w.heap.size 5 i0 _ 1 1 Tryz.underlying62 hi0 hz0 hz1 hz2 rfl (by omega) (.slice a' m cap') m (ys.map U) rfl (hown.alloc _) ⟨wr.heap.size,0,none⟩ 1 1 [.int .u8 61] rfl rfl (World.news_of_block (cs:=#[.int .u8 61]) (t:=5) (fr:=(0,0)) (heap_alloc_new wr _)) (by simp[Value.oneCell']) (by omega) (by unfold maxLen;omega) (by omega) (by simp;omega) (wr.heap.size+1) (by simp) ?_;intro gg cap2 w1 hown1 hgrow hat hlt2;have hc1:=Xda hgrow HTA.out HNE.out;have hc2:=cell_of_one hc1;have hc3:=free_of_one hc1;have HC1:=Hd hc1;clear hc1))
      go_roundg ((4-(m+1)%4)%4)
      case measure=>rw[←HM.out];omega
      case rel=>
       have fin:=TX.close HM.out hown1 hgrow ((Below.refl _ _).alloc (Nat.le_refl _) _) HC1.out hbs hown
       refine⟨ys++[61],fin.1,HB.out.trans fin.2,?_,?_,?_⟩
       ·simp;rw[←HM.out];omega
       ·simp;rw[←HM.out]
       ·rw[Xoe _ (by rw[←HM.out];exact h4)];exact HP.out
end Go.Proofs.YtohmdledkhgdaaaGreatDoor
/- The library's contracts on lists of texts at this seat (laid by the shelf's tools): Split, Join, Contains, Equal, Clone. -/
namespace Go.Proofs.YtohmdledkhgdaaaGreatDoor
open Go.Shelf Go.RowKit
set_option linter.unusedVariables false
def Xgd:Go.Shelf.Ren:=⟨fun|156=>95|165=>40|166=>41|169=>43|240=>82|241=>83|276=>126|277=>127|n=>n,fun|31=>23|9=>9|3=>3|4=>4|0=>0|20=>20|72=>80|76=>84|70=>78|37=>62|75=>83|127=>132|164=>184|5=>5|80=>87|n=>n,fun|n=>n⟩
theorem Xlr:Go.Proofs.Lays.n156 Tryz.prog Xgd:={
 mixed:=by kernel_rfl
 f156:=Tryz.func95.trans (congrArg some (by kernel_rfl))
 f165:=Tryz.func40.trans (congrArg some (by kernel_rfl))
 f166:=Tryz.func41.trans (congrArg some (by kernel_rfl))
 f169:=Tryz.func43.trans (congrArg some (by kernel_rfl))
 f240:=Tryz.func82.trans (congrArg some (by kernel_rfl))
 f241:=Tryz.func83.trans (congrArg some (by kernel_rfl))
 f276:=Tryz.func126.trans (congrArg some (by kernel_rfl))
 f277:=Tryz.func127.trans (congrArg some (by kernel_rfl))
 t0:=Tryz.underlying0
 a0:=Tryz.isAgg0
 z0:=Tryz.sizeOf0
 v0:=Tryz.zeroValue0
 t3:=Tryz.underlying3
 a3:=Tryz.isAgg3
 z3:=Tryz.sizeOf3
 v3:=Tryz.zeroValue3
 t4:=Tryz.underlying4
 a4:=Tryz.isAgg4
 z4:=Tryz.sizeOf4
 v4:=Tryz.zeroValue4
 t9:=Tryz.underlying9
 a9:=Tryz.isAgg9
 z9:=Tryz.sizeOf9
 v9:=Tryz.zeroValue9
 t20:=Tryz.underlying20
 a20:=Tryz.isAgg20
 z20:=Tryz.sizeOf20
 v20:=Tryz.zeroValue20
 t31:=Tryz.underlying23
 a31:=Tryz.isAgg23
 z31:=Tryz.sizeOf23
 v31:=Tryz.zeroValue23
 t37:=Tryz.underlying62
 a37:=Tryz.isAgg62
 z37:=Tryz.sizeOf62
 v37:=Tryz.zeroValue62
 t70:=Tryz.underlying78
 a70:=Tryz.isAgg78
 z70:=Tryz.sizeOf78
 v70:=Tryz.zeroValue78
 t72:=Tryz.underlying80
 a72:=Tryz.isAgg80
 z72:=Tryz.sizeOf80
 v72:=Tryz.zeroValue80
 t75:=Tryz.underlying83
 a75:=Tryz.isAgg83
 z75:=Tryz.sizeOf83
 v75:=Tryz.zeroValue83
 t76:=Tryz.underlying84
 a76:=Tryz.isAgg84
 z76:=Tryz.sizeOf84
 v76:=Tryz.zeroValue84
 t127:=Tryz.underlying132
 a127:=Tryz.isAgg132
 z127:=Tryz.sizeOf132
 v127:=Tryz.zeroValue132
 t164:=Tryz.underlying184
 a164:=Tryz.isAgg184
 z164:=Tryz.sizeOf184
 v164:=Tryz.zeroValue184}
theorem Xdh:Builder.Extra Tryz.prog Xgd:={
 sizeBuilder:=by kernel_rfl
 liesBuilder:=by kernel_rfl
 t5:=Tryz.underlying5
 a5:=Tryz.isAgg5
 z5:=Tryz.sizeOf5
 v5:=Tryz.zeroValue5
 infoByte:=by kernel_rfl
 cellsByte:=by kernel_rfl
 sizeByte:=by kernel_rfl
 neB5:=by decide}
theorem Xf6 (a:Option Addr) (c:Nat) (sep:ByteArray) (w:World):
    Calls Tryz.prog 95 #[.slice a 0 c,.string sep] w fun e w'=>e=.returned (.string ⟨#[]⟩)∧w'=w:=Any.strings_Join_none Xlr Xdh a c sep w
theorem Xj0 (bk o c:Nat) (xs:List ByteArray) (sep:ByteArray) (w:World) (hcells:∀(j:Nat) x,xs[j]?=some x→w.cell? ⟨bk,o+j,none⟩=some (.string x)) (hbk:bk<w.heap.size) (hN:xs.length≤140737488355328) (hcap:xs.length≤c) (hlen:(Lib.join (xs.map (·.data.toList)) sep.data.toList).length≤140737488355328):
    Calls Tryz.prog 95 #[.slice (some ⟨bk,o,none⟩) xs.length c,.string sep] w fun e w'=>e=.returned (.string ⟨(Lib.join (xs.map (·.data.toList)) sep.data.toList).toArray⟩)∧Below w.heap.size w w':=Any.strings_Join Xlr Xdh bk o c xs sep w hcells hbk hN hcap hlen
def Xk0:Go.Shelf.Ren:=⟨fun|146=>153|221=>199|268=>230|138=>231|143=>182|195=>249|197=>250|218=>251|219=>150|260=>255|217=>195|225=>196|224=>197|267=>198|266=>228|314=>229|n=>n,fun|9=>9|31=>23|3=>3|4=>4|0=>0|105=>281|21=>21|5=>5|46=>75|119=>284|139=>287|138=>286|146=>128|51=>127|n=>n,fun|1=>2|3=>7|4=>8|n=>n⟩
theorem Xui:Go.Proofs.Lays.n146 Tryz.prog Xk0:={
 mixed:=by kernel_rfl
 f138:=Tryz.func231.trans (congrArg some (by kernel_rfl))
 f143:=Tryz.func182.trans (congrArg some (by kernel_rfl))
 f146:=Tryz.func153.trans (congrArg some (by kernel_rfl))
 f195:=Tryz.func249.trans (congrArg some (by kernel_rfl))
 f197:=Tryz.func250.trans (congrArg some (by kernel_rfl))
 f217:=Tryz.func195.trans (congrArg some (by kernel_rfl))
 f218:=Tryz.func251.trans (congrArg some (by kernel_rfl))
 f219:=Tryz.func150.trans (congrArg some (by kernel_rfl))
 f221:=Tryz.func199.trans (congrArg some (by kernel_rfl))
 f224:=Tryz.func197.trans (congrArg some (by kernel_rfl))
 f225:=Tryz.func196.trans (congrArg some (by kernel_rfl))
 f260:=Tryz.func255.trans (congrArg some (by kernel_rfl))
 f266:=Tryz.func228.trans (congrArg some (by kernel_rfl))
 f267:=Tryz.func198.trans (congrArg some (by kernel_rfl))
 f268:=Tryz.func230.trans (congrArg some (by kernel_rfl))
 f314:=Tryz.func229.trans (congrArg some (by kernel_rfl))
 t0:=Tryz.underlying0
 a0:=Tryz.isAgg0
 z0:=Tryz.sizeOf0
 v0:=Tryz.zeroValue0
 t3:=Tryz.underlying3
 a3:=Tryz.isAgg3
 z3:=Tryz.sizeOf3
 v3:=Tryz.zeroValue3
 t4:=Tryz.underlying4
 a4:=Tryz.isAgg4
 z4:=Tryz.sizeOf4
 v4:=Tryz.zeroValue4
 t5:=Tryz.underlying5
 a5:=Tryz.isAgg5
 z5:=Tryz.sizeOf5
 v5:=Tryz.zeroValue5
 t9:=Tryz.underlying9
 a9:=Tryz.isAgg9
 z9:=Tryz.sizeOf9
 v9:=Tryz.zeroValue9
 t21:=Tryz.underlying21
 a21:=Tryz.isAgg21
 z21:=Tryz.sizeOf21
 v21:=Tryz.zeroValue21
 t31:=Tryz.underlying23
 a31:=Tryz.isAgg23
 z31:=Tryz.sizeOf23
 v31:=Tryz.zeroValue23
 t46:=Tryz.underlying75
 a46:=Tryz.isAgg75
 z46:=Tryz.sizeOf75
 v46:=Tryz.zeroValue75
 t51:=Tryz.underlying127
 a51:=Tryz.isAgg127
 z51:=Tryz.sizeOf127
 v51:=Tryz.zeroValue127
 t105:=Tryz.underlying281
 a105:=Tryz.isAgg281
 z105:=Tryz.sizeOf281
 v105:=Tryz.zeroValue281
 t119:=Tryz.underlying284
 a119:=Tryz.isAgg284
 z119:=Tryz.sizeOf284
 t138:=Tryz.underlying286
 a138:=Tryz.isAgg286
 z138:=Tryz.sizeOf286
 v138:=Tryz.zeroValue286
 t139:=Tryz.underlying287
 a139:=Tryz.isAgg287
 z139:=Tryz.sizeOf287
 v139:=Tryz.zeroValue287
 t146:=Tryz.underlying128
 a146:=Tryz.isAgg128
 z146:=Tryz.sizeOf128
 v146:=Tryz.zeroValue128
 g1:=by kernel_rfl
 g3:=by kernel_rfl
 g4:=by kernel_rfl}
theorem Xim (s sep:ByteArray) (m:Int) (w:World) (hs:s.size<4294967281) (hm:w.cell? ⟨2,0,none⟩=some (.int .i64 m)) (h1:1≤sep.size):
    Calls Tryz.prog 153 #[.string s,.string sep] w fun e w'=>
     e=.returned (.slice (some ⟨w.heap.size,0,none⟩) (Lib.countB s sep+1) (Lib.countB s sep+1))∧w'=w.alloc (.cells ((Lib.splitB sep 0 (Lib.countB s sep) s).map Value.string).toArray 9):=Any.strings_Split Xui (by kernel_rfl) s sep m w hs hm h1
def Xk4:Go.Shelf.Ren:=⟨fun|110=>136|109=>176|n=>n,fun|31=>23|9=>9|4=>4|3=>3|0=>0|n=>n,fun|n=>n⟩
theorem Xls:Go.Proofs.Lays.n110 Tryz.prog Xk4:={
 mixed:=by kernel_rfl
 f109:=Tryz.func176.trans (congrArg some (by kernel_rfl))
 f110:=Tryz.func136.trans (congrArg some (by kernel_rfl))
 t0:=Tryz.underlying0
 a0:=Tryz.isAgg0
 z0:=Tryz.sizeOf0
 v0:=Tryz.zeroValue0
 t3:=Tryz.underlying3
 a3:=Tryz.isAgg3
 z3:=Tryz.sizeOf3
 v3:=Tryz.zeroValue3
 t4:=Tryz.underlying4
 a4:=Tryz.isAgg4
 z4:=Tryz.sizeOf4
 v4:=Tryz.zeroValue4
 t9:=Tryz.underlying9
 a9:=Tryz.isAgg9
 z9:=Tryz.sizeOf9
 v9:=Tryz.zeroValue9
 t31:=Tryz.underlying23
 a31:=Tryz.isAgg23
 z31:=Tryz.sizeOf23
 v31:=Tryz.zeroValue23}
theorem Xee (b off n c:Nat) (zs:List ByteArray) (x:ByteArray) (w:World) (hz:n≤zs.length) (hbig:n≤9223372036854775807) (hc:∀j,j<zs.length→w.cell? ⟨b,off+j,none⟩=some (.string (zs.getD j ByteArray.empty))):
    Calls Tryz.prog 136 #[.slice (some ⟨b,off,none⟩) n c,.string x] w fun e w'=>e=.returned (.bool (Lib.containsS (zs.take n) x))∧w'=w:=Any.slices_Contains_string Xls b off n c zs x w hz hbig hc
theorem Xc7 (a:Option Addr) (c:Nat) (x:ByteArray) (w:World):
    Calls Tryz.prog 136 #[.slice a 0 c,.string x] w fun e w'=>e=.returned (.bool false)∧w'=w:=Any.slices_Contains_string_empty Xls a c x w
end Go.Proofs.YtohmdledkhgdaaaGreatDoor
/- Names of groups. -/
namespace Go.Proofs.YtohmdledkhgdaaaGreatDoor
open Go.RowKit
set_option linter.unusedVariables false
set_option maxRecDepth 100000
def Yi0 (b:Bool) (w:World) (e:Ending) (w':World):Prop:=
 ∃n:Int,e=.returned (.int .i64 n)∧(b=true→0≤n)∧(b=false→n<0)∧w=w'
theorem Yax (w:World) (s:ByteArray) (cap:Nat) (fz:Nat×Nat):Rd (w.alloc (.cells (bytesRow s cap) 5 fz)) (some ⟨w.heap.size,0,none⟩) (bs s):=by
 refine⟨Xga s,fun _=>⟨w.heap.size,0,rfl,by simp,fun i hi=>?_⟩⟩
 rw[Nat.zero_add,cell_of_row _ w.heap.size i _ 5 fz (heap_alloc_new w _)]
 have hi':i<s.size:=by rw[Xaa] at hi;exact hi
 have hi2:i<(s.data.map (fun b=>Value.int .u8 b.toNat)).size:=by simpa using hi'
 unfold bytesRow
 rw[Array.getElem?_append_left hi2]
 rw[Yin s i hi']
 rw[Array.getElem?_map,Array.getElem?_eq_getElem (show i<s.data.size from hi')]
 rfl
theorem Xig {p:Nat→Bool} {l:List Nat} {k:Nat} (h:(l.take k).any p=false) (hk:l.length≤k):l.any p=false:=by rwa [List.take_of_length_le hk] at h
theorem Xif {p:Nat→Bool} {l:List Nat} {k c:Nat} (hk:k<l.length) (hc:c=l.getD k 0) (h:p c=true):l.any p=true:=by
 rw[List.any_eq_true];rw[List.getD_eq_getElem?_getD,List.getElem?_eq_getElem hk,Option.getD_some] at hc;exact⟨_,List.getElem_mem hk,by rw[←hc];exact h⟩
theorem Xhc {p:Nat→Bool} {l:List Nat} {k c:Nat} (h0:(l.take k).any p=false) (hk:k<l.length) (hc:c=l.getD k 0) (h:p c=false):(l.take (k+1)).any p=false:=by
 rw[List.getD_eq_getElem?_getD,List.getElem?_eq_getElem hk,Option.getD_some] at hc
 rw[List.take_succ_eq_append_getElem hk,List.any_append,h0,←hc];simp[h]
def nmB (c:Nat):Bool:=!nmC c
theorem Xsx (w:World) (c:Nat) (hc:c<256):Calls Tryz.prog 213 #[.int .u8 (c:Int)] w fun e w'=>e=.returned (.bool (low c))∧w=w':=by
 obtain⟨b,hb⟩:∃b,b=low c:=⟨_,rfl⟩
 rw[←hb]
 have HB:=Hd hb
 clear hb
 rcases(by omega:c<97∨(97≤c∧c≤122)∨122<c) with h|⟨h,h2⟩|h
 all_goals
  go_enter Tryz.func213,Tryz.ntmps213
  go_wp2_with fail
  go_ret
  exact⟨Xa3 (by rw[HB.out,Bool.eq_iff_iff];simp[low];try omega),rfl⟩
set_option maxHeartbeats 1000000 in
theorem Xw8 (w:World) (c:Nat) (hc:c<256):Calls Tryz.prog 215 #[.int .u8 (c:Int)] w fun e w'=>e=.returned (.bool (nmB c))∧w=w':=by
 obtain⟨b,hb⟩:∃b,b=nmB c:=⟨_,rfl⟩
 rw[←hb]
 have HB:=Hd hb
 have L:=Hd (fun w=>Xsx w c hc)
 obtain⟨pl,hpl⟩:∃x,x=low c:=⟨_,rfl⟩
 rw[←hpl] at L
 have HL:=Hd hpl
 clear hb hpl
 rcases(by omega:c=45∨c=43∨c=95∨(c≠45∧c≠43∧c≠95)) with rfl|rfl|rfl|⟨h1,h2,h3⟩
 ·have e:pl=false:=by rw[HL.out];decide
  subst e
  go_enter Tryz.func215,Tryz.ntmps215
  go_wp2_with (go_at_call 213;refine(L.out _).mono ?_;rintro e w' ⟨rfl,rfl⟩)
  go_ret
  exact⟨Xa3 (by rw[HB.out];decide),rfl⟩
 ·have e:pl=false:=by rw[HL.out];decide
  subst e
  go_enter Tryz.func215,Tryz.ntmps215
  go_wp2_with (go_at_call 213;refine(L.out _).mono ?_;rintro e w' ⟨rfl,rfl⟩)
  go_ret
  exact⟨Xa3 (by rw[HB.out];decide),rfl⟩
 ·have e:pl=false:=by rw[HL.out];decide
  subst e
  go_enter Tryz.func215,Tryz.ntmps215
  go_wp2_with (go_at_call 213;refine(L.out _).mono ?_;rintro e w' ⟨rfl,rfl⟩)
  go_ret
  exact⟨Xa3 (by rw[HB.out];decide),rfl⟩
 ·have q1:((c:Int) !=45)=true:=Xam (by omega)
  have q2:((c:Int) !=43)=true:=Xam (by omega)
  have q3:((c:Int) !=95)=true:=Xam (by omega)
  have X:Hid (nmB c=(!low c&&!dig c)):=Hd (by unfold nmB nmC;rw[decide_eq_false h1,decide_eq_false h2,decide_eq_false h3];cases low c<;>cases dig c<;>rfl)
  clear h1 h2 h3
  cases pl
  ·rcases(by omega:c<48∨(48≤c∧c≤57)∨57<c) with h|⟨h,h'⟩|h
   all_goals
    go_enter Tryz.func215,Tryz.ntmps215
    go_wp2_with (go_at_call 213;refine(L.out _).mono ?_;rintro e w' ⟨rfl,rfl⟩)
    go_ret
    exact⟨Xa3 (by rw[HB.out,X.out,←HL.out,Bool.eq_iff_iff];simp[dig];try omega),rfl⟩
  ·go_enter Tryz.func215,Tryz.ntmps215
   go_wp2_with (go_at_call 213;refine(L.out _).mono ?_;rintro e w' ⟨rfl,rfl⟩)
   go_ret
   exact⟨Xa3 (by rw[HB.out,X.out,←HL.out];rfl),rfl⟩
set_option maxHeartbeats 1000000 in
theorem Yjn (w:World) (a:Option Addr) (cap:Nat) (l:List Nat) (hl:l.length≤maxLen) (hrd:Rd w a l):
    Calls Tryz.prog 238 #[.slice a l.length cap,.func (.func 215) #[] #[]] w (Yi0 (l.any nmB) w):=by
 unfold maxLen at hl
 obtain⟨n,hn⟩:∃n,n=l.length:=⟨_,rfl⟩
 rw[←hn] at hl⊢
 have HR:=Hd hrd;have HN:=Hd hn
 clear hrd hn
 go_enter Tryz.func238,Tryz.ntmps238
 go_wp2_with fail
 go_loopg [8] n (fun k i wr=>∃j:Nat,j≤n∧k=n-j∧i=.int .i64 (j:Int)∧Hid ((l.take j).any nmB=false)∧w=wr)
 case atStart=>exact⟨0,by omega,rfl,rfl,rfl,rfl⟩
 case round=>
  obtain⟨j,hj,rfl,rfl,ha,rfl⟩:=hrel
  by_cases h:j<n
  ·have hjl:j<l.length:=by rw[←HN.out];exact h
   obtain⟨b,off,rfl,hbl,hcl⟩:=HR.out.at_ (by omega)
   obtain⟨c,hc⟩:∃c,c=l.getD j 0:=⟨_,rfl⟩
   have hcj:l.getD j 0=l[j]:=by rw[List.getD_eq_getElem?_getD,List.getElem?_eq_getElem hjl,Option.getD_some]
   have hcc:w.cell? ⟨b,off+j,none⟩=some (.int .u8 (c:Int)):=by rw[hc,hcj];exact hcl j hjl
   have hc2:c<256:=by rw[hc,hcj];exact HR.out.lt _ (List.getElem_mem hjl)
   have HC:=Hd hc;have HJ:=Hd hjl
   clear hc hcl hcj hjl
   cases hp:nmB c
   ·have C:Hid (∀w,Calls Tryz.prog 215 #[.int .u8 (c:Int)] w fun e w'=>e=.returned (.bool false)∧w=w'):=fun w=>by rw[←hp];exact Xw8 w c hc2
    have HP:=Hd hp
    clear hp
    go_wp2_with (go_at_call 215;refine(C.out _).mono ?_;rintro e w' ⟨rfl,rfl⟩)
    go_roundg (n-(j+1))
    case measure=>omega
    case rel=>exact⟨j+1,by omega,rfl,by go_num,Xhc ha.out HJ.out HC.out HP.out,rfl⟩
   ·have C:Hid (∀w,Calls Tryz.prog 215 #[.int .u8 (c:Int)] w fun e w'=>e=.returned (.bool true)∧w=w'):=fun w=>by rw[←hp];exact Xw8 w c hc2
    have HP:=Hd hp
    clear hp
    go_wp2_with (go_at_call 215;refine(C.out _).mono ?_;rintro e w' ⟨rfl,rfl⟩)
    go_ret
    exact⟨_,rfl,(fun _=>by omega),(fun h=>by rw[Xif HJ.out HC.out HP.out] at h;cases h),rfl⟩
  ·go_wp2_with fail
   go_ret
   exact⟨_,rfl,(fun h'=>by rw[Xig ha.out (by rw[←HN.out];omega)] at h';cases h'),(fun _=>by decide),rfl⟩
theorem Yj0 (w:World) (a:Option Addr) (cap:Nat) (l:List Nat) (hl:l.length≤maxLen) (hrd:Rd w a l):
    Calls Tryz.prog 214 #[.slice a l.length cap,.func (.func 215) #[] #[]] w fun e w'=>e=.returned (.bool (l.any nmB))∧w=w':=by
 have C:=Hd (Yjn w a cap l hl hrd)
 obtain⟨b,hb⟩:∃b,b=l.any nmB:=⟨_,rfl⟩
 obtain⟨n,hn⟩:∃n,n=l.length:=⟨_,rfl⟩
 rw[←hb,←hn] at C⊢
 clear hb hn hl hrd
 go_enter Tryz.func214,Tryz.ntmps214
 go_wp2_with fail
 refine C.out.mono ?_
 rintro e w' ⟨m,rfl,h1,h2,rfl⟩
 cases b
 ·have h:=h2 rfl
  clear h1 h2 C
  go_wp2_with fail
  go_ret
  exact⟨Xa3 (by simp;omega),rfl⟩
 ·have h:=h1 rfl
  clear h1 h2 C
  go_wp2_with fail
  go_ret
  exact⟨rfl,rfl⟩
theorem Xy6 (s:ByteArray) (w:World):(convert 9 62 (.string s)).run Tryz.prog w=.ok (.slice (some ⟨w.heap.size,0,none⟩) s.size (grownCap w s.size 0 5))
      (w.drew.alloc (.cells (bytesRow s (grownCap w s.size 0 5)) 5 ((bytesRow s (grownCap w s.size 0 5)).size,(bytesRow s (grownCap w s.size 0 5)).size+1))):=
 run_bytes_of_string w 9 62 5 s Tryz.underlying9 Tryz.underlying62 Tryz.underlying5
theorem Yek (w:World) (s:ByteArray) (cap:Nat) (fz:Nat×Nat):Rd (w.drew.alloc (.cells (bytesRow s cap) 5 fz)) (some ⟨w.heap.size,0,none⟩) (bs s):=Yax w.drew s cap fz
theorem Xvg {B:Nat} {w w1:World} (h:Below B w w1) (hB:B≤w1.heap.size) (o:Obj):Below B w (w1.drew.alloc o):=h.drew.alloc hB o
theorem Xpd (s:ByteArray) (w:World):∃(W:World) (cap:Nat),(convert 9 62 (.string s)).run Tryz.prog w=.ok (.slice (some ⟨w.heap.size,0,none⟩) s.size cap) W∧
    Rd W (some ⟨w.heap.size,0,none⟩) (bs s)∧Below w.heap.size w W∧W.heap.size=w.heap.size+1:=
 ⟨_,_,Xy6 s w,Yek w s _ _,Xvg (Below.refl _ _) (Nat.le_refl _) _,by simp⟩
theorem Xrg (l:List Nat):(!l.any nmB)=l.all nmC:=by
 induction l with
 |nil=>rfl
 |cons a l ih=>simp only[List.any_cons,List.all_cons,←ih,nmB];cases nmC a<;>simp
set_option maxHeartbeats 1000000 in
theorem Ycf (s:ByteArray) (w:World) (hs:s.size≤1000000):
    Calls Tryz.prog 175 #[.string s] w fun e w'=>e=.returned (.bool (Xei (bs s)))∧Below w.heap.size w w':=by
 by_cases h0:s.size=0
 ·obtain rfl:=Xea h0
  clear h0 hs
  go_enter Tryz.func175,Tryz.ntmps175
  go_wp2_with fail
  go_ret
  exact⟨rfl,Below.refl _ _⟩
 ·have n0:=Xdr h0
  have E0:(bs s).isEmpty=false:=by
   rw[List.isEmpty_eq_false_iff];intro e;apply h0;rw[←Xaa,e];rfl
  by_cases h20:20<s.size
  ·have C:Hid (Xei (bs s)=false):=Hd (by unfold Xei;rw[Xaa,decide_eq_false (show¬s.size≤20 by omega)];simp)
   clear E0
   go_enter Tryz.func175,Tryz.ntmps175
   go_wp2_with fail
   go_ret
   exact⟨by rw[C.out];rfl,Below.refl _ _⟩
  ·obtain⟨c,hc⟩:∃c,c=(bs s).getD 0 0:=⟨_,rfl⟩
   have hc2:c<256:=by rw[hc];exact Xa8 s 0
   have x0:=Xzu s c hc (by omega)
   have L:=Hd (fun w=>Xsx w c hc2)
   have CM:Hid (Xei (bs s)=(low c&&!(bs s).any nmB)):=Hd (by unfold Xei;rw[E0,Xaa,decide_eq_true (show s.size≤20 by omega),←hc,Xrg];simp)
   have CF:Hid (∀(w:World) (a:Option Addr) (cap:Nat),Rd w a (bs s)→Calls Tryz.prog 214 #[.slice a s.size cap,.func (.func 215) #[] #[]] w fun e w'=>e=.returned (.bool ((bs s).any nmB))∧w=w'):=fun w a cap h=>by
    rw[←Xaa];exact Yj0 w a cap (bs s) (by rw[Xaa];unfold maxLen;omega) h
   obtain⟨pl,hpl⟩:∃x,x=low c:=⟨_,rfl⟩
   obtain⟨pa,hpa⟩:∃x,x=(bs s).any nmB:=⟨_,rfl⟩
   rw[←hpl] at L CM
   rw[←hpa] at CF CM
   obtain⟨W,cap,hconv,hrd,hbw,hsz⟩:=Xpd s w
   have HR:=Hd hrd;have HBW:=Hd hbw
   clear hc hpl hpa E0 h0 hs hrd hbw hsz
   cases pl
   ·go_enter Tryz.func175,Tryz.ntmps175
    go_wp2_with (go_at_call 213;refine(L.out _).mono ?_;rintro e w' ⟨rfl,rfl⟩)
    go_ret
    exact⟨by rw[CM.out];rfl,Below.refl _ _⟩
   ·go_enter Tryz.func175,Tryz.ntmps175
    go_wp2_with (first
     |(go_at_call 213;refine(L.out _).mono ?_;rintro e w' ⟨rfl,rfl⟩)
     |(go_at_call 214;refine(CF.out _ _ _ HR.out).mono ?_;rintro e w' ⟨rfl,rfl⟩))
    go_ret
    exact⟨by rw[CM.out];cases pa<;>rfl,HBW.out⟩
theorem Xw9 (s:ByteArray) (w:World) (hs:s.size≤1000000):
    Calls Tryz.prog 174 #[.string s] w fun e w'=>e=.returned (.bool (!Xei (bs s)))∧Below w.heap.size w w':=by
 have C:=Hd (Ycf s w hs)
 obtain⟨b,hb⟩:∃b,b=Xei (bs s):=⟨_,rfl⟩
 rw[←hb] at C⊢
 clear hb
 go_enter Tryz.func174,Tryz.ntmps174
 go_wp2_with fail
 refine C.out.mono ?_
 rintro e w1 ⟨rfl,hb1⟩
 have B1:=Hd hb1
 clear hb1 C
 go_wp2_with fail
 go_ret
 exact⟨rfl,B1.out⟩
end Go.Proofs.YtohmdledkhgdaaaGreatDoor
/- The shape of a content in memory: its cells, its lists of texts and of identities. -/
namespace Go.Proofs.YtohmdledkhgdaaaGreatDoor
open Go.RowKit Go.Maps
set_option linter.unusedVariables false
set_option maxRecDepth 100000
structure Cn where
 name:ByteArray
 author:List Nat
 date:Int
 groups:List ByteArray
 subject:ByteArray
 refs:List (List Nat)
 sup:List Nat
 ctl:ByteArray
 dist:ByteArray
 number:Int
 height:Int
 root:List Nat
 leaf:Int
 body:ByteArray
def Cn.p (c:Cn):Cont:=⟨bs c.name,c.author,c.date,c.groups.map bs,bs c.subject,c.refs,c.sup,bs c.ctl,bs c.dist,c.number,c.height,c.root,c.leaf,bs c.body⟩
structure B16 (l:List Nat):Prop where
 len:l.length=16
 lt:∀x∈l,x<256
structure Cn.Ok (c:Cn):Prop where
 author:B16 c.author
 root:B16 c.root
 sup:IdOk c.sup
 refs:∀x∈c.refs,IdOk x
 date:(Lit.int .i64 c.date).wf=true
 number:(Lit.int .i64 c.number).wf=true
 height:(Lit.int .i64 c.height).wf=true
 leaf:(Lit.int .i64 c.leaf).wf=true
def Cn.cells (c:Cn) (gv rv:Value):Array Value:=
 (([.string c.name]:List Value)++(c.author.map U++(([.int .i64 c.date,gv,.string c.subject,rv]:List Value)++(c.sup.map U++(([.string c.ctl,.string c.dist,.int .i64 c.number,.int .i64 c.height]:List Value)++(c.root.map U++([.int .i64 c.leaf,.string c.body]:List Value))))))).toArray
theorem Xrf (X:List Value) (l:List Nat) (Y:List Value) (n:Nat) (hn:X.length=n):∀j u,(idA l)[j]?=some u→(X++(l.map U++Y)).toArray[n+j]?=some u:=by
 have:=Yit X l Y n hn
 simpa [List.append_assoc] using this
theorem Xe6 (c:Cn) (gv rv:Value):(c.cells gv rv)[0]?=some (.string c.name):=rfl
theorem Xo8 (c:Cn) (gv rv:Value):∀j u,(idA c.author)[j]?=some u→(c.cells gv rv)[1+j]?=some u:=Xrf _ _ _ 1 rfl
section
variable {c:Cn} (h:c.Ok) (gv rv:Value)
include h
theorem Xb1:(c.cells gv rv).size=75:=by simp[Cn.cells,h.author.len,h.root.len,h.sup.len]
theorem Xcn:(c.cells gv rv)[17]?=some (.int .i64 c.date):=by simp[Cn.cells,h.author.len,h.root.len,h.sup.len]
theorem Xgv:(c.cells gv rv)[18]?=some gv:=by simp[Cn.cells,h.author.len,h.root.len,h.sup.len]
theorem Xct:(c.cells gv rv)[19]?=some (.string c.subject):=by simp[Cn.cells,h.author.len,h.root.len,h.sup.len]
theorem Xhz:(c.cells gv rv)[20]?=some rv:=by simp[Cn.cells,h.author.len,h.root.len,h.sup.len]
theorem Xc8:(c.cells gv rv)[53]?=some (.string c.ctl):=by simp[Cn.cells,h.author.len,h.root.len,h.sup.len]
theorem Xdn:(c.cells gv rv)[54]?=some (.string c.dist):=by simp[Cn.cells,h.author.len,h.root.len,h.sup.len]
theorem Xdy:(c.cells gv rv)[55]?=some (.int .i64 c.number):=by simp[Cn.cells,h.author.len,h.root.len,h.sup.len]
theorem Xe3:(c.cells gv rv)[56]?=some (.int .i64 c.height):=by simp[Cn.cells,h.author.len,h.root.len,h.sup.len]
theorem Xev:(c.cells gv rv)[73]?=some (.int .i64 c.leaf):=by simp[Cn.cells,h.author.len,h.root.len,h.sup.len]
theorem Xgu:(c.cells gv rv)[74]?=some (.string c.body):=by simp[Cn.cells,h.author.len,h.root.len,h.sup.len]
theorem Yij:∀j u,(idA c.sup)[j]?=some u→(c.cells gv rv)[21+j]?=some u:=by
 have:=Xrf (([.string c.name]:List Value)++(c.author.map U++([.int .i64 c.date,gv,.string c.subject,rv]:List Value))) c.sup (([.string c.ctl,.string c.dist,.int .i64 c.number,.int .i64 c.height]:List Value)++(c.root.map U++([.int .i64 c.leaf,.string c.body]:List Value))) 21 (by simp[h.author.len])
 simpa [Cn.cells,List.append_assoc] using this
theorem Xyy:∀j u,(idA c.root)[j]?=some u→(c.cells gv rv)[57+j]?=some u:=by
 have:=Xrf (([.string c.name]:List Value)++(c.author.map U++(([.int .i64 c.date,gv,.string c.subject,rv]:List Value)++(c.sup.map U++([.string c.ctl,.string c.dist,.int .i64 c.number,.int .i64 c.height]:List Value))))) c.root ([.int .i64 c.leaf,.string c.body]:List Value) 57 (by simp[h.author.len,h.sup.len])
 simpa [Cn.cells,List.append_assoc] using this
theorem Xyz:∀j u,((.int .i64 c.height::c.root.map U:List Value).toArray)[j]?=some u→(c.cells gv rv)[56+j]?=some u:=by
 intro j u hu
 cases j with
 |zero=>rw[←hu];exact Xe3 h gv rv
 |succ j=>
  have:=Xyy h gv rv j u (by simpa [idA] using hu)
  rw[show 56+(j+1)=57+j by omega]
  exact this
end
def SRow (w:World) (v:Value) (gs:List ByteArray):Prop:=
 ∃a cap,v=.slice a gs.length cap∧gs.length≤cap∧(gs≠[]→∃b off,a=some ⟨b,off,none⟩∧b<w.heap.size∧∀j (h:j<gs.length),w.cell? ⟨b,off+j,none⟩=some (.string gs[j]))
def IRow (w:World) (v:Value) (ids:List (List Nat)):Prop:=
 ∃a cap,v=.slice a ids.length cap∧ids.length≤cap∧(ids≠[]→∃b off,a=some ⟨b,off,none⟩∧b<w.heap.size∧∀j (h:j<ids.length) k u,(idA ids[j])[k]?=some u→w.cell? ⟨b,off+j*32+k,none⟩=some u)
theorem SRow.below {w w':World} {v:Value} {gs:List ByteArray} (h:SRow w v gs) (hb:Below w.heap.size w w'):SRow w' v gs:=by
 obtain⟨a,cap,h1,h2,h3⟩:=h
 refine⟨a,cap,h1,h2,fun hne=>?_⟩
 obtain⟨b,off,h4,h5,h6⟩:=h3 hne
 exact⟨b,off,h4,Nat.lt_of_lt_of_le h5 hb.size,fun j hj=>(hb.cell (p:=⟨b,off+j,none⟩) h5).trans (h6 j hj)⟩
theorem IRow.below {w w':World} {v:Value} {ids:List (List Nat)} (h:IRow w v ids) (hb:Below w.heap.size w w'):IRow w' v ids:=by
 obtain⟨a,cap,h1,h2,h3⟩:=h
 refine⟨a,cap,h1,h2,fun hne=>?_⟩
 obtain⟨b,off,h4,h5,h6⟩:=h3 hne
 exact⟨b,off,h4,Nat.lt_of_lt_of_le h5 hb.size,fun j hj k u hu=>(hb.cell (p:=⟨b,off+j*32+k,none⟩) h5).trans (h6 j hj k u hu)⟩
end Go.Proofs.YtohmdledkhgdaaaGreatDoor
/- ascii.Hex, control.AuthorText. -/
namespace Go.Proofs.YtohmdledkhgdaaaGreatDoor
open Go.RowKit
set_option linter.unusedVariables false
set_option maxRecDepth 100000
def OW (B:Nat) (xs:List Nat) (v:Value) (w:World):Prop:=w.ownsRow B 5 1 v xs.length (xs.map U)
theorem OW.app {B:Nat} {xs ys:List Nat} {v':Value} {w1:World} {m:Nat} {news:List Value} (hm:m=ys.length) (hn:news=ys.map U) (h:w1.ownsRow B 5 1 v' (xs.length+m) (xs.map U++news)):OW B (xs++ys) v' w1:=by
 subst hm hn;unfold OW;rw[List.length_append,List.map_append];exact h
theorem Xfl {B B':Nat} {w wr w1:World} {xs:List Nat} {v:Value} {o:Obj} (hb:Below B w wr) (hB:B≤wr.heap.size) (hBB:B≤B') (hown:OW B' xs v wr) (hg:(wr.alloc o).grownBy w1 v.ownBlock):Below B w w1:=
 Below.grown (hb.alloc hB o) hg (by simp;omega) (fun k hk=>Nat.le_trans hBB (hown.lt k hk).1)
theorem Xcm {l:List Nat} {k c:Nat} (hk:k<l.length) (hc:c=l.getD k 0):Xbz (l.take (k+1))=Xbz (l.take k)++[hxl (c/16),hxl (c%16)]:=by
 rw[List.getD_eq_getElem?_getD,List.getElem?_eq_getElem hk,Option.getD_some] at hc
 rw[List.take_succ_eq_append_getElem hk,Xbz,Xbz,List.flatMap_append,←hc];simp
theorem Xbs (l:List Nat):(Xbz l).length=2*l.length:=by
 induction l with
 |nil=>rfl
 |cons a l ih=>simp only[Xbz,List.flatMap_cons,List.length_append,List.length_cons,List.length_nil] at ih⊢;omega
theorem Yh2 {k:Nat} (h:k<16):hxl k<256:=by unfold hxl;split<;>omega
theorem Xx1 {l:List Nat} (h:∀x∈l,x<256):∀x∈Xbz l,x<256:=by
 intro x hx
 obtain⟨b,hb,hx⟩:=List.mem_flatMap.1 hx
 have:=h b hb
 simp at hx
 rcases hx with rfl|rfl<;>exact Yh2 (by omega)
theorem Xiw (k:Nat) (i:Int) (hi:i=k) (hk:k<16) (w:World):(Instr.index 9 (.string ⟨#[48,49,50,51,52,53,54,55,56,57,97,98,99,100,101,102]⟩) (.int .u8 i)).run Tryz.prog w=.ok (.int .u8 ((hxl k:Nat):Int)) w:=by
 rw[Xa7 9 Tryz.underlying9 ⟨#[48,49,50,51,52,53,54,55,56,57,97,98,99,100,101,102]⟩ .u8 i k hi hk]
 have:∀k:Fin 16,(bs ⟨#[48,49,50,51,52,53,54,55,56,57,97,98,99,100,101,102]⟩).getD k.val 0=hxl k.val:=by decide+kernel
 rw[this ⟨k,hk⟩]
theorem Xl4 (q:Nat) (h:q<256):Go.bits .and .u8 (q:Int) 15=((q%16:Nat):Int):=by
 have:∀q:Fin 256,Go.bits .and .u8 ((q.val:Nat):Int) 15=((q.val%16:Nat):Int):=by decide+kernel
 exact this ⟨q,h⟩
set_option maxHeartbeats 2000000 in
theorem Yfi (w:World) (a:Option Addr) (cap:Nat) (l:List Nat) (hl:l.length≤100000) (hrd:Rd w a l):
    Calls Tryz.prog 177 #[.slice a l.length cap] w fun e w'=>e=.returned (.string (Xaq (Xbz l)))∧Below w.heap.size w w':=by
 obtain⟨i0,hi0,hz0,hz1,hz2⟩:=info_parts Xio
 obtain⟨n,hn⟩:∃n,n=l.length:=⟨_,rfl⟩
 obtain⟨p,hp⟩:∃p,p=w.heap.size:=⟨_,rfl⟩
 rw[←hn] at hl⊢
 have HR:=Hd hrd;have HN:=Hd hn;have HP:=Hd hp
 clear hrd hn
 go_enter Tryz.func177,Tryz.ntmps177
 go_wp2_with (at_make;refine Xb8 _ rfl _ _ _ rfl 5 i0 _ 1 Tryz.underlying62 hi0 hz0 hz1 .i64 .i64 _ _ 0 (2*n) rfl rfl rfl (by omega) (by omega) (by rw[hz2];omega) (by unfold maxLen;omega) ?_;intro cs hcs)
 have a1:=World.ownsRow_made (base:=w.heap.size) (e:=5) (size:=1) w cs (2*n) (Nat.le_refl _) (by unfold maxLen;omega) hcs
 rw[←hp] at a1⊢
 have A1:=Hd a1
 clear a1 hp hcs
 go_loopg [3,5,12] n (fun k v c i wr=>∃j:Nat,j≤n∧k=n-j∧i=.int .i64 (j:Int)∧OW p (Xbz (l.take j)) v wr∧Below w.heap.size w wr)
 case atStart=>exact⟨0,by omega,rfl,rfl,A1.out,(Below.refl _ _).alloc (Nat.le_refl _) _⟩
 case round=>
  obtain⟨j,hj,rfl,rfl,hown,hbw⟩:=hrel
  by_cases h:j<n
  ·have hjl:j<l.length:=by rw[←HN.out];exact h
   obtain⟨c,hc⟩:∃c,c=l.getD j 0:=⟨_,rfl⟩
   have hcj:l.getD j 0=l[j]:=by rw[List.getD_eq_getElem?_getD,List.getElem?_eq_getElem hjl,Option.getD_some]
   obtain⟨b,off,rfl,hbl,hcl⟩:=HR.out.at_ (by omega)
   have hc2:c<256:=by rw[hc,hcj];exact HR.out.lt _ (List.getElem_mem hjl)
   have hcc:wr.cell? ⟨b,off+j,none⟩=some (.int .u8 (c:Int)):=by rw[hbw.cell (p:=⟨b,off+j,none⟩) hbl,hc,hcj];exact hcl j hjl
   have hst:=Xcm hjl hc
   have hlen:(Xbz (l.take j)).length≤200000:=by rw[Xbs,List.length_take];omega
   have hsz:w.heap.size≤wr.heap.size:=hbw.size
   have ST:=Hd hst;have HO:=Hd hown;have HB:=Hd hbw
   clear hst hown hbw hc hcl hcj hjl
   obtain⟨xs,hxs⟩:∃xs,xs=Xbz (l.take j):=⟨_,rfl⟩
   rw[←hxs] at ST HO hlen
   clear hxs
   obtain⟨x,ha⟩:∃a,a=c/16:=⟨_,rfl⟩
   obtain⟨y,hb⟩:∃b,b=c%16:=⟨_,rfl⟩
   have i1:=fun w=>Xiw x (x:Int) rfl (by omega) w
   have i2:=fun w=>Xiw y (y:Int) rfl (by omega) w
   have s1:(c:Int)/16=(x:Int):=by omega
   have s2:Go.bits .and .u8 (c:Int) 15=(y:Int):=by rw[hb];exact Xl4 c hc2
   rw[←ha,←hb] at ST
   have fin:∀(v':Value) (w1:World) (o:Obj),w1.ownsRow p 5 1 v' (xs.length+2) (xs.map U++[U (hxl x),U (hxl y)])→(wr.drew.alloc o).grownBy w1 u3.ownBlock→OW p (Xbz (l.take (j+1))) v' w1∧Below w.heap.size w w1:=by
    intro v' w1 o ho hg
    refine⟨?_,Xfl HB.out.drew hsz (by rw[HP.out];exact Nat.le_refl _) HO.out.drew hg⟩
    rw[ST.out];exact OW.app (ys:=[hxl x,hxl y]) rfl rfl ho
   have FIN:=Hd fin
   have hpz:p≤wr.heap.size:=by rw[HP.out];exact hsz
   clear ha hb fin
   go_wp2_with fail
   clear hcc
   go_region_law ((refine step_append_lies _ (by rfl) _ _ _ (by rfl) p 5 i0 _ 1 1 Tryz.underlying62 hi0 hz0 hz1 hz2 rfl (by omega) u3 xs.length (xs.map U) (by rfl) ((HO.out.drew).alloc _) ⟨wr.heap.size,0,none⟩ 2 2 [.int .u8 (hxl x),.int .u8 (hxl y)] (by rfl) (by rfl) (World.news_of_block (cs:=#[.int .u8 (hxl x),.int .u8 (hxl y)]) (t:=5) (fr:=(0,0)) (heap_alloc_new wr _)) (by simp[Value.oneCell']) (by omega) (by unfold maxLen;omega) (by omega) (by simp;omega) (wr.heap.size+1) (by simp) ?_;intro gg cap' w1 hown1 hgrow hat hlt2))
   all_goals
    have F1:=Hd (FIN.out _ w1 _ hown1 hgrow)
    clear hown1 hgrow hat hlt2
    go_wp2_with fail
    go_roundg (n-(j+1))
    case measure=>omega
    case rel=>exact⟨j+1,by omega,rfl,by go_num,F1.out.1,F1.out.2⟩
  ·have hall:l.take j=l:=List.take_of_length_le (by rw[←HN.out];omega)
   rw[hall] at hown
   have hcv2:=Xmq (P:=Tryz.prog) 62 9 Tryz.underlying62 Tryz.underlying5 Tryz.underlying9 hown
   have HB:=Hd hbw
   clear hall hown hbw
   go_wp2_with fail
   go_ret
   exact⟨rfl,HB.out⟩
end Go.Proofs.YtohmdledkhgdaaaGreatDoor
