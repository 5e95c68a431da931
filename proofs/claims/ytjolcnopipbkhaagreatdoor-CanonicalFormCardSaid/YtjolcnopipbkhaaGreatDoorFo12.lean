/- references.Parse. -/
import Derived.Test.YtjolcnopipbkhaaGreatDoorFo11
namespace Go.Proofs.YtjolcnopipbkhaaGreatDoor
open Go.Proofs.Tryz
open Go.RowKit Go.Maps
set_option linter.unusedVariables false
set_option maxHeartbeats 100000000
set_option maxRecDepth 100000
theorem Ye9:∀l:List Value,l.length=32→prog.builtSlice 26 1 [(0,.agg l.toArray)]=some l.toArray
 |[a0,a1,a2,a3,a4,a5,a6,a7,a8,a9,a10,a11,a12,a13,a14,a15,a16,a17,a18,a19,a20,a21,a22,a23,a24,a25,a26,a27,a28,a29,a30,a31],_=>by kernel_rfl
theorem Xrp {w:World}{base n sz:Nat}{T:TypeId}{v:Value}{xs:List Value}(h:w.ownsRow base T sz v n xs):∃(va:Option Addr) (vc:Nat),v=.slice va n vc:=by
 rcases h.2 with⟨rfl,h0⟩|⟨g,cap,cur,rfl,r⟩
 ·exact⟨none,0,by rw[h0]⟩
 ·exact⟨_,cap,rfl⟩
theorem Xn8 (w:World):IRow w (.slice none 0 0) []:=⟨none,0,rfl,zL _,fun h=>absurd rfl h⟩
theorem Xk7 (w:World)(c:Nat)(hc:c<256):Rx 150 #[.int .u8 (c:Int)] w (.bool (blk c)):=by
 rcases(by omega:c=32∨c=9∨(c≠32∧c≠9)) with rfl|rfl|⟨h1,h2⟩
 ·go_enter func150,ntmps150
  go_wp2_with fail
  go_ret
  exact⟨rfl,rfl⟩
 ·go_enter func150,ntmps150
  go_wp2_with fail
  go_ret
  exact⟨rfl,rfl⟩
 ·have e1:((c:Int)==32)=false:=Xaj (by omega)
  have e2:((c:Int)==9)=false:=Xaj (by omega)
  have e3:blk c=false:=by unfold blk;rw[zW h1,zW h2];rfl
  rw[e3]
  clear e3
  go_enter func150,ntmps150
  go_wp2_with fail
  go_ret
  exact⟨rfl,rfl⟩
theorem Xm2 {l:List Nat}{f:Nat}(h:f<l.length):l.drop f=l.getD f 0::l.drop (f+1):=by
 rw[List.drop_eq_getElem_cons h];simp[List.getD,h]
theorem Ygo {l:List Nat}{f t:Nat}(ht:f≤t)(htl:t≤l.length)(hg:∀q,f≤q→q<t→blk (l.getD q 0)=false)(hend:t=l.length∨blk (l.getD t 0)=true):
    (l.take t).drop f=(l.drop f).takeWhile (fun x=>!blk x)∧l.drop t=(l.drop f).dropWhile (fun x=>!blk x):=by
 have e:l.drop f=(l.take t).drop f++l.drop t:=by
  conv=>lhs;rw[←List.take_append_drop t l]
  rw[List.drop_append_of_le_length (by rw[List.length_take];omega)]
 have hb:l.drop t=[]∨∃c u,l.drop t=c::u∧(!blk c)=false:=by
  rcases hend with h|h
  ·left;rw[h,List.drop_length]
  ·by_cases h2:t=l.length
   ·left;rw[h2,List.drop_length]
   ·right;exact⟨_,_,Xm2 (by omega),by rw[h];rfl⟩
 obtain⟨h1,h2⟩:=Xte (fun x=>!blk x) ((l.take t).drop f) (l.drop t) (fun c hc=>by
  obtain⟨q,hq,rfl⟩:=List.mem_iff_getElem.1 hc
  rw[List.length_drop,List.length_take] at hq
  have:=hg (f+q) (by omega) (by omega)
  rw[List.getElem_drop,List.getElem_take]
  simp[List.getD,show f+q<l.length by omega] at this
  simpa using this) hb
 rw[←e] at h1 h2
 exact⟨h1.symm,h2.symm⟩
def Yje (l:List Nat)(w:World)(e:Ending)(w':World):Prop:=
 ∃(v:Value) (ids:List (List Nat)) (a:Int) (er:Nat),e=.returned (.tuple #[v,.int .i64 a,.int .i64 (er:Int)])∧IRow w' v ids∧(∀x∈ids,IdOk x)∧ids.length≤20∧((rpL [] l=some ids∧er=0)∨(rpL [] l=none∧er≠0))∧(∀k,v.ownBlock=some k→w.heap.size≤k)∧Bw w w'
theorem Xyg (s:ByteArray)(w:World)(hs:s.size≤1000000):
    Calls prog 101 #[.string s] w (Yje (bs s) w):=by
 have LEN:=Hd (Xaa s)
 obtain⟨i0,hi0,hz0,hz1,hz2⟩:=info_parts Xzy
 have hmm:=@run_makeMap prog
 go_enter func101,ntmps101
 go_wp2_with fail
 clear hmm
 go_loopg [2,6,7,8,9,10,11] s.size (fun k v vf v7 v8 v9 v10 v11 wr=>∃(f:Nat) (acc:List (List Nat)) (va:Option Addr) (vc:Nat),f≤s.size∧k=s.size-f∧vf=.int .i64 (f:Int)∧v=.slice va acc.length vc∧Hid (rpL [] (bs s)=rpL acc ((bs s).drop f))∧Hid (∀x∈acc,IdOk x)∧acc.length≤20∧Hid (MId wr w.heap.size acc)∧Hid (wr.ownsRow (w.heap.size+1) 26 32 v acc.length (Xbi acc))∧Hid (Bw w wr))
 case atStart=>exact⟨0,[],none,0,by omega,rfl,rfl,rfl,Hd rfl,Hd (by simp),by simp,Hd (MId.made w),Hd (World.ownsRow_nil _ _ _ _),Hd ((zR _ _).alloc (zL _) _)⟩
 case round=>
  obtain⟨f,acc,va,vc,hf,rfl,rfl,rfl,hlaw,hok,h20,hm,ho,hb⟩:=hrel
  by_cases hlt:f<s.size
  ·obtain⟨c,hc⟩:=xq ((bs s).getD f 0)
   have hc2:c<256:=by rw[hc];exact Xba s f
   have xf:∀w,(Instr.index 9 (.string s) (.int .i64 (f:Int))).run prog w=.ok (.int .u8 (c:Int)) w:=fun w=>by rw[Xa5 9 underlying9 s .i64 f f rfl hlt,hc]
   have IB:=Hd (fun w=>Xk7 w c hc2)
   have DR:Hid ((bs s).drop f=c::(bs s).drop (f+1)):=Hd (by rw[hc];exact Xm2 (by rw[LEN.o];exact hlt))
   have HC:=Hd hc
   by_cases hbk:blk c=true
   ·have LAW2:Hid (rpL [] (bs s)=rpL acc ((bs s).drop (f+1))):=Hd (by rw[hlaw.o,DR.o,Xpe hbk])
    rw[hbk] at IB
    have v1:IntKind.i64.wrap ((f:Int)+1)=(f:Int)+1:=IntWalk.i64_in _ (by omega)
    clear hbk hc hlaw DR
    go_wp2_with (go_at_call 150;refine(IB.o _).mono ?_;rintro e w' ⟨rfl,rfl⟩)
    go_roundg (s.size-(f+1))
    case measure=>omega
    case rel=>exact⟨f+1,acc,va,vc,by omega,rfl,by go_num,rfl,LAW2,hok,h20,hm,ho,hb⟩
   have hbk':blk c=false:=by simpa using hbk
   rw[hbk'] at IB
   have HBK:=Hd hbk'
   clear hbk hbk' hc
   go_wp2_with (go_at_call 150;refine(IB.o _).mono ?_;rintro e w' ⟨rfl,rfl⟩)
   clear IB xf
   go_loopg [7] (s.size-f) (fun k vt wi=>∃t:Nat,f≤t∧t≤s.size∧k=s.size-t∧vt=.int .i64 (t:Int)∧Hid (∀q,f≤q→q<t→blk ((bs s).getD q 0)=false)∧wr=wi)
   case atStart=>exact⟨f,by omega,by omega,rfl,rfl,Hd (fun q h1 h2=>by omega),rfl⟩
   case round=>
    obtain⟨t,hft,hts,rfl,rfl,hg,rfl⟩:=hrel
    obtain⟨q,hq⟩:=xq ((decide (t<s.size)&&!blk ((bs s).getD t 0)))
    go_upto_region 7 with fail
    go_cut [34] from 24 to 33 (fun v wx=>v=.bool q∧wr=wx)
    case first=>
     by_cases h:t<s.size
     ·obtain⟨d,hd⟩:=xq ((bs s).getD t 0)
      have hd2:d<256:=by rw[hd];exact Xba s t
      have xt:∀w,(Instr.index 9 (.string s) (.int .i64 (t:Int))).run prog w=.ok (.int .u8 (d:Int)) w:=fun w=>by rw[Xa5 9 underlying9 s .i64 t t rfl h,hd]
      have IB:=Hd (fun w=>Xk7 w d hd2)
      have hqv:Hid (q=!blk d):=Hd (by rw[hq,←hd,zT h];rfl)
      have d1:decide ((t:Int)<(s.size:Int))=true:=by simpa using h
      clear hd hq
      cases hb2:blk d
      ·rw[hb2] at IB hqv
       go_wp2_with (go_at_call 150;refine(IB.o _).mono ?_;rintro e w' ⟨rfl,rfl⟩)
       go_meet
       exact⟨by rw[hqv.o];rfl,rfl⟩
      ·rw[hb2] at IB hqv
       go_wp2_with (go_at_call 150;refine(IB.o _).mono ?_;rintro e w' ⟨rfl,rfl⟩)
       go_meet
       exact⟨by rw[hqv.o];rfl,rfl⟩
     ·have hqv:Hid (q=false):=Hd (by rw[hq,zW h];rfl)
      have d1:decide ((t:Int)<(s.size:Int))=false:=by simpa using h
      clear hq
      go_wp2_with fail
      go_meet
      exact⟨by rw[hqv.o],rfl⟩
    case rest=>
    obtain⟨rfl,hw⟩:=hcut
    subst hw
    cases q
    case true=>
     have hq2:=hq.symm
     rw[Bool.and_eq_true,decide_eq_true_iff] at hq2
     obtain⟨h1,h2⟩:=hq2
     have G2:Hid (∀q,f≤q→q<t+1→blk ((bs s).getD q 0)=false):=Hd (fun q h3 h4=>by
      by_cases e:q=t
      ·rw[e];simpa using h2
      ·exact hg.o q h3 (by omega))
     have v1:IntKind.i64.wrap ((t:Int)+1)=(t:Int)+1:=IntWalk.i64_in _ (by omega)
     clear hq h2 hg
     go_wp2_with fail
     go_roundg (s.size-(t+1))
     case measure=>omega
     case rel=>exact⟨t+1,by omega,by omega,rfl,by go_num,G2,rfl⟩
    have HEND:t=(bs s).length∨blk ((bs s).getD t 0)=true:=by
     rw[LEN.o]
     by_cases h:t<s.size
     ·right
      rw[zT h] at hq
      cases hb2:blk ((bs s).getD t 0)
      ·rw[hb2] at hq;cases hq
      ·rfl
     ·left;omega
    have hlt2:f<t:=by
     rcases Nat.lt_or_ge f t with h|h
     ·exact h
     ·obtain rfl:t=f:=by omega
      rcases HEND with h|h
      ·rw[LEN.o] at h;omega
      ·rw[←HC.o,HBK.o] at h;cases h
    obtain⟨WA,WB⟩:=Ygo (Nat.le_of_lt hlt2) (by rw[LEN.o];exact hts) hg.o HEND
    obtain⟨wd,hwd⟩:=xq (s.extract f t)
    have WBS:bs wd=((bs s).take t).drop f:=by rw[hwd,Xbz]
    have wz:wd.size≤s.size:=by
     have:=congrArg List.length WBS
     rw[Xaa,List.length_drop,List.length_take,LEN.o] at this;omega
    have STEP:Hid (rpL [] (bs s)=if acc.length=20 then none else match Xfl (bs wd) with|none=>none|some id=>if cnF acc id≠0 then none else rpL (acc++[id]) ((bs s).drop t)):=Hd (by
     rw[hlaw.o,DR.o]
     rw[DR.o] at WA WB
     exact Xtz HBK.o (by rw[WBS];exact WA) WB)
    have MP:=Hd (Xio wd wr (by omega))
    have hsl:s.extract f t=wd:=hwd.symm
    have x0:(0:Int)≤(f:Int):=by omega
    have x1:(f:Int)≤(t:Int):=by omega
    have x2:(t:Int)≤(s.size:Int):=by omega
    clear hq WA WB WBS hg HEND hlaw HC DR
    by_cases e20:acc.length=20
    ·have F:Hid (rpL [] (bs s)=none):=Hd (by rw[STEP.o,qP e20])
     have q1:((acc.length:Int)==20)=true:=Xa4 (by omega)
     clear STEP MP e20 hwd
     go_wp2_with fail
     go_ret3
     exact⟨_,[],_,9,rfl,Xn8 _,by simp,by simp,.inr ⟨F.o,by decide⟩,(fun k hk=>by cases hk),hb.o⟩
    have q1:((acc.length:Int)==20)=false:=Xaj (by omega)
    have STEP2:Hid (rpL [] (bs s)=match Xfl (bs wd) with|none=>none|some id=>if cnF acc id≠0 then none else rpL (acc++[id]) ((bs s).drop t)):=Hd (by rw[STEP.o,qN e20])
    clear STEP hwd
    go_wp2_with fail
    refine MP.o.mono ?_
    rintro e w1 ⟨ao,er,hmid,hb1⟩
    have hpost:∃(id:List Nat) (er':Int),e=.returned (.tuple #[.agg (idA id),.int .i64 ao,.int .i64 er'])∧IdOk id∧((Xfl (bs wd)=none∧er'≠0)∨(Xfl (bs wd)=some id∧er'=0)):=by
     cases hp:Xfl (bs wd) with
     |none=>rw[hp] at hmid;exact⟨zero32,er,hmid.1,zero_ok,.inl ⟨rfl,hmid.2⟩⟩
     |some i=>rw[hp] at hmid;exact⟨i,0,hmid,Xmp hp,.inr ⟨rfl,rfl⟩⟩
    clear hmid MP
    obtain⟨id,er',rfl,hio,hcase⟩:=hpost
    have IOK:=Hd hio
    obtain⟨cs,hcs⟩:=xq (idA id)
    rw[←hcs]
    have CSZ:Hid (cs.size=32):=Hd (by rw[hcs,Xag];exact hio.len)
    have STN:Hid (∀zz:Array Value,zz.size=32→Sv 26 ⟨w1.heap.size,0,none⟩ (.agg cs) (w1.alloc (.cells zz 26)) (w1.alloc (.cells cs 26))):=Hd (fun zz hz=>run_storeVar_new w1 26 zz cs (by rw[CSZ.o];exact Xa3) (by rw[hz,CSZ.o]) (by rw[hcs];exact Xdf _))
    have hb5:Bw wr (w1.alloc (.cells cs 26)):=hb1.alloc hb1.size _
    have P5:Hid ((w1.alloc (.cells cs 26)).heap[w1.heap.size]?=some (.cells cs 26 (0,0))):=Hd (heap_alloc_last w1 _)
    have M5:=Hd (hm.o.below hb5)
    have O5:=Hd (Xd1 ho.o hb5)
    have B5:=bh hb hb5
    have GW:Hid (w.heap.size+1≤w1.heap.size):=Hd (by have:=hm.o.lt;have:=hb1.size;omega)
    rcases hcase with⟨hn,he⟩|⟨hn,rfl⟩
    ·have F:Hid (rpL [] (bs s)=none):=Hd (by rw[STEP2.o,hn])
     have q2:(er' !=0)=true:=Xam he
     clear STEP2 hn he hb1 hb5 hcs hio
     go_wp2_with ((with_reducible refine Xab 26 rfl _ _ rfl ?_);refine⟨_,_,_,rfl,rfl,STN.o _ rfl,?_⟩)
     go_ret3
     exact⟨_,[],_,3,rfl,Xn8 _,by simp,by simp,.inr ⟨F.o,by decide⟩,(fun k hk=>by cases hk),B5.o⟩
    have STEP3:Hid (rpL [] (bs s)=if cnF acc id≠0 then none else rpL (acc++[id]) ((bs s).drop t)):=Hd (by rw[STEP2.o,hn])
    have HCS:=Hd hcs
    clear STEP2 hn hb1 hb5 hcs
    go_upto_region 14 with((with_reducible refine Xab 26 rfl _ _ rfl ?_);refine⟨_,_,_,rfl,rfl,STN.o _ rfl,?_⟩)
    obtain⟨w6,hw6⟩:=xq (w1.alloc (.cells cs 26))
    obtain⟨g,hg⟩:=xq w1.heap.size
    rw[←hw6] at P5 M5 O5 B5⊢
    rw[←hg] at P5 GW⊢
    clear hw6 hg STN
    have LD:=Hd (run_loadVar_row w6 g _ 26 cs _ _ P5.o underlying26 rfl (by rw[CSZ.o];exact Xa3))
    have CN:=Hd (Xqm w6 w.heap.size acc M5.o hok.o hio)
    rw[←HCS.o] at CN
    obtain⟨m,hmm⟩:=xq (cnF acc id)
    unfold Yb5 at CN
    rw[←hmm] at CN STEP3
    clear hmm hm ho hb
    refine wp_region_list ?_
    simp only[]
    refine Xac 26 rfl _ rfl ⟨_,_,rfl,LD.o,?_⟩
    go_wp2_with fail
    refine CN.o.mono ?_
    rintro e w7 ⟨rfl,h1,f1⟩
    have B7:Hid (Bw w w7):=Hd (B5.o.trans (f1.below B5.o.size (zL _)))
    by_cases m0:m=0
    ·have q0:((m:Int) !=0)=false:=Xau (by omega)
     have M7:Hid (MId w7 w.heap.size (acc++[id])):=Hd (h1 m0)
     have LAW7:Hid (rpL [] (bs s)=rpL (acc++[id]) ((bs s).drop t)):=Hd (by rw[STEP3.o,qN (by omega)])
     have P7:Hid (w7.heap[g]?=some (.cells cs 26 (0,0))):=Hd ((f1.other g (zY P5.o) (by have:=GW.o;omega)).trans P5.o)
     have O7:=Hd (Xkq O5.o f1 (by omega))
     have LD7:=Hd (run_loadVar_row w7 g _ 26 cs _ _ P7.o underlying26 rfl (by rw[CSZ.o];exact Xa3))
     have BS:Hid (prog.builtSlice 26 1 [((0:Nat),Value.agg cs)]=some cs):=Hd (by have:=Ye9 cs.toList (by simpa using CSZ.o);simpa using this)
     have TS:Hid (Xbi (acc++[id])=Xbi acc++cs.toList):=Hd (by rw[Xi8,HCS.o];rfl)
     have ONE:Hid (∀u∈cs.toList,u.oneCell'=true):=Hd (fun u hu=>by rw[HCS.o] at hu;exact(Array.all_eq_true'.1 (Xdf id)) u (by simpa using hu))
     have FO:Hid (Array.foldl (fun(cs:Array Value) (x:Value×Nat)=>cs.setIfInBounds x.snd x.fst) #[Value.int .u8 0,.int .u8 0,.int .u8 0,.int .u8 0,.int .u8 0,.int .u8 0,.int .u8 0,.int .u8 0,.int .u8 0,.int .u8 0,.int .u8 0,.int .u8 0,.int .u8 0,.int .u8 0,.int .u8 0,.int .u8 0,.int .u8 0,.int .u8 0,.int .u8 0,.int .u8 0,.int .u8 0,.int .u8 0,.int .u8 0,.int .u8 0,.int .u8 0,.int .u8 0,.int .u8 0,.int .u8 0,.int .u8 0,.int .u8 0,.int .u8 0,.int .u8 0] cs.zipIdx 0 cs.size=cs):=Hd (by have:=Ygd cs.toList (by simpa using CSZ.o);simpa using this)
     have FO2:Hid (Array.foldl (fun(cs:Array Value) (x:Value×Nat)=>cs.setIfInBounds x.snd x.fst) #[Value.int .u8 0,.int .u8 0,.int .u8 0,.int .u8 0,.int .u8 0,.int .u8 0,.int .u8 0,.int .u8 0,.int .u8 0,.int .u8 0,.int .u8 0,.int .u8 0,.int .u8 0,.int .u8 0,.int .u8 0,.int .u8 0,.int .u8 0,.int .u8 0,.int .u8 0,.int .u8 0,.int .u8 0,.int .u8 0,.int .u8 0,.int .u8 0,.int .u8 0,.int .u8 0,.int .u8 0,.int .u8 0,.int .u8 0,.int .u8 0,.int .u8 0,.int .u8 0] cs.zipIdx 0 32=cs):=Hd (by have:=FO.o;rw[CSZ.o] at this;exact this)
     have hsz:w.heap.size+1≤w7.heap.size:=by have:=GW.o;have:=zY P7.o;omega
     have GROW:Hid (∀(o:Obj) (w8:World),(w7.alloc o).grownBy w8 (Value.slice va acc.length vc).ownBlock→MId w8 w.heap.size (acc++[id])∧Bw w w8):=Hd (fun o w8 hg=>by
      have B1:Below (w.heap.size+1) w7 (w7.alloc o):=(zR _ _).alloc hsz _
      have B:=Below.grown B1 hg (by simp;omega) (fun k hk=>(O7.o.lt k hk).1)
      exact⟨(B.block _ (by omega)).trans M7.o,B7.o.trans (B.mono (Nat.le_succ _))⟩)
     have OK2:Hid (∀x∈acc++[id],IdOk x):=Hd (fun x hx=>by
      rcases List.mem_append.1 hx with h|h
      ·exact hok.o x h
      ·rw[List.mem_singleton] at h;rw[h];exact IOK.o)
     have al:(acc++[id]).length=acc.length+1:=by simp
     have hcz:cs.size=32:=CSZ.o
     clear m0 h1 f1 CN STEP3 hio P5 M5 O5 B5 LD P7 B7 M7 hok
     go_wp2_with (first
      |((with_reducible refine Xac 26 rfl _ rfl ?_);refine⟨_,_,rfl,LD7.o,?_⟩)
      |((with_reducible refine wpList_buildSliceTo rfl 24 26 1 _ rfl w7.heap.size rfl _ rfl underlying24 cs BS.o ?_))
      |(at_builtin;refine wpList_append_own _ rfl _ _ 24 rfl (w.heap.size+1) 26 i0 (.agg (idA zero32)) 32 32 underlying24 hi0 hz0 hz1 hz2 rfl (by decide) _ _ _ rfl (O7.o.alloc _) ⟨w7.heap.size,0,none⟩ 1 1 cs.toList rfl (by simpa using CSZ.o) (World.news_of_block (cs:=cs) (t:=26) (fr:=(0,0)) (by(first|rw[FO2.o]|rw[FO.o]);exact zN w7 _)) ONE.o (by unfold maxLen;omega) (by omega) (by simp;omega) ?_;intro v' w8 hown' hgrow _;obtain⟨va',vc',rfl⟩:=Xrp hown';obtain⟨m8,b8⟩:=GROW.o _ w8 hgrow;clear hgrow GROW))
     have O8:Hid (w8.ownsRow (w.heap.size+1) 26 32 (.slice va' (acc.length+1) vc') (acc++[id]).length (Xbi (acc++[id]))):=Hd (by rw[TS.o,al];exact hown')
     have M8:=Hd m8;have B8:=Hd b8
     clear hown' m8 b8 BS FO FO2 ONE LD7 O7
     go_wp2_with fail
     go_roundg (s.size-t)
     case measure=>omega
     case rel=>exact⟨t,acc++[id],va',vc',hts,rfl,rfl,by rw[al],LAW7,OK2,by omega,M8,O8,B8⟩
    ·have q0:((m:Int) !=0)=true:=Xam (by omega)
     have F:Hid (rpL [] (bs s)=none):=Hd (by rw[STEP3.o,qP m0])
     have HM:=Hd m0
     clear m0 h1 f1 CN STEP3
     go_wp2_with fail
     go_ret3
     exact⟨_,[],_,m,rfl,Xn8 _,by simp,by simp,.inr ⟨F.o,HM.o⟩,(fun k hk=>by cases hk),B7.o⟩
  ·obtain rfl:f=s.size:=by omega
   have F:Hid (rpL [] (bs s)=some acc):=Hd (by rw[hlaw.o,List.drop_of_length_le (by rw[LEN.o];exact zL _),Xrd])
   have IR:=Hd (Xt7 hok.o ho.o)
   have OWN:Hid (∀k,(Value.slice va acc.length vc).ownBlock=some k→w.heap.size≤k):=Hd (fun k hk=>by have:=(ho.o.lt k hk).1;omega)
   clear hlaw hm ho
   go_wp2_with fail
   go_ret3
   exact⟨_,acc,_,0,rfl,IR.o,hok.o,h20,.inl ⟨F.o,rfl⟩,OWN.o,hb.o⟩
def zQ (x:List Nat):Nat:=if x=zero32 then 1 else 0
theorem Xys (ids:List (List Nat)):Xe9 ids=if 20<ids.length then 9 else Xc9 zQ 7 [] ids:=rfl
theorem Xwa (f:List Nat→Nat)(d:Nat)(pre:List (List Nat))(x:List Nat)(r:List (List Nat)):Xc9 f d pre (x::r)=if f x≠0 then f x else if pre.contains x=true then d else Xc9 f d (pre++[x]) r:=rfl
theorem Xul:prog.eqGuardType prog.depth 118=false:=by kernel_rfl
theorem Ym7 (w:World):(Instr.build 118 #[]).run prog w=.ok (.agg (idA zero32)) w:=by kernel_rfl
theorem Xpn (w:World)(v:Value)(ids:List (List Nat))(hr:IRow w v ids)(hn:ids.length≤1000000)(hok:∀y∈ids,IdOk y):
    zJ 28 #[v] w (.int .i64 ((Xe9 ids:Nat):Int)):=by
 obtain⟨a,cap,rfl,hc,r⟩:=hr
 obtain⟨n,hnn⟩:=xq ids.length
 have HN:=Hd hnn;have R:=Hd r;have OK:=Hd hok
 have hcap:n≤cap:=by rw[hnn];exact hc
 have RF:=Hd (Xys ids)
 rw[←hnn] at hn⊢
 have zok:IdOk zero32:=⟨by simp[zero32],fun x hx=>by simp[zero32] at hx;omega⟩
 have ZOK:=Hd zok
 obtain⟨zs,hzs⟩:=xq (idA zero32)
 have BZ:Hid (∀w,(Instr.build 118 #[]).run prog w=.ok (.agg zs) w):=Hd (fun w=>by rw[hzs];exact Ym7 w)
 have HZS:=Hd hzs
 obtain⟨rf,hrf⟩:=xq (Xe9 ids)
 rw[←hrf] at RF
 rw[←hrf]
 clear hnn r hc hok zok hzs hrf
 by_cases h20:20<n
 ·have RF2:Hid (rf=9):=Hd (by rw[RF.o,qP (by rw[←HN.o];exact h20)])
  go_enter func28,ntmps28
  go_wp2_with fail
  go_ret
  exact⟨by rw[RF2.o];rfl,zR _ _⟩
 ·have RF2:Hid (rf=Xc9 zQ 7 [] ids):=Hd (by rw[RF.o,qN (by rw[←HN.o];exact h20)])
  have h20':¬((20:Int)<(n:Int)):=by omega
  clear RF
  go_enter func28,ntmps28
  go_wp2_with fail
  go_loopg [3] n (fun k i wr=>∃j:Nat,j≤n∧k=n-j∧i=.int .i64 (j:Int)∧Hid (rf=Xc9 zQ 7 (ids.take j) (ids.drop j))∧Hid (Bw w wr))
  case atStart=>exact⟨0,by omega,rfl,rfl,RF2,Hd (zR _ _)⟩
  case round=>
   clear RF2
   obtain⟨j,hj,rfl,rfl,hg,hbw⟩:=hrel
   by_cases hlt:j<n
   ·have hl:j<ids.length:=by rw[←HN.o];exact hlt
    obtain⟨b,off,rfl,hb,hcell⟩:=R.o (fun e=>by rw[e] at hl;simp at hl)
    have ok:=OK.o _ (zG hl)
    have IR:Hid (∀wx,Bw w wx→IRow wx (.slice (some ⟨b,off,none⟩) j cap) (ids.take j)):=Hd (fun wx hx=>by
     refine⟨some ⟨b,off,none⟩,cap,by rw[List.length_take,Nat.min_eq_left (by omega)],by rw[List.length_take];omega,fun _=>⟨b,off,rfl,Nat.lt_of_lt_of_le hb hx.size,fun q hq k u hu=>?_⟩⟩
     rw[List.length_take] at hq
     rw[List.getElem_take] at hu
     exact(hx.cell (p:=⟨b,off+q*32+k,none⟩) hb).trans (hcell q (by omega) k u hu))
    have LD:Hid (∀wx,Bw w wx→Ld 118 ⟨b,off+j*32,none⟩ wx (.agg (idA ids[j]))):=Hd (fun wx hx=>
     Xah wx b (off+j*32) 118 _ _ underlying118 rfl (by rw[Xag,ok.len];exact Xnk) (fun k u hu=>(hx.cell (p:=⟨b,off+j*32+k,none⟩) hb).trans (hcell j hl k u hu)))
    have EQ:Hid (∀w,(Op.equal 118 (.agg (idA ids[j])) (.agg zs)).run prog w=.ok (decide (ids[j]=zero32)) w):=Hd (fun w=>by
     rw[HZS.o];exact Xh3 underlying118 (by kernel_rfl) (by kernel_rfl) w ok.len ok.lt ZOK.o.len ZOK.o.lt)
    have HAS:Hid (∀wx,Bw w wx→zJ 71 #[.slice (some ⟨b,off,none⟩) j cap,.agg (idA ids[j])] wx (.bool ((ids.take j).contains ids[j]))):=Hd (fun wx hx=>
     Ydb wx _ (ids.take j) ids[j] (IR.o wx hx) (by rw[List.length_take];omega) (fun y hy=>OK.o y (List.mem_of_mem_take hy)) ok)
    have ST:=Xwa zQ 7 (ids.take j) ids[j] (ids.drop (j+1))
    rw[←List.drop_eq_getElem_cons hl,←List.take_succ_eq_append_getElem hl,←hg.o] at ST
    obtain⟨y,hy⟩:=xq (idA ids[j])
    obtain⟨q,hq⟩:=xq (decide (ids[j]=zero32))
    obtain⟨s,hs⟩:=xq ((ids.take j).contains ids[j])
    rw[←hy] at LD EQ HAS
    rw[←hq] at EQ
    rw[←hs] at HAS ST
    have ZQ:zQ ids[j]=if q=true then 1 else 0:=by
     unfold zQ
     by_cases e:ids[j]=zero32
     ·rw[qP e,qP (by rw[hq];exact zT e)]
     ·rw[qN e,qN (by rw[hq,zW e];decide)]
    rw[ZQ] at ST
    have HST:=Hd ST
    have jc:j≤cap:=by omega
    have LD0:=Hd (LD.o wr hbw.o)
    clear hy hq hs ok hcell hl hb ST ZQ IR
    cases q
    ·go_upto_region 8 with(first
        |((with_reducible refine Xac 118 rfl _ rfl ?_);refine⟨_,_,rfl,LD0.o,?_⟩)
        |((with_reducible refine Xaf 118 rfl rfl ?_);refine⟨_,BZ.o _,?_⟩)
        |((with_reducible refine Xdb 118 rfl _ _ rfl Xul ?_);refine⟨_,_,_,rfl,rfl,EQ.o _,?_⟩))
     refine wp_region_held (S:=fun wx=>Bw w wx) (by kernel_rfl) ?_
     change wpAnyH _ _ _ _ _ _ _ _ wr.drew
     have hB:(fun wx:World=>Bw w wx) wr.drew:=hbw.o.drew
     refine Xad 0 (.slice (some ⟨b,off,none⟩) n cap) rfl (fun _ _=>by go_simp) hB ?_
     refine Xad 1 (.int .i64 (j:Int)) rfl (fun _ _=>by go_simp) hB ?_
     refine Xad 2 (.slice (some ⟨b,off,none⟩) j cap) rfl (fun _ _=>by go_simp) hB ?_
     refine Xad 3 (.slice (some ⟨b,off,none⟩) n cap) rfl (fun _ _=>by go_simp) hB ?_
     refine Xad 4 (.int .i64 (j:Int)) rfl (fun _ _=>by go_simp) hB ?_
     refine Xad 5 (.pointer (some ⟨b,off+j*32,none⟩)) rfl (fun _ _=>by go_simp) hB ?_
     refine Xad 6 (.agg y) rfl (fun w' hw'=>Xai (ty:=118) (x:=.tmp 24) (ad:=⟨b,off+j*32,none⟩) rfl (by kernel_rfl) (LD.o w' hw')) hB ?_
     refine Xak (i:=7) (by kernel_rfl) ?_
     refine Xao (f:=71) (args:=#[.slice (some ⟨b,off,none⟩) j cap,.agg y]) rfl rfl (by kernel_rfl) ?_
     refine(HAS.o wr.drew hbw.o.drew).mono ?_
     rintro e y1 ⟨rfl,hb1⟩
     have B1:=Hd (hbw.o.drew.trans (hb1.mono hbw.o.drew.size))
     refine⟨_,rfl,B1.o,?_⟩
     refine wpAnyH_done (by kernel_rfl) ?_ _
     clear hB hb1 LD LD0 EQ HAS hbw
     cases s
     ·have N:Hid (rf=Xc9 zQ 7 (ids.take (j+1)) (ids.drop (j+1))):=Hd (by have:=HST.o;rw[qN (by decide),qN (by decide)] at this;exact this)
      clear hg HST
      go_simp
      refine‹∀(a:Act) (w_1:World),_→_› _ _ ?_
      go_wp2_with fail
      go_roundg (n-(j+1))
      case measure=>omega
      case rel=>exact⟨j+1,by omega,rfl,by go_num,N,B1⟩
     ·have N:Hid (rf=7):=Hd (by have:=HST.o;rw[qN (by decide),qP rfl] at this;exact this)
      clear hg HST
      go_simp
      refine‹∀(a:Act) (w_1:World),_→_› _ _ ?_
      go_wp2_with fail
      go_ret
      exact⟨by rw[N.o];rfl,B1.o⟩
    ·have N:Hid (rf=1):=Hd (by have:=HST.o;rw[qP (by decide)] at this;exact this)
     clear hg HST HAS LD
     go_wp2_with (first
      |((with_reducible refine Xac 118 rfl _ rfl ?_);refine⟨_,_,rfl,LD0.o,?_⟩)
      |((with_reducible refine Xaf 118 rfl rfl ?_);refine⟨_,BZ.o _,?_⟩)
      |((with_reducible refine Xdb 118 rfl _ _ rfl Xul ?_);refine⟨_,_,_,rfl,rfl,EQ.o _,?_⟩))
     go_ret
     exact⟨by rw[N.o];rfl,hbw.o⟩
   ·obtain rfl:j=n:=by omega
    have N:Hid (rf=0):=Hd (by rw[hg.o,List.drop_of_length_le (by rw[HN.o];exact zL _)];rfl)
    clear hg
    go_wp2_with fail
    go_ret
    exact⟨by rw[N.o];rfl,hbw.o⟩
theorem Yg8 (w:World)(v:Value)(ids:List (List Nat))(hr:IRow w v ids)(hn:ids.length≤1000)(hok:∀y∈ids,IdOk y)(h0:Xe9 ids=0):
    zJ 54 #[v] w (.tuple #[.string (Xcw 32 (Xhi ids)),.int .i64 0]):=by
 have CK:=Hd (Xpn w v ids hr (by omega) hok)
 rw[h0] at CK
 obtain⟨a,cap,rfl,hc,r⟩:=hr
 obtain⟨n,hnn⟩:=xq ids.length
 have HN:=Hd hnn;have R:=Hd r;have OK:=Hd hok
 rw[←hnn] at hn CK⊢
 have ML:Hid (∀g∈Xhi ids,g.size=71):=Hd (fun g hg=>by
  obtain⟨x,hx,rfl⟩:=List.mem_map.1 hg
  rw[Xan,Xdy (hok x hx)])
 clear hnn r hc hok h0
 go_enter func54,ntmps54
 go_wp2_with fail
 refine CK.o.mono ?_
 rintro e w1 ⟨rfl,hb1⟩
 have B1:=Hd hb1
 clear hb1 CK
 have hz:((((0:Nat):Int)) !=0)=false:=rfl
 go_wp2_with fail
 go_loopg [5,6] n (fun k s i wr=>∃(j:Nat) (t:ByteArray),j≤n∧k=n-j∧i=.int .i64 (j:Int)∧s=.string t∧Hid (t=Xcw 32 ((Xhi ids).take j))∧t.size≤72*j∧Hid (Bw w wr))
 case atStart=>exact⟨0,⟨#[]⟩,by omega,rfl,rfl,rfl,Hd rfl,zL _,B1⟩
 case round=>
  clear B1
  obtain⟨j,t,hj,rfl,rfl,rfl,ht,zt,hbw⟩:=hrel
  by_cases hlt:j<n
  ·have hl:j<ids.length:=by rw[←HN.o];exact hlt
   have hlm:j<(Xhi ids).length:=by unfold Xhi;rw[List.length_map];exact hl
   obtain⟨b,off,rfl,hb,hcell⟩:=R.o (fun e=>by rw[e] at hl;simp at hl)
   have ok:=OK.o _ (zG hl)
   have LD:Hid (Ld 118 ⟨b,off+j*32,none⟩ wr (.agg (idA ids[j]))):=Hd
    (Xah wr b (off+j*32) 118 _ _ underlying118 rfl (by rw[Xag,ok.len];exact Xnk) (fun k u hu=>(hbw.o.cell (p:=⟨b,off+j*32+k,none⟩) hb).trans (hcell j hl k u hu)))
   have TX:=Hd (Xyc wr ok)
   have sn:=Xmw 32 ((Xhi ids).take j) (Xhi ids)[j]
   rw[←List.take_succ_eq_append_getElem hlm,←ht.o] at sn
   have gm:(Xhi ids)[j]=Xaq (Xcr ids[j]):=by simp[Xhi]
   rw[gm] at sn
   have zg:(Xaq (Xcr ids[j])).size=71:=by rw[Xan,Xdy ok]
   obtain⟨g,hgg⟩:=xq (Xaq (Xcr ids[j]))
   obtain⟨y,hy⟩:=xq (idA ids[j])
   rw[←hgg] at TX sn zg
   rw[←hy] at LD TX
   by_cases h0:j=0
   ·subst h0
    have LD':Hid (Ld 118 ⟨b,off,none⟩ wr (.agg y)):=Hd (by have:=LD.o;simpa using this)
    have N:Hid (t++g=Xcw 32 ((Xhi ids).take (0+1))):=Hd (by
     rw[sn,qP (by simp),ht.o]
     apply ByteArray.ext
     simp[Xcw,Xaw,Xaq])
    have zz:(t++g).size≤72*(0+1):=by rw[ByteArray.size_append];omega
    clear sn gm hgg hy hcell hl hlm ok hb ht
    go_wp2_with ((with_reducible refine Xac 118 rfl _ rfl ?_);first|(refine⟨_,_,rfl,LD'.o,?_⟩)|(refine⟨_,_,rfl,LD.o,?_⟩))
    refine TX.o.mono ?_
    rintro e w2 ⟨rfl,hb2⟩
    have B2:=bh hbw hb2
    clear hb2 TX LD LD'
    go_wp2_with fail
    go_roundg (n-(0+1))
    case measure=>omega
    case rel=>exact⟨1,t++g,by omega,rfl,by go_num,rfl,N,zz,B2⟩
   ·have hne:(Xhi ids).take j≠[]:=fun e=>by
       have h2:((Xhi ids).take j).length=0:=by rw[e];rfl
       rw[List.length_take] at h2
       omega
    rw[qN hne] at sn
    have N:Hid (t++(⟨#[32]⟩:ByteArray)++g=Xcw 32 ((Xhi ids).take (j+1))):=Hd sn.symm
    have z1:(t++(⟨#[32]⟩:ByteArray)).size≤72*j+1:=by rw[ByteArray.size_append];show t.size+1≤_;omega
    have z2:(t++(⟨#[32]⟩:ByteArray)++g).size≤72*(j+1):=by rw[ByteArray.size_append];omega
    have hp:(0:Int)<(j:Int):=by omega
    clear sn gm hgg hy hcell hl hlm ok hb ht hne
    go_wp2_with ((with_reducible refine Xac 118 rfl _ rfl ?_);refine⟨_,_,rfl,LD.o,?_⟩)
    refine TX.o.mono ?_
    rintro e w2 ⟨rfl,hb2⟩
    have B2:=bh hbw hb2
    clear hb2 TX LD
    go_wp2_with fail
    go_roundg (n-(j+1))
    case measure=>omega
    case rel=>exact⟨j+1,_,by omega,rfl,by go_num,rfl,N,z2,B2⟩
  ·obtain rfl:j=n:=by omega
   have N:Hid (t=Xcw 32 (Xhi ids)):=Hd (by rw[ht.o,List.take_of_length_le (by unfold Xhi;rw[List.length_map,HN.o];exact zL _)])
   clear ht
   go_wp2_with fail
   go_ret2
   exact⟨by rw[←N.o];rfl,hbw.o⟩
theorem Xyq {ids:List (List Nat)}(h:Xe9 ids=0):ids.length≤1000:=by
 rw[Xys] at h
 by_cases h1:20<ids.length
 ·rw[qP h1] at h;cases h
 ·omega
theorem Xvd {c:Cn}(ok:c.Ok)(h:Xc4 c.p=0):∀v∈Xaz c.p,∀x∈v,x<256:=by
 intro v hv x hx
 refine Xdg ok h x ?_
 unfold Xa8
 refine List.mem_append_left _ ?_
 have hl:fWords.length=(Xaz c.p).length:=rfl
 obtain⟨j,hj,rfl⟩:=List.getElem_of_mem hv
 refine List.mem_flatMap.2 ⟨(fWords[j]'(by omega),(Xaz c.p)[j]),?_,by simp[hx]⟩
 rw[←List.getElem_zip (h:=by rw[List.length_zip];omega)]
 exact zG _
theorem Ydc {c:Cn}(ok:c.Ok)(h:Xc4 c.p=0):Xcw 10 [(⟨#[110,97,109,101,32]⟩:ByteArray)++c.name,(⟨#[97,117,116,104,111,114,32]⟩:ByteArray)++(Xaq (Xbv c.author)),(⟨#[100,97,116,101,32]⟩:ByteArray)++(Xaq (Xdq c.date)),(⟨#[103,114,111,117,112,115,32]⟩:ByteArray)++(Xcw 44 c.groups),(⟨#[115,117,98,106,101,99,116,32]⟩:ByteArray)++c.subject,(⟨#[114,101,102,101,114,101,110,99,101,115,32]⟩:ByteArray)++(Xcw 32 (Xhi c.refs)),(⟨#[115,117,112,101,114,115,101,100,101,115,32]⟩:ByteArray)++(Xaq (Xg8 c.sup)),(⟨#[99,111,110,116,114,111,108,32]⟩:ByteArray)++c.ctl,(⟨#[100,105,115,116,114,105,98,117,116,105,111,110,32]⟩:ByteArray)++c.dist,(⟨#[107,101,121,32]⟩:ByteArray)++(Xaq (Xi7 c.p)),(⟨#[108,101,97,102,32]⟩:ByteArray)++(Xaq (Xdq c.leaf)),⟨#[]⟩]++(⟨#[10]⟩:ByteArray)++c.body=Xaq (Xa8 c.p):=by
 have H:=Xvd ok h
 have eb:c.body=Xaq (bs c.body):=(Xd3 _).symm
 have lt:∀x∈Xa8 c.p,x<256:=Xdg ok h
 have bv:∀v∈Xaz c.p,bs (Xaq v)=v:=fun v hv=>Xci v (H v hv)
 have e1:=bv (Xbv c.author) (by simp[Xaz,Cn.p])
 have e2:=bv (Xdq c.date) (by simp[Xaz,Cn.p])
 have e3:bs (Xcw 44 c.groups)=Xaw [44] (c.groups.map bs):=bv (Xaw [44] (c.groups.map bs)) (by simp[Xaz,Cn.p])
 have e5:bs (Xcw 32 (Xhi c.refs))=Xaw [32] (c.refs.map Xcr):=by
  unfold Xcw
  rw[Xn1 ok.refs]
  exact bv (Xaw [32] (c.refs.map Xcr)) (by simp[Xaz,Cn.p])
 have e6:=bv (Xg8 c.sup) (by simp[Xaz,Cn.p])
 have e9:=bv (Xi7 c.p) (by simp[Xaz])
 have e10:=bv (Xdq c.leaf) (by simp[Xaz,Cn.p])
 have key:∀l:List ByteArray,Xcw 10 l=Xaq (Xaw [10] (l.map bs)):=fun _=>rfl
 rw[key]
 conv=>lhs;rw[eb]
 rw[show(⟨#[10]⟩:ByteArray)=Xaq [10] from rfl,←Xcq,←Xcq]
 congr 1
 simp only[List.map_cons,List.map_nil,Xgw,e1,e2,e3,e5,e6,e9,e10]
 rw[show bs (⟨#[110,97,109,101,32]⟩:ByteArray)=[110,97,109,101,32] from rfl]
 rw[show bs (⟨#[97,117,116,104,111,114,32]⟩:ByteArray)=[97,117,116,104,111,114,32] from rfl]
 rw[show bs (⟨#[100,97,116,101,32]⟩:ByteArray)=[100,97,116,101,32] from rfl]
 rw[show bs (⟨#[103,114,111,117,112,115,32]⟩:ByteArray)=[103,114,111,117,112,115,32] from rfl]
 rw[show bs (⟨#[115,117,98,106,101,99,116,32]⟩:ByteArray)=[115,117,98,106,101,99,116,32] from rfl]
 rw[show bs (⟨#[114,101,102,101,114,101,110,99,101,115,32]⟩:ByteArray)=[114,101,102,101,114,101,110,99,101,115,32] from rfl]
 rw[show bs (⟨#[115,117,112,101,114,115,101,100,101,115,32]⟩:ByteArray)=[115,117,112,101,114,115,101,100,101,115,32] from rfl]
 rw[show bs (⟨#[99,111,110,116,114,111,108,32]⟩:ByteArray)=[99,111,110,116,114,111,108,32] from rfl]
 rw[show bs (⟨#[100,105,115,116,114,105,98,117,116,105,111,110,32]⟩:ByteArray)=[100,105,115,116,114,105,98,117,116,105,111,110,32] from rfl]
 rw[show bs (⟨#[107,101,121,32]⟩:ByteArray)=[107,101,121,32] from rfl]
 rw[show bs (⟨#[108,101,97,102,32]⟩:ByteArray)=[108,101,97,102,32] from rfl]
 rw[show bs (⟨#[]⟩:ByteArray)=[] from rfl]
 unfold Xa8 fWords Xaz
 simp[Xaw,Cn.p]
theorem Xle (c:Cont):(Xa8 c).length=96+(c.name.length+(Xbv c.author).length+(Xdq c.date).length+(Xaw [44] c.groups).length+c.subject.length+(Xaw [32] (c.refs.map Xcr)).length+(Xg8 c.sup).length+c.ctl.length+c.dist.length+(Xi7 c).length+(Xdq c.leaf).length+c.body.length):=by
 unfold Xa8 fWords Xaz
 simp
 omega
theorem Xvu (w:World)(s0 s1 s2 s3 s4 s5 s6 s7 s8 s9 s10 s11:ByteArray):(Instr.buildSlice 23 12 #[(0,.string s0),(1,.string s1),(2,.string s2),(3,.string s3),(4,.string s4),(5,.string s5),(6,.string s6),(7,.string s7),(8,.string s8),(9,.string s9),(10,.string s10),(11,.string s11)]).run prog w=.ok (.slice (some ⟨w.heap.size,0,none⟩) 12 12) (w.alloc (.cells #[.string s0,.string s1,.string s2,.string s3,.string s4,.string s5,.string s6,.string s7,.string s8,.string s9,.string s10,.string s11] 9)):=by kernel_rfl
theorem Yaq {o:Oper}{a:Act}(w:World){x0 x1 x2 x3 x4 x5 x6 x7 x8 x9 x10 x11:Operand}{s0 s1 s2 s3 s4 s5 s6 s7 s8 s9 s10 s11:ByteArray}(ho:o.op=.buildSlice 23 12 #[(0,x0),(1,x1),(2,x2),(3,x3),(4,x4),(5,x5),(6,x6),(7,x7),(8,x8),(9,x9),(10,x10),(11,x11)])
    (h0:a.eval x0=.string s0) (h1:a.eval x1=.string s1) (h2:a.eval x2=.string s2) (h3:a.eval x3=.string s3) (h4:a.eval x4=.string s4) (h5:a.eval x5=.string s5) (h6:a.eval x6=.string s6) (h7:a.eval x7=.string s7) (h8:a.eval x8=.string s8) (h9:a.eval x9=.string s9) (h10:a.eval x10=.string s10) (h11:a.eval x11=.string s11):
    (execOp a.eval o).run prog w=.ok (.value (.slice (some ⟨w.heap.size,0,none⟩) 12 12)) (w.alloc (.cells #[.string s0,.string s1,.string s2,.string s3,.string s4,.string s5,.string s6,.string s7,.string s8,.string s9,.string s10,.string s11] 9)):=by
 unfold execOp
 rw[ho]
 simp only[List.map_toArray,List.map_cons,List.map_nil,h0,h1,h2,h3,h4,h5,h6,h7,h8,h9,h10,h11]
 rw[Sem.run_bind,Xvu]
 rfl
theorem Yjx (w:World)(b:Nat)(s0 s1 s2 s3 s4 s5 s6 s7 s8 s9 s10 s11:ByteArray)(h:w.heap[b]?=some (.cells #[.string s0,.string s1,.string s2,.string s3,.string s4,.string s5,.string s6,.string s7,.string s8,.string s9,.string s10,.string s11] 9 (0,0))):SRow w (.slice (some ⟨b,0,none⟩) 12 12) [s0,s1,s2,s3,s4,s5,s6,s7,s8,s9,s10,s11]:=by
 refine⟨_,_,rfl,zL _,fun _=>⟨b,0,rfl,zY h,fun j hj=>?_⟩⟩
 rw[cell_of_row w b (0+j) _ _ _ h,Nat.zero_add]
 have hj:j<12:=hj
 match j,hj with
 |0,_=>rfl
 |1,_=>rfl
 |2,_=>rfl
 |3,_=>rfl
 |4,_=>rfl
 |5,_=>rfl
 |6,_=>rfl
 |7,_=>rfl
 |8,_=>rfl
 |9,_=>rfl
 |10,_=>rfl
 |11,_=>rfl
theorem Xpk (w:World)(c:Cn)(gv rv:Value)(hin:CnIn w c gv rv)(h0:Xc4 c.p=0)(hF:(Xa8 c.p).length≤10000000):
    zJ 13 #[.agg (c.cells gv rv)] w (.string (Xaq (Xa8 c.p))):=by
 obtain⟨w0,hw0⟩:=xq (w.alloc (.cells (c.cells gv rv) 28))
 have B0:Bw w w0:=by rw[hw0];exact(zR _ _).alloc (zL _) _
 have C0:CB w0 w.heap.size c gv rv 28:=by unfold CB;rw[hw0];exact heap_alloc_last w _
 have vd:=Xe6 h0
 obtain⟨q1,q2,q3⟩:=Xlo h0
 have ok:=hin.ok
 have OK:=Hd ok
 have HIN:=Hd hin
 have FZ:=Xle c.p
 obtain⟨sa,hsa⟩:=xq (Xaq (Xbv c.author))
 obtain⟨sd,hsd⟩:=xq (Xaq (Xdq c.date))
 obtain⟨sg,hsg⟩:=xq (Xcw 44 c.groups)
 obtain⟨sr,hsr⟩:=xq (Xcw 32 (Xhi c.refs))
 obtain⟨so,hso⟩:=xq (Xaq (Xg8 c.sup))
 obtain⟨sk,hsk⟩:=xq (Xaq (Xi7 c.p))
 obtain⟨sl,hsl⟩:=xq (Xaq (Xdq c.leaf))
 have z0:c.name.size≤10000000:=by have:(c.p.name).length=c.name.size:=Xaa _;omega
 have z1:sa.size≤10000000:=by rw[hsa,Xan];have:(Xbv c.p.author).length=(Xbv c.author).length:=rfl;omega
 have z2:sd.size≤10000000:=by rw[hsd,Xan];have:(Xdq c.p.date).length=(Xdq c.date).length:=rfl;omega
 have z3:sg.size≤10000000:=by rw[hsg];unfold Xcw;rw[Xan];have:(Xaw [44] c.p.groups).length=(Xaw [44] (c.groups.map bs)).length:=rfl;omega
 have z4:c.subject.size≤10000000:=by have:(c.p.subject).length=c.subject.size:=Xaa _;omega
 have z5:sr.size≤10000000:=by rw[hsr];unfold Xcw;rw[Xn1 ok.refs,Xan];have:(Xaw [32] (c.p.refs.map Xcr)).length=(Xaw [32] (c.refs.map Xcr)).length:=rfl;omega
 have z6:so.size≤10000000:=by rw[hso,Xan];have:(Xg8 c.p.sup).length=(Xg8 c.sup).length:=rfl;omega
 have z7:c.ctl.size≤10000000:=by have:(c.p.ctl).length=c.ctl.size:=Xaa _;omega
 have z8:c.dist.size≤10000000:=by have:(c.p.dist).length=c.dist.size:=Xaa _;omega
 have z9:sk.size≤10000000:=by rw[hsk,Xan];omega
 have z10:sl.size≤10000000:=by rw[hsl,Xan];have:(Xdq c.p.leaf).length=(Xdq c.leaf).length:=rfl;omega
 have zb:c.body.size≤10000000:=by have:(c.p.body).length=c.body.size:=Xaa _;omega
 obtain⟨ra,hra⟩:=xq (idA c.author)
 obtain⟨rs,hrs⟩:=xq (idA c.sup)
 obtain⟨cs,hcs⟩:=xq (c.cells gv rv)
 have LDA:Hid (∀wx,CB wx w.heap.size c gv rv 28→Ld 22 ⟨w.heap.size,1,none⟩ wx (.agg ra)):=Hd (fun wx h=>by rw[hra];exact CB.author16 h OK.o)
 have LDS:Hid (∀wx,CB wx w.heap.size c gv rv 28→Ld 26 ⟨w.heap.size,21,none⟩ wx (.agg rs)):=Hd (fun wx h=>by rw[hrs];exact CB.sup h OK.o)
 have LDC:Hid (∀wx,CB wx w.heap.size c gv rv 28→Ld 28 ⟨w.heap.size,0,none⟩ wx (.agg cs)):=Hd (fun wx h=>by rw[hcs];exact CB.allR h OK.o)
 have CA:Hid (∀wx:World,zJ 55 #[.agg ra] wx (.string sa)):=Hd (fun wx=>by rw[hra,hsa];exact Xri wx ok.author)
 have CD:Hid (∀wx:World,zJ 56 #[.int .i64 c.date] wx (.string sd)):=Hd (fun wx=>by rw[hsd];exact Xg5 c.date vd.date.1 (Xhx ok.date).2 wx)
 have CG:Hid (∀wx:World,Bw w wx→Rx 57 #[gv,.string (⟨#[44]⟩:ByteArray)] wx (.string sg)):=Hd (fun wx hb=>by
  have:=Xpi wx gv c.groups 44 (HIN.o.srow.below hb) HIN.o.gl (by rw[←hsg];omega)
  rw[←hsg] at this
  exact this)
 have CO:Hid (∀wx:World,zJ 58 #[.agg rs] wx (.string so)):=Hd (fun wx=>by rw[hrs,hso];exact Yc8 wx ok.sup)
 have CK:Hid (∀wx:World,zJ 59 #[.agg cs] wx (.string sk)):=Hd (fun wx=>by rw[hcs,hsk];exact Yc1 wx c ok vd.number.1 gv rv)
 have CL:Hid (∀wx:World,zJ 56 #[.int .i64 c.leaf] wx (.string sl)):=Hd (fun wx=>by rw[hsl];exact Xg5 c.leaf vd.leaf.1 (Xhx ok.leaf).2 wx)
 have RL:=Hd (Xph w0 rv c.refs (hin.irow.below B0) hin.rl ok.refs)
 have RPR:Hid (∀(wx:World) v,IRow wx v c.refs→zJ 54 #[v] wx (.tuple #[.string sr,.int .i64 0])):=Hd (fun wx v h=>by rw[hsr];exact Yg8 wx v c.refs h (Xyq q2) ok.refs q2)
 obtain⟨p0,hp0⟩:=xq ((⟨#[110,97,109,101,32]⟩:ByteArray)++c.name)
 have y0:¬9223372036854775807<5+c.name.size:=by omega
 have x0:c.name.size≤9223372036854775802:=by omega
 obtain⟨p1,hp1⟩:=xq ((⟨#[97,117,116,104,111,114,32]⟩:ByteArray)++sa)
 have y1:¬9223372036854775807<7+sa.size:=by omega
 have x1:sa.size≤9223372036854775800:=by omega
 obtain⟨p2,hp2⟩:=xq ((⟨#[100,97,116,101,32]⟩:ByteArray)++sd)
 have y2:¬9223372036854775807<5+sd.size:=by omega
 have x2:sd.size≤9223372036854775802:=by omega
 obtain⟨p3,hp3⟩:=xq ((⟨#[103,114,111,117,112,115,32]⟩:ByteArray)++sg)
 have y3:¬9223372036854775807<7+sg.size:=by omega
 have x3:sg.size≤9223372036854775800:=by omega
 obtain⟨p4,hp4⟩:=xq ((⟨#[115,117,98,106,101,99,116,32]⟩:ByteArray)++c.subject)
 have y4:¬9223372036854775807<8+c.subject.size:=by omega
 have x4:c.subject.size≤9223372036854775799:=by omega
 obtain⟨p5,hp5⟩:=xq ((⟨#[114,101,102,101,114,101,110,99,101,115,32]⟩:ByteArray)++sr)
 have y5:¬9223372036854775807<11+sr.size:=by omega
 have x5:sr.size≤9223372036854775796:=by omega
 obtain⟨p6,hp6⟩:=xq ((⟨#[115,117,112,101,114,115,101,100,101,115,32]⟩:ByteArray)++so)
 have y6:¬9223372036854775807<11+so.size:=by omega
 have x6:so.size≤9223372036854775796:=by omega
 obtain⟨p7,hp7⟩:=xq ((⟨#[99,111,110,116,114,111,108,32]⟩:ByteArray)++c.ctl)
 have y7:¬9223372036854775807<8+c.ctl.size:=by omega
 have x7:c.ctl.size≤9223372036854775799:=by omega
 obtain⟨p8,hp8⟩:=xq ((⟨#[100,105,115,116,114,105,98,117,116,105,111,110,32]⟩:ByteArray)++c.dist)
 have y8:¬9223372036854775807<13+c.dist.size:=by omega
 have x8:c.dist.size≤9223372036854775794:=by omega
 obtain⟨p9,hp9⟩:=xq ((⟨#[107,101,121,32]⟩:ByteArray)++sk)
 have y9:¬9223372036854775807<4+sk.size:=by omega
 have x9:sk.size≤9223372036854775803:=by omega
 obtain⟨p10,hp10⟩:=xq ((⟨#[108,101,97,102,32]⟩:ByteArray)++sl)
 have y10:¬9223372036854775807<5+sl.size:=by omega
 have x10:sl.size≤9223372036854775802:=by omega
 obtain⟨rr,hrr⟩:=xq (Xcw 10 [p0,p1,p2,p3,p4,p5,p6,p7,p8,p9,p10,(⟨#[]⟩:ByteArray)])
 have RES:Hid (rr++(⟨#[10]⟩:ByteArray)++c.body=Xaq (Xa8 c.p)):=Hd (by
  rw[←Ydc ok h0,hrr,hp0,hp1,hp2,hp3,hp4,hp5,hp6,hp7,hp8,hp9,hp10,hsa,hsd,hsg,hsr,hso,hsk,hsl])
 have zr:rr.size+1+c.body.size≤10000000:=by
  have:=congrArg ByteArray.size RES.o
  rw[Xan,ByteArray.size_append,ByteArray.size_append] at this
  have e:(⟨#[10]⟩:ByteArray).size=1:=rfl
  omega
 have zr1:rr.size≤9223372036854775806:=by omega
 have zr2:(rr++(⟨#[10]⟩:ByteArray)).size+c.body.size≤9223372036854775807:=by rw[ByteArray.size_append];show rr.size+1+_≤_;omega
 have zr3:rr.size+1+c.body.size≤9223372036854775807:=by omega
 have CT:Hid (∀(wx:World) b,wx.heap[b]?=some (.cells #[.string p0,.string p1,.string p2,.string p3,.string p4,.string p5,.string p6,.string p7,.string p8,.string p9,.string p10,.string (⟨#[]⟩:ByteArray)] 9 (0,0))→Rx 57 #[.slice (some ⟨b,0,none⟩) 12 12,.string (⟨#[10]⟩:ByteArray)] wx (.string rr)):=Hd (fun wx b h=>by
  have:=Xpi wx _ _ 10 (Yjx wx b _ _ _ _ _ _ _ _ _ _ _ _ h) (show 12≤1000000 by omega) (by rw[←hrr];omega)
  rw[←hrr] at this
  exact this)
 rw[←hcs] at hw0⊢
 have HW:=Hd hw0;have HC0:=Hd C0;have HB0:=Hd B0
 have HP0:=Hd hp0
 have HP1:=Hd hp1
 have HP2:=Hd hp2
 have HP3:=Hd hp3
 have HP4:=Hd hp4
 have HP5:=Hd hp5
 have HP6:=Hd hp6
 have HP7:=Hd hp7
 have HP8:=Hd hp8
 have HP9:=Hd hp9
 have HP10:=Hd hp10
 clear hw0 hcs hra hrs hsa hsd hsg hsr hso hsk hsl hrr C0 B0 ok h0 hF hin vd q1 q2 q3 FZ z0 z1 z2 z3 z4 z5 z6 z7 z8 z9 z10 zb zr hp0 hp1 hp2 hp3 hp4 hp5 hp6 hp7 hp8 hp9 hp10
 have c20:w0.cell? ⟨w.heap.size,20,none⟩=some rv:=HC0.o.at (Xh7 OK.o gv rv)
 go_enter func13,ntmps13
 go_upto_region 1 with fail
 rw[←HW.o]
 clear HW
 go_wp2_with fail
 refine RL.o.mono ?_
 rintro e w1 ⟨v',rfl,hir,hb⟩
 have D1:=Hd hb
 have RP:=Hd (RPR.o w1 v' hir)
 clear hb hir RL c20 RPR
 go_wp2_with fail
 refine RP.o.mono ?_
 rintro e w2 ⟨rfl,hb⟩
 have D2:=bh D1 hb
 clear hb RP D1
 go_upto_region 2 with fail
 refine wp_region_held (S:=fun wx=>CB wx w.heap.size c gv rv 28) (by kernel_rfl) ?_
 change wpAnyH _ _ _ _ _ _ _ _ w2.drew
 obtain⟨wd,hwd⟩:=xq w2.drew
 rw[←hwd]
 have E0:Hid (Bw w0 wd):=Hd (by rw[hwd];exact D2.o.trans ((zR _ _).drew.mono D2.o.size))
 clear hwd D2
 have hB:(fun wx:World=>CB wx w.heap.size c gv rv 28) wd:=HC0.o.on E0.o
 refine Xad 0 (.pointer (some ⟨w.heap.size,0,none⟩)) rfl (fun _ _=>by go_simp) hB ?_
 refine Xad 1 (.string c.name) rfl (fun w' hw'=>by have cl:=hw'.at (Ya9 c gv rv);go_simp) hB ?_
 refine Xad 2 (.string p0) rfl (fun _ _=>by go_simp;exact HP0.o.symm) hB ?_
 refine Xad 3 (.pointer (some ⟨w.heap.size,1,none⟩)) rfl (fun _ _=>by go_simp) hB ?_
 refine Xad 4 (.agg ra) rfl (fun w' hw'=>Xai (ty:=22) (x:=.tmp 16) (ad:=⟨w.heap.size,1,none⟩) rfl (by kernel_rfl) (LDA.o w' hw')) hB ?_
 refine Xad 7 (.pointer (some ⟨w.heap.size,17,none⟩)) rfl (fun _ _=>by go_simp) hB ?_
 refine Xad 8 (.int .i64 c.date) rfl (fun w' hw'=>by have cl:=hw'.at (Xln OK.o gv rv);go_simp) hB ?_
 refine Xad 11 (.pointer (some ⟨w.heap.size,18,none⟩)) rfl (fun _ _=>by go_simp) hB ?_
 refine Xad 12 (gv) rfl (fun w' hw'=>by have cl:=hw'.at (Xh8 OK.o gv rv);go_simp) hB ?_
 refine Xad 15 (.pointer (some ⟨w.heap.size,19,none⟩)) rfl (fun _ _=>by go_simp) hB ?_
 refine Xad 16 (.string c.subject) rfl (fun w' hw'=>by have cl:=hw'.at (Xlm OK.o gv rv);go_simp) hB ?_
 refine Xad 17 (.string p4) rfl (fun _ _=>by go_simp;exact HP4.o.symm) hB ?_
 refine Xad 18 (.string sr) rfl (fun _ _=>by go_simp) hB ?_
 refine Xad 19 (.string p5) rfl (fun _ _=>by go_simp;exact HP5.o.symm) hB ?_
 refine Xad 20 (.pointer (some ⟨w.heap.size,21,none⟩)) rfl (fun _ _=>by go_simp) hB ?_
 refine Xad 21 (.agg rs) rfl (fun w' hw'=>Xai (ty:=26) (x:=.tmp 33) (ad:=⟨w.heap.size,21,none⟩) rfl (by kernel_rfl) (LDS.o w' hw')) hB ?_
 refine Xad 24 (.pointer (some ⟨w.heap.size,53,none⟩)) rfl (fun _ _=>by go_simp) hB ?_
 refine Xad 25 (.string c.ctl) rfl (fun w' hw'=>by have cl:=hw'.at (Xjn OK.o gv rv);go_simp) hB ?_
 refine Xad 26 (.string p7) rfl (fun _ _=>by go_simp;exact HP7.o.symm) hB ?_
 refine Xad 27 (.pointer (some ⟨w.heap.size,54,none⟩)) rfl (fun _ _=>by go_simp) hB ?_
 refine Xad 28 (.string c.dist) rfl (fun w' hw'=>by have cl:=hw'.at (Xll OK.o gv rv);go_simp) hB ?_
 refine Xad 29 (.string p8) rfl (fun _ _=>by go_simp;exact HP8.o.symm) hB ?_
 refine Xad 30 (.agg cs) rfl (fun w' hw'=>Xai (ty:=28) (x:=.tmp 1) (ad:=⟨w.heap.size,0,none⟩) rfl (by kernel_rfl) (LDC.o w' hw')) hB ?_
 refine Xad 33 (.pointer (some ⟨w.heap.size,73,none⟩)) rfl (fun _ _=>by go_simp) hB ?_
 refine Xad 34 (.int .i64 c.leaf) rfl (fun w' hw'=>by have cl:=hw'.at (Xh6 OK.o gv rv);go_simp) hB ?_
 refine Xak (i:=5) (by kernel_rfl) ?_
 refine Xao (f:=55) (args:=#[.agg ra]) rfl rfl (by kernel_rfl) ?_
 refine(CA.o wd).mono ?_
 rintro e y1 ⟨rfl,hb⟩
 have E1:=bh E0 hb
 clear hb
 replace hB:=HC0.o.on E1.o
 refine⟨_,rfl,hB,?_⟩
 refine Xad 6 (.string p1) rfl (fun _ _=>by go_simp;exact HP1.o.symm) hB ?_
 refine Xak (i:=9) (by kernel_rfl) ?_
 refine Xao (f:=56) (args:=#[.int .i64 c.date]) rfl rfl (by kernel_rfl) ?_
 refine(CD.o y1).mono ?_
 rintro e y2 ⟨rfl,hb⟩
 have E2:=bh E1 hb
 clear hb
 replace hB:=HC0.o.on E2.o
 refine⟨_,rfl,hB,?_⟩
 refine Xad 10 (.string p2) rfl (fun _ _=>by go_simp;exact HP2.o.symm) hB ?_
 have F2:=Hd (bg HB0.o E2.o)
 refine Xak (i:=13) (by kernel_rfl) ?_
 refine Xao (f:=57) (args:=#[gv,.string (⟨#[44]⟩:ByteArray)]) rfl rfl (by kernel_rfl) ?_
 refine(CG.o y2 F2.o).mono ?_
 rintro e y3 ⟨rfl,rfl⟩
 refine⟨_,rfl,hB,?_⟩
 refine Xad 14 (.string p3) rfl (fun _ _=>by go_simp;exact HP3.o.symm) hB ?_
 refine Xak (i:=22) (by kernel_rfl) ?_
 refine Xao (f:=58) (args:=#[.agg rs]) rfl rfl (by kernel_rfl) ?_
 refine(CO.o _).mono ?_
 rintro e y4 ⟨rfl,hb⟩
 have E4:=bh E2 hb
 clear hb
 replace hB:=HC0.o.on E4.o
 refine⟨_,rfl,hB,?_⟩
 refine Xad 23 (.string p6) rfl (fun _ _=>by go_simp;exact HP6.o.symm) hB ?_
 refine Xak (i:=31) (by kernel_rfl) ?_
 refine Xao (f:=59) (args:=#[.agg cs]) rfl rfl (by kernel_rfl) ?_
 refine(CK.o y4).mono ?_
 rintro e y5 ⟨rfl,hb⟩
 have E5:=bh E4 hb
 clear hb
 replace hB:=HC0.o.on E5.o
 refine⟨_,rfl,hB,?_⟩
 refine Xad 32 (.string p9) rfl (fun _ _=>by go_simp;exact HP9.o.symm) hB ?_
 refine Xak (i:=35) (by kernel_rfl) ?_
 refine Xao (f:=56) (args:=#[.int .i64 c.leaf]) rfl rfl (by kernel_rfl) ?_
 refine(CL.o y5).mono ?_
 rintro e y6 ⟨rfl,hb⟩
 have E6:=bh E5 hb
 clear hb
 replace hB:=HC0.o.on E6.o
 refine⟨_,rfl,hB,?_⟩
 refine Xad 36 (.string p10) rfl (fun _ _=>by go_simp;exact HP10.o.symm) hB ?_
 refine Xak (i:=37) (by kernel_rfl) ?_
 refine Xbl rfl rfl (Yaq (s0:=p0) (s1:=p1) (s2:=p2) (s3:=p3) (s4:=p4) (s5:=p5) (s6:=p6) (s7:=p7) (s8:=p8) (s9:=p9) (s10:=p10) (s11:=(⟨#[]⟩:ByteArray)) y6 rfl (by kernel_rfl) (by kernel_rfl) (by kernel_rfl) (by kernel_rfl) (by kernel_rfl) (by kernel_rfl) (by kernel_rfl) (by kernel_rfl) (by kernel_rfl) (by kernel_rfl) (by kernel_rfl) rfl) ?_
 obtain⟨y7,hy7⟩:=xq (y6.alloc (.cells #[.string p0,.string p1,.string p2,.string p3,.string p4,.string p5,.string p6,.string p7,.string p8,.string p9,.string p10,.string (⟨#[]⟩:ByteArray)] 9))
 rw[←hy7]
 have E7:Hid (Bw w0 y7):=Hd (by rw[hy7];exact E6.o.alloc E6.o.size _)
 have AB:Hid (y7.heap[y6.heap.size]?=some (.cells #[.string p0,.string p1,.string p2,.string p3,.string p4,.string p5,.string p6,.string p7,.string p8,.string p9,.string p10,.string (⟨#[]⟩:ByteArray)] 9 (0,0))):=Hd (by rw[hy7];exact heap_alloc_last y6 _)
 clear hy7
 obtain⟨q,hq⟩:=xq y6.heap.size
 rw[←hq] at AB⊢
 clear hq
 replace hB:=HC0.o.on E7.o
 refine⟨hB,?_⟩
 refine Xad 38 (.slice (some ⟨q,0,none⟩) 12 12) rfl (fun _ _=>by go_simp) hB ?_
 refine wpAnyH_done (by kernel_rfl) ?_ _
 go_simp
 refine‹∀(a:Act) (w_1:World),_→_› _ _ ?_
 clear hB
 go_upto_region 3 with fail
 refine wp_region_held (S:=fun wx=>CB wx w.heap.size c gv rv 28) (by kernel_rfl) ?_
 change wpAnyH _ _ _ _ _ _ _ _ y7.drew
 obtain⟨wf,hwf⟩:=xq y7.drew
 rw[←hwf]
 have E8:Hid (Bw w0 wf):=Hd (by rw[hwf];exact E7.o.trans ((zR _ _).drew.mono E7.o.size))
 replace AB:Hid (wf.heap[q]?=some (.cells #[.string p0,.string p1,.string p2,.string p3,.string p4,.string p5,.string p6,.string p7,.string p8,.string p9,.string p10,.string (⟨#[]⟩:ByteArray)] 9 (0,0))):=Hd (by rw[hwf];exact AB.o)
 clear hwf
 have hB:(fun wx:World=>CB wx w.heap.size c gv rv 28) wf:=HC0.o.on E8.o
 refine Xad 0 (.slice (some ⟨q,0,none⟩) 12 12) rfl (fun _ _=>by go_simp) hB ?_
 refine Xad 3 (.pointer (some ⟨w.heap.size,74,none⟩)) rfl (fun _ _=>by go_simp) hB ?_
 refine Xad 4 (.string c.body) rfl (fun w' hw'=>by have cl:=hw'.at (Xjl OK.o gv rv);go_simp) hB ?_
 refine Xak (i:=1) (by kernel_rfl) ?_
 refine Xao (f:=57) (args:=#[.slice (some ⟨q,0,none⟩) 12 12,.string (⟨#[10]⟩:ByteArray)]) rfl rfl (by kernel_rfl) ?_
 refine(CT.o wf q AB.o).mono ?_
 rintro e y8 ⟨rfl,rfl⟩
 refine⟨_,rfl,hB,?_⟩
 refine Xad 2 (.string (rr++(⟨#[10]⟩:ByteArray))) rfl (fun _ _=>by go_simp) hB ?_
 refine Xad 5 (.string (rr++(⟨#[10]⟩:ByteArray)++c.body)) rfl (fun _ _=>by go_simp) hB ?_
 refine Xad 6 (.string (rr++(⟨#[10]⟩:ByteArray)++c.body)) rfl (fun _ _=>by go_simp) hB ?_
 refine wpAnyH_done (by kernel_rfl) ?_ _
 go_simp
 refine‹∀(a:Act) (w_1:World),_→_› _ _ ?_
 go_wp2_with fail
 go_ret
 exact⟨by rw[←RES.o];rfl,bg HB0.o E8.o⟩
def exn (s:ByteArray):Cn:=⟨⟨#[65,110,110]⟩,1::List.replicate 15 0,0,[⟨#[97,46,98]⟩],s,[],zero32,⟨#[]⟩,⟨#[]⟩,0,1,List.replicate 16 0,0,⟨#[]⟩⟩
def exT (x:Nat):ByteArray:=Xaq [116,101,x]
theorem Xwr (x:Nat)(h:x=97∨x=110):(exn (exT x)).p=exC x:=by
 rcases h with rfl|rfl<;>decide+kernel
theorem Yan (s:ByteArray):(exn s).Ok:=⟨⟨by simp[exn],fun x hx=>by simp[exn] at hx;omega⟩,⟨by simp[exn],fun x hx=>by simp[exn] at hx;omega⟩,⟨by simp[exn,zero32],fun x hx=>by simp[exn,zero32] at hx;omega⟩,fun x hx=>(by cases hx),rfl,rfl,rfl,rfl⟩
theorem Yge {w:World}{g:Nat}{s:ByteArray}(hs:s.size≤1000)(h:w.heap[g]?=some (.cells #[.string ⟨#[97,46,98]⟩] 9 (0,0))):CnIn w (exn s) (.slice (some ⟨g,0,none⟩) 1 1) (.slice none 0 0):=
 ⟨Yan s,Nat.le_of_ble_eq_true rfl,by show s.size≤_;omega,Nat.le_of_ble_eq_true rfl,Nat.le_of_ble_eq_true rfl,Nat.le_of_ble_eq_true rfl,Nat.le_of_ble_eq_true rfl,fun x hx=>by
  have hx:x=⟨#[97,46,98]⟩:=by simpa [exn] using hx
  rw[hx];decide,Nat.le_of_ble_eq_true rfl,
  ⟨_,_,rfl,zL _,fun _=>⟨g,0,rfl,zY h,fun j hj=>by
    have hj:j<1:=hj
    obtain rfl:j=0:=by omega
    rw[cell_of_row w g (0+0) _ _ _ h];rfl⟩⟩,
  ⟨none,0,rfl,zL _,fun hne=>absurd rfl hne⟩⟩
theorem Yas (x:Nat)(h:x=97∨x=110):(Xa8 (exC x)).length≤10000000:=by rcases h with rfl|rfl<;>decide+kernel
theorem Yla:Lib.hasPrefix (Xaq (Xa8 (exC 97))).data.toList (⟨#[110,97,109,101,32,65,110,110,10,97,117,116,104,111,114,32,48,49,48,48]⟩:ByteArray).data.toList=true:=by decide+kernel
theorem Yea (w:World)(g:Nat):(Instr.build 39 #[(0,.string ⟨#[65,110,110]⟩),(1,.agg (idA (1::List.replicate 15 0))),(3,.slice (some ⟨g,0,none⟩) 1 1),(4,.string ⟨#[116,101,97]⟩),(10,.agg (pkC 1 (List.replicate 16 0)))]).run prog w=.ok (.agg ((exn (exT 97)).cells (.slice (some ⟨g,0,none⟩) 1 1) (.slice none 0 0))) w:=by kernel_rfl
theorem Xzp (w:World):(Instr.build 35 #[(0,.int .u8 1)]).run prog w=.ok (.agg (idA (1::List.replicate 15 0))) w:=by kernel_rfl
theorem Ykp (w:World):(Instr.build 37 #[(0,.int .i64 1)]).run prog w=.ok (.agg (pkC 1 (List.replicate 16 0))) w:=by kernel_rfl
theorem Ymk (w:World)(s:ByteArray):(Instr.buildSlice 23 1 #[(0,.string s)]).run prog w=.ok (.slice (some ⟨w.heap.size,0,none⟩) 1 1) (w.alloc (.cells #[.string s] 9)):=by kernel_rfl
theorem Xsf {o:Oper}{a:Act}(w:World)(ho:o.op=.alloc 39):(execOp a.eval o).run prog w=.ok (.value (.pointer (some ⟨w.heap.size,0,none⟩))) (w.alloc (.cells (cn0.cells (.slice none 0 0) (.slice none 0 0)) 39)):=by
 rw[Xh9]
 unfold execOp
 rw[ho]
 rfl
theorem Xse {o:Oper}{a:Act}(w:World)(ho:o.op=.alloc 26):(execOp a.eval o).run prog w=.ok (.value (.pointer (some ⟨w.heap.size,0,none⟩))) (w.alloc (.cells (idA zero32) 26)):=by
 unfold execOp
 rw[ho]
 rfl
theorem Xnr {P:Program}(w:World)(g o:Nat)(ty t:TypeId)(X Z:List Value)(y:Value)(s:ByteArray)(hg:w.heap[g]?=some (.cells (X++(y::Z)).toArray t (0,0)))(hX:X.length=o)
    (hi:(P.info? ty).map (·.size)=some 1):(storeVar ty ⟨g,o,none⟩ (.string s)).run P w=.ok () (w.setRow g (X++(.string s::Z)).toArray):=by
 have hst:=run_storeCells_at P g o t [.string s] 0 _ w hg (by simp;omega) (by simp[Value.oneCell'])
 have e:(X++(y::Z)).toArray.toList.take (o+0)++[.string s]++(X++(y::Z)).toArray.toList.drop (o+0+1)=X++(.string s::Z):=by
  subst hX
  simp
 rw[show([Value.string s]:List Value).length=1 from rfl,e] at hst
 cases hq:P.info? ty with
 |none=>simp[hq] at hi
 |some i=>
  have hs:i.size=1:=by simp[hq] at hi;omega
  simp[storeVar,sizeOf,typeInfo,hq,Value.cells,hs,hst]
theorem Ykz {c:Cont}(h:∀x∈c.root,x<256):IdOk (idV c):=by
 unfold idV
 split
 ·exact⟨Xbj _,Ya0 _⟩
 ·exact⟨by simp[zero32],fun x hx=>by simp[zero32] at hx;omega⟩
theorem Yam (s:ByteArray)(gv rv:Value):(exn s).cells gv rv=((([.string ⟨#[65,110,110]⟩]:List Value)++((1::List.replicate 15 0).map U++([.int .i64 0,gv]:List Value)))++(.string s::(rv::(zero32.map U++(([.string ⟨#[]⟩,.string ⟨#[]⟩,.int .i64 0,.int .i64 1]:List Value)++((List.replicate 16 0).map U++([.int .i64 0,.string ⟨#[]⟩]:List Value))))))).toArray:=rfl
theorem Xzr (w:World)(hE:Env w):
    Calls prog 5 #[] w fun e w'=>e=.returned (.bool true)∧Below w.heap.size w w':=by
 obtain⟨g,hg⟩:=xq w.heap.size
 obtain⟨gv,hgv⟩:=xq (Value.slice (some ⟨g,0,none⟩) 1 1)
 obtain⟨cA,hcA⟩:=xq ((exn (exT 97)).cells gv (.slice none 0 0))
 obtain⟨cB,hcB⟩:=xq ((exn (exT 110)).cells gv (.slice none 0 0))
 obtain⟨au,hau⟩:=xq (idA (1::List.replicate 15 0))
 obtain⟨pk,hpk⟩:=xq (pkC 1 (List.replicate 16 0))
 obtain⟨c0,hc0⟩:=xq (cn0.cells (.slice none 0 0) (.slice none 0 0))
 obtain⟨zs,hzs⟩:=xq (idA zero32)
 have BA:Hid (∀w,(Instr.build 35 #[(0,.int .u8 1)]).run prog w=.ok (.agg au) w):=Hd (fun w=>by rw[hau];exact Xzp w)
 have BP:Hid (∀w,(Instr.build 37 #[(0,.int .i64 1)]).run prog w=.ok (.agg pk) w):=Hd (fun w=>by rw[hpk];exact Ykp w)
 have BC:Hid (∀w,(Instr.build 39 #[(0,.string ⟨#[65,110,110]⟩),(1,.agg au),(3,gv),(4,.string ⟨#[116,101,97]⟩),(10,.agg pk)]).run prog w=.ok (.agg cA) w):=Hd (fun w=>by rw[hau,hpk,hcA,hgv];exact Yea w g)
 have AC:Hid (∀(o:Oper) (a:Act) (w:World),o.op=.alloc 39→(execOp a.eval o).run prog w=.ok (.value (.pointer (some ⟨w.heap.size,0,none⟩))) (w.alloc (.cells c0 39))):=Hd (fun o a w h=>by rw[hc0];exact Xsf w h)
 have AI:Hid (∀(o:Oper) (a:Act) (w:World),o.op=.alloc 26→(execOp a.eval o).run prog w=.ok (.value (.pointer (some ⟨w.heap.size,0,none⟩))) (w.alloc (.cells zs 26))):=Hd (fun o a w h=>by rw[hzs];exact Xse w h)
 obtain⟨w1,hw1⟩:=xq (w.alloc (.cells #[.string ⟨#[97,46,98]⟩] 9))
 obtain⟨w2,hw2⟩:=xq (w1.alloc (.cells c0 39))
 obtain⟨p,hp⟩:=xq w1.heap.size
 have pg:p=g+1:=by rw[hp,hw1,hg];simp
 have G1:w1.heap[g]?=some (.cells #[.string ⟨#[97,46,98]⟩] 9 (0,0)):=by rw[hw1,hg];exact heap_alloc_last w _
 have G2:w2.heap[g]?=some (.cells #[.string ⟨#[97,46,98]⟩] 9 (0,0)):=by rw[hw2];exact Xae G1
 have P2:w2.heap[p]?=some (.cells c0 39 (0,0)):=by rw[hw2,hp];exact heap_alloc_last w1 _
 have B1:Below g w w1:=by rw[hw1,hg];exact(zR _ _).alloc (zL _) _
 have B2:Below g w w2:=by rw[hw2];exact B1.alloc (by rw[←hp];omega) _
 have szA:cA.size=75:=by rw[hcA];exact Xa2 (Yan _) _ _
 have szB:cB.size=75:=by rw[hcB];exact Xa2 (Yan _) _ _
 have sz0:c0.size=75:=by rw[hc0];exact Xa2 Xgv _ _
 have onA:cA.all (·.oneCell')=true:=by rw[hcA,hgv];exact Xch _ _ _ rfl rfl
 have ST:=Hd (run_storeVar_row (P:=prog) w2 p _ 39 _ cA P2 (by rw[szA];exact Xbg) (by rw[szA,sz0]) onA)
 obtain⟨w3,hw3⟩:=xq (w2.setRow p cA)
 have P3:Hid (w3.heap[p]?=some (.cells cA 39 (0,0))):=Hd (by rw[hw3];exact setRow_heap w2 p _ cA _ _ P2)
 have G3:Hid (w3.heap[g]?=some (.cells #[.string ⟨#[97,46,98]⟩] 9 (0,0))):=Hd (by rw[hw3];exact(setRow_other w2 p g cA (by omega)).trans G2)
 have B3:Hid (Below g w w3):=Hd (by rw[hw3];exact below_setRow B2 (by omega) cA)
 have LDA:Hid (∀wx,wx.heap[p]?=some (.cells cA 39 (0,0))→(loadVar 39 ⟨p,0,none⟩).run prog wx=.ok (.agg cA) wx):=Hd (fun wx h=>run_loadVar_row wx p _ 39 _ _ _ h underlying39 rfl (by rw[szA];exact Xbg))
 have LDB:Hid (∀wx,wx.heap[p]?=some (.cells cB 39 (0,0))→(loadVar 39 ⟨p,0,none⟩).run prog wx=.ok (.agg cB) wx):=Hd (fun wx h=>run_loadVar_row wx p _ 39 _ _ _ h underlying39 rfl (by rw[szB];exact Xbg))
 have INA:∀wx,wx.heap[g]?=some (.cells #[.string ⟨#[97,46,98]⟩] 9 (0,0))→CnIn wx (exn (exT 97)) gv (.slice none 0 0):=fun wx h=>by rw[hgv];exact Yge (by decide) h
 have INB:∀wx,wx.heap[g]?=some (.cells #[.string ⟨#[97,46,98]⟩] 9 (0,0))→CnIn wx (exn (exT 110)) gv (.slice none 0 0):=fun wx h=>by rw[hgv];exact Yge (by decide) h
 have hE2:∀wx,Below g w wx→Env wx:=fun wx hb=>by rw[hg] at hb;exact hE.on hb
 obtain⟨t,ht⟩:=xq (Xaq (Xa8 (exC 97)))
 obtain⟨iA,hiA⟩:=xq (idA (idF (exC 97)))
 obtain⟨iB,hiB⟩:=xq (idA (idF (exC 110)))
 have CF:Hid (∀wx,Below g w wx→wx.heap[g]?=some (.cells #[.string ⟨#[97,46,98]⟩] 9 (0,0))→Calls prog 8 #[.agg cA] wx fun e w'=>e=.returned (.tuple #[.string t,.int .i64 0])∧Below wx.heap.size wx w'):=Hd (fun wx hb h=>by
  rw[hcA]
  refine(Xjw wx _ _ _ (INA wx h) (fun _=>by rw[Xwr 97 (.inl rfl)];exact Yas 97 (.inl rfl)) (hE2 wx hb)).mono ?_
  rintro e w' ⟨rfl,hb'⟩
  rw[Xwr 97 (.inl rfl),Yar 97 (.inl rfl),ht]
  exact⟨rfl,hb'⟩)
 have CIA:Hid (∀wx,Below g w wx→wx.heap[g]?=some (.cells #[.string ⟨#[97,46,98]⟩] 9 (0,0))→Calls prog 10 #[.agg cA] wx fun e w'=>e=.returned (.tuple #[.agg iA,.int .i64 0])∧Below wx.heap.size wx w'):=Hd (fun wx hb h=>by
  rw[hcA]
  refine(Xz2 wx _ _ _ (INA wx h) (fun _=>by rw[Xwr 97 (.inl rfl)];exact Yas 97 (.inl rfl)) (hE2 wx hb)).mono ?_
  rintro e w' ⟨rfl,hb'⟩
  have e1:idV (exC 97)=idF (exC 97):=by unfold idV;rw[qP (Yar 97 (.inl rfl))]
  rw[Xwr 97 (.inl rfl),Yar 97 (.inl rfl),e1,hiA]
  exact⟨rfl,hb'⟩)
 have CIB:Hid (∀wx,Below g w wx→wx.heap[g]?=some (.cells #[.string ⟨#[97,46,98]⟩] 9 (0,0))→Calls prog 10 #[.agg cB] wx fun e w'=>e=.returned (.tuple #[.agg iB,.int .i64 0])∧Below wx.heap.size wx w'):=Hd (fun wx hb h=>by
  rw[hcB]
  refine(Xz2 wx _ _ _ (INB wx h) (fun _=>by rw[Xwr 110 (.inr rfl)];exact Yas 110 (.inr rfl)) (hE2 wx hb)).mono ?_
  rintro e w' ⟨rfl,hb'⟩
  have e1:idV (exC 110)=idF (exC 110):=by unfold idV;rw[qP (Yar 110 (.inr rfl))]
  rw[Xwr 110 (.inr rfl),Yar 110 (.inr rfl),e1,hiB]
  exact⟨rfl,hb'⟩)
 have NEQ:Hid (∀wx,(Op.equal 26 (.agg iA) (.agg iB)).run prog wx=.ok false wx):=Hd (fun wx=>by
  have e:=Xqd wx (l:=idF (exC 97)) (m:=idF (exC 110)) ⟨Xbj _,Ya0 _⟩ ⟨Xbj _,Ya0 _⟩
  rw[hiA,hiB,e,zW Ymz])
 have siA:iA.size=32:=by rw[hiA,Xag];exact Xbj _
 have siB:iB.size=32:=by rw[hiB,Xag];exact Xbj _
 have siz:zs.size=32:=by rw[hzs,Xag];rfl
 have oA:iA.all (·.oneCell')=true:=by rw[hiA];exact Xdf _
 have oB:iB.all (·.oneCell')=true:=by rw[hiB];exact Xdf _
 have SI:Hid (∀(wx:World) (i:Array Value),i.size=32→i.all (·.oneCell')=true→(storeVar 26 ⟨wx.heap.size,0,none⟩ (.agg i)).run prog (wx.alloc (.cells zs 26))=.ok () ((wx.alloc (.cells zs 26)).setRow wx.heap.size i)∧((wx.alloc (.cells zs 26)).setRow wx.heap.size i).heap[wx.heap.size]?=some (.cells i 26 (0,0))∧Below wx.heap.size wx ((wx.alloc (.cells zs 26)).setRow wx.heap.size i)):=Hd (fun wx i h1 h2=>
  ⟨run_storeVar_row _ wx.heap.size _ 26 _ _ (heap_alloc_last wx _) (by rw[h1];exact Xa3) (by rw[h1,siz]) h2,setRow_heap _ _ _ _ _ _ (heap_alloc_last wx _),below_setRow ((zR _ _).alloc (zL _) _) (zL _) _⟩)
 have LI:Hid (∀(wx:World) b (i:Array Value),i.size=32→wx.heap[b]?=some (.cells i 26 (0,0))→(loadVar 26 ⟨b,0,none⟩).run prog wx=.ok (.agg i) wx):=Hd (fun wx b i h1 h=>run_loadVar_row wx b _ 26 _ _ _ h underlying26 rfl (by rw[h1];exact Xa3))
 have SS:Hid (∀wx,wx.heap[p]?=some (.cells cA 39 (0,0))→(storeVar 9 ⟨p,19,none⟩ (.string ⟨#[116,101,110]⟩)).run prog wx=.ok () (wx.setRow p cB)):=Hd (fun wx h=>by
  rw[hcA,Yam] at h
  rw[hcB,Yam]
  exact Xnr wx p 19 9 _ _ _ _ _ h rfl (by kernel_rfl))
 have HP:Hid (∀wx:World,Calls prog 24 #[.string t,.string ⟨#[110,97,109,101,32,65,110,110,10,97,117,116,104,111,114,32,48,49,48,48]⟩] wx fun e w'=>e=.returned (.bool true)∧w'=wx):=Hd (fun wx=>by
  have:=Xcs t ⟨#[110,97,109,101,32,65,110,110,10,97,117,116,104,111,114,32,48,49,48,48]⟩ wx
  rw[ht,Yla] at this
  rw[ht]
  exact this)
 have HSA:=Hd siA;have HSB:=Hd siB;have HOA:=Hd oA;have HOB:=Hd oB
 have PG:=Hd pg
 have GS:Hid (∀wx,Below g w wx→g≤wx.heap.size):=Hd (fun wx h=>by rw[hg];exact h.size)
 rw[←hw3] at ST
 have HW1:=Hd hw1;have HW2:=Hd hw2;have HGV:=Hd hgv;have HG:=Hd hg;have HPP:=Hd hp
 rw[←hg]
 clear hg hp hw1 hw2 hw3 hgv hcA hcB hau hpk hc0 hzs ht hiA hiB szA szB sz0 onA siA siB siz oA oB G1 G2 P2 B1 B2 INA INB hE2 hE pg
 go_enter func5,ntmps5
 go_upto_region 1 with fail
 refine wp_region_list ?_
 simp only[]
 refine Xdu 35 rfl _ rfl ⟨_,_,by kernel_rfl,BA.o w,?_⟩
 refine Xas rfl (Xod (v:=.string ⟨#[97,46,98]⟩) w rfl rfl (Ymk w _)) ?_
 rw[←HW1.o,←HG.o,←HGV.o]
 refine Xdu 37 rfl _ rfl ⟨_,_,by kernel_rfl,BP.o w1,?_⟩
 refine Xdu 39 rfl _ rfl ⟨_,_,by kernel_rfl,BC.o w1,?_⟩
 refine Xas rfl (AC.o _ _ w1 rfl) ?_
 rw[←HW2.o,←HPP.o]
 refine Xab 39 rfl _ _ rfl ⟨_,_,_,rfl,rfl,ST.o,?_⟩
 clear ST BA BP BC AC
 go_upto_region 2 with fail
 refine wp_region_list ?_
 simp only[]
 refine Xac 39 rfl _ rfl ⟨_,_,rfl,LDA.o _ P3.o,?_⟩
 go_wp2_with fail
 refine(CF.o w3 B3.o G3.o).mono ?_
 rintro e w4 ⟨rfl,hb⟩
 have P4:=Hd ((hb.block _ (zY P3.o)).trans P3.o)
 have G4:=Hd ((hb.block _ (zY G3.o)).trans G3.o)
 have B4:=Hd (B3.o.trans (hb.mono (GS.o _ B3.o)))
 clear hb B3 P3 G3 CF
 go_upto_region 3 with fail
 refine wp_region_list ?_
 simp only[]
 refine Xac 39 rfl _ rfl ⟨_,_,rfl,LDA.o _ P4.o,?_⟩
 go_wp2_with fail
 refine(CIA.o w4 B4.o G4.o).mono ?_
 rintro e w5 ⟨rfl,hb⟩
 have P5:=Hd ((hb.block _ (zY P4.o)).trans P4.o)
 have G5:=Hd ((hb.block _ (zY G4.o)).trans G4.o)
 have B5:=Hd (B4.o.trans (hb.mono (GS.o _ B4.o)))
 clear hb B4 P4 G4 CIA LDA
 obtain⟨w6,hw6⟩:=xq ((w5.alloc (.cells zs 26)).setRow w5.heap.size iA)
 have S5:=SI.o w5 iA HSA.o HOA.o
 rw[←hw6] at S5
 have ST5:=Hd S5.1
 have SH5:=Hd S5.2
 clear hw6 S5
 go_upto_region 4 with(first
  |((with_reducible refine Xas rfl (AI.o _ _ _ rfl) ?_))
  |((with_reducible refine Xab 26 rfl _ _ rfl ?_);refine⟨_,_,_,rfl,rfl,ST5.o,?_⟩))
 obtain⟨q,hq⟩:=xq w5.heap.size
 rw[←hq]
 have lp:=zY P5.o
 have lg:=zY G5.o
 have Q6:Hid (w6.heap[q]?=some (.cells iA 26 (0,0))):=Hd (by rw[hq];exact SH5.o.1)
 have P6:=Hd ((SH5.o.2.block _ lp).trans P5.o)
 have G6:=Hd ((SH5.o.2.block _ lg).trans G5.o)
 have B6:=Hd (B5.o.trans (SH5.o.2.mono (GS.o _ B5.o)))
 have QP:Hid (p<q∧g<q):=Hd ⟨by omega,by omega⟩
 clear SH5 ST5 hq lp lg P5 G5 B5
 obtain⟨w7,hw7⟩:=xq (w6.setRow p cB)
 have S6:=SS.o w6 P6.o
 rw[←hw7] at S6
 have ST6:=Hd S6
 have HW7:=Hd hw7
 clear hw7 S6
 go_upto_region 5 with((with_reducible refine Xab 9 rfl _ _ rfl ?_);refine⟨_,_,_,rfl,rfl,ST6.o,?_⟩)
 have P7:Hid (w7.heap[p]?=some (.cells cB 39 (0,0))):=Hd (by rw[HW7.o];exact setRow_heap w6 p _ cB _ _ P6.o)
 have G7:Hid (w7.heap[g]?=some (.cells #[.string ⟨#[97,46,98]⟩] 9 (0,0))):=Hd (by rw[HW7.o];exact(setRow_other w6 p g cB (by have:=PG.o;omega)).trans G6.o)
 have Q7:Hid (w7.heap[q]?=some (.cells iA 26 (0,0))):=Hd (by rw[HW7.o];exact(setRow_other w6 p q cB (by have:=QP.o;omega)).trans Q6.o)
 have B7:Hid (Below g w w7):=Hd (by rw[HW7.o];exact below_setRow B6.o (by have:=PG.o;omega) cB)
 clear HW7 ST6 SS P6 G6 Q6 B6
 refine wp_region_list ?_
 simp only[]
 refine Xac 39 rfl _ rfl ⟨_,_,rfl,LDB.o _ P7.o,?_⟩
 go_wp2_with fail
 refine(CIB.o w7 B7.o G7.o).mono ?_
 rintro e w8 ⟨rfl,hb⟩
 have Q8:=Hd ((hb.block _ (zY Q7.o)).trans Q7.o)
 have B8:=Hd (B7.o.trans (hb.mono (GS.o _ B7.o)))
 clear hb B7 P7 G7 Q7 CIB LDB
 obtain⟨w9,hw9⟩:=xq ((w8.alloc (.cells zs 26)).setRow w8.heap.size iB)
 have S8:=SI.o w8 iB HSB.o HOB.o
 rw[←hw9] at S8
 have ST8:=Hd S8.1
 have SH8:=Hd S8.2
 clear hw9 S8
 go_upto_region 6 with(first
  |((with_reducible refine Xas rfl (AI.o _ _ _ rfl) ?_))
  |((with_reducible refine Xab 26 rfl _ _ rfl ?_);refine⟨_,_,_,rfl,rfl,ST8.o,?_⟩))
 obtain⟨r,hr⟩:=xq w8.heap.size
 rw[←hr]
 have Q9:=Hd ((SH8.o.2.block _ (zY Q8.o)).trans Q8.o)
 have R9:w9.heap[r]?=some (.cells iB 26 (0,0)):=by rw[hr];exact SH8.o.1
 have B9:=Hd (B8.o.trans (SH8.o.2.mono (GS.o _ B8.o)))
 have LIA:=Hd (LI.o w9 q iA HSA.o Q9.o)
 have LIB:=Hd (LI.o w9 r iB HSB.o R9)
 clear SH8 ST8 hr Q8 B8 R9 Q9 SI LI AI
 go_wp2_with fail
 refine(HP.o w9).mono ?_
 rintro e w10 ⟨rfl,rfl⟩
 go_wp2_with (first
  |((with_reducible refine Xb0 26 _ rfl (by kernel_rfl) ?_);first|(refine⟨_,_,rfl,LIA.o,?_⟩)|(refine⟨_,_,rfl,LIB.o,?_⟩))
  |((with_reducible refine Xgy 26 _ _ rfl (by kernel_rfl) Xeo ?_);refine⟨_,_,_,rfl,rfl,NEQ.o _,?_⟩))
 go_ret
 exact⟨rfl,B9.o⟩
theorem Xej {P:Program}(w:World)(g o:Nat)(ty t:TypeId)(X Y Z:List Value)(vs:Array Value)(hg:w.heap[g]?=some (.cells (X++(Y++Z)).toArray t (0,0)))(hX:X.length=o)(hY:Y.length=vs.size)
    (hi:(P.info? ty).map (·.size)=some vs.size) (h1:vs.all (·.oneCell')=true):(storeVar ty ⟨g,o,none⟩ (.agg vs)).run P w=.ok () (w.setRow g (X++(vs.toList++Z)).toArray):=by
 have hst:=run_storeCells_at P g o t vs.toList 0 _ w hg (by simp;omega) (fun v hv=>(Array.all_eq_true'.1 h1) v (by simpa using hv))
 have e:(X++(Y++Z)).toArray.toList.take (o+0)++vs.toList++(X++(Y++Z)).toArray.toList.drop (o+0+vs.toList.length)=X++(vs.toList++Z):=by
  subst hX
  rw[show vs.toList.length=Y.length by rw[Array.length_toList,hY]]
  simp
 rw[e] at hst
 cases hq:P.info? ty with
 |none=>simp[hq] at hi
 |some i=>
  have hs:i.size=vs.size:=by simp[hq] at hi;omega
  simp[storeVar,sizeOf,typeInfo,hq,Value.cells,hs,hst]
section
variable {w:World} {b:Nat} {c:Cn} {gv rv:Value} {T:TypeId} (h:CB w b c gv rv T) (ok:c.Ok)
include h ok
theorem CB.setAu {a:List Nat}(ha:B16 a):(storeVar 35 ⟨b,1,none⟩ (.agg (idA a))).run prog w=.ok () (w.setRow b (({c with author:=a}:Cn).cells gv rv))∧CB (w.setRow b (({c with author:=a}:Cn).cells gv rv)) b {c with author:=a} gv rv T:=by
 refine⟨?_,setRow_heap w b _ _ _ _ h⟩
 have:=Xej (P:=prog) w b 1 35 T [.string c.name] (c.author.map U) (([.int .i64 c.date,gv,.string c.subject,rv]:List Value)++(c.sup.map U++(([.string c.ctl,.string c.dist,.int .i64 c.number,.int .i64 c.height]:List Value)++(c.root.map U++([.int .i64 c.leaf,.string c.body]:List Value))))) (idA a) h rfl (by rw[Xag,List.length_map,ok.author.len,ha.len]) (by rw[Xag,ha.len];exact Xkg) (Xdf a)
 rw[this];rfl
theorem CB.setSu {a:List Nat}(ha:IdOk a):(storeVar 26 ⟨b,21,none⟩ (.agg (idA a))).run prog w=.ok () (w.setRow b (({c with sup:=a}:Cn).cells gv rv))∧CB (w.setRow b (({c with sup:=a}:Cn).cells gv rv)) b {c with sup:=a} gv rv T:=by
 refine⟨?_,setRow_heap w b _ _ _ _ h⟩
 have:=Xej (P:=prog) w b 21 26 T (([.string c.name]:List Value)++(c.author.map U++([.int .i64 c.date,gv,.string c.subject,rv]:List Value))) (c.sup.map U) (([.string c.ctl,.string c.dist,.int .i64 c.number,.int .i64 c.height]:List Value)++(c.root.map U++([.int .i64 c.leaf,.string c.body]:List Value))) (idA a) (by unfold CB at h;rw[h];simp[Cn.cells]) (by simp[ok.author.len]) (by rw[Xag,List.length_map,ok.sup.len,ha.len]) (by rw[Xag,ha.len];exact Xa3) (Xdf a)
 rw[this]
 simp[Cn.cells,idA]
theorem CB.setPk {n:Int}{a:List Nat}(ha:a.length=16):(storeVar 37 ⟨b,56,none⟩ (.agg (pkC n a))).run prog w=.ok () (w.setRow b (({c with height:=n,root:=a}:Cn).cells gv rv))∧CB (w.setRow b (({c with height:=n,root:=a}:Cn).cells gv rv)) b {c with height:=n,root:=a} gv rv T:=by
 refine⟨?_,setRow_heap w b _ _ _ _ h⟩
 have:=Xej (P:=prog) w b 56 37 T (([.string c.name]:List Value)++(c.author.map U++(([.int .i64 c.date,gv,.string c.subject,rv]:List Value)++(c.sup.map U++([.string c.ctl,.string c.dist,.int .i64 c.number]:List Value))))) ([.int .i64 c.height]++c.root.map U) [.int .i64 c.leaf,.string c.body] (pkC n a) (by unfold CB at h;rw[h];simp[Cn.cells]) (by simp[ok.author.len,ok.sup.len]) (by rw[Xfc ha];simp[ok.root.len]) (by rw[Xfc ha];exact Xc6) (Ybe ha).2
 rw[this]
 simp[Cn.cells,pkC]
theorem CB.setDa (d:Int):CB (w.setCell ⟨b,17,none⟩ (.int .i64 d)) b {c with date:=d} gv rv T:=by
 have:=Xd8 h 17 (.int .i64 d)
 have e:=Xd4 (([.string c.name]:List Value)++c.author.map U) (.int .i64 c.date) (.int .i64 d) ([gv,.string c.subject,rv]++(c.sup.map U++(([.string c.ctl,.string c.dist,.int .i64 c.number,.int .i64 c.height]:List Value)++(c.root.map U++([.int .i64 c.leaf,.string c.body]:List Value))))) 17 (by simp[ok.author.len])
 rw[show(c.cells gv rv).setIfInBounds 17 (.int .i64 d)=({c with date:=d}:Cn).cells gv rv by simpa [Cn.cells,List.append_assoc] using e] at this
 exact this
theorem CB.setNu (d:Int):CB (w.setCell ⟨b,55,none⟩ (.int .i64 d)) b {c with number:=d} gv rv T:=by
 have:=Xd8 h 55 (.int .i64 d)
 have e:=Xd4 (([.string c.name]:List Value)++(c.author.map U++(([.int .i64 c.date,gv,.string c.subject,rv]:List Value)++(c.sup.map U++([.string c.ctl,.string c.dist]:List Value))))) (.int .i64 c.number) (.int .i64 d) ([.int .i64 c.height]++(c.root.map U++([.int .i64 c.leaf,.string c.body]:List Value))) 55 (by simp[ok.author.len,ok.sup.len])
 rw[show(c.cells gv rv).setIfInBounds 55 (.int .i64 d)=({c with number:=d}:Cn).cells gv rv by simpa [Cn.cells,List.append_assoc] using e] at this
 exact this
theorem CB.setLe (d:Int):CB (w.setCell ⟨b,73,none⟩ (.int .i64 d)) b {c with leaf:=d} gv rv T:=by
 have:=Xd8 h 73 (.int .i64 d)
 have e:=Xd4 (([.string c.name]:List Value)++(c.author.map U++(([.int .i64 c.date,gv,.string c.subject,rv]:List Value)++(c.sup.map U++(([.string c.ctl,.string c.dist,.int .i64 c.number,.int .i64 c.height]:List Value)++c.root.map U))))) (.int .i64 c.leaf) (.int .i64 d) [.string c.body] 73 (by simp[ok.author.len,ok.sup.len,ok.root.len])
 rw[show(c.cells gv rv).setIfInBounds 73 (.int .i64 d)=({c with leaf:=d}:Cn).cells gv rv by simpa [Cn.cells,List.append_assoc] using e] at this
 exact this
theorem CB.setGr (g':Value)(gs:List ByteArray):CB (w.setCell ⟨b,18,none⟩ g') b {c with groups:=gs} g' rv T:=h.set18 ok g'
theorem CB.setRe (r':Value)(rs:List (List Nat)):CB (w.setCell ⟨b,20,none⟩ r') b {c with refs:=rs} gv r' T:=h.set20 ok r'
end
def cnS (a b c d e:ByteArray):Cn:=⟨a,Xdm,0,[],b,[],zero32,c,d,0,0,List.replicate 16 0,0,e⟩
theorem Yel (w:World)(a b c d e:ByteArray):(Instr.build 39 #[(0,.string a),(4,.string b),(7,.string c),(8,.string d),(12,.string e)]).run prog w=.ok (.agg ((cnS a b c d e).cells (.slice none 0 0) (.slice none 0 0))) w:=by kernel_rfl
theorem Ygi (a b c d e:ByteArray):(cnS a b c d e).Ok:=
 ⟨⟨by simp[cnS,Xdm],fun x hx=>by simp[cnS,Xdm] at hx;omega⟩,⟨by simp[cnS],fun x hx=>by simp[cnS] at hx;omega⟩,zero_ok,fun x hx=>by simp[cnS] at hx,rfl,rfl,rfl,rfl⟩
def CkZ (w:World)(b:Nat)(z:Int):Prop:=w.heap[b]?=some (.cells #[.int .i64 z] 73 (0,0))
theorem CkZ.cell {w:World}{b:Nat}{z:Int}(h:CkZ w b z):w.cell? ⟨b,0,none⟩=some (.int .i64 z):=cell_of_row w b 0 _ _ _ h
theorem CkZ.free {w:World}{b:Nat}{z:Int}(h:CkZ w b z):w.frozen? ⟨b,0,none⟩=false:=by unfold CkZ at h;simp[World.frozen?,h]
def feZ (a b:Int):Int:=if a≠0 then a else b
def Xva (w:World)(b:Nat)(z:Int)(e:Ending)(w':World):Prop:=(∃v,e=.returned v)∧CkZ w' b z∧Fr1 b w w'
theorem Xxj (w:World)(b:Nat)(n:Int)(h:CkZ w b n)(e:Int):
    Calls prog 44 #[.pointer (some ⟨b,0,none⟩),.bool true,.int .i64 e] w (Xva w b (feZ n e)):=by
 have hc:=h.cell
 have hf:=h.free
 have H:=Hd h
 clear h
 by_cases h0:n=0
 ·subst h0
  have P:Hid (CkZ (w.setCell ⟨b,0,none⟩ (.int .i64 e)) b e):=Hd (Xd8 H.o 0 _)
  have Q:Hid (Fr1 b w (w.setCell ⟨b,0,none⟩ (.int .i64 e))):=Hd (Fr1.setC _)
  go_enter func44,ntmps44
  go_wp2_with fail
  go_end0
  exact⟨⟨_,rfl⟩,P.o,Q.o⟩
 ·have hz:(n==0)=false:=beq_eq_false_iff_ne.2 h0
  have HE:Hid (feZ n e=n):=Hd (by unfold feZ;rw[qP h0])
  clear h0
  go_enter func44,ntmps44
  go_wp2_with fail
  go_end0
  exact⟨⟨_,rfl⟩,by rw[HE.o];exact H.o,Fr1.refl _ _⟩
theorem Xcb (w:World)(b:Nat)(n:Int)(h:CkZ w b n)(e:Int):
    Calls prog 33 #[.pointer (some ⟨b,0,none⟩),.int .i64 e] w (Xva w b (feZ n e)):=by
 have W:=Hd (Xxj w b n h e)
 clear h
 go_enter func33,ntmps33
 go_wp2_with fail
 refine W.o.mono ?_
 rintro e w' ⟨⟨v,rfl⟩,h1,h2⟩
 have H1:=Hd h1;have H2:=Hd h2
 clear h1 h2 W
 go_wp2_with fail
 go_end0
 exact⟨⟨_,rfl⟩,H1.o,H2.o⟩
theorem SRow.fr {w w':World}{v:Value}{gs:List ByteArray}{b:Nat}(h:SRow w v gs)(hf:Fr1 b w w')(ho:∀k,v.ownBlock=some k→k≠b):SRow w' v gs:=by
 obtain⟨a,cap,rfl,hc,r⟩:=h
 refine⟨a,cap,rfl,hc,fun hne=>?_⟩
 obtain⟨k,off,rfl,hk,hcell⟩:=r hne
 refine⟨k,off,rfl,Nat.lt_of_lt_of_le hk hf.size,fun j hj=>?_⟩
 have e:=hf.other k hk (ho k rfl)
 rw[←hcell j hj];unfold World.cell?;simp only[e]
theorem IRow.fr {w w':World}{v:Value}{ids:List (List Nat)}{b:Nat}(h:IRow w v ids)(hf:Fr1 b w w')(ho:∀k,v.ownBlock=some k→k≠b):IRow w' v ids:=by
 obtain⟨a,cap,rfl,hc,r⟩:=h
 refine⟨a,cap,rfl,hc,fun hne=>?_⟩
 obtain⟨k,off,rfl,hk,hcell⟩:=r hne
 refine⟨k,off,rfl,Nat.lt_of_lt_of_le hk hf.size,fun j hj i u hu=>?_⟩
 have e:=hf.other k hk (ho k rfl)
 rw[←hcell j hj i u hu];unfold World.cell?;simp only[e]
structure FvI (w:World) (vs:List ByteArray) (c:Cn) (gv rv:Value) (er:Int) (wx:World):Prop where
 bel:Bw w wx
 box:wx.heap[w.heap.size]?=some (.cells (vs.map Value.string).toArray 80 (0,0))
 res:wx.heap[w.heap.size+1]?=some (.cells (cn0.cells (.slice none 0 0) (.slice none 0 0)) 39 (0,0))
 chk:CkZ wx (w.heap.size+2) er
 cb:CB wx (w.heap.size+3) c gv rv 39
 ok:c.Ok
 srow:SRow wx gv c.groups
 irow:IRow wx rv c.refs
 gown:∀k,gv.ownBlock=some k→w.heap.size+4≤k
 rown:∀k,rv.ownBlock=some k→w.heap.size+4≤k
section
variable {w:World} {vs:List ByteArray} {c:Cn} {gv rv:Value} {er:Int} {wx:World} (h:FvI w vs c gv rv er wx)
include h
theorem FvI.lt:w.heap.size+4≤wx.heap.size:=h.cb.lt
theorem FvI.on {wy:World}(hb:Bw wx wy):FvI w vs c gv rv er wy:=
 ⟨h.bel.trans (hb.mono h.bel.size),(hb.block _ (zY h.box)).trans h.box,(hb.block _ (zY h.res)).trans h.res,(hb.block _ (zY h.chk)).trans h.chk,h.cb.on hb,h.ok,h.srow.below hb,h.irow.below hb,h.gown,h.rown⟩
theorem FvI.at {j:Nat}{v:ByteArray}(hv:vs[j]?=some v):wx.cell? ⟨w.heap.size,j,none⟩=some (.string v):=by
 rw[cell_of_row wx w.heap.size j _ _ _ h.box];simp[hv]
theorem FvI.upd {wy:World}{b:Nat}{c':Cn}{gv' rv':Value}{er':Int}(hf:Fr1 b wx wy)(hb:b=w.heap.size+2∨b=w.heap.size+3)(hck:CkZ wy (w.heap.size+2) er')(hcb:CB wy (w.heap.size+3) c' gv' rv' 39)(ok':c'.Ok)
    (sr:SRow wx gv' c'.groups) (ir:IRow wx rv' c'.refs) (go:∀k,gv'.ownBlock=some k→w.heap.size+4≤k) (ro:∀k,rv'.ownBlock=some k→w.heap.size+4≤k):FvI w vs c' gv' rv' er' wy:=
 ⟨h.bel.trans (hf.below h.bel.size (by omega)),(hf.other _ (zY h.box) (by omega)).trans h.box,(hf.other _ (zY h.res) (by omega)).trans h.res,hck,hcb,ok',sr.fr hf (fun k hk=>by have:=go k hk;omega),ir.fr hf (fun k hk=>by have:=ro k hk;omega),go,ro⟩
theorem FvI.tk {wy:World}{er':Int}(hck:CkZ wy (w.heap.size+2) er')(hf:Fr1 (w.heap.size+2) wx wy):FvI w vs c gv rv er' wy:=
 h.upd hf (.inl rfl) hck (h.cb.fr hf (by omega)) h.ok h.srow h.irow h.gown h.rown
theorem FvI.row {cs:Array Value}{c':Cn}(hcb:CB (wx.setRow (w.heap.size+3) cs) (w.heap.size+3) c' gv rv 39)(ok':c'.Ok)(hg:c'.groups=c.groups)(hr:c'.refs=c.refs):FvI w vs c' gv rv er (wx.setRow (w.heap.size+3) cs):=
 have hf:Fr1 (w.heap.size+3) wx (wx.setRow (w.heap.size+3) cs):=⟨rfl,rfl,rfl,by simp[World.setRow],fun k _ hne=>setRow_other wx (w.heap.size+3) k cs hne⟩
 h.upd hf (.inr rfl) ((hf.other _ (zY h.chk) (by omega)).trans h.chk) hcb ok' (by rw[hg];exact h.srow) (by rw[hr];exact h.irow) h.gown h.rown
theorem FvI.one {j:Nat}{u:Value}{c':Cn}{gv' rv':Value}(hcb:CB (wx.setCell ⟨w.heap.size+3,j,none⟩ u) (w.heap.size+3) c' gv' rv' 39)(ok':c'.Ok)(sr:SRow wx gv' c'.groups)(ir:IRow wx rv' c'.refs)(go:∀k,gv'.ownBlock=some k→w.heap.size+4≤k)(ro:∀k,rv'.ownBlock=some k→w.heap.size+4≤k):FvI w vs c' gv' rv' er (wx.setCell ⟨w.heap.size+3,j,none⟩ u):=
 have hf:Fr1 (w.heap.size+3) wx (wx.setCell ⟨w.heap.size+3,j,none⟩ u):=Fr1.setC u
 h.upd hf (.inr rfl) ((hf.other _ (zY h.chk) (by omega)).trans h.chk) hcb ok' sr ir go ro
theorem FvI.free (j:Nat):wx.frozen? ⟨w.heap.size+3,j,none⟩=false:=by have:wx.heap[w.heap.size+3]?=_:=h.cb;simp[World.frozen?,this]
end
theorem Xj6 {n:Nat}(h:n≤1000000000):(Lit.int .i64 (n:Int)).wf=true:=by
 simp[Lit.wf,IntKind.min,IntKind.max,IntKind.signed,IntKind.bits]
 omega
theorem Xku (most:Nat)(l:List Nat):(Xow most l).1≤most:=by
 unfold Xow
 split
 ·exact Nat.zero_le _
 ·split
  ·assumption
  ·exact Nat.zero_le _
def FvGood (cn:Cn)(vs:List ByteArray)(body:ByteArray):Prop:=cn.Ok∧Xc4 cn.p=0∧vs.map bs=Xaz cn.p∧body=cn.body
def Xlw (vs:List ByteArray)(body:ByteArray)(w:World)(e:Ending)(w':World):Prop:=
 ∃(c:Cn) (gv rv:Value) (z:Int),e=.returned (.tuple #[.agg (c.cells gv rv),.int .i64 z])∧CnIn w' c gv rv∧(∀cn,FvGood cn vs body→z=0∧c.p=cn.p)∧(∀k,gv.ownBlock=some k→w.heap.size≤k)∧(∀k,rv.ownBlock=some k→w.heap.size≤k)∧Bw w w'
theorem Xlp {c:Cont}(h:Xc4 c=0):Xbt c.groups=0∧Xe9 c.refs=0∧c.leaf≤255:=by
 have vd:=Xe6 h
 unfold Xc4 at h
 obtain⟨h1,h⟩:=Xbc h
 obtain⟨h2,h⟩:=Xbc h
 obtain⟨h3,h⟩:=Xbc h
 obtain⟨h4,h⟩:=Xbc h
 obtain⟨h5,h⟩:=Xbc h
 obtain⟨h6,h⟩:=Xbc h
 obtain⟨h7,h⟩:=Xbc h
 obtain⟨h8,h⟩:=Xbc h
 obtain⟨h9,h⟩:=Xbc h
 obtain⟨h10,h⟩:=Xbc h
 refine⟨h3,h5,?_⟩
 have h10:=Xee (by decide) h10
 simp only[Bool.or_eq_false_iff,decide_eq_false_iff_not] at h10
 have h11:=h10.2
 unfold Xbh at h11
 have hh:=vd.height
 have hb:Xav c.height=true:=by unfold Xav;simp;omega
 rw[qP hb] at h11
 have:(2:Int)^c.height.toNat≤256:=by
  obtain⟨k,hk⟩:=xq c.height.toNat
  rw[←hk]
  have h8:k≤8:=by omega
  have:∀k,k≤8→(2:Int)^k≤256:=by decide
  exact this k h8
 omega
theorem Yii {l:List Nat}(h:∀c∈l,48≤c∧c≤57):l.all dig=true:=by
 rw[List.all_eq_true]
 intro c hc
 have:=h c hc
 unfold dig;simp;omega
theorem Yay (k u:Nat):Xes k u≠[]:=by
 cases k with
 |zero=>simp[Xes]
 |succ k=>simp only[Xes];split<;>simp
theorem Xqi:∀(k u:Nat),u<10^(k+1)→1<(Xes k u).length→(Xes k u).getD 0 0≠48
 |0,u,_,h=>by simp[Xes] at h
 |k+1,u,hu,h=>by
  simp only[Xes] at h⊢
  split
  ·rename_i h10;rw[qP h10] at h;simp at h
  ·rename_i h10
   have hu':u/10<10^(k+1):=by rw[Nat.pow_succ] at hu;omega
   have hne:=Yay k (u/10)
   have hpos:0<(Xes k (u/10)).length:=List.length_pos_iff.2 hne
   have e:(Xes k (u/10)++[48+u%10]).getD 0 0=(Xes k (u/10)).getD 0 0:=by
    rw[List.getD_eq_getElem?_getD,List.getElem?_append_left hpos,←List.getD_eq_getElem?_getD]
   rw[e]
   by_cases hl:1<(Xes k (u/10)).length
   ·exact Xqi k (u/10) hu' hl
   · --one digit:it is u/10,not 0
    have h1:(Xes k (u/10)).length=1:=by omega
    obtain⟨x,hx⟩:∃x,Xes k (u/10)=[x]:=List.length_eq_one_iff.1 h1
    have hv:=Xhl k (u/10) hu'
    rw[hx] at hv⊢
    have hm:=Xj0 k (u/10) x (by rw[hx];exact List.mem_singleton.2 rfl)
    simp[Xjg] at hv
    simp
    omega
theorem Xhr {v:Int}{most:Nat}(h0:0≤v)(h1:v≤(most:Int))(hm:most≤1000000000):Xow most (Xdq v)=(v.toNat,0):=by
 rw[Xgf h0]
 have hlt:v.toNat<10^21:=by have:(10:Nat)^21=1000000000000000000000:=by decide
                            omega
 unfold Xow
 rw[qN,Xhl 20 v.toNat hlt,qP (by omega)]
 rintro(h|h|⟨h,h2⟩)
 ·exact Yay _ _ h
 ·rw[Yii (Xj0 20 v.toNat)] at h;cases h
 ·exact Xqi 20 v.toNat hlt h h2
theorem Yfv (s:Nat):∀(x:List Nat),s∉x→spl s x=[x]
 |[],_=>rfl
 |c::x,h=>by
  have h1:c≠s:=fun e=>h (by rw[e];exact List.mem_cons_self ..)
  simp only[spl]
  rw[qN h1,Yfv s x (fun e=>h (List.mem_cons_of_mem _ e))]
theorem Xx6 (s:Nat)(b:List Nat):∀(x:List Nat),s∉x→spl s (x++s::b)=x::spl s b
 |[],_=>by simp[spl]
 |c::x,h=>by
  have h1:c≠s:=fun e=>h (by rw[e];exact List.mem_cons_self ..)
  rw[List.cons_append]
  simp only[spl]
  rw[qN h1,Xx6 s b x (fun e=>h (List.mem_cons_of_mem _ e))]
theorem Xtl (s:Nat):∀{l:List (List Nat)},l≠[]→(∀x∈l,s∉x)→spl s (Xaw [s] l)=l
 |[],h,_=>absurd rfl h
 |[x],_,h=>Yfv s x (h x (List.mem_cons_self ..))
 |x::y::r,_,h=>by
  rw[join_cons,Xx6 s _ x (h x (List.mem_cons_self ..)),Xtl s (by simp) (fun z hz=>h z (List.mem_cons_of_mem _ hz))]
theorem Yhq {x:List Nat}(h:Xbf x=0):x≠[]:=by
 rintro rfl
 exact absurd h (by decide)
theorem Yej {l:List (List Nat)}(h:Xbt l=0):Ygc (Xaw [44] l)=0∧spl 44 (Xaw [44] l)=l:=by
 have hg:=Xp8 h
 have h44:∀x∈l,44∉x:=fun x hx he=>(Xhs (hg.2 x hx) 44 he).2.1 rfl
 have e:=Xtl 44 hg.1 h44
 refine⟨?_,e⟩
 unfold Ygc
 rw[qN (fun hn=>hg.1 (Xn6 (fun x hx=>Yhq (hg.2 x hx)) hn)),e]
 unfold Xbt at h
 rw[qN hg.1] at h
 exact h
theorem Xzu {c:Cont}(hn:0≤c.number):Xi2 32 (Xi7 c)=Xdq c.number∧(Xi7 c).drop ((Xi2 32 (Xi7 c)).length+1)=Xfk (Xho c):=by
 have h:Xi2 32 (Xi7 c)=Xdq c.number:=by
  unfold Xi2 Xi7
  rw[(Xte (fun x=>!decide (x=32)) (Xdq c.number) (32::Xfk (Xho c)) (fun x hx=>by
   have:=Xdl hn x hx
   simp;omega) (.inr ⟨32,_,rfl,by decide⟩)).1]
 refine⟨h,?_⟩
 rw[h]
 unfold Xi7
 rw[←List.drop_drop,List.drop_left];rfl
theorem Xt3 {c:Cont}(hr:c.root.length=16)(hl:∀x∈c.root,x<256)(h1:1≤c.height)(h8:c.height≤8):Xgl (Xfk (Xho c))=0∧(Xct (Xfk (Xho c))).1=c.height.toNat::c.root:=by
 have hb:(c.height%256).toNat=c.height.toNat:=by omega
 have e:Xct (Xfk (Xho c))=(c.height.toNat::c.root,0,0):=by
  rw[Xsl (Xho c) (fun x hx=>by
   unfold Xho at hx
   rcases List.mem_cons.1 hx with rfl|hx
   ·omega
   ·exact hl x hx) (by unfold Xho;rw[List.length_cons,hr];omega)]
  unfold Xho;rw[hb]
 refine⟨?_,by rw[e]⟩
 unfold Xgl
 rw[e]
 simp only[List.length_cons,hr,List.getD_cons_zero]
 rw[qN (by simp),qN (by omega),qN (by omega),qN (by omega)]
end Go.Proofs.YtjolcnopipbkhaaGreatDoor
