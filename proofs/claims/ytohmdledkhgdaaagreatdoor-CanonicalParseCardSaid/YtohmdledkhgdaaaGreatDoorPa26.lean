/- references.Parse. -/
import Derived.Test.YtohmdledkhgdaaaGreatDoorPa25
namespace Go.Proofs.YtohmdledkhgdaaaGreatDoor
open Go.RowKit
set_option linter.unusedVariables false
set_option maxRecDepth 100000
theorem Ycj:∀l:List Value,l.length=32→Tryz.prog.builtSlice 26 1 [(0,.agg l.toArray)]=some l.toArray
 |[a0,a1,a2,a3,a4,a5,a6,a7,a8,a9,a10,a11,a12,a13,a14,a15,a16,a17,a18,a19,a20,a21,a22,a23,a24,a25,a26,a27,a28,a29,a30,a31],_=>by kernel_rfl
theorem Xp7 {w:World} {base n sz:Nat} {T:TypeId} {v:Value} {xs:List Value} (h:w.ownsRow base T sz v n xs):∃(va:Option Addr) (vc:Nat),v=.slice va n vc:=by
 rcases h.2 with⟨rfl,h0⟩|⟨g,cap,cur,rfl,r⟩
 ·exact⟨none,0,by rw[h0]⟩
 ·exact⟨_,cap,rfl⟩
theorem Xmz (w:World):IRow w (.slice none 0 0) []:=⟨none,0,rfl,Nat.le_refl _,fun h=>absurd rfl h⟩
theorem Xj8 (w:World) (c:Nat) (hc:c<256):Calls Tryz.prog 154 #[.int .u8 (c:Int)] w fun e w'=>e=.returned (.bool (blk c))∧w=w':=by
 rcases(by omega:c=32∨c=9∨(c≠32∧c≠9)) with rfl|rfl|⟨h1,h2⟩
 ·go_enter Tryz.func154,Tryz.ntmps154
  go_wp2_with fail
  go_ret
  exact⟨rfl,rfl⟩
 ·go_enter Tryz.func154,Tryz.ntmps154
  go_wp2_with fail
  go_ret
  exact⟨rfl,rfl⟩
 ·have e1:((c:Int)==32)=false:=Xak (by omega)
  have e2:((c:Int)==9)=false:=Xak (by omega)
  have e3:blk c=false:=by unfold blk;rw[decide_eq_false h1,decide_eq_false h2];rfl
  rw[e3]
  clear e3
  go_enter Tryz.func154,Tryz.ntmps154
  go_wp2_with fail
  go_ret
  exact⟨rfl,rfl⟩
theorem Xl0 {l:List Nat} {f:Nat} (h:f<l.length):l.drop f=l.getD f 0::l.drop (f+1):=by
 rw[List.drop_eq_getElem_cons h];simp[List.getD,h]
theorem Ydz {l:List Nat} {f t:Nat} (ht:f≤t) (htl:t≤l.length) (hg:∀q,f≤q→q<t→blk (l.getD q 0)=false) (hend:t=l.length∨blk (l.getD t 0)=true):
    (l.take t).drop f=(l.drop f).takeWhile (fun x=>!blk x)∧l.drop t=(l.drop f).dropWhile (fun x=>!blk x):=by
 have e:l.drop f=(l.take t).drop f++l.drop t:=by
  conv=>lhs;rw[←List.take_append_drop t l]
  rw[List.drop_append_of_le_length (by rw[List.length_take];omega)]
 have hb:l.drop t=[]∨∃c u,l.drop t=c::u∧(!blk c)=false:=by
  rcases hend with h|h
  ·left;rw[h,List.drop_length]
  ·by_cases h2:t=l.length
   ·left;rw[h2,List.drop_length]
   ·right;exact⟨_,_,Xl0 (by omega),by rw[h];rfl⟩
 obtain⟨h1,h2⟩:=Xrq (fun x=>!blk x) ((l.take t).drop f) (l.drop t) (fun c hc=>by
  obtain⟨q,hq,rfl⟩:=List.mem_iff_getElem.1 hc
  rw[List.length_drop,List.length_take] at hq
  have:=hg (f+q) (by omega) (by omega)
  rw[List.getElem_drop,List.getElem_take]
  simp[List.getD,show f+q<l.length by omega] at this
  simpa using this) hb
 rw[←e] at h1 h2
 exact⟨h1.symm,h2.symm⟩
def Ygi (l:List Nat) (w:World) (e:Ending) (w':World):Prop:=
 ∃(v:Value) (ids:List (List Nat)) (a:Int) (er:Nat),e=.returned (.tuple #[v,.int .i64 a,.int .i64 (er:Int)])∧IRow w' v ids∧(∀x∈ids,IdOk x)∧ids.length≤20∧((rpL [] l=some ids∧er=0)∨(rpL [] l=none∧er≠0))∧(∀k,v.ownBlock=some k→w.heap.size≤k)∧Below w.heap.size w w'
set_option maxHeartbeats 8000000 in
theorem Xwi (s:ByteArray) (w:World) (hs:s.size≤1000000):
    Calls Tryz.prog 114 #[.string s] w (Ygi (bs s) w):=by
 have LEN:=Hd (Xaa s)
 obtain⟨i0,hi0,hz0,hz1,hz2⟩:=info_parts Yff
 have hmm:=@run_makeMap Tryz.prog
 go_enter Tryz.func114,Tryz.ntmps114
 go_wp2_with fail
 clear hmm
 go_loopg [2,6,7,8,9,10,11] s.size (fun k v vf v7 v8 v9 v10 v11 wr=>∃(f:Nat) (acc:List (List Nat)) (va:Option Addr) (vc:Nat),f≤s.size∧k=s.size-f∧vf=.int .i64 (f:Int)∧v=.slice va acc.length vc∧Hid (rpL [] (bs s)=rpL acc ((bs s).drop f))∧Hid (∀x∈acc,IdOk x)∧acc.length≤20∧Hid (MId wr w.heap.size acc)∧Hid (wr.ownsRow (w.heap.size+1) 26 32 v acc.length (Xbv acc))∧Hid (Below w.heap.size w wr))
 case atStart=>exact⟨0,[],none,0,by omega,rfl,rfl,rfl,Hd rfl,Hd (by simp),by simp,Hd (MId.made w),Hd (World.ownsRow_nil _ _ _ _),Hd ((Below.refl _ _).alloc (Nat.le_refl _) _)⟩
 case round=>
  obtain⟨f,acc,va,vc,hf,rfl,rfl,rfl,hlaw,hok,h20,hm,ho,hb⟩:=hrel
  by_cases hlt:f<s.size
  ·obtain⟨c,hc⟩:∃c,c=(bs s).getD f 0:=⟨_,rfl⟩
   have hc2:c<256:=by rw[hc];exact Xa8 s f
   have xf:∀w,(Instr.index 9 (.string s) (.int .i64 (f:Int))).run Tryz.prog w=.ok (.int .u8 (c:Int)) w:=fun w=>by rw[Xa7 9 Tryz.underlying9 s .i64 f f rfl hlt,hc]
   have IB:=Hd (fun w=>Xj8 w c hc2)
   have DR:Hid ((bs s).drop f=c::(bs s).drop (f+1)):=Hd (by rw[hc];exact Xl0 (by rw[LEN.out];exact hlt))
   have HC:=Hd hc
   by_cases hbk:blk c=true
   ·have LAW2:Hid (rpL [] (bs s)=rpL acc ((bs s).drop (f+1))):=Hd (by rw[hlaw.out,DR.out,Xn2 hbk])
    rw[hbk] at IB
    have v1:IntKind.i64.wrap ((f:Int)+1)=(f:Int)+1:=IntWalk.i64_in _ (by omega)
    clear hbk hc hlaw DR
    go_wp2_with (go_at_call 154;refine(IB.out _).mono ?_;rintro e w' ⟨rfl,rfl⟩)
    go_roundg (s.size-(f+1))
    case measure=>omega
    case rel=>exact⟨f+1,acc,va,vc,by omega,rfl,by go_num,rfl,LAW2,hok,h20,hm,ho,hb⟩
   have hbk':blk c=false:=by simpa using hbk
   rw[hbk'] at IB
   have HBK:=Hd hbk'
   clear hbk hbk' hc
   go_wp2_with (go_at_call 154;refine(IB.out _).mono ?_;rintro e w' ⟨rfl,rfl⟩)
   clear IB xf
   go_loopg [7] (s.size-f) (fun k vt wi=>∃t:Nat,f≤t∧t≤s.size∧k=s.size-t∧vt=.int .i64 (t:Int)∧Hid (∀q,f≤q→q<t→blk ((bs s).getD q 0)=false)∧wr=wi)
   case atStart=>exact⟨f,by omega,by omega,rfl,rfl,Hd (fun q h1 h2=>by omega),rfl⟩
   case round=>
    obtain⟨t,hft,hts,rfl,rfl,hg,rfl⟩:=hrel
    obtain⟨q,hq⟩:∃q,q=(decide (t<s.size)&&!blk ((bs s).getD t 0)):=⟨_,rfl⟩
    go_upto_region 7 with fail
    go_cut [34] from 24 to 33 (fun v wx=>v=.bool q∧wr=wx)
    case first=>
     by_cases h:t<s.size
     ·obtain⟨d,hd⟩:∃d,d=(bs s).getD t 0:=⟨_,rfl⟩
      have hd2:d<256:=by rw[hd];exact Xa8 s t
      have xt:∀w,(Instr.index 9 (.string s) (.int .i64 (t:Int))).run Tryz.prog w=.ok (.int .u8 (d:Int)) w:=fun w=>by rw[Xa7 9 Tryz.underlying9 s .i64 t t rfl h,hd]
      have IB:=Hd (fun w=>Xj8 w d hd2)
      have hqv:Hid (q=!blk d):=Hd (by rw[hq,←hd,decide_eq_true h];rfl)
      have d1:decide ((t:Int)<(s.size:Int))=true:=by simpa using h
      clear hd hq
      cases hb2:blk d
      ·rw[hb2] at IB hqv
       go_wp2_with (go_at_call 154;refine(IB.out _).mono ?_;rintro e w' ⟨rfl,rfl⟩)
       go_meet
       exact⟨by rw[hqv.out];rfl,rfl⟩
      ·rw[hb2] at IB hqv
       go_wp2_with (go_at_call 154;refine(IB.out _).mono ?_;rintro e w' ⟨rfl,rfl⟩)
       go_meet
       exact⟨by rw[hqv.out];rfl,rfl⟩
     ·have hqv:Hid (q=false):=Hd (by rw[hq,decide_eq_false h];rfl)
      have d1:decide ((t:Int)<(s.size:Int))=false:=by simpa using h
      clear hq
      go_wp2_with fail
      go_meet
      exact⟨by rw[hqv.out],rfl⟩
    case rest=>
    obtain⟨rfl,hw⟩:=hcut
    subst hw
    cases q
    case true=>
     have hq2:=hq.symm
     rw[Bool.and_eq_true,decide_eq_true_iff] at hq2
     obtain⟨h1,h2⟩:=hq2
     have G2:Hid (∀q,f≤q→q<t+1→blk ((bs s).getD q 0)=false):=Hd (fun q h3 h4=>by
      by_cases e:q=t
      ·rw[e];simpa using h2
      ·exact hg.out q h3 (by omega))
     have v1:IntKind.i64.wrap ((t:Int)+1)=(t:Int)+1:=IntWalk.i64_in _ (by omega)
     clear hq h2 hg
     go_wp2_with fail
     go_roundg (s.size-(t+1))
     case measure=>omega
     case rel=>exact⟨t+1,by omega,by omega,rfl,by go_num,G2,rfl⟩
    have HEND:t=(bs s).length∨blk ((bs s).getD t 0)=true:=by
     rw[LEN.out]
     by_cases h:t<s.size
     ·right
      rw[decide_eq_true h] at hq
      cases hb2:blk ((bs s).getD t 0)
      ·rw[hb2] at hq;cases hq
      ·rfl
     ·left;omega
    have hlt2:f<t:=by
     rcases Nat.lt_or_ge f t with h|h
     ·exact h
     ·obtain rfl:t=f:=by omega
      rcases HEND with h|h
      ·rw[LEN.out] at h;omega
      ·rw[←HC.out,HBK.out] at h;cases h
    obtain⟨WA,WB⟩:=Ydz (Nat.le_of_lt hlt2) (by rw[LEN.out];exact hts) hg.out HEND
    obtain⟨wd,hwd⟩:∃wd,wd=s.extract f t:=⟨_,rfl⟩
    have WBS:bs wd=((bs s).take t).drop f:=by rw[hwd,Xby]
    have wz:wd.size≤s.size:=by
     have:=congrArg List.length WBS
     rw[Xaa,List.length_drop,List.length_take,LEN.out] at this;omega
    have STEP:Hid (rpL [] (bs s)=if acc.length=20 then none else match Xe4 (bs wd) with|none=>none|some id=>if cnF acc id≠0 then none else rpL (acc++[id]) ((bs s).drop t)):=Hd (by
     rw[hlaw.out,DR.out]
     rw[DR.out] at WA WB
     exact Xr7 HBK.out (by rw[WBS];exact WA) WB)
    have MP:=Hd (Xhq wd wr (by omega))
    have hsl:s.extract f t=wd:=hwd.symm
    have x0:(0:Int)≤(f:Int):=by omega
    have x1:(f:Int)≤(t:Int):=by omega
    have x2:(t:Int)≤(s.size:Int):=by omega
    clear hq WA WB WBS hg HEND hlaw HC DR
    by_cases e20:acc.length=20
    ·have F:Hid (rpL [] (bs s)=none):=Hd (by rw[STEP.out,if_pos e20])
     have q1:((acc.length:Int)==20)=true:=Xa6 (by omega)
     clear STEP MP e20 hwd
     go_wp2_with fail
     go_ret3
     exact⟨_,[],_,9,rfl,Xmz _,by simp,by simp,.inr ⟨F.out,by decide⟩,(fun k hk=>by cases hk),hb.out⟩
    have q1:((acc.length:Int)==20)=false:=Xak (by omega)
    have STEP2:Hid (rpL [] (bs s)=match Xe4 (bs wd) with|none=>none|some id=>if cnF acc id≠0 then none else rpL (acc++[id]) ((bs s).drop t)):=Hd (by rw[STEP.out,if_neg e20])
    clear STEP hwd
    go_wp2_with fail
    refine MP.out.mono ?_
    rintro e w1 ⟨ao,er,hmid,hb1⟩
    have hpost:∃(id:List Nat) (er':Int),e=.returned (.tuple #[.agg (idA id),.int .i64 ao,.int .i64 er'])∧IdOk id∧((Xe4 (bs wd)=none∧er'≠0)∨(Xe4 (bs wd)=some id∧er'=0)):=by
     cases hp:Xe4 (bs wd) with
     |none=>rw[hp] at hmid;exact⟨zero32,er,hmid.1,zero_ok,.inl ⟨rfl,hmid.2⟩⟩
     |some i=>rw[hp] at hmid;exact⟨i,0,hmid,Xln hp,.inr ⟨rfl,rfl⟩⟩
    clear hmid MP
    obtain⟨id,er',rfl,hio,hcase⟩:=hpost
    have IOK:=Hd hio
    obtain⟨cs,hcs⟩:∃cs,cs=idA id:=⟨_,rfl⟩
    rw[←hcs]
    have CSZ:Hid (cs.size=32):=Hd (by rw[hcs,Xag];exact hio.len)
    have STN:Hid (∀zz:Array Value,zz.size=32→(storeVar 26 ⟨w1.heap.size,0,none⟩ (.agg cs)).run Tryz.prog (w1.alloc (.cells zz 26))=.ok () (w1.alloc (.cells cs 26))):=Hd (fun zz hz=>run_storeVar_new w1 26 zz cs (by rw[CSZ.out];exact Xbf) (by rw[hz,CSZ.out]) (by rw[hcs];exact Xdu _))
    have hb5:Below wr.heap.size wr (w1.alloc (.cells cs 26)):=hb1.alloc hb1.size _
    have P5:Hid ((w1.alloc (.cells cs 26)).heap[w1.heap.size]?=some (.cells cs 26 (0,0))):=Hd (heap_alloc_last w1 _)
    have M5:=Hd (hm.out.below hb5)
    have O5:=Hd (Xdp ho.out hb5)
    have B5:=Hd (hb.out.trans (hb5.mono hb.out.size))
    have GW:Hid (w.heap.size+1≤w1.heap.size):=Hd (by have:=hm.out.lt;have:=hb1.size;omega)
    rcases hcase with⟨hn,he⟩|⟨hn,rfl⟩
    ·have F:Hid (rpL [] (bs s)=none):=Hd (by rw[STEP2.out,hn])
     have q2:(er' !=0)=true:=Xam he
     clear STEP2 hn he hb1 hb5 hcs hio
     go_wp2_with ((with_reducible refine Xab 26 rfl _ _ rfl ?_);refine⟨_,_,_,rfl,rfl,STN.out _ rfl,?_⟩)
     go_ret3
     exact⟨_,[],_,3,rfl,Xmz _,by simp,by simp,.inr ⟨F.out,by decide⟩,(fun k hk=>by cases hk),B5.out⟩
    have STEP3:Hid (rpL [] (bs s)=if cnF acc id≠0 then none else rpL (acc++[id]) ((bs s).drop t)):=Hd (by rw[STEP2.out,hn])
    have HCS:=Hd hcs
    clear STEP2 hn hb1 hb5 hcs
    go_upto_region 14 with((with_reducible refine Xab 26 rfl _ _ rfl ?_);refine⟨_,_,_,rfl,rfl,STN.out _ rfl,?_⟩)
    obtain⟨w6,hw6⟩:∃w6,w6=w1.alloc (.cells cs 26):=⟨_,rfl⟩
    obtain⟨g,hg⟩:∃g,g=w1.heap.size:=⟨_,rfl⟩
    rw[←hw6] at P5 M5 O5 B5⊢
    rw[←hg] at P5 GW⊢
    clear hw6 hg STN
    have LD:=Hd (run_loadVar_row w6 g _ 26 cs _ _ P5.out Tryz.underlying26 rfl (by rw[CSZ.out];exact Xbf))
    have CN:=Hd (Xo7 w6 w.heap.size acc M5.out hok.out hio)
    rw[←HCS.out] at CN
    obtain⟨m,hmm⟩:∃m,m=cnF acc id:=⟨_,rfl⟩
    unfold Xzp at CN
    rw[←hmm] at CN STEP3
    clear hmm hm ho hb
    refine wp_region_list ?_
    simp only[]
    refine Xac 26 rfl _ rfl ⟨_,_,rfl,LD.out,?_⟩
    go_wp2_with fail
    refine CN.out.mono ?_
    rintro e w7 ⟨rfl,h1,f1⟩
    have B7:Hid (Below w.heap.size w w7):=Hd (B5.out.trans (f1.below B5.out.size (Nat.le_refl _)))
    by_cases m0:m=0
    ·have q0:((m:Int) !=0)=false:=Xat (by omega)
     have M7:Hid (MId w7 w.heap.size (acc++[id])):=Hd (h1 m0)
     have LAW7:Hid (rpL [] (bs s)=rpL (acc++[id]) ((bs s).drop t)):=Hd (by rw[STEP3.out,if_neg (by omega)])
     have P7:Hid (w7.heap[g]?=some (.cells cs 26 (0,0))):=Hd ((f1.other g (lt_of_block P5.out) (by have:=GW.out;omega)).trans P5.out)
     have O7:=Hd (Xjq O5.out f1 (by omega))
     have LD7:=Hd (run_loadVar_row w7 g _ 26 cs _ _ P7.out Tryz.underlying26 rfl (by rw[CSZ.out];exact Xbf))
     have BS:Hid (Tryz.prog.builtSlice 26 1 [((0:Nat),Value.agg cs)]=some cs):=Hd (by have:=Ycj cs.toList (by simpa using CSZ.out);simpa using this)
     have TS:Hid (Xbv (acc++[id])=Xbv acc++cs.toList):=Hd (by rw[Xia,HCS.out];rfl)
     have ONE:Hid (∀u∈cs.toList,u.oneCell'=true):=Hd (fun u hu=>by rw[HCS.out] at hu;exact(Array.all_eq_true'.1 (Xdu id)) u (by simpa using hu))
     have FO:Hid (Array.foldl (fun(cs:Array Value) (x:Value×Nat)=>cs.setIfInBounds x.snd x.fst) #[Value.int .u8 0,Value.int .u8 0,Value.int .u8 0,Value.int .u8 0,Value.int .u8 0,Value.int .u8 0,Value.int .u8 0,Value.int .u8 0,Value.int .u8 0,Value.int .u8 0,Value.int .u8 0,Value.int .u8 0,Value.int .u8 0,Value.int .u8 0,Value.int .u8 0,Value.int .u8 0,Value.int .u8 0,Value.int .u8 0,Value.int .u8 0,Value.int .u8 0,Value.int .u8 0,Value.int .u8 0,Value.int .u8 0,Value.int .u8 0,Value.int .u8 0,Value.int .u8 0,Value.int .u8 0,Value.int .u8 0,Value.int .u8 0,Value.int .u8 0,Value.int .u8 0,Value.int .u8 0] cs.zipIdx 0 cs.size=cs):=Hd (by have:=Ydn cs.toList (by simpa using CSZ.out);simpa using this)
     have FO2:Hid (Array.foldl (fun(cs:Array Value) (x:Value×Nat)=>cs.setIfInBounds x.snd x.fst) #[Value.int .u8 0,Value.int .u8 0,Value.int .u8 0,Value.int .u8 0,Value.int .u8 0,Value.int .u8 0,Value.int .u8 0,Value.int .u8 0,Value.int .u8 0,Value.int .u8 0,Value.int .u8 0,Value.int .u8 0,Value.int .u8 0,Value.int .u8 0,Value.int .u8 0,Value.int .u8 0,Value.int .u8 0,Value.int .u8 0,Value.int .u8 0,Value.int .u8 0,Value.int .u8 0,Value.int .u8 0,Value.int .u8 0,Value.int .u8 0,Value.int .u8 0,Value.int .u8 0,Value.int .u8 0,Value.int .u8 0,Value.int .u8 0,Value.int .u8 0,Value.int .u8 0,Value.int .u8 0] cs.zipIdx 0 32=cs):=Hd (by have:=FO.out;rw[CSZ.out] at this;exact this)
     have hsz:w.heap.size+1≤w7.heap.size:=by have:=GW.out;have:=lt_of_block P7.out;omega
     have GROW:Hid (∀(o:Obj) (w8:World),(w7.alloc o).grownBy w8 (Value.slice va acc.length vc).ownBlock→MId w8 w.heap.size (acc++[id])∧Below w.heap.size w w8):=Hd (fun o w8 hg=>by
      have B1:Below (w.heap.size+1) w7 (w7.alloc o):=(Below.refl _ _).alloc hsz _
      have B:=Below.grown B1 hg (by simp;omega) (fun k hk=>(O7.out.lt k hk).1)
      exact⟨(B.block _ (by omega)).trans M7.out,B7.out.trans (B.mono (Nat.le_succ _))⟩)
     have OK2:Hid (∀x∈acc++[id],IdOk x):=Hd (fun x hx=>by
      rcases List.mem_append.1 hx with h|h
      ·exact hok.out x h
      ·rw[List.mem_singleton] at h;rw[h];exact IOK.out)
     have al:(acc++[id]).length=acc.length+1:=by simp
     have hcz:cs.size=32:=CSZ.out
     clear m0 h1 f1 CN STEP3 hio P5 M5 O5 B5 LD P7 B7 M7 hok
     go_wp2_with (first
      |((with_reducible refine Xac 26 rfl _ rfl ?_);refine⟨_,_,rfl,LD7.out,?_⟩)
      |((with_reducible refine wpList_buildSliceTo rfl 24 26 1 _ rfl w7.heap.size rfl _ rfl Tryz.underlying24 cs BS.out ?_))
      |(at_builtin;refine wpList_append_own _ rfl _ _ 24 rfl (w.heap.size+1) 26 i0 (.agg (idA zero32)) 32 32 Tryz.underlying24 hi0 hz0 hz1 hz2 rfl (by decide) _ _ _ rfl (O7.out.alloc _) ⟨w7.heap.size,0,none⟩ 1 1 cs.toList rfl (by simpa using CSZ.out) (World.news_of_block (cs:=cs) (t:=26) (fr:=(0,0)) (by(first|rw[FO2.out]|rw[FO.out]);exact heap_alloc_new w7 _)) ONE.out (by unfold maxLen;omega) (by omega) (by simp;omega) ?_;intro v' w8 hown' hgrow _;obtain⟨va',vc',rfl⟩:=Xp7 hown';obtain⟨m8,b8⟩:=GROW.out _ w8 hgrow;clear hgrow GROW))
     have O8:Hid (w8.ownsRow (w.heap.size+1) 26 32 (.slice va' (acc.length+1) vc') (acc++[id]).length (Xbv (acc++[id]))):=Hd (by rw[TS.out,al];exact hown')
     have M8:=Hd m8;have B8:=Hd b8
     clear hown' m8 b8 BS FO FO2 ONE LD7 O7
     go_wp2_with fail
     go_roundg (s.size-t)
     case measure=>omega
     case rel=>exact⟨t,acc++[id],va',vc',hts,rfl,rfl,by rw[al],LAW7,OK2,by omega,M8,O8,B8⟩
    ·have q0:((m:Int) !=0)=true:=Xam (by omega)
     have F:Hid (rpL [] (bs s)=none):=Hd (by rw[STEP3.out,if_pos m0])
     have HM:=Hd m0
     clear m0 h1 f1 CN STEP3
     go_wp2_with fail
     go_ret3
     exact⟨_,[],_,m,rfl,Xmz _,by simp,by simp,.inr ⟨F.out,HM.out⟩,(fun k hk=>by cases hk),B7.out⟩
  ·obtain rfl:f=s.size:=by omega
   have F:Hid (rpL [] (bs s)=some acc):=Hd (by rw[hlaw.out,List.drop_of_length_le (by rw[LEN.out];exact Nat.le_refl _),Xpw])
   have IR:=Hd (Ya5 hok.out ho.out)
   have OWN:Hid (∀k,(Value.slice va acc.length vc).ownBlock=some k→w.heap.size≤k):=Hd (fun k hk=>by have:=(ho.out.lt k hk).1;omega)
   clear hlaw hm ho
   go_wp2_with fail
   go_ret3
   exact⟨_,acc,_,0,rfl,IR.out,hok.out,h20,.inl ⟨F.out,rfl⟩,OWN.out,hb.out⟩
def zQ (x:List Nat):Nat:=if x=zero32 then 1 else 0
theorem Xws (ids:List (List Nat)):Xer ids=if 20<ids.length then 9 else Xcz zQ 7 [] ids:=rfl
theorem Xuf (f:List Nat→Nat) (d:Nat) (pre:List (List Nat)) (x:List Nat) (r:List (List Nat)):Xcz f d pre (x::r)=if f x≠0 then f x else if pre.contains x=true then d else Xcz f d (pre++[x]) r:=rfl
theorem Xsu:Tryz.prog.eqGuardType Tryz.prog.depth 120=false:=by kernel_rfl
theorem Yj1 (w:World):(Instr.build 120 #[]).run Tryz.prog w=.ok (.agg (idA zero32)) w:=by kernel_rfl
set_option maxHeartbeats 4000000 in
theorem Xn9 (w:World) (v:Value) (ids:List (List Nat)) (hr:IRow w v ids) (hn:ids.length≤1000000) (hok:∀y∈ids,IdOk y):
    Calls Tryz.prog 47 #[v] w fun e w'=>e=.returned (.int .i64 ((Xer ids:Nat):Int))∧Below w.heap.size w w':=by
 obtain⟨a,cap,rfl,hc,r⟩:=hr
 obtain⟨n,hnn⟩:∃n,n=ids.length:=⟨_,rfl⟩
 have HN:=Hd hnn;have R:=Hd r;have OK:=Hd hok
 have hcap:n≤cap:=by rw[hnn];exact hc
 have RF:=Hd (Xws ids)
 rw[←hnn] at hn⊢
 have zok:IdOk zero32:=⟨by simp[zero32],fun x hx=>by simp[zero32] at hx;omega⟩
 have ZOK:=Hd zok
 obtain⟨zs,hzs⟩:∃zs,zs=idA zero32:=⟨_,rfl⟩
 have BZ:Hid (∀w,(Instr.build 120 #[]).run Tryz.prog w=.ok (.agg zs) w):=Hd (fun w=>by rw[hzs];exact Yj1 w)
 have HZS:=Hd hzs
 obtain⟨rf,hrf⟩:∃q,q=Xer ids:=⟨_,rfl⟩
 rw[←hrf] at RF
 rw[←hrf]
 clear hnn r hc hok zok hzs hrf
 by_cases h20:20<n
 ·have RF2:Hid (rf=9):=Hd (by rw[RF.out,if_pos (by rw[←HN.out];exact h20)])
  go_enter Tryz.func47,Tryz.ntmps47
  go_wp2_with fail
  go_ret
  exact⟨by rw[RF2.out];rfl,Below.refl _ _⟩
 ·have RF2:Hid (rf=Xcz zQ 7 [] ids):=Hd (by rw[RF.out,if_neg (by rw[←HN.out];exact h20)])
  have h20':¬((20:Int)<(n:Int)):=by omega
  clear RF
  go_enter Tryz.func47,Tryz.ntmps47
  go_wp2_with fail
  go_loopg [3] n (fun k i wr=>∃j:Nat,j≤n∧k=n-j∧i=.int .i64 (j:Int)∧Hid (rf=Xcz zQ 7 (ids.take j) (ids.drop j))∧Hid (Below w.heap.size w wr))
  case atStart=>exact⟨0,by omega,rfl,rfl,RF2,Hd (Below.refl _ _)⟩
  case round=>
   clear RF2
   obtain⟨j,hj,rfl,rfl,hg,hbw⟩:=hrel
   by_cases hlt:j<n
   ·have hl:j<ids.length:=by rw[←HN.out];exact hlt
    obtain⟨b,off,rfl,hb,hcell⟩:=R.out (fun e=>by rw[e] at hl;simp at hl)
    have ok:=OK.out _ (List.getElem_mem hl)
    have IR:Hid (∀wx,Below w.heap.size w wx→IRow wx (.slice (some ⟨b,off,none⟩) j cap) (ids.take j)):=Hd (fun wx hx=>by
     refine⟨some ⟨b,off,none⟩,cap,by rw[List.length_take,Nat.min_eq_left (by omega)],by rw[List.length_take];omega,fun _=>⟨b,off,rfl,Nat.lt_of_lt_of_le hb hx.size,fun q hq k u hu=>?_⟩⟩
     rw[List.length_take] at hq
     rw[List.getElem_take] at hu
     exact(hx.cell (p:=⟨b,off+q*32+k,none⟩) hb).trans (hcell q (by omega) k u hu))
    have LD:Hid (∀wx,Below w.heap.size w wx→(loadVar 120 ⟨b,off+j*32,none⟩).run Tryz.prog wx=.ok (.agg (idA ids[j])) wx):=Hd (fun wx hx=>
     Xai wx b (off+j*32) 120 _ _ Tryz.underlying120 rfl (by rw[Xag,ok.len];exact Xmi) (fun k u hu=>(hx.cell (p:=⟨b,off+j*32+k,none⟩) hb).trans (hcell j hl k u hu)))
    have EQ:Hid (∀w,(Op.equal 120 (.agg (idA ids[j])) (.agg zs)).run Tryz.prog w=.ok (decide (ids[j]=zero32)) w):=Hd (fun w=>by
     rw[HZS.out];exact Xoy Tryz.underlying120 (by kernel_rfl) (by kernel_rfl) w ok.len ok.lt ZOK.out.len ZOK.out.lt)
    have HAS:Hid (∀wx,Below w.heap.size w wx→Calls Tryz.prog 88 #[.slice (some ⟨b,off,none⟩) j cap,.agg (idA ids[j])] wx fun e w'=>e=.returned (.bool ((ids.take j).contains ids[j]))∧Below wx.heap.size wx w'):=Hd (fun wx hx=>
     Yas wx _ (ids.take j) ids[j] (IR.out wx hx) (by rw[List.length_take];omega) (fun y hy=>OK.out y (List.mem_of_mem_take hy)) ok)
    have ST:=Xuf zQ 7 (ids.take j) ids[j] (ids.drop (j+1))
    rw[←List.drop_eq_getElem_cons hl,←List.take_succ_eq_append_getElem hl,←hg.out] at ST
    obtain⟨y,hy⟩:∃y,y=idA ids[j]:=⟨_,rfl⟩
    obtain⟨q,hq⟩:∃q,q=decide (ids[j]=zero32):=⟨_,rfl⟩
    obtain⟨s,hs⟩:∃s,s=(ids.take j).contains ids[j]:=⟨_,rfl⟩
    rw[←hy] at LD EQ HAS
    rw[←hq] at EQ
    rw[←hs] at HAS ST
    have ZQ:zQ ids[j]=if q=true then 1 else 0:=by
     unfold zQ
     by_cases e:ids[j]=zero32
     ·rw[if_pos e,if_pos (by rw[hq];exact decide_eq_true e)]
     ·rw[if_neg e,if_neg (by rw[hq,decide_eq_false e];decide)]
    rw[ZQ] at ST
    have HST:=Hd ST
    have jc:j≤cap:=by omega
    have LD0:=Hd (LD.out wr hbw.out)
    clear hy hq hs ok hcell hl hb ST ZQ IR
    cases q
    ·go_upto_region 8 with(first
        |((with_reducible refine Xac 120 rfl _ rfl ?_);refine⟨_,_,rfl,LD0.out,?_⟩)
        |((with_reducible refine Xae 120 rfl rfl ?_);refine⟨_,BZ.out _,?_⟩)
        |((with_reducible refine Xc4 120 rfl _ _ rfl Xsu ?_);refine⟨_,_,_,rfl,rfl,EQ.out _,?_⟩))
     refine wp_region_held (S:=fun wx=>Below w.heap.size w wx) (by kernel_rfl) ?_
     change wpAnyH _ _ _ _ _ _ _ _ wr.drew
     have hB:(fun wx:World=>Below w.heap.size w wx) wr.drew:=hbw.out.drew
     refine Xad 0 (.slice (some ⟨b,off,none⟩) n cap) rfl (fun _ _=>by go_simp) hB ?_
     refine Xad 1 (.int .i64 (j:Int)) rfl (fun _ _=>by go_simp) hB ?_
     refine Xad 2 (.slice (some ⟨b,off,none⟩) j cap) rfl (fun _ _=>by go_simp) hB ?_
     refine Xad 3 (.slice (some ⟨b,off,none⟩) n cap) rfl (fun _ _=>by go_simp) hB ?_
     refine Xad 4 (.int .i64 (j:Int)) rfl (fun _ _=>by go_simp) hB ?_
     refine Xad 5 (.pointer (some ⟨b,off+j*32,none⟩)) rfl (fun _ _=>by go_simp) hB ?_
     refine Xad 6 (.agg y) rfl (fun w' hw'=>Xaw (ty:=120) (x:=.tmp 24) (ad:=⟨b,off+j*32,none⟩) rfl (by kernel_rfl) (LD.out w' hw')) hB ?_
     refine Xav (i:=7) (by kernel_rfl) ?_
     refine Xao (f:=88) (args:=#[.slice (some ⟨b,off,none⟩) j cap,.agg y]) rfl rfl (by kernel_rfl) ?_
     refine(HAS.out wr.drew hbw.out.drew).mono ?_
     rintro e y1 ⟨rfl,hb1⟩
     have B1:=Hd (hbw.out.drew.trans (hb1.mono hbw.out.drew.size))
     refine⟨_,rfl,B1.out,?_⟩
     refine wpAnyH_done (by kernel_rfl) ?_ _
     clear hB hb1 LD LD0 EQ HAS hbw
     cases s
     ·have N:Hid (rf=Xcz zQ 7 (ids.take (j+1)) (ids.drop (j+1))):=Hd (by have:=HST.out;rw[if_neg (by decide),if_neg (by decide)] at this;exact this)
      clear hg HST
      go_simp
      refine‹∀(a:Act) (w_1:World),_→_› _ _ ?_
      go_wp2_with fail
      go_roundg (n-(j+1))
      case measure=>omega
      case rel=>exact⟨j+1,by omega,rfl,by go_num,N,B1⟩
     ·have N:Hid (rf=7):=Hd (by have:=HST.out;rw[if_neg (by decide),if_pos rfl] at this;exact this)
      clear hg HST
      go_simp
      refine‹∀(a:Act) (w_1:World),_→_› _ _ ?_
      go_wp2_with fail
      go_ret
      exact⟨by rw[N.out];rfl,B1.out⟩
    ·have N:Hid (rf=1):=Hd (by have:=HST.out;rw[if_pos (by decide)] at this;exact this)
     clear hg HST HAS LD
     go_wp2_with (first
      |((with_reducible refine Xac 120 rfl _ rfl ?_);refine⟨_,_,rfl,LD0.out,?_⟩)
      |((with_reducible refine Xae 120 rfl rfl ?_);refine⟨_,BZ.out _,?_⟩)
      |((with_reducible refine Xc4 120 rfl _ _ rfl Xsu ?_);refine⟨_,_,_,rfl,rfl,EQ.out _,?_⟩))
     go_ret
     exact⟨by rw[N.out];rfl,hbw.out⟩
   ·obtain rfl:j=n:=by omega
    have N:Hid (rf=0):=Hd (by rw[hg.out,List.drop_of_length_le (by rw[HN.out];exact Nat.le_refl _)];rfl)
    clear hg
    go_wp2_with fail
    go_ret
    exact⟨by rw[N.out];rfl,hbw.out⟩
set_option maxHeartbeats 2000000 in
theorem Yeh (w:World) (v:Value) (ids:List (List Nat)) (hr:IRow w v ids) (hn:ids.length≤1000) (hok:∀y∈ids,IdOk y) (h0:Xer ids=0):
    Calls Tryz.prog 30 #[v] w fun e w'=>e=.returned (.tuple #[.string (Xcl 32 (Xgy ids)),.int .i64 0])∧Below w.heap.size w w':=by
 have CK:=Hd (Xn9 w v ids hr (by omega) hok)
 rw[h0] at CK
 obtain⟨a,cap,rfl,hc,r⟩:=hr
 obtain⟨n,hnn⟩:∃n,n=ids.length:=⟨_,rfl⟩
 have HN:=Hd hnn;have R:=Hd r;have OK:=Hd hok
 rw[←hnn] at hn CK⊢
 have ML:Hid (∀g∈Xgy ids,g.size=71):=Hd (fun g hg=>by
  obtain⟨x,hx,rfl⟩:=List.mem_map.1 hg
  rw[Xan,Xeu (hok x hx)])
 clear hnn r hc hok h0
 go_enter Tryz.func30,Tryz.ntmps30
 go_wp2_with fail
 refine CK.out.mono ?_
 rintro e w1 ⟨rfl,hb1⟩
 have B1:=Hd hb1
 clear hb1 CK
 have hz:((((0:Nat):Int)) !=0)=false:=rfl
 go_wp2_with fail
 go_loopg [5,6] n (fun k s i wr=>∃(j:Nat) (t:ByteArray),j≤n∧k=n-j∧i=.int .i64 (j:Int)∧s=.string t∧Hid (t=Xcl 32 ((Xgy ids).take j))∧t.size≤72*j∧Hid (Below w.heap.size w wr))
 case atStart=>exact⟨0,⟨#[]⟩,by omega,rfl,rfl,rfl,Hd rfl,Nat.le_refl _,B1⟩
 case round=>
  clear B1
  obtain⟨j,t,hj,rfl,rfl,rfl,ht,zt,hbw⟩:=hrel
  by_cases hlt:j<n
  ·have hl:j<ids.length:=by rw[←HN.out];exact hlt
   have hlm:j<(Xgy ids).length:=by unfold Xgy;rw[List.length_map];exact hl
   obtain⟨b,off,rfl,hb,hcell⟩:=R.out (fun e=>by rw[e] at hl;simp at hl)
   have ok:=OK.out _ (List.getElem_mem hl)
   have LD:Hid ((loadVar 120 ⟨b,off+j*32,none⟩).run Tryz.prog wr=.ok (.agg (idA ids[j])) wr):=Hd
    (Xai wr b (off+j*32) 120 _ _ Tryz.underlying120 rfl (by rw[Xag,ok.len];exact Xmi) (fun k u hu=>(hbw.out.cell (p:=⟨b,off+j*32+k,none⟩) hb).trans (hcell j hl k u hu)))
   have TX:=Hd (Xwd wr ok)
   have sn:=Xlu 32 ((Xgy ids).take j) (Xgy ids)[j]
   rw[←List.take_succ_eq_append_getElem hlm,←ht.out] at sn
   have gm:(Xgy ids)[j]=Xaq (Xc2 ids[j]):=by simp[Xgy]
   rw[gm] at sn
   have zg:(Xaq (Xc2 ids[j])).size=71:=by rw[Xan,Xeu ok]
   obtain⟨g,hgg⟩:∃g,g=Xaq (Xc2 ids[j]):=⟨_,rfl⟩
   obtain⟨y,hy⟩:∃y,y=idA ids[j]:=⟨_,rfl⟩
   rw[←hgg] at TX sn zg
   rw[←hy] at LD TX
   by_cases h0:j=0
   ·subst h0
    have LD':Hid ((loadVar 120 ⟨b,off,none⟩).run Tryz.prog wr=.ok (.agg y) wr):=Hd (by have:=LD.out;simpa using this)
    have N:Hid (t++g=Xcl 32 ((Xgy ids).take (0+1))):=Hd (by
     rw[sn,if_pos (by simp),ht.out]
     apply ByteArray.ext
     simp[Xcl,Xa0,Xaq])
    have zz:(t++g).size≤72*(0+1):=by rw[ByteArray.size_append];omega
    clear sn gm hgg hy hcell hl hlm ok hb ht
    go_wp2_with ((with_reducible refine Xac 120 rfl _ rfl ?_);first|(refine⟨_,_,rfl,LD'.out,?_⟩)|(refine⟨_,_,rfl,LD.out,?_⟩))
    refine TX.out.mono ?_
    rintro e w2 ⟨rfl,hb2⟩
    have B2:=Hd (hbw.out.trans (hb2.mono hbw.out.size))
    clear hb2 TX LD LD'
    go_wp2_with fail
    go_roundg (n-(0+1))
    case measure=>omega
    case rel=>exact⟨1,t++g,by omega,rfl,by go_num,rfl,N,zz,B2⟩
   ·have hne:(Xgy ids).take j≠[]:=fun e=>by
       have h2:((Xgy ids).take j).length=0:=by rw[e];rfl
       rw[List.length_take] at h2
       omega
    rw[if_neg hne] at sn
    have N:Hid (t++(⟨#[32]⟩:ByteArray)++g=Xcl 32 ((Xgy ids).take (j+1))):=Hd sn.symm
    have z1:(t++(⟨#[32]⟩:ByteArray)).size≤72*j+1:=by rw[ByteArray.size_append];show t.size+1≤_;omega
    have z2:(t++(⟨#[32]⟩:ByteArray)++g).size≤72*(j+1):=by rw[ByteArray.size_append];omega
    have hp:(0:Int)<(j:Int):=by omega
    clear sn gm hgg hy hcell hl hlm ok hb ht hne
    go_wp2_with ((with_reducible refine Xac 120 rfl _ rfl ?_);refine⟨_,_,rfl,LD.out,?_⟩)
    refine TX.out.mono ?_
    rintro e w2 ⟨rfl,hb2⟩
    have B2:=Hd (hbw.out.trans (hb2.mono hbw.out.size))
    clear hb2 TX LD
    go_wp2_with fail
    go_roundg (n-(j+1))
    case measure=>omega
    case rel=>exact⟨j+1,_,by omega,rfl,by go_num,rfl,N,z2,B2⟩
  ·obtain rfl:j=n:=by omega
   have N:Hid (t=Xcl 32 (Xgy ids)):=Hd (by rw[ht.out,List.take_of_length_le (by unfold Xgy;rw[List.length_map,HN.out];exact Nat.le_refl _)])
   clear ht
   go_wp2_with fail
   go_ret2
   exact⟨by rw[←N.out];rfl,hbw.out⟩
end Go.Proofs.YtohmdledkhgdaaaGreatDoor
