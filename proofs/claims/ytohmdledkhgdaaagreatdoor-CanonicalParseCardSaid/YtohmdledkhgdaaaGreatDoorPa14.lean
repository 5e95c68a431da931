/- references.Print. -/
import Derived.Test.YtohmdledkhgdaaaGreatDoorPa13
import Derived.Great.Walk
namespace Go.Proofs.YtohmdledkhgdaaaGreatDoor
open Go.RowKit
set_option linter.unusedVariables false
set_option maxRecDepth 100000
theorem Yfe:(Tryz.prog.info? 9).map (fun i=>(i.zero,i.size,i.bytes))=some (some (.string ⟨#[]⟩),1,16):=by kernel_rfl
theorem Xse {w:World} {base:Nat} {v:Value} {gs:List ByteArray} (h:w.ownsRow base 9 1 v gs.length (gs.map Value.string)):SRow w v gs:=by
 rcases h.2 with⟨rfl,h0⟩|⟨g,cap,cur,rfl,hb,hg,hc,_,hs,ht⟩
 ·exact⟨none,0,by rw[h0],by rw[h0];exact Nat.le_refl _,fun hne=>absurd (List.length_eq_zero_iff.1 h0) hne⟩
 ·refine⟨some ⟨g,0,none⟩,cap,rfl,hc,fun _=>⟨g,0,rfl,lt_of_block hg,fun j hj=>?_⟩⟩
  rw[Nat.zero_add,cell_of_row w g j _ _ _ hg]
  have e1:(cur.toList.take (gs.length*1))[j]?=some (.string gs[j]):=by rw[ht];simp[hj]
  rw[List.getElem?_take,if_pos (by omega)] at e1
  simpa using e1
theorem Xeu {x:List Nat} (h:IdOk x):(Xc2 x).length=71:=by
 simp[Xc2,Xbs,h.len,sHash]
theorem Yez {x:List Nat} (h:IdOk x):∀c∈Xc2 x,c<256:=by
 intro c hc
 simp only[Xc2,List.cons_append,List.mem_cons,List.mem_append] at hc
 rcases hc with rfl|hc|hc
 ·omega
 ·exact Xx1 h.lt c hc
 ·simp[sHash] at hc;omega
theorem Xdp {W w2:World} {base e size n:Nat} {v:Value} {xs:List Value} (h:W.ownsRow base e size v n xs) (hb:Below W.heap.size W w2):w2.ownsRow base e size v n xs:=by
 rcases h.2 with⟨rfl,h0⟩|⟨g,cap,cur,rfl,hg,hgb,r⟩
 ·exact⟨h.1,.inl ⟨rfl,h0⟩⟩
 ·exact⟨h.1,.inr ⟨g,cap,cur,rfl,hg,(hb.block g (lt_of_block hgb)).trans hgb,r⟩⟩
def Xgy (ids:List (List Nat)):List ByteArray:=ids.map fun x=>Xaq (Xc2 x)
theorem Xmu {ids:List (List Nat)} (h:∀x∈ids,IdOk x):(Xgy ids).map bs=ids.map Xc2:=by
 unfold Xgy
 rw[List.map_map]
 exact List.map_congr_left fun x hx=>Xc1 _ (Yez (h x hx))
set_option maxHeartbeats 2000000 in
theorem Xtv (w:World) (v:Value) (ids:List (List Nat)) (hr:IRow w v ids) (hl:ids.length≤1000000) (hi:∀y∈ids,IdOk y):
    Calls Tryz.prog 53 #[v] w (Xrj (Xer ids) (Xa0 [32] (ids.map Xc2)) w):=by
 obtain⟨i0,hi0,hz0,hz1,hz2⟩:=info_parts Yfe
 obtain⟨n,hn⟩:∃n,n=ids.length:=⟨_,rfl⟩
 have C:=Hd (Xll w v ids hr hl hi)
 obtain⟨a,cap,rfl,hcap,hcells⟩:=hr
 rw[←hn] at hcap hl C⊢
 have HN:=Hd hn
 have HC:=Hd hcells;have HI:=Hd hi
 obtain⟨m,hm⟩:∃m,m=Xer ids:=⟨_,rfl⟩
 rw[←hm] at C⊢
 have HM:=Hd hm
 clear hcells hn hi hm
 go_enter Tryz.func53,Tryz.ntmps53
 go_wp2_with fail
 refine C.out.mono ?_
 rintro e w1 ⟨rfl,hb1⟩
 have B1:=Hd hb1
 clear hb1 C
 by_cases m0:m=0
 ·have q0:((m:Int) !=0)=false:=Xat (by omega)
  have N20:n≤20:=by rw[HN.out];exact(Xlq (f:=zF) (l:=ids) (by rw[←Xmo,←HM.out];exact m0)).1
  have M0:=Hd m0
  clear m0
  go_wp2_with fail
  go_loopg [5,7,15] n (fun k v s7 i wr=>∃j:Nat,j≤n∧k=n-j∧i=.int .i64 (j:Int)∧Hid (wr.ownsRow w1.heap.size 9 1 v j ((Xgy (ids.take j)).map Value.string))∧Hid (Below w1.heap.size w1 wr))
  case atStart=>exact⟨0,by omega,rfl,rfl,Hd (World.ownsRow_nil _ _ _ _),Hd (Below.refl _ _)⟩
  case round=>
   obtain⟨j,hj,rfl,rfl,ho,hb⟩:=hrel
   by_cases h:j<n
   ·have hjl:j<ids.length:=by rw[←HN.out];exact h
    obtain⟨b,off,rfl,hbl,hcl⟩:=HC.out (by intro e;rw[e] at hjl;simp at hjl)
    obtain⟨x,hx⟩:∃x,x=ids[j]:=⟨_,rfl⟩
    have hxo:IdOk x:=by rw[hx];exact HI.out _ (List.getElem_mem hjl)
    have hbw:Below w.heap.size w wr:=B1.out.trans (hb.out.mono B1.out.size)
    have LD:Hid ((loadVar 26 ⟨b,off+j*32,none⟩).run Tryz.prog wr=.ok (.agg (idA x)) wr):=Hd
     (Xai wr b (off+j*32) 26 (idA x) _ Tryz.underlying26 rfl (by rw[Xag,hxo.len];exact Xbf) (fun k u hu=>by
      rw[hbw.cell (p:=⟨b,off+j*32+k,none⟩) hbl];exact hcl j hjl k u (by rw[←hx];exact hu)))
    have TS:Hid ((Xgy (ids.take (j+1))).map Value.string=(Xgy (ids.take j)).map Value.string++[.string (Xaq (Xc2 x))]):=Hd (by unfold Xgy;rw[List.take_succ_eq_append_getElem hjl,←hx];simp)
    have hs32:(idA x).size=32:=by rw[Xag,hxo.len]
    have STR:Hid (∀zz:Array Value,zz.size=32→(storeVar 26 ⟨wr.heap.size,0,none⟩ (.agg (idA x))).run Tryz.prog (wr.alloc (.cells zz 26))=.ok () (wr.alloc (.cells (idA x) 26))):=Hd (fun zz hz=>run_storeVar_new wr 26 zz (idA x) (by rw[hs32];exact Xbf) (by rw[hz,hs32]) (Xed _))
    have LD2:Hid ((loadVar 26 ⟨wr.heap.size,0,none⟩).run Tryz.prog (wr.alloc (.cells (idA x) 26))=.ok (.agg (idA x)) (wr.alloc (.cells (idA x) 26))):=Hd (Xjx _ wr.heap.size 0 _ _ _ hxo.len (heap_alloc_last wr _) (Xgt x))
    have BA:Hid (Below w1.heap.size w1 (wr.alloc (.cells (idA x) 26))):=Hd (hb.out.alloc hb.out.size _)
    have OA:Hid ((wr.alloc (.cells (idA x) 26)).ownsRow w1.heap.size 9 1 u5 j ((Xgy (ids.take j)).map Value.string)):=Hd (ho.out.alloc _)
    have PR:=Hd (Xlm (wr.alloc (.cells (idA x) 26)) hxo)
    obtain⟨cs,hcs⟩:∃cs,cs=idA x:=⟨_,rfl⟩
    rw[←hcs] at LD STR LD2 PR BA OA
    obtain⟨t,ht⟩:∃t,t=Xaq (Xc2 x):=⟨_,rfl⟩
    rw[←ht] at PR TS
    clear hx hcl hcs hs32 hxo ho hb ht hbw
    go_upto_region 8 with(first
     |((with_reducible refine Xac 26 rfl _ rfl ?_);refine⟨_,_,rfl,LD.out,?_⟩)
     |((with_reducible refine Xab 26 rfl _ _ rfl ?_);refine⟨_,_,_,rfl,rfl,STR.out _ rfl,?_⟩))
    go_wp2_with ((with_reducible refine Xac 26 rfl _ rfl ?_);refine⟨_,_,rfl,LD2.out,?_⟩)
    refine PR.out.mono ?_
    rintro e w2 ⟨rfl,hb2⟩
    have B2:=Hd (BA.out.trans (hb2.mono BA.out.size))
    have O2:=Hd (Xdp OA.out hb2)
    have hz2':w1.heap.size≤w2.heap.size:=B2.out.size
    clear hb2 PR OA BA LD2 LD STR
    go_wp2_with (at_builtin;refine wpList_append_own _ rfl _ _ 23 rfl w1.heap.size 9 i0 (.string ⟨#[]⟩) 1 16 Tryz.underlying23 hi0 hz0 hz1 hz2 rfl (by decide) _ _ _ rfl (O2.out.alloc _) ⟨w2.heap.size,0,none⟩ 1 1 [.string t] rfl rfl (World.news_of_block (cs:=#[.string t]) (t:=9) (fr:=(0,0)) (heap_alloc_new w2 _)) (by simp[Value.oneCell']) (by unfold maxLen;omega) (by omega) (by simp;omega) ?_;intro v' w3 hown' hgrow _)
    have O3:Hid (w3.ownsRow w1.heap.size 9 1 v' (j+1) ((Xgy (ids.take (j+1))).map Value.string)):=Hd (by rw[TS.out];exact hown')
    have B3:Hid (Below w1.heap.size w1 w3):=Hd (Below.grown (B2.out.alloc B2.out.size _) hgrow (by simp;omega) (fun k hk=>(O2.out.lt k hk).1))
    clear hown' hgrow
    go_wp2_with fail
    go_roundg (n-(j+1))
    case measure=>omega
    case rel=>exact⟨j+1,by omega,rfl,by go_num,O3,B3⟩
   ·obtain rfl:j=n:=by omega
    have hall:ids.take j=ids:=List.take_of_length_le (by rw[HN.out];exact Nat.le_refl _)
    rw[hall] at ho
    have hml:(Xgy ids).length=j:=by unfold Xgy;rw[List.length_map,HN.out]
    have SR:SRow wr u5 (Xgy ids):=Xse (base:=w1.heap.size) (by rw[hml];exact ho.out)
    have hjl:=Xj6 71 32 (ids.map Xc2) (fun x hx=>by obtain⟨y,hy,rfl⟩:=List.mem_map.1 hx;rw[Xeu (HI.out y hy)];exact Nat.le_refl _)
    rw[List.length_map,←HN.out] at hjl
    have J:=Hd (Xss wr u5 (Xgy ids) 32 SR (by omega) (by rw[Xmu HI.out];show(Xa0 [32] (ids.map Xc2)).length≤_;omega))
    rw[Xmu HI.out] at J
    have BW:=Hd (B1.out.trans (hb.out.mono B1.out.size))
    clear hall ho hml SR hjl hb
    go_wp2_with fail
    refine J.out.mono ?_
    rintro e w2 ⟨t,rfl,ht,hb2⟩
    have B2:=Hd (BW.out.trans (hb2.mono BW.out.size))
    have HT:=Hd ht
    clear hb2 ht J
    go_wp2_with fail
    go_ret2
    exact⟨t,by rw[M0.out];rfl,(fun _=>HT.out),(fun h=>absurd M0.out h),B2.out⟩
 ·have q0:((m:Int) !=0)=true:=Xam (by omega)
  have M0:=Hd m0
  clear m0
  go_wp2_with fail
  go_ret2
  exact⟨⟨#[]⟩,rfl,(fun h=>absurd h M0.out),(fun _=>rfl),B1.out⟩
theorem Yiq:∀(l:List Value),l.length=16→Tryz.prog.builtSlice 33 1 [((0:Nat),Value.agg l.toArray)]=some l.toArray
 |[v0,v1,v2,v3,v4,v5,v6,v7,v8,v9,v10,v11,v12,v13,v14,v15],_=>by kernel_rfl
theorem Yhx:(Tryz.prog.info? 33).map (fun i=>(i.zero,i.size,i.bytes))=some (some (.agg (idA Xdc)),16,16):=by kernel_rfl
theorem Xyc:∀(l:List Value),l.length=16→Array.foldl (fun(cs:Array Value) (x:Value×Nat)=>cs.setIfInBounds x.snd x.fst) #[Value.int .u8 0,Value.int .u8 0,Value.int .u8 0,Value.int .u8 0,Value.int .u8 0,Value.int .u8 0,Value.int .u8 0,Value.int .u8 0,Value.int .u8 0,Value.int .u8 0,Value.int .u8 0,Value.int .u8 0,Value.int .u8 0,Value.int .u8 0,Value.int .u8 0,Value.int .u8 0] l.toArray.zipIdx 0 l.toArray.size=l.toArray
 |[v0,v1,v2,v3,v4,v5,v6,v7,v8,v9,v10,v11,v12,v13,v14,v15],_=>by kernel_rfl
def auZ (g:ByteArray):List Nat:=(Xeo (bs g)).getD Xdc
theorem Xhb (g:ByteArray):AuOk (auZ g):=by
 unfold auZ
 cases h:Xeo (bs g) with
 |none=>exact Xe7
 |some id=>exact Xta h
def Xce (gs:List ByteArray):List Value:=gs.flatMap fun g=>(auZ g).map U
theorem Xie (gs:List ByteArray) (g:ByteArray):Xce (gs++[g])=Xce gs++(auZ g).map U:=by simp[Xce]
def Xdo (gs:List ByteArray):Nat:=if gs.any (fun g=>(Xeo (bs g)).isNone)=true then 3 else 0
theorem Xl6 (gs:List ByteArray) (g:ByteArray):Xdo (gs++[g])=fe (Xdo gs) (if(Xeo (bs g)).isNone=true then 3 else 0):=by
 unfold Xdo fe
 rw[List.any_append]
 cases gs.any (fun g=>(Xeo (bs g)).isNone)<;>cases h:(Xeo (bs g)).isNone<;>simp[h]
theorem Xit:∀(gs:List ByteArray),((gs.map bs).mapM Xeo)=if gs.any (fun g=>(Xeo (bs g)).isNone)=true then none else some (gs.map auZ)
 |[]=>rfl
 |g::gs=>by
  have ih:=Xit gs
  rw[List.map_cons,List.mapM_cons,List.any_cons,ih]
  cases h:Xeo (bs g) with
  |none=>simp
  |some id=>
   have e:auZ g=id:=by unfold auZ;rw[h];rfl
   cases hq:gs.any (fun g=>(Xeo (bs g)).isNone)<;>simp[e]
theorem Ybf {x:List Nat} {gs:List ByteArray} (h:gs.map bs=spl 44 x):Xcy x=fe (fe (Xdo gs) (eIf (decide (8<gs.length)) 9)) (eIf (!Xlw (gs.map auZ)) 30):=by
 unfold Xcy Xdo fe eIf
 rw[←h,Xit]
 cases gs.any (fun g=>(Xeo (bs g)).isNone)
 ·simp only[Bool.false_eq_true,if_false,List.length_map]
  by_cases h8:8<gs.length<;>cases Xlw (gs.map auZ)<;>simp[h8]
 ·simp
def Ygr (t:ByteArray) (en er en' er':Nat):Prop:=
 ∀k:List Nat→Nat,fe er (nxt ((bs t).drop en) fun m T=>if m=Xgj then k T else if m=Xh4 then nxt T (fun a T=>fe (Xcy a) (k T)) else 3)=fe er' (k ((bs t).drop en'))
def Ygj (w:World) (b:Nat) (t:ByteArray) (en er:Nat) (e:Ending) (w':World):Prop:=
 ∃(bo:Bool) (v:Value) (st' en':Nat) (a:Int) (er':Nat),e=.returned (.tuple #[.bool bo,v])∧(∃sa sn sc,v=.slice sa sn sc)∧WS w' b t st' en' a er'∧Fr1 b w w'∧Ygr t en er en' er'
theorem Xgm {x:ByteArray} {s:ByteArray} (h:bs x=bs s):x=s:=by
 apply ByteArray.ext
 apply Array.toList_inj.1
 have:=h
 unfold bs at this
 exact(List.map_inj_right (fun a b e=>Xh6 e)).1 this
theorem Xh1:∀(gs:List ByteArray) (q k:Nat) (hq:q<gs.length),k<16→(Xce gs)[q*16+k]?=((auZ gs[q]).map U)[k]?
 |g::gs,0,k,_,hk=>by
  show((auZ g).map U++Xce gs)[0*16+k]?=_
  rw[List.getElem?_append_left (by rw[List.length_map,(Xhb g).len];omega)]
  simp
 |g::gs,q+1,k,hq,hk=>by
  show((auZ g).map U++Xce gs)[(q+1)*16+k]?=_
  rw[List.getElem?_append_right (by rw[List.length_map,(Xhb g).len];omega),List.length_map,(Xhb g).len,show(q+1)*16+k-16=q*16+k by omega,Xh1 gs q k (by simpa using hq) hk]
  rfl
 |[],_,_,hq,_=>by simp at hq
theorem Xw5 {w:World} {base n:Nat} {v:Value} {gs:List ByteArray} (hn:n=gs.length) (h:w.ownsRow base 33 16 v n (Xce gs)):∃(va:Option Addr) (vc:Nat),v=.slice va n vc∧Ygo w va (gs.map auZ):=by
 rcases h.2 with⟨rfl,h0⟩|⟨g,cap,cur,rfl,hg,hgb,hc,_,hs,ht⟩
 ·refine⟨none,0,by rw[h0],fun hne=>absurd ?_ hne⟩
  rw[h0] at hn
  rw[List.map_eq_nil_iff];exact List.length_eq_zero_iff.1 hn.symm
 ·refine⟨_,cap,rfl,fun _=>⟨g,0,rfl,fun q hq k u hu=>?_⟩⟩
  have hq':q<gs.length:=by simpa using hq
  have hk:k<16:=by
   have:=(Array.getElem?_eq_some_iff.1 hu).1
   rw[Xag,List.getElem_map,(Xhb _).len] at this;exact this
  rw[Nat.zero_add,cell_of_row w g _ _ _ _ hgb]
  have e1:(cur.toList.take (n*16))[q*16+k]?=some u:=by
   rw[ht,Xh1 gs q k hq' hk]
   rw[List.getElem_map] at hu
   unfold idA at hu
   rw[List.getElem?_toArray] at hu
   exact hu
  rw[List.getElem?_take] at e1
  split at e1
  ·simpa using e1
  ·cases e1
theorem Xjq {W w2:World} {base e size n b:Nat} {v:Value} {xs:List Value} (h:W.ownsRow base e size v n xs) (hb:Fr1 b W w2) (hlt:b<base):w2.ownsRow base e size v n xs:=by
 rcases h.2 with⟨rfl,h0⟩|⟨g,cap,cur,rfl,hg,hgb,r⟩
 ·exact⟨h.1,.inl ⟨rfl,h0⟩⟩
 ·exact⟨h.1,.inr ⟨g,cap,cur,rfl,hg,(hb.other g (lt_of_block hgb) (by omega)).trans hgb,r⟩⟩
set_option maxHeartbeats 4000000 in
theorem Ybg (w:World) (b:Nat) (t:ByteArray) (st en:Nat) (at_:Int) (er:Nat) (h:WS w b t st en at_ er) (hE:Env w) (hb9:9≤b) (ht':t.size≤100000):
    Calls Tryz.prog 190 #[.pointer (some ⟨b,0,none⟩)] w (Ygj w b t en er):=by
 have ht:t.size≤1000000:=by omega
 have NX:=Hd (Xfo w b t st en at_ er h hE hb9 ht)
 have HE:=Hd hE
 clear h hE
 go_enter Tryz.func190,Tryz.ntmps190
 go_wp2_with fail
 refine NX.out.mono ?_
 rintro e w1 ⟨x,ok,st',en',a,er',rfl,h1,f1,hx,h⟩
 have hc1:w1.cell? ⟨b,1,none⟩=some (.int .i64 (st':Int)):=cell_of_row w1 b 1 _ _ _ h1.1
 have H1:=Hd h1;have F1:=Hd f1
 have E1:=Hd (Xbr HE.out hb9 f1)
 clear NX h1 f1
 rcases h with⟨rfl,hne,hk⟩|⟨rfl,rfl,rfl,hk⟩
 ·have LAW:Hid (Ygr t en er en' er'):=Hd (fun k=>by rw[hk];unfold fe;rw[if_pos hne])
  clear hne hk
  go_wp2_with fail
  go_ret2
  exact⟨_,_,st',en',a,er',rfl,⟨_,_,_,rfl⟩,H1.out,F1.out,LAW.out⟩
 ·have HK:=Hd hk
  clear hk
  by_cases ho:x=⟨#[111,112,101,110]⟩
  ·have LAW:Hid (Ygr t en 0 en' 0):=Hd (fun k=>by rw[HK.out,ho,if_pos (by rfl)])
   subst ho
   go_wp2_with fail
   go_ret2
   exact⟨_,_,st',en',a,0,rfl,⟨_,_,_,rfl⟩,H1.out,F1.out,LAW.out⟩
  ·have hno:bs x≠Xgj:=fun e=>ho (Xgm (e.trans (by rfl)))
   have q1:(x.toList==[111,112,101,110])=false:=by
    rw[beq_eq_false_iff_ne];intro e;apply ho;apply ByteArray.ext;apply Array.toList_inj.1;rw[←ByteArray.toList_eq];exact e
   by_cases hm:x=⟨#[109,111,100,101,114,97,116,101,100]⟩
   ·subst hm
    have hm2:bs (⟨#[109,111,100,101,114,97,116,101,100]⟩:ByteArray)=Xh4:=by rfl
    have HK2:Hid (∀k:List Nat→Nat,fe 0 (nxt ((bs t).drop en) fun m T=>if m=Xgj then k T else if m=Xh4 then nxt T (fun a T=>fe (Xcy a) (k T)) else 3)=fe 0 (nxt ((bs t).drop en') (fun a T=>fe (Xcy a) (k T)))):=Hd (fun k=>by rw[HK.out,if_neg hno,if_pos hm2])
    have NX2:=Hd (Xfo w1 b t st' en' a 0 H1.out E1.out hb9 ht)
    obtain⟨x0,hx0⟩:∃x0:ByteArray,x0=⟨#[109,111,100,101,114,97,116,101,100]⟩:=⟨_,rfl⟩
    clear ho hno HK hm2 hc1
    go_wp2_with fail
    refine NX2.out.mono ?_
    rintro e w2 ⟨x2,ok2,st2,en2,a2,er2,rfl,h2,f2,hx2,hh⟩
    have H2:=Hd h2;have F2:=Hd (F1.out.trans f2)
    have E2:=Hd (Xbr E1.out hb9 f2)
    clear NX2 h2 f2 q1
    rcases hh with⟨rfl,hne,hk⟩|⟨rfl,_,rfl,hk⟩
    ·have LAW:Hid (Ygr t en 0 en2 er2):=Hd (fun k=>by rw[HK2.out,hk];unfold fe;rw[if_pos hne])
     clear hne hk HK2
     go_wp2_with fail
     go_ret2
     exact⟨_,_,st2,en2,a2,er2,rfl,⟨_,_,_,rfl⟩,H2.out,F2.out,LAW.out⟩
    ·have LAW:Hid (Ygr t en 0 en2 (Xcy (bs x2))):=Hd (fun k=>by rw[HK2.out,hk];rfl)
     have SP:=Hd (Xjd x2 44 w2 (by omega) E2.out)
     clear hk HK2
     go_wp2_with fail
     refine SP.out.mono ?_
     rintro e w3 ⟨v,gs,rfl,hgs,⟨sa,scap,rfl,hscap,hrow⟩,hgz,hgn,hown,hb3⟩
     have HGS:=Hd hgs
     have H3:=Hd (H2.out.below hb3)
     have F3:=Hd (F2.out.trans (Fr1.of_below hb3))
     have hb2':b<w2.heap.size:=H2.out.lt
     have hb3':b<w3.heap.size:=H3.out.lt
     have ROW:Hid (gs≠[]→∃b' off,sa=some ⟨b',off,none⟩∧b'<w3.heap.size∧b'≠b∧∀j (h:j<gs.length),w3.cell? ⟨b',off+j,none⟩=some (.string gs[j])):=Hd (fun hne=>by
      obtain⟨b',off,h1,h2,h3⟩:=hrow hne
      refine⟨b',off,h1,h2,?_,h3⟩
      have:=(hown.lt b' (by rw[h1];rfl)).1
      omega)
     have GZ:=Hd hgz
     obtain⟨n,hn⟩:∃n,n=gs.length:=⟨_,rfl⟩
     have HN:=Hd hn
     rw[←hn] at hgn⊢
     obtain⟨i0,hi0,hz0,hz1,hz2⟩:=info_parts Yhx
     have hw03:w.heap.size≤w3.heap.size:=F3.out.size
     clear SP hgs hrow hgz hown hb3 hn hscap
     go_wp2_with fail
     go_loopg [6,8,9,10,11,41] n (fun k v s8 s9 s10 s11 i wr=>∃(j:Nat) (a:Int),j≤n∧k=n-j∧i=.int .i64 (j:Int)∧Hid (WS wr b t st2 en2 a (Xdo (gs.take j)))∧Hid (wr.ownsRow w3.heap.size 33 16 v j (Xce (gs.take j)))∧Hid (Fr1 b w3 wr))
     case atStart=>exact⟨0,a2,by omega,rfl,rfl,Hd (by exact H3.out),Hd (World.ownsRow_nil _ _ _ _),Hd (Fr1.refl _ _)⟩
     case round=>
      obtain⟨j,ar,hj,rfl,rfl,hws,ho,hfr⟩:=hrel
      by_cases hjn:j<n
      ·have hjl:j<gs.length:=by rw[←HN.out];exact hjn
       obtain⟨b',off,rfl,hbl,hbb,hcl⟩:=ROW.out (by intro e;rw[e] at hjl;simp at hjl)
       obtain⟨g,hg⟩:∃g,g=gs[j]:=⟨_,rfl⟩
       have hcg:wr.cell? ⟨b',off+j,none⟩=some (.string g):=by
        have h5:=hcl j hjl
        rw[←hg] at h5
        have:=hfr.out.other b' hbl hbb
        unfold World.cell? at h5⊢
        simp only[this]
        exact h5
       have hgs1:g.size≤1000000:=by have:=GZ.out g (by rw[hg];exact List.getElem_mem hjl);omega
       have TKE:gs.take (j+1)=gs.take j++[g]:=by rw[List.take_succ_eq_append_getElem hjl,hg]
       have PA:=Hd (Xjp g wr hgs1)
       have TB:=Hd (show Xdo (gs.take (j+1))=fe (Xdo (gs.take j)) (if(Xeo (bs g)).isNone=true then 3 else 0) by rw[TKE,Xl6])
       obtain⟨cs,hcs⟩:∃cs,cs=idA (auZ g):=⟨_,rfl⟩
       have CL:Hid (Cl 16 cs):=Hd (by rw[hcs];exact Xq7 (Xhb g))
       have TS:Hid (Xce (gs.take (j+1))=Xce (gs.take j)++cs.toList):=Hd (by rw[TKE,Xie,hcs];rfl)
       have PA2:Hid (Calls Tryz.prog 111 #[.string g] wr fun e w'=>∃(aa er:Int),e=.returned (.tuple #[.agg cs,.int .i64 aa,.int .i64 er])∧((Xeo (bs g)).isNone=true↔er≠0)∧Below wr.heap.size wr w'):=Hd (PA.out.mono (by
        rintro e w' ⟨aa,er,h1,h2⟩
        rw[hcs]
        unfold auZ
        cases hq:Xeo (bs g) with
        |none=>rw[hq] at h1;obtain⟨rfl,h3⟩:=h1;exact⟨aa,er,rfl,by simp[h3],h2⟩
        |some id=>rw[hq] at h1;subst h1;exact⟨aa,0,rfl,by simp,h2⟩))
       have CSZ:Hid (cs.size=16):=Hd CL.out.1
       have ONE:=Hd (Xpb CL.out)
       have BS:Hid (Tryz.prog.builtSlice 33 1 [((0:Nat),Value.agg cs)]=some cs):=Hd (by have:=Yiq cs.toList (by simpa using CSZ.out);simpa using this)
       have FO:Hid (Array.foldl (fun(cs:Array Value) (x:Value×Nat)=>cs.setIfInBounds x.snd x.fst) #[Value.int .u8 0,Value.int .u8 0,Value.int .u8 0,Value.int .u8 0,Value.int .u8 0,Value.int .u8 0,Value.int .u8 0,Value.int .u8 0,Value.int .u8 0,Value.int .u8 0,Value.int .u8 0,Value.int .u8 0,Value.int .u8 0,Value.int .u8 0,Value.int .u8 0,Value.int .u8 0] cs.zipIdx 0 cs.size=cs):=Hd (by have:=Xyc cs.toList (by simpa using CSZ.out);simpa using this)
       have FO2:Hid (Array.foldl (fun(cs:Array Value) (x:Value×Nat)=>cs.setIfInBounds x.snd x.fst) #[Value.int .u8 0,Value.int .u8 0,Value.int .u8 0,Value.int .u8 0,Value.int .u8 0,Value.int .u8 0,Value.int .u8 0,Value.int .u8 0,Value.int .u8 0,Value.int .u8 0,Value.int .u8 0,Value.int .u8 0,Value.int .u8 0,Value.int .u8 0,Value.int .u8 0,Value.int .u8 0] cs.zipIdx 0 16=cs):=Hd (by have:=FO.out;rw[CSZ.out] at this;exact this)
       clear hcl hcs hg PA TKE
       have hbwr:b<wr.heap.size:=hws.out.lt
       have hw3r:w3.heap.size≤wr.heap.size:=hfr.out.size
       go_wp2_with fail
       refine PA2.out.mono ?_
       rintro e w4 ⟨aa,er4,rfl,hiff,hb4⟩
       have STN:Hid (∀zz:Array Value,zz.size=16→(storeVar 33 ⟨w4.heap.size,0,none⟩ (.agg cs)).run Tryz.prog (w4.alloc (.cells zz 33))=.ok () (w4.alloc (.cells cs 33))):=Hd (fun zz hz=>run_storeVar_new w4 33 zz cs (by rw[CL.out.1];exact Xjh) (by rw[hz,CL.out.1]) CL.out.2)
       have hb5:Below wr.heap.size wr (w4.alloc (.cells cs 33)):=hb4.alloc hb4.size _
       have P5:=Hd (heap_alloc_new w4 (.cells cs 33))
       have H5:=Hd (hws.out.below hb5)
       have O5:=Hd (Xdp ho.out hb5)
       have F5:=Hd (hfr.out.trans (Fr1.of_below hb5))
       have hw4:wr.heap.size≤w4.heap.size:=hb4.size
       have hc1:(w4.alloc (.cells cs 33)).cell? ⟨b,1,none⟩=some (.int .i64 (st2:Int)):=cell_of_row _ b 1 _ _ _ H5.out.1
       have FL:=Hd (Xb7 _ b t st2 en2 ar _ H5.out (st2:Int) 3)
       have HIFF:=Hd hiff
       clear hb4 hb5 PA2 hiff hws ho hfr
       by_cases her:er4=0
       ·subst her
        have TB2:Hid (Xdo (gs.take (j+1))=Xdo (gs.take j)):=Hd (by rw[TB.out,if_neg (fun h=>HIFF.out.1 h rfl),Xow])
        go_upto_region 17 with((with_reducible refine Xab 33 rfl _ _ rfl ?_);refine⟨_,_,_,rfl,rfl,STN.out _ rfl,?_⟩)
        obtain⟨w6,hw6⟩:∃w6,w6=w4.alloc (.cells cs 33):=⟨_,rfl⟩
        have F6:Hid (Fr1 b (w4.alloc (.cells cs 33)) w6):=Hd (by rw[hw6];exact Fr1.refl _ _)
        obtain⟨a6,ha6⟩:∃a6,a6=ar:=⟨_,rfl⟩
        have H6:Hid (WS w6 b t st2 en2 a6 (Xdo (gs.take (j+1)))):=Hd (by rw[TB2.out,hw6,ha6];exact H5.out)
        have P6:Hid (w6.heap[w4.heap.size]?=some (.cells cs 33 (0,0))):=Hd (by rw[hw6];exact P5.out)
        rw[←hw6]
        have LD:=Hd (Xal w6 w4.heap.size 16 _ _ cs _ _ P6.out rfl Tryz.underlying33 Xjh CL.out.1)
        have O6:=Hd (Xjq O5.out F6.out hb3')
        have hw36:w3.heap.size≤w6.heap.size:=by have:=F6.out.size;simp at this;omega
        have GROW:Hid (∀(o:Obj) (w8:World),(w6.alloc o).grownBy w8 u6.ownBlock→WS w8 b t st2 en2 a6 (Xdo (gs.take (j+1)))∧Fr1 b w3 w8):=Hd (fun o w8 hg=>by
         have B1:Below w3.heap.size w6 (w6.alloc o):=(Below.refl _ _).alloc hw36 _
         have B:=Below.grown B1 hg (by simp;omega) (fun k hk=>(O6.out.lt k hk).1)
         exact⟨⟨(B.block b hb3').trans H6.out.1,H6.out.2⟩,⟨B.os.trans (F5.out.trans F6.out).os,B.tape.trans (F5.out.trans F6.out).tape,B.output.trans (F5.out.trans F6.out).output,Nat.le_trans hw36 B.size,fun k hk hne=>(B.block k hk).trans ((F5.out.trans F6.out).other k hk hne)⟩⟩)
        clear hw6 ha6 FL hc1 STN P5 H5
        have hcz:cs.size=16:=CSZ.out
        go_wp2_with (first
         |((with_reducible refine Xac 33 rfl _ rfl ?_);refine⟨_,_,rfl,LD.out,?_⟩)
         |((with_reducible refine wpList_buildSliceTo rfl 150 33 1 _ rfl w6.heap.size rfl _ rfl Tryz.underlying150 cs BS.out ?_))
         |(at_builtin;refine wpList_append_own _ rfl _ _ 150 rfl w3.heap.size 33 i0 (.agg (idA Xdc)) 16 16 Tryz.underlying150 hi0 hz0 hz1 hz2 rfl (by decide) _ _ _ rfl (O6.out.alloc _) ⟨w6.heap.size,0,none⟩ 1 1 cs.toList rfl (by simpa using CSZ.out) (World.news_of_block (cs:=cs) (t:=33) (fr:=(0,0)) (by(first|rw[FO2.out]|rw[FO.out]);exact heap_alloc_new w6 _)) ONE.out (by unfold maxLen;omega) (by omega) (by simp;omega) ?_;intro v' w8 hown' hgrow _))
        have O8:Hid (w8.ownsRow w3.heap.size 33 16 v' (j+1) (Xce (gs.take (j+1)))):=Hd (by rw[TS.out];exact hown')
        have F8:=Hd (GROW.out _ w8 hgrow)
        clear hown' hgrow
        go_wp2_with fail
        go_roundg (n-(j+1))
        case measure=>omega
        case rel=>exact⟨j+1,a6,by omega,rfl,by go_num,Hd F8.out.1,O8,Hd F8.out.2⟩
       ·have q0:(er4 !=0)=true:=Xam her
        have TB2:Hid (Xdo (gs.take (j+1))=fe (Xdo (gs.take j)) 3):=Hd (by rw[TB.out,if_pos (HIFF.out.2 her)])
        clear her
        go_wp2_with ((with_reducible refine Xab 33 rfl _ _ rfl ?_);refine⟨_,_,_,rfl,rfl,STN.out _ rfl,?_⟩)
        refine FL.out.mono ?_
        rintro e w6 ⟨⟨v,rfl⟩,⟨a6,h6⟩,f6⟩
        have H6:Hid (WS w6 b t st2 en2 a6 (Xdo (gs.take (j+1)))):=Hd (by rw[TB2.out];exact h6)
        have F6:=Hd f6
        have P6:=Hd ((f6.other w4.heap.size (by simp) (by omega)).trans P5.out)
        have LD:=Hd (Xal w6 w4.heap.size 16 _ _ cs _ _ P6.out rfl Tryz.underlying33 Xjh CL.out.1)
        have O6:=Hd (Xjq O5.out F6.out hb3')
        have hw36:w3.heap.size≤w6.heap.size:=by have:=F6.out.size;simp at this;omega
        have GROW:Hid (∀(o:Obj) (w8:World),(w6.alloc o).grownBy w8 u6.ownBlock→WS w8 b t st2 en2 a6 (Xdo (gs.take (j+1)))∧Fr1 b w3 w8):=Hd (fun o w8 hg=>by
         have B1:Below w3.heap.size w6 (w6.alloc o):=(Below.refl _ _).alloc hw36 _
         have B:=Below.grown B1 hg (by simp;omega) (fun k hk=>(O6.out.lt k hk).1)
         exact⟨⟨(B.block b hb3').trans H6.out.1,H6.out.2⟩,⟨B.os.trans (F5.out.trans F6.out).os,B.tape.trans (F5.out.trans F6.out).tape,B.output.trans (F5.out.trans F6.out).output,Nat.le_trans hw36 B.size,fun k hk hne=>(B.block k hk).trans ((F5.out.trans F6.out).other k hk hne)⟩⟩)
        clear h6 f6 FL hc1 STN P5 H5
        have hcz:cs.size=16:=CSZ.out
        go_wp2_with (first
         |((with_reducible refine Xac 33 rfl _ rfl ?_);refine⟨_,_,rfl,LD.out,?_⟩)
         |((with_reducible refine wpList_buildSliceTo rfl 150 33 1 _ rfl w6.heap.size rfl _ rfl Tryz.underlying150 cs BS.out ?_))
         |(at_builtin;refine wpList_append_own _ rfl _ _ 150 rfl w3.heap.size 33 i0 (.agg (idA Xdc)) 16 16 Tryz.underlying150 hi0 hz0 hz1 hz2 rfl (by decide) _ _ _ rfl (O6.out.alloc _) ⟨w6.heap.size,0,none⟩ 1 1 cs.toList rfl (by simpa using CSZ.out) (World.news_of_block (cs:=cs) (t:=33) (fr:=(0,0)) (by(first|rw[FO2.out]|rw[FO.out]);exact heap_alloc_new w6 _)) ONE.out (by unfold maxLen;omega) (by omega) (by simp;omega) ?_;intro v' w8 hown' hgrow _))
        have O8:Hid (w8.ownsRow w3.heap.size 33 16 v' (j+1) (Xce (gs.take (j+1)))):=Hd (by rw[TS.out];exact hown')
        have F8:=Hd (GROW.out _ w8 hgrow)
        clear hown' hgrow
        go_wp2_with fail
        go_roundg (n-(j+1))
        case measure=>omega
        case rel=>exact⟨j+1,a6,by omega,rfl,by go_num,Hd F8.out.1,O8,Hd F8.out.2⟩
      ·obtain rfl:j=n:=by omega
       have hall:gs.take j=gs:=List.take_of_length_le (by rw[HN.out];exact Nat.le_refl _)
       rw[hall] at hws ho
       have ML:Hid (Xcy (bs x2)=fe (fe (Xdo gs) (eIf (decide (8<gs.length)) 9)) (eIf (!Xlw (gs.map auZ)) 30)):=Hd (Ybf HGS.out)
       obtain⟨va,vc,rfl,har⟩:=Xw5 HN.out ho.out
       have HAR:=Hd har
       have AOK:Hid (∀y∈gs.map auZ,AuOk y):=Hd (fun y hy=>by obtain⟨g,_,rfl⟩:=List.mem_map.1 hy;exact Xhb g)
       have LNM:Hid ((gs.map auZ).length=j):=Hd (by rw[List.length_map,HN.out])
       rw[←HN.out] at ML
       have HWS:=Hd hws.out;have HFR:=Hd hfr.out
       have hc1:wr.cell? ⟨b,1,none⟩=some (.int .i64 (st2:Int)):=cell_of_row wr b 1 _ _ _ hws.out.1
       have OWN5:Hid (∀w5,Fr1 b wr w5→Ygo w5 va (gs.map auZ)):=Hd (fun w5 f5=>by
        obtain⟨va',vc',e1,e2⟩:=Xw5 HN.out (Xjq ho.out f5 hb3')
        cases e1;exact e2)
       clear har hall hws ho hfr ROW GZ
       by_cases h8:8<j
       ·have FL9:=Hd (Xb7 wr b t st2 en2 ar _ HWS.out (st2:Int) 9)
        have ML9:Hid (Xcy (bs x2)=fe (fe (Xdo gs) 9) (eIf (!Xlw (gs.map auZ)) 30)):=Hd (by rw[ML.out,decide_eq_true h8];rfl)
        clear ML
        have ML:=ML9
        clear ML9
        go_wp2_with fail
        refine FL9.out.mono ?_
        rintro e w5 ⟨⟨v5,rfl⟩,⟨a5,h5⟩,f5⟩
        have HAR5:Hid (Ygo w5 va (gs.map auZ)):=Hd (OWN5.out w5 f5)
        have H5:=Hd h5;have F5:=Hd (HFR.out.trans f5)
        clear FL9 h5 f5 hc1 HAR
        have HAR:=HAR5
        have IC:=Hd (Xxw w5 va vc (gs.map auZ) (by rw[List.length_map,←HN.out];omega) HAR.out AOK.out)
        rw[LNM.out] at IC
        obtain⟨ib,hib⟩:∃ib,ib=Xlw (gs.map auZ):=⟨_,rfl⟩
        rw[←hib] at IC ML
        clear hib
        go_wp2_with fail
        refine IC.out.mono ?_
        rintro e w6 ⟨rfl,hd6⟩
        have hb6:=Dr.below hd6
        have h6:=H5.out.below hb6
        have F6:=Hd (F5.out.trans (Fr1.of_below hb6))
        have H6:=Hd h6
        have hc6:w6.cell? ⟨b,1,none⟩=some (.int .i64 (st2:Int)):=cell_of_row w6 b 1 _ _ _ h6.1
        clear hd6 hb6 h6 IC
        cases ib
        ·have FL30:=Hd (Xb7 w6 b t st2 en2 _ _ H6.out (st2:Int) 30)
         go_wp2_with fail
         refine FL30.out.mono ?_
         rintro e w7 ⟨⟨v,rfl⟩,⟨a7,h7⟩,f7⟩
         have H7:Hid (WS w7 b t st2 en2 a7 (Xcy (bs x2))):=Hd (by rw[ML.out];exact h7)
         have F7:=Hd (F6.out.trans f7)
         clear FL30 h7 f7 hc6
         go_wp2_with fail
         go_ret2
         exact⟨_,_,st2,en2,a7,_,rfl,⟨_,_,_,rfl⟩,H7.out,F3.out.trans F7.out,LAW.out⟩
        ·have H7:Hid (WS w6 b t st2 en2 _ (Xcy (bs x2))):=Hd (by rw[ML.out];show WS w6 b t st2 en2 _ (fe _ 0);rw[Xow];exact H6.out)
         go_wp2_with fail
         go_ret2
         exact⟨_,_,st2,en2,_,_,rfl,⟨_,_,_,rfl⟩,H7.out,F3.out.trans F6.out,LAW.out⟩
       ·have ML9:Hid (Xcy (bs x2)=fe (Xdo gs) (eIf (!Xlw (gs.map auZ)) 30)):=Hd (by rw[ML.out,decide_eq_false h8];show fe (fe _ 0) _=_;rw[Xow])
        clear ML hc1
        have ML:=ML9
        clear ML9
        have IC:=Hd (Xxw wr va vc (gs.map auZ) (by rw[List.length_map,←HN.out];omega) HAR.out AOK.out)
        rw[LNM.out] at IC
        obtain⟨ib,hib⟩:∃ib,ib=Xlw (gs.map auZ):=⟨_,rfl⟩
        rw[←hib] at IC ML
        clear hib
        go_wp2_with fail
        refine IC.out.mono ?_
        rintro e w6 ⟨rfl,hd6⟩
        have hb6:=Dr.below hd6
        have h6:=HWS.out.below hb6
        have F6:=Hd (HFR.out.trans (Fr1.of_below hb6))
        have H6:=Hd h6
        have hc6:w6.cell? ⟨b,1,none⟩=some (.int .i64 (st2:Int)):=cell_of_row w6 b 1 _ _ _ h6.1
        clear hd6 hb6 h6 IC
        cases ib
        ·have FL30:=Hd (Xb7 w6 b t st2 en2 _ _ H6.out (st2:Int) 30)
         go_wp2_with fail
         refine FL30.out.mono ?_
         rintro e w7 ⟨⟨v,rfl⟩,⟨a7,h7⟩,f7⟩
         have H7:Hid (WS w7 b t st2 en2 a7 (Xcy (bs x2))):=Hd (by rw[ML.out];exact h7)
         have F7:=Hd (F6.out.trans f7)
         clear FL30 h7 f7 hc6
         go_wp2_with fail
         go_ret2
         exact⟨_,_,st2,en2,a7,_,rfl,⟨_,_,_,rfl⟩,H7.out,F3.out.trans F7.out,LAW.out⟩
        ·have H7:Hid (WS w6 b t st2 en2 _ (Xcy (bs x2))):=Hd (by rw[ML.out];show WS w6 b t st2 en2 _ (fe _ 0);rw[Xow];exact H6.out)
         go_wp2_with fail
         go_ret2
         exact⟨_,_,st2,en2,_,_,rfl,⟨_,_,_,rfl⟩,H7.out,F3.out.trans F6.out,LAW.out⟩
   ·have hnm:bs x≠Xh4:=fun e=>hm (Xgm (e.trans (by rfl)))
    have q2:(x.toList==[109,111,100,101,114,97,116,101,100])=false:=by
     rw[beq_eq_false_iff_ne];intro e;apply hm;apply ByteArray.ext;apply Array.toList_inj.1;rw[←ByteArray.toList_eq];exact e
    have LAW:Hid (Ygr t en 0 en' 3):=Hd (fun k=>by rw[HK.out,if_neg hno,if_neg hnm];rfl)
    have FL:=Hd (Xb7 w1 b t st' en' a 0 H1.out (st':Int) 3)
    clear ho hno hm hnm
    go_wp2_with fail
    refine FL.out.mono ?_
    rintro e w3 ⟨⟨v,rfl⟩,⟨a',h3⟩,f3⟩
    have H3:Hid (WS w3 b t st' en' a' 3):=Hd h3;have F3:=Hd (F1.out.trans f3)
    clear FL h3 f3 hc1
    go_wp2_with fail
    go_ret2
    exact⟨_,_,st',en',a',3,rfl,⟨_,_,_,rfl⟩,H3.out,F3.out,LAW.out⟩
set_option maxHeartbeats 4000000 in
theorem Xx9 (w:World) (b:Nat) (t:ByteArray) (st en:Nat) (at_:Int) (er:Nat) (h:WS w b t st en at_ er) (hE:Env w) (hb9:9≤b) (ht2:t.size≤100000):
    Calls Tryz.prog 188 #[.pointer (some ⟨b,0,none⟩)] w (Xcp w b t en er (fun T=>nxt T fun x T=>fe (Xhw x) ((fun T=>nxt T fun x T=>fe ((Xe1 0 1000000) x) ((fun T=>nxt T fun m T=>if m=Xgj then Xd2 T else if m=Xh4 then nxt T (fun a T=>fe (Xcy a) (Xd2 T)) else 3) T)) T))):=by
 have ht:t.size≤1000000:=by omega
 obtain⟨zs,hzs⟩:∃zs,zs=Xla 0 Xhd:=⟨_,rfl⟩
 obtain⟨ks,hks⟩:∃ks,ks=Xla 3 Xhd:=⟨_,rfl⟩
 have ZCL:Hid (Cl 56 zs):=Hd (by rw[hzs];exact Xdz 0 _ (by simp[Xhd]) Xej)
 have KCL:Hid (Cl 56 ks):=Hd (by rw[hks];exact Xdz 3 _ (by simp[Xhd]) Xej)
 have BK:Hid (∀w,(Instr.build 152 #[(0,.int .i64 3)]).run Tryz.prog w=.ok (.agg ks) w):=Hd (fun w=>by rw[hks];exact Xfz w 3)
 have hbw:=h.lt
 have STN:Hid (∀zz:Array Value,zz.size=56→(storeVar 152 ⟨w.heap.size+1,0,none⟩ (.agg ks)).run Tryz.prog ((w.alloc (.cells zs 152)).alloc (.cells zz 152))=.ok () ((w.alloc (.cells zs 152)).alloc (.cells ks 152))):=Hd (fun zz hz=>by
  have:=run_storeVar_new (P:=Tryz.prog) (w.alloc (.cells zs 152)) 152 zz ks (by rw[KCL.out.1];exact Xa1) (by rw[hz,KCL.out.1]) KCL.out.2
  rwa [World.size_alloc] at this)
 obtain⟨w0,hw0⟩:∃w0,w0=(w.alloc (.cells zs 152)).alloc (.cells ks 152):=⟨_,rfl⟩
 have bA:Below w.heap.size w (w.alloc (.cells zs 152)):=(Below.refl _ w).alloc (Nat.le_refl _) _
 have b0:Below w.heap.size w w0:=by rw[hw0];exact bA.alloc bA.size _
 have h0:=h.below b0
 have E0:=hE.on b0
 have F0:Hid (Fr1 b w w0):=Hd (Fr1.of_below b0)
 have Z0:Hid (w0.heap[w.heap.size]?=some (.cells zs 152 (0,0))):=Hd (by
  rw[hw0]
  exact(((Below.refl _ (w.alloc (.cells zs 152))).alloc (Nat.le_refl _) _).block w.heap.size (by simp)).trans (heap_alloc_new w _))
 have hm0:MB w0 (w.heap.size+1):=⟨ks,by rw[hw0];have:=heap_alloc_new (w.alloc (.cells zs 152)) (.cells ks 152);rwa [World.size_alloc] at this,KCL.out⟩
 have M0:=Hd hm0
 rw[hzs] at STN
 have HW:Hid (w0=(w.alloc (.cells (Xla 0 Xhd) 152)).alloc (.cells ks 152)):=Hd (by rw[hw0,hzs])
 have H0:=Hd h0;have HE0:=Hd E0
 have HB9:=Hd hb9;have HT:=Hd ht
 clear h hE hzs hks hw0 bA b0 h0 E0 hm0
 have C1:=Hd (Xke w0 b t st en at_ er H0.out HE0.out hb9 ht)
 go_enter Tryz.func188,Tryz.ntmps188
 go_wp2_with (first
  |((with_reducible refine Xdj 152 rfl _ rfl ?_);refine⟨_,_,rfl,BK.out _,?_⟩)
  |((with_reducible refine Xab 152 rfl _ _ rfl ?_);refine⟨_,_,_,rfl,rfl,STN.out _ rfl,?_⟩))
 have C1':Hid (∀wq,w0=wq→Calls Tryz.prog 187 #[.pointer (some ⟨b,0,none⟩)] wq (Xlc w0 b t en er Xhw fun v=>∃s,v=.string s∧s.size≤t.size)):=Hd (by rintro wq rfl;exact C1.out)
 refine(C1'.out _ HW.out).mono ?_
 clear C1 C1' HW STN BK
 rintro e v1 ⟨v,st1,en1,a1,er1,rfl,⟨s1,rfl,hsz1⟩,h1,f1,hsl1⟩
 have MV1:=Hd (M0.out.fr f1 (by omega))
 have ZV1:=Hd ((f1.other w.heap.size (lt_of_block Z0.out) (by omega)).trans Z0.out)
 have FV1:=Hd (F0.out.trans f1)
 have EV1:=Hd (Xbr HE0.out hb9 f1)
 have HSL1:=Hd hsl1
 obtain⟨u1,hc1,hf1⟩:=MV1.out.cell (j:=33) (by omega)
 obtain⟨y1,hy1⟩:∃y,y=v1.setCell ⟨w.heap.size+1,33,none⟩ (.string s1):=⟨_,rfl⟩
 have M1:Hid (MB y1 (w.heap.size+1)):=Hd (by rw[hy1];exact MV1.out.setCell 33 rfl)
 have ff1:Fr1 (w.heap.size+1) v1 y1:=by rw[hy1];exact Fr1.setC _
 have H1:=Hd (h1.fr ff1 (by omega))
 have F1:=Hd (FV1.out.new ff1 (by omega))
 have Z1:=Hd ((ff1.other w.heap.size (lt_of_block ZV1.out) (by omega)).trans ZV1.out)
 have HE1:=Hd (Xbr EV1.out (by have:=HB9.out;have:=hbw;omega) ff1)
 have HY1:=Hd hy1
 clear h1 f1 hsl1 ff1 hy1
 have C2:=Hd (Xhp y1 b t st1 en1 a1 er1 H1.out HE1.out hb9 ht 0 1000000 (by omega) (by omega))
 go_wp2_with fail
 rw[←HY1.out]
 refine C2.out.mono ?_
 rintro e v2 ⟨v,st2,en2,a2,er2,rfl,⟨n2,rfl⟩,h2,f2,hsl2⟩
 have MV2:=Hd (M1.out.fr f2 (by omega))
 have ZV2:=Hd ((f2.other w.heap.size (lt_of_block Z1.out) (by omega)).trans Z1.out)
 have FV2:=Hd (F1.out.trans f2)
 have EV2:=Hd (Xbr HE1.out hb9 f2)
 have HSL2:=Hd hsl2
 obtain⟨u2,hc2,hf2⟩:=MV2.out.cell (j:=34) (by omega)
 obtain⟨y2,hy2⟩:∃y,y=v2.setCell ⟨w.heap.size+1,34,none⟩ (.int .i64 n2):=⟨_,rfl⟩
 have M2:Hid (MB y2 (w.heap.size+1)):=Hd (by rw[hy2];exact MV2.out.setCell 34 rfl)
 have ff2:Fr1 (w.heap.size+1) v2 y2:=by rw[hy2];exact Fr1.setC _
 have H2:=Hd (h2.fr ff2 (by omega))
 have F2:=Hd (FV2.out.new ff2 (by omega))
 have Z2:=Hd ((ff2.other w.heap.size (lt_of_block ZV2.out) (by omega)).trans ZV2.out)
 have HE2:=Hd (Xbr EV2.out (by have:=HB9.out;have:=hbw;omega) ff2)
 have HY2:=Hd hy2
 clear h2 f2 hsl2 ff2 hy2
 have C3:=Hd (Ybg y2 b t st2 en2 a2 er2 H2.out HE2.out hb9 ht2)
 go_wp2_with fail
 rw[←HY2.out]
 refine C3.out.mono ?_
 rintro e v3 ⟨bo3,v,st3,en3,a3,er3,rfl,⟨sa3,sn3,sc3,rfl⟩,h3,f3,hsl3⟩
 have MV3:=Hd (M2.out.fr f3 (by omega))
 have ZV3:=Hd ((f3.other w.heap.size (lt_of_block Z2.out) (by omega)).trans Z2.out)
 have FV3:=Hd (F2.out.trans f3)
 have EV3:=Hd (Xbr HE2.out hb9 f3)
 have HSL3:=Hd hsl3
 obtain⟨u3,hc3,hf3⟩:=MV3.out.cell (j:=35) (by omega)
 obtain⟨uu3,hcc3,hff3⟩:=MV3.out.cell (j:=36) (by omega)
 obtain⟨y3,hy3⟩:∃y,y=(v3.setCell ⟨w.heap.size+1,35,none⟩ (.bool bo3)).setCell ⟨w.heap.size+1,36,none⟩ (.slice sa3 sn3 sc3):=⟨_,rfl⟩
 have M3:Hid (MB y3 (w.heap.size+1)):=Hd (by rw[hy3];exact(MV3.out.setCell 35 rfl).setCell 36 rfl)
 have ff3:Fr1 (w.heap.size+1) v3 y3:=by rw[hy3];exact(Fr1.setC _).trans (Fr1.setC _)
 have H3:=Hd (h3.fr ff3 (by omega))
 have F3:=Hd (FV3.out.new ff3 (by omega))
 have Z3:=Hd ((ff3.other w.heap.size (lt_of_block ZV3.out) (by omega)).trans ZV3.out)
 have HE3:=Hd (Xbr EV3.out (by have:=HB9.out;have:=hbw;omega) ff3)
 have HY3:=Hd hy3
 clear h3 f3 hsl3 ff3 hy3
 have C4:=Hd (Yau y3 b t st3 en3 a3 er3 H3.out hb9 ht)
 go_wp2_with fail
 rw[←HY3.out]
 refine C4.out.mono ?_
 rintro e v4 ⟨s4,st4,en4,a4,er4,rfl,hsz4,h4,f4,hsl4⟩
 have MV4:=Hd (M3.out.fr f4 (by omega))
 have ZV4:=Hd ((f4.other w.heap.size (lt_of_block Z3.out) (by omega)).trans Z3.out)
 have FV4:=Hd (F3.out.trans f4)
 have EV4:=Hd (Xbr HE3.out hb9 f4)
 have HSL4:=Hd hsl4
 obtain⟨u4,hc4,hf4⟩:=MV4.out.cell (j:=37) (by omega)
 obtain⟨y4,hy4⟩:∃y,y=v4.setCell ⟨w.heap.size+1,37,none⟩ (.string s4):=⟨_,rfl⟩
 have M4:Hid (MB y4 (w.heap.size+1)):=Hd (by rw[hy4];exact MV4.out.setCell 37 rfl)
 have ff4:Fr1 (w.heap.size+1) v4 y4:=by rw[hy4];exact Fr1.setC _
 have H4:=Hd (h4.fr ff4 (by omega))
 have F4:=Hd (FV4.out.new ff4 (by omega))
 have Z4:=Hd ((ff4.other w.heap.size (lt_of_block ZV4.out) (by omega)).trans ZV4.out)
 have HE4:=Hd (Xbr EV4.out (by have:=HB9.out;have:=hbw;omega) ff4)
 have HY4:=Hd hy4
 clear h4 f4 hsl4 ff4 hy4
 obtain⟨cs,hp,hcl⟩:=M4.out
 have LD:=Hd (Xal y4 (w.heap.size+1) 56 _ _ cs _ _ hp rfl Tryz.underlying152 Xa1 hcl.1)
 have ST:=Hd (run_storeVar_row (P:=Tryz.prog) y4 w.heap.size _ 152 zs cs Z4.out (by rw[hcl.1];exact Xa1) (by rw[hcl.1,ZCL.out.1]) hcl.2)
 have W2:=Hd (setRow_heap y4 w.heap.size zs cs _ _ Z4.out)
 have CSZ:Hid (cs.size=56):=Hd hcl.1
 have POST:Hid (Xcp w b t en er (fun T=>nxt T fun x T=>fe (Xhw x) ((fun T=>nxt T fun x T=>fe ((Xe1 0 1000000) x) ((fun T=>nxt T fun m T=>if m=Xgj then Xd2 T else if m=Xh4 then nxt T (fun a T=>fe (Xcy a) (Xd2 T)) else 3) T)) T)) (.returned (.agg cs)) (y4.setRow w.heap.size cs)):=Hd ⟨cs,st4,en4,a4,er4,rfl,hcl,H4.out.row (by omega) cs,F4.out.row (Nat.le_refl _) cs,((HSL1.out (fun T=>nxt T fun x T=>fe ((Xe1 0 1000000) x) ((fun T=>nxt T fun m T=>if m=Xgj then Xd2 T else if m=Xh4 then nxt T (fun a T=>fe (Xcy a) (Xd2 T)) else 3) T))).trans ((HSL2.out (fun T=>nxt T fun m T=>if m=Xgj then Xd2 T else if m=Xh4 then nxt T (fun a T=>fe (Xcy a) (Xd2 T)) else 3)).trans ((HSL3.out Xd2).trans HSL4.out.symm))).symm⟩
 clear hp hcl
 go_upto_region 6 with fail
 rw[←HY4.out]
 refine wp_region_list ?_
 simp only[]
 refine Xac 152 rfl _ rfl ⟨_,_,rfl,LD.out,?_⟩
 go_wp2_with ((with_reducible refine Xab 152 rfl _ _ rfl ?_);refine⟨_,_,_,rfl,rfl,ST.out,?_⟩)
 exact bodyPost_ret (results_cell_row Tryz.results188 _ _ w.heap.size _ _ _ _ rfl W2.out Tryz.underlying152 rfl (by rw[CSZ.out];exact Xa1)) rfl POST.out
def Xnq (listed:Array Bool):Nat:=listed.toList.countP (fun b=>!b)
theorem Xle {listed:Array Bool} {i:Nat} (hi:listed.getD i true=false):Xnq (listed.setIfInBounds i true)+1=Xnq listed:=by
 have hlt:i<listed.size:=by
  rcases Nat.lt_or_ge i listed.size with h|h
  ·exact h
  ·simp[Array.getD,Nat.not_lt.2 h] at hi
 have hv:listed.toList[i]'(by simpa using hlt)=false:=by
  simp[Array.getD,hlt] at hi;simpa using hi
 unfold Xnq
 have hp:0<listed.toList.countP (fun b=>!b):=List.countP_pos_iff.2 ⟨false,by rw[←hv];exact List.getElem_mem _,rfl⟩
 rw[Array.toList_setIfInBounds,List.countP_set (by simpa using hlt)]
 simp only[hv,Bool.not_false,Bool.not_true,if_true,Bool.false_eq_true,if_false]
 omega
theorem Xno {P:Program} {md:Region.Mode} {ops:Array Oper} {Q:Exit→Act→World→Prop} (I:Array Bool→Act→World→Prop)
    (hstep:∀listed a w i,I listed a w→i∈Region.ready md ops listed→listed.getD i true=false∧wpOp P ops Q i (fun a' w'=>I (listed.setIfInBounds i true) a' w') a w)
    (hend:∀listed a w,I listed a w→Region.ready md ops listed=[]→Q .normal a w):
    ∀(fuel:Nat) (listed:Array Bool) (a:Act) (w:World),I listed a w→Xnq listed≤fuel→wpAny P md ops Q fuel listed a w
 |0,listed,a,w,h,hu=>by
  have hr:Region.ready md ops listed=[]:=by
   cases hq:Region.ready md ops listed with
   |nil=>rfl
   |cons i t=>
    have:=Xle (hstep listed a w i h (by rw[hq];exact List.mem_cons_self ..)).1
    omega
  exact⟨hr,hend listed a w h hr⟩
 |fuel+1,listed,a,w,h,hu=>⟨hend listed a w h,fun i hi=>by
     obtain⟨h1,h2⟩:=hstep listed a w i h hi
     have:=Xle h1
     exact wpOp_mono (fun a' w' h'=>Xno I hstep hend fuel _ a' w' h' (by omega)) h2⟩
end Go.Proofs.YtohmdledkhgdaaaGreatDoor
