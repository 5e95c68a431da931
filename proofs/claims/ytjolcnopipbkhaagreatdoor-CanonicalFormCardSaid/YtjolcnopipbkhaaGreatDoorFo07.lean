/- references.Print. -/
import Derived.Test.YtjolcnopipbkhaaGreatDoorFo06
import Derived.Great.Walk
import Derived.Laws.IdiomRangeMap
import Derived.Orders
namespace Go.Proofs.YtjolcnopipbkhaaGreatDoor
open Go.Proofs.Tryz
open Go.RowKit Go.Maps
set_option linter.unusedVariables false
set_option maxHeartbeats 100000000
set_option maxRecDepth 100000
theorem Yed:(prog.info? 9).map (fun i=>(i.zero,i.size,i.bytes))=some (some (.string ⟨#[]⟩),1,16):=by kernel_rfl
theorem Xny {w:World}{base:Nat}{v:Value}{gs:List ByteArray}(h:w.ownsRow base 9 1 v gs.length (gs.map Value.string)):SRow w v gs:=by
 rcases h.2 with⟨rfl,h0⟩|⟨g,cap,cur,rfl,hb,hg,hc,_,hs,ht⟩
 ·exact⟨none,0,by rw[h0],by rw[h0];exact zL _,fun hne=>absurd (List.length_eq_zero_iff.1 h0) hne⟩
 ·refine⟨some ⟨g,0,none⟩,cap,rfl,hc,fun _=>⟨g,0,rfl,zY hg,fun j hj=>?_⟩⟩
  rw[Nat.zero_add,cell_of_row w g j _ _ _ hg]
  have e1:(cur.toList.take (gs.length*1))[j]?=some (.string gs[j]):=by rw[ht];simp[hj]
  rw[List.getElem?_take,qP (by omega)] at e1
  simpa using e1
theorem Xdy {x:List Nat}(h:IdOk x):(Xcr x).length=71:=by
 simp[Xcr,Xbs,h.len,sHash]
theorem Yhs {x:List Nat}(h:IdOk x):∀c∈Xcr x,c<256:=by
 intro c hc
 simp only[Xcr,List.cons_append,List.mem_cons,List.mem_append] at hc
 rcases hc with rfl|hc|hc
 ·omega
 ·exact Xz7 h.lt c hc
 ·simp[sHash] at hc;omega
theorem Xd1 {W w2:World}{base e size n:Nat}{v:Value}{xs:List Value}(h:W.ownsRow base e size v n xs)(hb:Bw W w2):w2.ownsRow base e size v n xs:=by
 rcases h.2 with⟨rfl,h0⟩|⟨g,cap,cur,rfl,hg,hgb,r⟩
 ·exact⟨h.1,.inl ⟨rfl,h0⟩⟩
 ·exact⟨h.1,.inr ⟨g,cap,cur,rfl,hg,(hb.block g (zY hgb)).trans hgb,r⟩⟩
def Xhi (ids:List (List Nat)):List ByteArray:=ids.map fun x=>Xaq (Xcr x)
theorem Xn1 {ids:List (List Nat)}(h:∀x∈ids,IdOk x):(Xhi ids).map bs=ids.map Xcr:=by
 unfold Xhi
 rw[List.map_map]
 exact List.map_congr_left fun x hx=>Xci _ (Yhs (h x hx))
theorem Xvp (w:World)(v:Value)(ids:List (List Nat))(hr:IRow w v ids)(hl:ids.length≤1000000)(hi:∀y∈ids,IdOk y):
    Calls prog 35 #[v] w (Xs6 (Xe9 ids) (Xaw [32] (ids.map Xcr)) w):=by
 obtain⟨i0,hi0,hz0,hz1,hz2⟩:=info_parts Yed
 obtain⟨n,hn⟩:=xq ids.length
 have C:=Hd (Xmn w v ids hr hl hi)
 obtain⟨a,cap,rfl,hcap,hcells⟩:=hr
 rw[←hn] at hcap hl C⊢
 have HN:=Hd hn
 have HC:=Hd hcells;have HI:=Hd hi
 obtain⟨m,hm⟩:=xq (Xe9 ids)
 rw[←hm] at C⊢
 have HM:=Hd hm
 clear hcells hn hi hm
 go_enter func35,ntmps35
 go_wp2_with fail
 refine C.o.mono ?_
 rintro e w1 ⟨rfl,hb1⟩
 have B1:=Hd hb1
 clear hb1 C
 by_cases m0:m=0
 ·have q0:((m:Int) !=0)=false:=Xau (by omega)
  have N20:n≤20:=by rw[HN.o];exact(Xms (f:=zF) (l:=ids) (by rw[←Xnu,←HM.o];exact m0)).1
  have M0:=Hd m0
  clear m0
  go_wp2_with fail
  go_loopg [5,7,15] n (fun k v s7 i wr=>∃j:Nat,j≤n∧k=n-j∧i=.int .i64 (j:Int)∧Hid (wr.ownsRow w1.heap.size 9 1 v j ((Xhi (ids.take j)).map Value.string))∧Hid (Bw w1 wr))
  case atStart=>exact⟨0,by omega,rfl,rfl,Hd (World.ownsRow_nil _ _ _ _),Hd (zR _ _)⟩
  case round=>
   obtain⟨j,hj,rfl,rfl,ho,hb⟩:=hrel
   by_cases h:j<n
   ·have hjl:j<ids.length:=by rw[←HN.o];exact h
    obtain⟨b,off,rfl,hbl,hcl⟩:=HC.o (by intro e;rw[e] at hjl;simp at hjl)
    obtain⟨x,hx⟩:=xq (ids[j])
    have hxo:IdOk x:=by rw[hx];exact HI.o _ (zG hjl)
    have hbw:Bw w wr:=bg B1.o hb.o
    have LD:Hid (Ld 26 ⟨b,off+j*32,none⟩ wr (.agg (idA x))):=Hd
     (Xah wr b (off+j*32) 26 (idA x) _ underlying26 rfl (by rw[Xag,hxo.len];exact Xa3) (fun k u hu=>by
      rw[hbw.cell (p:=⟨b,off+j*32+k,none⟩) hbl];exact hcl j hjl k u (by rw[←hx];exact hu)))
    have TS:Hid ((Xhi (ids.take (j+1))).map Value.string=(Xhi (ids.take j)).map Value.string++[.string (Xaq (Xcr x))]):=Hd (by unfold Xhi;rw[List.take_succ_eq_append_getElem hjl,←hx];simp)
    have hs32:(idA x).size=32:=by rw[Xag,hxo.len]
    have STR:Hid (∀zz:Array Value,zz.size=32→Sv 26 ⟨wr.heap.size,0,none⟩ (.agg (idA x)) (wr.alloc (.cells zz 26)) (wr.alloc (.cells (idA x) 26))):=Hd (fun zz hz=>run_storeVar_new wr 26 zz (idA x) (by rw[hs32];exact Xa3) (by rw[hz,hs32]) (Xek _))
    have LD2:Hid (Ld 26 ⟨wr.heap.size,0,none⟩ (wr.alloc (.cells (idA x) 26)) (.agg (idA x))):=Hd (Xkx _ wr.heap.size 0 _ _ _ hxo.len (heap_alloc_last wr _) (Xhd x))
    have BA:Hid (Bw w1 (wr.alloc (.cells (idA x) 26))):=Hd (hb.o.alloc hb.o.size _)
    have OA:Hid ((wr.alloc (.cells (idA x) 26)).ownsRow w1.heap.size 9 1 u5 j ((Xhi (ids.take j)).map Value.string)):=Hd (ho.o.alloc _)
    have PR:=Hd (Xmo (wr.alloc (.cells (idA x) 26)) hxo)
    obtain⟨cs,hcs⟩:=xq (idA x)
    rw[←hcs] at LD STR LD2 PR BA OA
    obtain⟨t,ht⟩:=xq (Xaq (Xcr x))
    rw[←ht] at PR TS
    clear hx hcl hcs hs32 hxo ho hb ht hbw
    go_upto_region 8 with(first
     |((with_reducible refine Xac 26 rfl _ rfl ?_);refine⟨_,_,rfl,LD.o,?_⟩)
     |((with_reducible refine Xab 26 rfl _ _ rfl ?_);refine⟨_,_,_,rfl,rfl,STR.o _ rfl,?_⟩))
    go_wp2_with ((with_reducible refine Xac 26 rfl _ rfl ?_);refine⟨_,_,rfl,LD2.o,?_⟩)
    refine PR.o.mono ?_
    rintro e w2 ⟨rfl,hb2⟩
    have B2:=bh BA hb2
    have O2:=Hd (Xd1 OA.o hb2)
    have hz2':w1.heap.size≤w2.heap.size:=B2.o.size
    clear hb2 PR OA BA LD2 LD STR
    go_wp2_with (at_builtin;refine wpList_append_own _ rfl _ _ 23 rfl w1.heap.size 9 i0 (.string ⟨#[]⟩) 1 16 underlying23 hi0 hz0 hz1 hz2 rfl (by decide) _ _ _ rfl (O2.o.alloc _) ⟨w2.heap.size,0,none⟩ 1 1 [.string t] rfl rfl (World.news_of_block (cs:=#[.string t]) (t:=9) (fr:=(0,0)) (zN w2 _)) (by simp[Value.oneCell']) (by unfold maxLen;omega) (by omega) (by simp;omega) ?_;intro v' w3 hown' hgrow _)
    have O3:Hid (w3.ownsRow w1.heap.size 9 1 v' (j+1) ((Xhi (ids.take (j+1))).map Value.string)):=Hd (by rw[TS.o];exact hown')
    have B3:Hid (Bw w1 w3):=Hd (Below.grown (B2.o.alloc B2.o.size _) hgrow (by simp;omega) (fun k hk=>(O2.o.lt k hk).1))
    clear hown' hgrow
    go_wp2_with fail
    go_roundg (n-(j+1))
    case measure=>omega
    case rel=>exact⟨j+1,by omega,rfl,by go_num,O3,B3⟩
   ·obtain rfl:j=n:=by omega
    have hall:ids.take j=ids:=List.take_of_length_le (by rw[HN.o];exact zL _)
    rw[hall] at ho
    have hml:(Xhi ids).length=j:=by unfold Xhi;rw[List.length_map,HN.o]
    have SR:SRow wr u5 (Xhi ids):=Xny (base:=w1.heap.size) (by rw[hml];exact ho.o)
    have hjl:=Xk5 71 32 (ids.map Xcr) (fun x hx=>by obtain⟨y,hy,rfl⟩:=List.mem_map.1 hx;rw[Xdy (HI.o y hy)];exact zL _)
    rw[List.length_map,←HN.o] at hjl
    have J:=Hd (Xuj wr u5 (Xhi ids) 32 SR (by omega) (by rw[Xn1 HI.o];show(Xaw [32] (ids.map Xcr)).length≤_;omega))
    rw[Xn1 HI.o] at J
    have BW:=Hd (bg B1.o hb.o)
    clear hall ho hml SR hjl hb
    go_wp2_with fail
    refine J.o.mono ?_
    rintro e w2 ⟨t,rfl,ht,hb2⟩
    have B2:=bh BW hb2
    have HT:=Hd ht
    clear hb2 ht J
    go_wp2_with fail
    go_ret2
    exact⟨t,by rw[M0.o];rfl,(fun _=>HT.o),(fun h=>absurd M0.o h),B2.o⟩
 ·have q0:((m:Int) !=0)=true:=Xam (by omega)
  have M0:=Hd m0
  clear m0
  go_wp2_with fail
  go_ret2
  exact⟨⟨#[]⟩,rfl,(fun h=>absurd h M0.o),(fun _=>rfl),B1.o⟩
theorem Ylo:∀(l:List Value),l.length=16→prog.builtSlice 35 1 [((0:Nat),Value.agg l.toArray)]=some l.toArray
 |[v0,v1,v2,v3,v4,v5,v6,v7,v8,v9,v10,v11,v12,v13,v14,v15],_=>by kernel_rfl
theorem Yku:(prog.info? 35).map (fun i=>(i.zero,i.size,i.bytes))=some (some (.agg (idA Xdm)),16,16):=by kernel_rfl
theorem Yai:∀(l:List Value),l.length=16→Array.foldl (fun(cs:Array Value) (x:Value×Nat)=>cs.setIfInBounds x.snd x.fst) #[Value.int .u8 0,.int .u8 0,.int .u8 0,.int .u8 0,.int .u8 0,.int .u8 0,.int .u8 0,.int .u8 0,.int .u8 0,.int .u8 0,.int .u8 0,.int .u8 0,.int .u8 0,.int .u8 0,.int .u8 0,.int .u8 0] l.toArray.zipIdx 0 l.toArray.size=l.toArray
 |[v0,v1,v2,v3,v4,v5,v6,v7,v8,v9,v10,v11,v12,v13,v14,v15],_=>by kernel_rfl
def auZ (g:ByteArray):List Nat:=(Xe2 (bs g)).getD Xdm
theorem Xia (g:ByteArray):AuOk (auZ g):=by
 unfold auZ
 cases h:Xe2 (bs g) with
 |none=>exact Xfm
 |some id=>exact Xu2 h
def Xcj (gs:List ByteArray):List Value:=gs.flatMap fun g=>(auZ g).map U
theorem Xjb (gs:List ByteArray)(g:ByteArray):Xcj (gs++[g])=Xcj gs++(auZ g).map U:=by simp[Xcj]
def Xd0 (gs:List ByteArray):Nat:=if gs.any (fun g=>(Xe2 (bs g)).isNone)=true then 3 else 0
theorem Xm9 (gs:List ByteArray)(g:ByteArray):Xd0 (gs++[g])=fe (Xd0 gs) (if(Xe2 (bs g)).isNone=true then 3 else 0):=by
 unfold Xd0 fe
 rw[List.any_append]
 cases gs.any (fun g=>(Xe2 (bs g)).isNone)<;>cases h:(Xe2 (bs g)).isNone<;>simp[h]
theorem Xjr:∀(gs:List ByteArray),((gs.map bs).mapM Xe2)=if gs.any (fun g=>(Xe2 (bs g)).isNone)=true then none else some (gs.map auZ)
 |[]=>rfl
 |g::gs=>by
  have ih:=Xjr gs
  rw[List.map_cons,List.mapM_cons,List.any_cons,ih]
  cases h:Xe2 (bs g) with
  |none=>simp
  |some id=>
   have e:auZ g=id:=by unfold auZ;rw[h];rfl
   cases hq:gs.any (fun g=>(Xe2 (bs g)).isNone)<;>simp[e]
theorem Ydz {x:List Nat}{gs:List ByteArray}(h:gs.map bs=spl 44 x):Xc8 x=fe (fe (Xd0 gs) (eIf (decide (8<gs.length)) 9)) (eIf (!Xmy (gs.map auZ)) 30):=by
 unfold Xc8 Xd0 fe eIf
 rw[←h,Xjr]
 cases gs.any (fun g=>(Xe2 (bs g)).isNone)
 ·simp only[Bool.false_eq_true,if_false,List.length_map]
  by_cases h8:8<gs.length<;>cases Xmy (gs.map auZ)<;>simp[h8]
 ·simp
def Yjn (t:ByteArray)(en er en' er':Nat):Prop:=
 ∀k:List Nat→Nat,fe er (nxt ((bs t).drop en) fun m T=>if m=Xgz then k T else if m=Xi1 then nxt T (fun a T=>fe (Xc8 a) (k T)) else 3)=fe er' (k ((bs t).drop en'))
def Yjf (w:World)(b:Nat)(t:ByteArray)(en er:Nat)(e:Ending)(w':World):Prop:=
 ∃(bo:Bool) (v:Value) (st' en':Nat) (a:Int) (er':Nat),e=.returned (.tuple #[.bool bo,v])∧(∃sa sn sc,v=.slice sa sn sc)∧WS w' b t st' en' a er'∧Fr1 b w w'∧Yjn t en er en' er'
theorem Xg2 {x:ByteArray}{s:ByteArray}(h:bs x=bs s):x=s:=by
 apply ByteArray.ext
 apply Array.toList_inj.1
 have:=h
 unfold bs at this
 exact(List.map_inj_right (fun a b e=>Xi3 e)).1 this
theorem Xiy:∀(gs:List ByteArray) (q k:Nat) (hq:q<gs.length),k<16→(Xcj gs)[q*16+k]?=((auZ gs[q]).map U)[k]?
 |g::gs,0,k,_,hk=>by
  show((auZ g).map U++Xcj gs)[0*16+k]?=_
  rw[List.getElem?_append_left (by rw[List.length_map,(Xia g).len];omega)]
  simp
 |g::gs,q+1,k,hq,hk=>by
  show((auZ g).map U++Xcj gs)[(q+1)*16+k]?=_
  rw[List.getElem?_append_right (by rw[List.length_map,(Xia g).len];omega),List.length_map,(Xia g).len,show(q+1)*16+k-16=q*16+k by omega,Xiy gs q k (by simpa using hq) hk]
  rfl
 |[],_,_,hq,_=>by simp at hq
theorem Xy5 {w:World}{base n:Nat}{v:Value}{gs:List ByteArray}(hn:n=gs.length)(h:w.ownsRow base 35 16 v n (Xcj gs)):∃(va:Option Addr) (vc:Nat),v=.slice va n vc∧Yjl w va (gs.map auZ):=by
 rcases h.2 with⟨rfl,h0⟩|⟨g,cap,cur,rfl,hg,hgb,hc,_,hs,ht⟩
 ·refine⟨none,0,by rw[h0],fun hne=>absurd ?_ hne⟩
  rw[h0] at hn
  rw[List.map_eq_nil_iff];exact List.length_eq_zero_iff.1 hn.symm
 ·refine⟨_,cap,rfl,fun _=>⟨g,0,rfl,fun q hq k u hu=>?_⟩⟩
  have hq':q<gs.length:=by simpa using hq
  have hk:k<16:=by
   have:=(Array.getElem?_eq_some_iff.1 hu).1
   rw[Xag,List.getElem_map,(Xia _).len] at this;exact this
  rw[Nat.zero_add,cell_of_row w g _ _ _ _ hgb]
  have e1:(cur.toList.take (n*16))[q*16+k]?=some u:=by
   rw[ht,Xiy gs q k hq' hk]
   rw[List.getElem_map] at hu
   unfold idA at hu
   rw[List.getElem?_toArray] at hu
   exact hu
  rw[List.getElem?_take] at e1
  split at e1
  ·simpa using e1
  ·cases e1
theorem Xkq {W w2:World}{base e size n b:Nat}{v:Value}{xs:List Value}(h:W.ownsRow base e size v n xs)(hb:Fr1 b W w2)(hlt:b<base):w2.ownsRow base e size v n xs:=by
 rcases h.2 with⟨rfl,h0⟩|⟨g,cap,cur,rfl,hg,hgb,r⟩
 ·exact⟨h.1,.inl ⟨rfl,h0⟩⟩
 ·exact⟨h.1,.inr ⟨g,cap,cur,rfl,hg,(hb.other g (zY hgb) (by omega)).trans hgb,r⟩⟩
theorem Yd0 (w:World)(b:Nat)(t:ByteArray)(st en:Nat)(at_:Int)(er:Nat)(h:WS w b t st en at_ er)(hE:Env w)(hb9:9≤b)(ht':t.size≤100000):
    Calls prog 196 #[.pointer (some ⟨b,0,none⟩)] w (Yjf w b t en er):=by
 have ht:t.size≤1000000:=by omega
 have NX:=Hd (Xf8 w b t st en at_ er h hE hb9 ht)
 have HE:=Hd hE
 clear h hE
 go_enter func196,ntmps196
 go_wp2_with fail
 refine NX.o.mono ?_
 rintro e w1 ⟨x,ok,st',en',a,er',rfl,h1,f1,hx,h⟩
 have hc1:w1.cell? ⟨b,1,none⟩=some (.int .i64 (st':Int)):=cell_of_row w1 b 1 _ _ _ h1.1
 have H1:=Hd h1;have F1:=Hd f1
 have E1:=Hd (Xbu HE.o hb9 f1)
 clear NX h1 f1
 rcases h with⟨rfl,hne,hk⟩|⟨rfl,rfl,rfl,hk⟩
 ·have LAW:Hid (Yjn t en er en' er'):=Hd (fun k=>by rw[hk];unfold fe;rw[qP hne])
  clear hne hk
  go_wp2_with fail
  go_ret2
  exact⟨_,_,st',en',a,er',rfl,⟨_,_,_,rfl⟩,H1.o,F1.o,LAW.o⟩
 ·have HK:=Hd hk
  clear hk
  by_cases ho:x=⟨#[111,112,101,110]⟩
  ·have LAW:Hid (Yjn t en 0 en' 0):=Hd (fun k=>by rw[HK.o,ho,qP (by rfl)])
   subst ho
   go_wp2_with fail
   go_ret2
   exact⟨_,_,st',en',a,0,rfl,⟨_,_,_,rfl⟩,H1.o,F1.o,LAW.o⟩
  ·have hno:bs x≠Xgz:=fun e=>ho (Xg2 (e.trans (by rfl)))
   have q1:(x.toList==[111,112,101,110])=false:=by
    rw[beq_eq_false_iff_ne];intro e;apply ho;apply ByteArray.ext;apply Array.toList_inj.1;rw[←ByteArray.toList_eq];exact e
   by_cases hm:x=⟨#[109,111,100,101,114,97,116,101,100]⟩
   ·subst hm
    have hm2:bs (⟨#[109,111,100,101,114,97,116,101,100]⟩:ByteArray)=Xi1:=by rfl
    have HK2:Hid (∀k:List Nat→Nat,fe 0 (nxt ((bs t).drop en) fun m T=>if m=Xgz then k T else if m=Xi1 then nxt T (fun a T=>fe (Xc8 a) (k T)) else 3)=fe 0 (nxt ((bs t).drop en') (fun a T=>fe (Xc8 a) (k T)))):=Hd (fun k=>by rw[HK.o,qN hno,qP hm2])
    have NX2:=Hd (Xf8 w1 b t st' en' a 0 H1.o E1.o hb9 ht)
    obtain⟨x0,hx0⟩:∃x0:ByteArray,x0=⟨#[109,111,100,101,114,97,116,101,100]⟩:=⟨_,rfl⟩
    clear ho hno HK hm2 hc1
    go_wp2_with fail
    refine NX2.o.mono ?_
    rintro e w2 ⟨x2,ok2,st2,en2,a2,er2,rfl,h2,f2,hx2,hh⟩
    have H2:=Hd h2;have F2:=Hd (F1.o.trans f2)
    have E2:=Hd (Xbu E1.o hb9 f2)
    clear NX2 h2 f2 q1
    rcases hh with⟨rfl,hne,hk⟩|⟨rfl,_,rfl,hk⟩
    ·have LAW:Hid (Yjn t en 0 en2 er2):=Hd (fun k=>by rw[HK2.o,hk];unfold fe;rw[qP hne])
     clear hne hk HK2
     go_wp2_with fail
     go_ret2
     exact⟨_,_,st2,en2,a2,er2,rfl,⟨_,_,_,rfl⟩,H2.o,F2.o,LAW.o⟩
    ·have LAW:Hid (Yjn t en 0 en2 (Xc8 (bs x2))):=Hd (fun k=>by rw[HK2.o,hk];rfl)
     have SP:=Hd (Xkb x2 44 w2 (by omega) E2.o)
     clear hk HK2
     go_wp2_with fail
     refine SP.o.mono ?_
     rintro e w3 ⟨v,gs,rfl,hgs,⟨sa,scap,rfl,hscap,hrow⟩,hgz,hgn,hown,hb3⟩
     have HGS:=Hd hgs
     have H3:=Hd (H2.o.below hb3)
     have F3:=Hd (F2.o.trans (Fr1.of_below hb3))
     have hb2':b<w2.heap.size:=H2.o.lt
     have hb3':b<w3.heap.size:=H3.o.lt
     have ROW:Hid (gs≠[]→∃b' off,sa=some ⟨b',off,none⟩∧b'<w3.heap.size∧b'≠b∧∀j (h:j<gs.length),w3.cell? ⟨b',off+j,none⟩=some (.string gs[j])):=Hd (fun hne=>by
      obtain⟨b',off,h1,h2,h3⟩:=hrow hne
      refine⟨b',off,h1,h2,?_,h3⟩
      have:=(hown.lt b' (by rw[h1];rfl)).1
      omega)
     have GZ:=Hd hgz
     obtain⟨n,hn⟩:=xq gs.length
     have HN:=Hd hn
     rw[←hn] at hgn⊢
     obtain⟨i0,hi0,hz0,hz1,hz2⟩:=info_parts Yku
     have hw03:w.heap.size≤w3.heap.size:=F3.o.size
     clear SP hgs hrow hgz hown hb3 hn hscap
     go_wp2_with fail
     go_loopg [6,8,9,10,11,41] n (fun k v s8 s9 s10 s11 i wr=>∃(j:Nat) (a:Int),j≤n∧k=n-j∧i=.int .i64 (j:Int)∧Hid (WS wr b t st2 en2 a (Xd0 (gs.take j)))∧Hid (wr.ownsRow w3.heap.size 35 16 v j (Xcj (gs.take j)))∧Hid (Fr1 b w3 wr))
     case atStart=>exact⟨0,a2,by omega,rfl,rfl,Hd (by exact H3.o),Hd (World.ownsRow_nil _ _ _ _),Hd (Fr1.refl _ _)⟩
     case round=>
      obtain⟨j,ar,hj,rfl,rfl,hws,ho,hfr⟩:=hrel
      by_cases hjn:j<n
      ·have hjl:j<gs.length:=by rw[←HN.o];exact hjn
       obtain⟨b',off,rfl,hbl,hbb,hcl⟩:=ROW.o (by intro e;rw[e] at hjl;simp at hjl)
       obtain⟨g,hg⟩:=xq (gs[j])
       have hcg:wr.cell? ⟨b',off+j,none⟩=some (.string g):=by
        have h5:=hcl j hjl
        rw[←hg] at h5
        have:=hfr.o.other b' hbl hbb
        unfold World.cell? at h5⊢
        simp only[this]
        exact h5
       have hgs1:g.size≤1000000:=by have:=GZ.o g (by rw[hg];exact zG hjl);omega
       have TKE:gs.take (j+1)=gs.take j++[g]:=by rw[List.take_succ_eq_append_getElem hjl,hg]
       have PA:=Hd (Xkp g wr hgs1)
       have TB:=Hd (show Xd0 (gs.take (j+1))=fe (Xd0 (gs.take j)) (if(Xe2 (bs g)).isNone=true then 3 else 0) by rw[TKE,Xm9])
       obtain⟨cs,hcs⟩:=xq (idA (auZ g))
       have CL:Hid (Cl 16 cs):=Hd (by rw[hcs];exact Xsu (Xia g))
       have TS:Hid (Xcj (gs.take (j+1))=Xcj (gs.take j)++cs.toList):=Hd (by rw[TKE,Xjb,hcs];rfl)
       have PA2:Hid (Calls prog 98 #[.string g] wr fun e w'=>∃(aa er:Int),e=.returned (.tuple #[.agg cs,.int .i64 aa,.int .i64 er])∧((Xe2 (bs g)).isNone=true↔er≠0)∧Bw wr w'):=Hd (PA.o.mono (by
        rintro e w' ⟨aa,er,h1,h2⟩
        rw[hcs]
        unfold auZ
        cases hq:Xe2 (bs g) with
        |none=>rw[hq] at h1;obtain⟨rfl,h3⟩:=h1;exact⟨aa,er,rfl,by simp[h3],h2⟩
        |some id=>rw[hq] at h1;subst h1;exact⟨aa,0,rfl,by simp,h2⟩))
       have CSZ:Hid (cs.size=16):=Hd CL.o.1
       have ONE:=Hd (Xqq CL.o)
       have BS:Hid (prog.builtSlice 35 1 [((0:Nat),Value.agg cs)]=some cs):=Hd (by have:=Ylo cs.toList (by simpa using CSZ.o);simpa using this)
       have FO:Hid (Array.foldl (fun(cs:Array Value) (x:Value×Nat)=>cs.setIfInBounds x.snd x.fst) #[Value.int .u8 0,.int .u8 0,.int .u8 0,.int .u8 0,.int .u8 0,.int .u8 0,.int .u8 0,.int .u8 0,.int .u8 0,.int .u8 0,.int .u8 0,.int .u8 0,.int .u8 0,.int .u8 0,.int .u8 0,.int .u8 0] cs.zipIdx 0 cs.size=cs):=Hd (by have:=Yai cs.toList (by simpa using CSZ.o);simpa using this)
       have FO2:Hid (Array.foldl (fun(cs:Array Value) (x:Value×Nat)=>cs.setIfInBounds x.snd x.fst) #[Value.int .u8 0,.int .u8 0,.int .u8 0,.int .u8 0,.int .u8 0,.int .u8 0,.int .u8 0,.int .u8 0,.int .u8 0,.int .u8 0,.int .u8 0,.int .u8 0,.int .u8 0,.int .u8 0,.int .u8 0,.int .u8 0] cs.zipIdx 0 16=cs):=Hd (by have:=FO.o;rw[CSZ.o] at this;exact this)
       clear hcl hcs hg PA TKE
       have hbwr:b<wr.heap.size:=hws.o.lt
       have hw3r:w3.heap.size≤wr.heap.size:=hfr.o.size
       go_wp2_with fail
       refine PA2.o.mono ?_
       rintro e w4 ⟨aa,er4,rfl,hiff,hb4⟩
       have STN:Hid (∀zz:Array Value,zz.size=16→Sv 35 ⟨w4.heap.size,0,none⟩ (.agg cs) (w4.alloc (.cells zz 35)) (w4.alloc (.cells cs 35))):=Hd (fun zz hz=>run_storeVar_new w4 35 zz cs (by rw[CL.o.1];exact Xkg) (by rw[hz,CL.o.1]) CL.o.2)
       have hb5:Bw wr (w4.alloc (.cells cs 35)):=hb4.alloc hb4.size _
       have P5:=Hd (zN w4 (.cells cs 35))
       have H5:=Hd (hws.o.below hb5)
       have O5:=Hd (Xd1 ho.o hb5)
       have F5:=Hd (hfr.o.trans (Fr1.of_below hb5))
       have hw4:wr.heap.size≤w4.heap.size:=hb4.size
       have hc1:(w4.alloc (.cells cs 35)).cell? ⟨b,1,none⟩=some (.int .i64 (st2:Int)):=cell_of_row _ b 1 _ _ _ H5.o.1
       have FL:=Hd (Xb8 _ b t st2 en2 ar _ H5.o (st2:Int) 3)
       have HIFF:=Hd hiff
       clear hb4 hb5 PA2 hiff hws ho hfr
       by_cases her:er4=0
       ·subst her
        have TB2:Hid (Xd0 (gs.take (j+1))=Xd0 (gs.take j)):=Hd (by rw[TB.o,qN (fun h=>HIFF.o.1 h rfl),Xqb])
        go_upto_region 17 with((with_reducible refine Xab 35 rfl _ _ rfl ?_);refine⟨_,_,_,rfl,rfl,STN.o _ rfl,?_⟩)
        obtain⟨w6,hw6⟩:=xq (w4.alloc (.cells cs 35))
        have F6:Hid (Fr1 b (w4.alloc (.cells cs 35)) w6):=Hd (by rw[hw6];exact Fr1.refl _ _)
        obtain⟨a6,ha6⟩:=xq ar
        have H6:Hid (WS w6 b t st2 en2 a6 (Xd0 (gs.take (j+1)))):=Hd (by rw[TB2.o,hw6,ha6];exact H5.o)
        have P6:Hid (w6.heap[w4.heap.size]?=some (.cells cs 35 (0,0))):=Hd (by rw[hw6];exact P5.o)
        rw[←hw6]
        have LD:=Hd (Xal w6 w4.heap.size 16 _ _ cs _ _ P6.o rfl underlying35 Xkg CL.o.1)
        have O6:=Hd (Xkq O5.o F6.o hb3')
        have hw36:w3.heap.size≤w6.heap.size:=by have:=F6.o.size;simp at this;omega
        have GROW:Hid (∀(o:Obj) (w8:World),(w6.alloc o).grownBy w8 u6.ownBlock→WS w8 b t st2 en2 a6 (Xd0 (gs.take (j+1)))∧Fr1 b w3 w8):=Hd (fun o w8 hg=>by
         have B1:Below w3.heap.size w6 (w6.alloc o):=(zR _ _).alloc hw36 _
         have B:=Below.grown B1 hg (by simp;omega) (fun k hk=>(O6.o.lt k hk).1)
         exact⟨⟨(B.block b hb3').trans H6.o.1,H6.o.2⟩,⟨B.os.trans (F5.o.trans F6.o).os,B.tape.trans (F5.o.trans F6.o).tape,B.output.trans (F5.o.trans F6.o).output,Nat.le_trans hw36 B.size,fun k hk hne=>(B.block k hk).trans ((F5.o.trans F6.o).other k hk hne)⟩⟩)
        clear hw6 ha6 FL hc1 STN P5 H5
        have hcz:cs.size=16:=CSZ.o
        go_wp2_with (first
         |((with_reducible refine Xac 35 rfl _ rfl ?_);refine⟨_,_,rfl,LD.o,?_⟩)
         |((with_reducible refine wpList_buildSliceTo rfl 137 35 1 _ rfl w6.heap.size rfl _ rfl underlying137 cs BS.o ?_))
         |(at_builtin;refine wpList_append_own _ rfl _ _ 137 rfl w3.heap.size 35 i0 (.agg (idA Xdm)) 16 16 underlying137 hi0 hz0 hz1 hz2 rfl (by decide) _ _ _ rfl (O6.o.alloc _) ⟨w6.heap.size,0,none⟩ 1 1 cs.toList rfl (by simpa using CSZ.o) (World.news_of_block (cs:=cs) (t:=35) (fr:=(0,0)) (by(first|rw[FO2.o]|rw[FO.o]);exact zN w6 _)) ONE.o (by unfold maxLen;omega) (by omega) (by simp;omega) ?_;intro v' w8 hown' hgrow _))
        have O8:Hid (w8.ownsRow w3.heap.size 35 16 v' (j+1) (Xcj (gs.take (j+1)))):=Hd (by rw[TS.o];exact hown')
        have F8:=Hd (GROW.o _ w8 hgrow)
        clear hown' hgrow
        go_wp2_with fail
        go_roundg (n-(j+1))
        case measure=>omega
        case rel=>exact⟨j+1,a6,by omega,rfl,by go_num,Hd F8.o.1,O8,Hd F8.o.2⟩
       ·have q0:(er4 !=0)=true:=Xam her
        have TB2:Hid (Xd0 (gs.take (j+1))=fe (Xd0 (gs.take j)) 3):=Hd (by rw[TB.o,qP (HIFF.o.2 her)])
        clear her
        go_wp2_with ((with_reducible refine Xab 35 rfl _ _ rfl ?_);refine⟨_,_,_,rfl,rfl,STN.o _ rfl,?_⟩)
        refine FL.o.mono ?_
        rintro e w6 ⟨⟨v,rfl⟩,⟨a6,h6⟩,f6⟩
        have H6:Hid (WS w6 b t st2 en2 a6 (Xd0 (gs.take (j+1)))):=Hd (by rw[TB2.o];exact h6)
        have F6:=Hd f6
        have P6:=Hd ((f6.other w4.heap.size (by simp) (by omega)).trans P5.o)
        have LD:=Hd (Xal w6 w4.heap.size 16 _ _ cs _ _ P6.o rfl underlying35 Xkg CL.o.1)
        have O6:=Hd (Xkq O5.o F6.o hb3')
        have hw36:w3.heap.size≤w6.heap.size:=by have:=F6.o.size;simp at this;omega
        have GROW:Hid (∀(o:Obj) (w8:World),(w6.alloc o).grownBy w8 u6.ownBlock→WS w8 b t st2 en2 a6 (Xd0 (gs.take (j+1)))∧Fr1 b w3 w8):=Hd (fun o w8 hg=>by
         have B1:Below w3.heap.size w6 (w6.alloc o):=(zR _ _).alloc hw36 _
         have B:=Below.grown B1 hg (by simp;omega) (fun k hk=>(O6.o.lt k hk).1)
         exact⟨⟨(B.block b hb3').trans H6.o.1,H6.o.2⟩,⟨B.os.trans (F5.o.trans F6.o).os,B.tape.trans (F5.o.trans F6.o).tape,B.output.trans (F5.o.trans F6.o).output,Nat.le_trans hw36 B.size,fun k hk hne=>(B.block k hk).trans ((F5.o.trans F6.o).other k hk hne)⟩⟩)
        clear h6 f6 FL hc1 STN P5 H5
        have hcz:cs.size=16:=CSZ.o
        go_wp2_with (first
         |((with_reducible refine Xac 35 rfl _ rfl ?_);refine⟨_,_,rfl,LD.o,?_⟩)
         |((with_reducible refine wpList_buildSliceTo rfl 137 35 1 _ rfl w6.heap.size rfl _ rfl underlying137 cs BS.o ?_))
         |(at_builtin;refine wpList_append_own _ rfl _ _ 137 rfl w3.heap.size 35 i0 (.agg (idA Xdm)) 16 16 underlying137 hi0 hz0 hz1 hz2 rfl (by decide) _ _ _ rfl (O6.o.alloc _) ⟨w6.heap.size,0,none⟩ 1 1 cs.toList rfl (by simpa using CSZ.o) (World.news_of_block (cs:=cs) (t:=35) (fr:=(0,0)) (by(first|rw[FO2.o]|rw[FO.o]);exact zN w6 _)) ONE.o (by unfold maxLen;omega) (by omega) (by simp;omega) ?_;intro v' w8 hown' hgrow _))
        have O8:Hid (w8.ownsRow w3.heap.size 35 16 v' (j+1) (Xcj (gs.take (j+1)))):=Hd (by rw[TS.o];exact hown')
        have F8:=Hd (GROW.o _ w8 hgrow)
        clear hown' hgrow
        go_wp2_with fail
        go_roundg (n-(j+1))
        case measure=>omega
        case rel=>exact⟨j+1,a6,by omega,rfl,by go_num,Hd F8.o.1,O8,Hd F8.o.2⟩
      ·obtain rfl:j=n:=by omega
       have hall:gs.take j=gs:=List.take_of_length_le (by rw[HN.o];exact zL _)
       rw[hall] at hws ho
       have ML:Hid (Xc8 (bs x2)=fe (fe (Xd0 gs) (eIf (decide (8<gs.length)) 9)) (eIf (!Xmy (gs.map auZ)) 30)):=Hd (Ydz HGS.o)
       obtain⟨va,vc,rfl,har⟩:=Xy5 HN.o ho.o
       have HAR:=Hd har
       have AOK:Hid (∀y∈gs.map auZ,AuOk y):=Hd (fun y hy=>by obtain⟨g,_,rfl⟩:=List.mem_map.1 hy;exact Xia g)
       have LNM:Hid ((gs.map auZ).length=j):=Hd (by rw[List.length_map,HN.o])
       rw[←HN.o] at ML
       have HWS:=Hd hws.o;have HFR:=Hd hfr.o
       have hc1:wr.cell? ⟨b,1,none⟩=some (.int .i64 (st2:Int)):=cell_of_row wr b 1 _ _ _ hws.o.1
       have OWN5:Hid (∀w5,Fr1 b wr w5→Yjl w5 va (gs.map auZ)):=Hd (fun w5 f5=>by
        obtain⟨va',vc',e1,e2⟩:=Xy5 HN.o (Xkq ho.o f5 hb3')
        cases e1;exact e2)
       clear har hall hws ho hfr ROW GZ
       by_cases h8:8<j
       ·have FL9:=Hd (Xb8 wr b t st2 en2 ar _ HWS.o (st2:Int) 9)
        have ML9:Hid (Xc8 (bs x2)=fe (fe (Xd0 gs) 9) (eIf (!Xmy (gs.map auZ)) 30)):=Hd (by rw[ML.o,zT h8];rfl)
        clear ML
        have ML:=ML9
        clear ML9
        go_wp2_with fail
        refine FL9.o.mono ?_
        rintro e w5 ⟨⟨v5,rfl⟩,⟨a5,h5⟩,f5⟩
        have HAR5:Hid (Yjl w5 va (gs.map auZ)):=Hd (OWN5.o w5 f5)
        have H5:=Hd h5;have F5:=Hd (HFR.o.trans f5)
        clear FL9 h5 f5 hc1 HAR
        have HAR:=HAR5
        have IC:=Hd (Xz0 w5 va vc (gs.map auZ) (by rw[List.length_map,←HN.o];omega) HAR.o AOK.o)
        rw[LNM.o] at IC
        obtain⟨ib,hib⟩:=xq (Xmy (gs.map auZ))
        rw[←hib] at IC ML
        clear hib
        go_wp2_with fail
        refine IC.o.mono ?_
        rintro e w6 ⟨rfl,hd6⟩
        have hb6:=Dr.below hd6
        have h6:=H5.o.below hb6
        have F6:=Hd (F5.o.trans (Fr1.of_below hb6))
        have H6:=Hd h6
        have hc6:w6.cell? ⟨b,1,none⟩=some (.int .i64 (st2:Int)):=cell_of_row w6 b 1 _ _ _ h6.1
        clear hd6 hb6 h6 IC
        cases ib
        ·have FL30:=Hd (Xb8 w6 b t st2 en2 _ _ H6.o (st2:Int) 30)
         go_wp2_with fail
         refine FL30.o.mono ?_
         rintro e w7 ⟨⟨v,rfl⟩,⟨a7,h7⟩,f7⟩
         have H7:Hid (WS w7 b t st2 en2 a7 (Xc8 (bs x2))):=Hd (by rw[ML.o];exact h7)
         have F7:=Hd (F6.o.trans f7)
         clear FL30 h7 f7 hc6
         go_wp2_with fail
         go_ret2
         exact⟨_,_,st2,en2,a7,_,rfl,⟨_,_,_,rfl⟩,H7.o,F3.o.trans F7.o,LAW.o⟩
        ·have H7:Hid (WS w6 b t st2 en2 _ (Xc8 (bs x2))):=Hd (by rw[ML.o];show WS w6 b t st2 en2 _ (fe _ 0);rw[Xqb];exact H6.o)
         go_wp2_with fail
         go_ret2
         exact⟨_,_,st2,en2,_,_,rfl,⟨_,_,_,rfl⟩,H7.o,F3.o.trans F6.o,LAW.o⟩
       ·have ML9:Hid (Xc8 (bs x2)=fe (Xd0 gs) (eIf (!Xmy (gs.map auZ)) 30)):=Hd (by rw[ML.o,zW h8];show fe (fe _ 0) _=_;rw[Xqb])
        clear ML hc1
        have ML:=ML9
        clear ML9
        have IC:=Hd (Xz0 wr va vc (gs.map auZ) (by rw[List.length_map,←HN.o];omega) HAR.o AOK.o)
        rw[LNM.o] at IC
        obtain⟨ib,hib⟩:=xq (Xmy (gs.map auZ))
        rw[←hib] at IC ML
        clear hib
        go_wp2_with fail
        refine IC.o.mono ?_
        rintro e w6 ⟨rfl,hd6⟩
        have hb6:=Dr.below hd6
        have h6:=HWS.o.below hb6
        have F6:=Hd (HFR.o.trans (Fr1.of_below hb6))
        have H6:=Hd h6
        have hc6:w6.cell? ⟨b,1,none⟩=some (.int .i64 (st2:Int)):=cell_of_row w6 b 1 _ _ _ h6.1
        clear hd6 hb6 h6 IC
        cases ib
        ·have FL30:=Hd (Xb8 w6 b t st2 en2 _ _ H6.o (st2:Int) 30)
         go_wp2_with fail
         refine FL30.o.mono ?_
         rintro e w7 ⟨⟨v,rfl⟩,⟨a7,h7⟩,f7⟩
         have H7:Hid (WS w7 b t st2 en2 a7 (Xc8 (bs x2))):=Hd (by rw[ML.o];exact h7)
         have F7:=Hd (F6.o.trans f7)
         clear FL30 h7 f7 hc6
         go_wp2_with fail
         go_ret2
         exact⟨_,_,st2,en2,a7,_,rfl,⟨_,_,_,rfl⟩,H7.o,F3.o.trans F7.o,LAW.o⟩
        ·have H7:Hid (WS w6 b t st2 en2 _ (Xc8 (bs x2))):=Hd (by rw[ML.o];show WS w6 b t st2 en2 _ (fe _ 0);rw[Xqb];exact H6.o)
         go_wp2_with fail
         go_ret2
         exact⟨_,_,st2,en2,_,_,rfl,⟨_,_,_,rfl⟩,H7.o,F3.o.trans F6.o,LAW.o⟩
   ·have hnm:bs x≠Xi1:=fun e=>hm (Xg2 (e.trans (by rfl)))
    have q2:(x.toList==[109,111,100,101,114,97,116,101,100])=false:=by
     rw[beq_eq_false_iff_ne];intro e;apply hm;apply ByteArray.ext;apply Array.toList_inj.1;rw[←ByteArray.toList_eq];exact e
    have LAW:Hid (Yjn t en 0 en' 3):=Hd (fun k=>by rw[HK.o,qN hno,qN hnm];rfl)
    have FL:=Hd (Xb8 w1 b t st' en' a 0 H1.o (st':Int) 3)
    clear ho hno hm hnm
    go_wp2_with fail
    refine FL.o.mono ?_
    rintro e w3 ⟨⟨v,rfl⟩,⟨a',h3⟩,f3⟩
    have H3:Hid (WS w3 b t st' en' a' 3):=Hd h3;have F3:=Hd (F1.o.trans f3)
    clear FL h3 f3 hc1
    go_wp2_with fail
    go_ret2
    exact⟨_,_,st',en',a',3,rfl,⟨_,_,_,rfl⟩,H3.o,F3.o,LAW.o⟩
theorem Yaf (w:World)(b:Nat)(t:ByteArray)(st en:Nat)(at_:Int)(er:Nat)(h:WS w b t st en at_ er)(hE:Env w)(hb9:9≤b)(ht2:t.size≤100000):
    Calls prog 194 #[.pointer (some ⟨b,0,none⟩)] w (Xcy w b t en er (fun T=>nxt T fun x T=>fe (Xiu x) ((fun T=>nxt T fun x T=>fe ((Xfi 0 1000000) x) ((fun T=>nxt T fun m T=>if m=Xgz then Xd9 T else if m=Xi1 then nxt T (fun a T=>fe (Xc8 a) (Xd9 T)) else 3) T)) T))):=by
 have ht:t.size≤1000000:=by omega
 obtain⟨zs,hzs⟩:=xq (Xmc 0 Xic)
 obtain⟨ks,hks⟩:=xq (Xmc 3 Xic)
 have ZCL:Hid (Cl 56 zs):=Hd (by rw[hzs];exact Xd7 0 _ (by simp[Xic]) Xer)
 have KCL:Hid (Cl 56 ks):=Hd (by rw[hks];exact Xd7 3 _ (by simp[Xic]) Xer)
 have BK:Hid (∀w,(Instr.build 139 #[(0,.int .i64 3)]).run prog w=.ok (.agg ks) w):=Hd (fun w=>by rw[hks];exact Xgh w 3)
 have hbw:=h.lt
 have STN:Hid (∀zz:Array Value,zz.size=56→Sv 139 ⟨w.heap.size+1,0,none⟩ (.agg ks) ((w.alloc (.cells zs 139)).alloc (.cells zz 139)) ((w.alloc (.cells zs 139)).alloc (.cells ks 139))):=Hd (fun zz hz=>by
  have:=run_storeVar_new (P:=prog) (w.alloc (.cells zs 139)) 139 zz ks (by rw[KCL.o.1];exact Xax) (by rw[hz,KCL.o.1]) KCL.o.2
  rwa [World.size_alloc] at this)
 obtain⟨w0,hw0⟩:=xq ((w.alloc (.cells zs 139)).alloc (.cells ks 139))
 have bA:Bw w (w.alloc (.cells zs 139)):=(zR _ w).alloc (zL _) _
 have b0:Bw w w0:=by rw[hw0];exact bA.alloc bA.size _
 have h0:=h.below b0
 have E0:=hE.on b0
 have F0:Hid (Fr1 b w w0):=Hd (Fr1.of_below b0)
 have Z0:Hid (w0.heap[w.heap.size]?=some (.cells zs 139 (0,0))):=Hd (by
  rw[hw0]
  exact(((zR _ (w.alloc (.cells zs 139))).alloc (zL _) _).block w.heap.size (by simp)).trans (zN w _))
 have hm0:MB w0 (w.heap.size+1):=⟨ks,by rw[hw0];have:=zN (w.alloc (.cells zs 139)) (.cells ks 139);rwa [World.size_alloc] at this,KCL.o⟩
 have M0:=Hd hm0
 rw[hzs] at STN
 have HW:Hid (w0=(w.alloc (.cells (Xmc 0 Xic) 139)).alloc (.cells ks 139)):=Hd (by rw[hw0,hzs])
 have H0:=Hd h0;have HE0:=Hd E0
 have HB9:=Hd hb9;have HT:=Hd ht
 clear h hE hzs hks hw0 bA b0 h0 E0 hm0
 have C1:=Hd (Xlc w0 b t st en at_ er H0.o HE0.o hb9 ht)
 go_enter func194,ntmps194
 go_wp2_with (first
  |((with_reducible refine Xdv 139 rfl _ rfl ?_);refine⟨_,_,rfl,BK.o _,?_⟩)
  |((with_reducible refine Xab 139 rfl _ _ rfl ?_);refine⟨_,_,_,rfl,rfl,STN.o _ rfl,?_⟩))
 have C1':Hid (∀wq,w0=wq→Calls prog 193 #[.pointer (some ⟨b,0,none⟩)] wq (Xme w0 b t en er Xiu fun v=>∃s,v=.string s∧s.size≤t.size)):=Hd (by rintro wq rfl;exact C1.o)
 refine(C1'.o _ HW.o).mono ?_
 clear C1 C1' HW STN BK
 rintro e v1 ⟨v,st1,en1,a1,er1,rfl,⟨s1,rfl,hsz1⟩,h1,f1,hsl1⟩
 have MV1:=Hd (M0.o.fr f1 (by omega))
 have ZV1:=Hd ((f1.other w.heap.size (zY Z0.o) (by omega)).trans Z0.o)
 have FV1:=Hd (F0.o.trans f1)
 have EV1:=Hd (Xbu HE0.o hb9 f1)
 have HSL1:=Hd hsl1
 obtain⟨u1,hc1,hf1⟩:=MV1.o.cell (j:=33) (by omega)
 obtain⟨y1,hy1⟩:=xq (v1.setCell ⟨w.heap.size+1,33,none⟩ (.string s1))
 have M1:Hid (MB y1 (w.heap.size+1)):=Hd (by rw[hy1];exact MV1.o.setCell 33 rfl)
 have ff1:Fr1 (w.heap.size+1) v1 y1:=by rw[hy1];exact Fr1.setC _
 have H1:=Hd (h1.fr ff1 (by omega))
 have F1:=Hd (FV1.o.new ff1 (by omega))
 have Z1:=Hd ((ff1.other w.heap.size (zY ZV1.o) (by omega)).trans ZV1.o)
 have HE1:=Hd (Xbu EV1.o (by have:=HB9.o;have:=hbw;omega) ff1)
 have HY1:=Hd hy1
 clear h1 f1 hsl1 ff1 hy1
 have C2:=Hd (Xin y1 b t st1 en1 a1 er1 H1.o HE1.o hb9 ht 0 1000000 (by omega) (by omega))
 go_wp2_with fail
 rw[←HY1.o]
 refine C2.o.mono ?_
 rintro e v2 ⟨v,st2,en2,a2,er2,rfl,⟨n2,rfl⟩,h2,f2,hsl2⟩
 have MV2:=Hd (M1.o.fr f2 (by omega))
 have ZV2:=Hd ((f2.other w.heap.size (zY Z1.o) (by omega)).trans Z1.o)
 have FV2:=Hd (F1.o.trans f2)
 have EV2:=Hd (Xbu HE1.o hb9 f2)
 have HSL2:=Hd hsl2
 obtain⟨u2,hc2,hf2⟩:=MV2.o.cell (j:=34) (by omega)
 obtain⟨y2,hy2⟩:=xq (v2.setCell ⟨w.heap.size+1,34,none⟩ (.int .i64 n2))
 have M2:Hid (MB y2 (w.heap.size+1)):=Hd (by rw[hy2];exact MV2.o.setCell 34 rfl)
 have ff2:Fr1 (w.heap.size+1) v2 y2:=by rw[hy2];exact Fr1.setC _
 have H2:=Hd (h2.fr ff2 (by omega))
 have F2:=Hd (FV2.o.new ff2 (by omega))
 have Z2:=Hd ((ff2.other w.heap.size (zY ZV2.o) (by omega)).trans ZV2.o)
 have HE2:=Hd (Xbu EV2.o (by have:=HB9.o;have:=hbw;omega) ff2)
 have HY2:=Hd hy2
 clear h2 f2 hsl2 ff2 hy2
 have C3:=Hd (Yd0 y2 b t st2 en2 a2 er2 H2.o HE2.o hb9 ht2)
 go_wp2_with fail
 rw[←HY2.o]
 refine C3.o.mono ?_
 rintro e v3 ⟨bo3,v,st3,en3,a3,er3,rfl,⟨sa3,sn3,sc3,rfl⟩,h3,f3,hsl3⟩
 have MV3:=Hd (M2.o.fr f3 (by omega))
 have ZV3:=Hd ((f3.other w.heap.size (zY Z2.o) (by omega)).trans Z2.o)
 have FV3:=Hd (F2.o.trans f3)
 have EV3:=Hd (Xbu HE2.o hb9 f3)
 have HSL3:=Hd hsl3
 obtain⟨u3,hc3,hf3⟩:=MV3.o.cell (j:=35) (by omega)
 obtain⟨uu3,hcc3,hff3⟩:=MV3.o.cell (j:=36) (by omega)
 obtain⟨y3,hy3⟩:=xq ((v3.setCell ⟨w.heap.size+1,35,none⟩ (.bool bo3)).setCell ⟨w.heap.size+1,36,none⟩ (.slice sa3 sn3 sc3))
 have M3:Hid (MB y3 (w.heap.size+1)):=Hd (by rw[hy3];exact(MV3.o.setCell 35 rfl).setCell 36 rfl)
 have ff3:Fr1 (w.heap.size+1) v3 y3:=by rw[hy3];exact(Fr1.setC _).trans (Fr1.setC _)
 have H3:=Hd (h3.fr ff3 (by omega))
 have F3:=Hd (FV3.o.new ff3 (by omega))
 have Z3:=Hd ((ff3.other w.heap.size (zY ZV3.o) (by omega)).trans ZV3.o)
 have HE3:=Hd (Xbu EV3.o (by have:=HB9.o;have:=hbw;omega) ff3)
 have HY3:=Hd hy3
 clear h3 f3 hsl3 ff3 hy3
 have C4:=Hd (Ydd y3 b t st3 en3 a3 er3 H3.o hb9 ht)
 go_wp2_with fail
 rw[←HY3.o]
 refine C4.o.mono ?_
 rintro e v4 ⟨s4,st4,en4,a4,er4,rfl,hsz4,h4,f4,hsl4⟩
 have MV4:=Hd (M3.o.fr f4 (by omega))
 have ZV4:=Hd ((f4.other w.heap.size (zY Z3.o) (by omega)).trans Z3.o)
 have FV4:=Hd (F3.o.trans f4)
 have EV4:=Hd (Xbu HE3.o hb9 f4)
 have HSL4:=Hd hsl4
 obtain⟨u4,hc4,hf4⟩:=MV4.o.cell (j:=37) (by omega)
 obtain⟨y4,hy4⟩:=xq (v4.setCell ⟨w.heap.size+1,37,none⟩ (.string s4))
 have M4:Hid (MB y4 (w.heap.size+1)):=Hd (by rw[hy4];exact MV4.o.setCell 37 rfl)
 have ff4:Fr1 (w.heap.size+1) v4 y4:=by rw[hy4];exact Fr1.setC _
 have H4:=Hd (h4.fr ff4 (by omega))
 have F4:=Hd (FV4.o.new ff4 (by omega))
 have Z4:=Hd ((ff4.other w.heap.size (zY ZV4.o) (by omega)).trans ZV4.o)
 have HE4:=Hd (Xbu EV4.o (by have:=HB9.o;have:=hbw;omega) ff4)
 have HY4:=Hd hy4
 clear h4 f4 hsl4 ff4 hy4
 obtain⟨cs,hp,hcl⟩:=M4.o
 have LD:=Hd (Xal y4 (w.heap.size+1) 56 _ _ cs _ _ hp rfl underlying139 Xax hcl.1)
 have ST:=Hd (run_storeVar_row (P:=prog) y4 w.heap.size _ 139 zs cs Z4.o (by rw[hcl.1];exact Xax) (by rw[hcl.1,ZCL.o.1]) hcl.2)
 have W2:=Hd (setRow_heap y4 w.heap.size zs cs _ _ Z4.o)
 have CSZ:Hid (cs.size=56):=Hd hcl.1
 have POST:Hid (Xcy w b t en er (fun T=>nxt T fun x T=>fe (Xiu x) ((fun T=>nxt T fun x T=>fe ((Xfi 0 1000000) x) ((fun T=>nxt T fun m T=>if m=Xgz then Xd9 T else if m=Xi1 then nxt T (fun a T=>fe (Xc8 a) (Xd9 T)) else 3) T)) T)) (.returned (.agg cs)) (y4.setRow w.heap.size cs)):=Hd ⟨cs,st4,en4,a4,er4,rfl,hcl,H4.o.row (by omega) cs,F4.o.row (zL _) cs,((HSL1.o (fun T=>nxt T fun x T=>fe ((Xfi 0 1000000) x) ((fun T=>nxt T fun m T=>if m=Xgz then Xd9 T else if m=Xi1 then nxt T (fun a T=>fe (Xc8 a) (Xd9 T)) else 3) T))).trans ((HSL2.o (fun T=>nxt T fun m T=>if m=Xgz then Xd9 T else if m=Xi1 then nxt T (fun a T=>fe (Xc8 a) (Xd9 T)) else 3)).trans ((HSL3.o Xd9).trans HSL4.o.symm))).symm⟩
 clear hp hcl
 go_upto_region 6 with fail
 rw[←HY4.o]
 refine wp_region_list ?_
 simp only[]
 refine Xac 139 rfl _ rfl ⟨_,_,rfl,LD.o,?_⟩
 go_wp2_with ((with_reducible refine Xab 139 rfl _ _ rfl ?_);refine⟨_,_,_,rfl,rfl,ST.o,?_⟩)
 exact zP (results_cell_row results194 _ _ w.heap.size _ _ _ _ rfl W2.o underlying139 rfl (by rw[CSZ.o];exact Xax)) rfl POST.o
def Xo4 (listed:Array Bool):Nat:=listed.toList.countP (fun b=>!b)
theorem Xmg {listed:Array Bool}{i:Nat}(hi:listed.getD i true=false):Xo4 (listed.setIfInBounds i true)+1=Xo4 listed:=by
 have hlt:i<listed.size:=by
  rcases Nat.lt_or_ge i listed.size with h|h
  ·exact h
  ·simp[Array.getD,Nat.not_lt.2 h] at hi
 have hv:listed.toList[i]'(by simpa using hlt)=false:=by
  simp[Array.getD,hlt] at hi;simpa using hi
 unfold Xo4
 have hp:0<listed.toList.countP (fun b=>!b):=List.countP_pos_iff.2 ⟨false,by rw[←hv];exact zG _,rfl⟩
 rw[Array.toList_setIfInBounds,List.countP_set (by simpa using hlt)]
 simp only[hv,Bool.not_false,Bool.not_true,if_true,Bool.false_eq_true,if_false]
 omega
theorem Xo1 {P:Program}{md:Region.Mode}{ops:Array Oper}{Q:Exit→Act→World→Prop}(I:Array Bool→Act→World→Prop)
    (hstep:∀listed a w i,I listed a w→i∈Region.ready md ops listed→listed.getD i true=false∧wpOp P ops Q i (fun a' w'=>I (listed.setIfInBounds i true) a' w') a w)
    (hend:∀listed a w,I listed a w→Region.ready md ops listed=[]→Q .normal a w):
    ∀(fuel:Nat) (listed:Array Bool) (a:Act) (w:World),I listed a w→Xo4 listed≤fuel→wpAny P md ops Q fuel listed a w
 |0,listed,a,w,h,hu=>by
  have hr:Region.ready md ops listed=[]:=by
   cases hq:Region.ready md ops listed with
   |nil=>rfl
   |cons i t=>
    have:=Xmg (hstep listed a w i h (by rw[hq];exact List.mem_cons_self ..)).1
    omega
  exact⟨hr,hend listed a w h hr⟩
 |fuel+1,listed,a,w,h,hu=>⟨hend listed a w h,fun i hi=>by
     obtain⟨h1,h2⟩:=hstep listed a w i h hi
     have:=Xmg h1
     exact wpOp_mono (fun a' w' h'=>Xo1 I hstep hend fuel _ a' w' h' (by omega)) h2⟩
def Yl7 (es:Array MapEntry)(l:List (ByteArray×Value)):Prop:=es.toList.map (fun e=>(e.key,e.val))=l.map fun p=>(Value.string p.1,p.2)
def MF (w:World)(b:Nat)(l:List (ByteArray×Value)):Prop:=∃es cl,w.heap[b]?=some (.map es cl)∧∃l',Yl7 es l'∧l'.Perm l
theorem Xsa (k:ByteArray):∀(l:List (ByteArray×Value)) (es:List MapEntry) (i:Nat),es.map (fun e=>(e.key,e.val))=l.map (fun p=>(Value.string p.1,p.2))→(∀p∈l,(k==p.1)=false)→Instr.findNow .string (.string k) es i=some none
 |[],[],i,_,_=>rfl
 |p::l,e::es,i,h,hn=>by
  simp only[List.map_cons,List.cons.injEq,Prod.mk.injEq] at h
  have:=Xsa k l es (i+1) h.2 (fun q hq=>hn q (List.mem_cons_of_mem _ hq))
  simp only[Instr.findNow,h.1.1,Instr.sameNow,hn p (List.mem_cons_self ..),this]
 |[],_::_,_,h,_=>by simp at h
 |_::_,[],_,h,_=>by simp at h
theorem Xup (k:ByteArray)(v:Value)(hk:(k==k)=true):∀(l:List (ByteArray×Value)) (es:List MapEntry) (i:Nat),es.map (fun e=>(e.key,e.val))=l.map (fun p=>(Value.string p.1,p.2))→(k,v)∈l→(∀p∈l,(k==p.1)=true→p.2=v)→∃j,Instr.findNow .string (.string k) es i=some (some (j,v))
 |p::l,e::es,i,h,hm,hu=>by
  simp only[List.map_cons,List.cons.injEq,Prod.mk.injEq] at h
  cases hq:(k==p.1) with
  |true=>
   refine⟨i,?_⟩
   simp only[Instr.findNow,h.1.1,Instr.sameNow,hq]
   rw[h.1.2,hu p (List.mem_cons_self ..) hq]
  |false=>
   have hm':(k,v)∈l:=by
    rcases List.mem_cons.1 hm with rfl|h
    ·rw[hk] at hq;cases hq
    ·exact h
   obtain⟨j,hj⟩:=Xup k v hk l es (i+1) h.2 hm' (fun q hq=>hu q (List.mem_cons_of_mem _ hq))
   refine⟨j,?_⟩
   simp only[Instr.findNow,h.1.1,Instr.sameNow,hq,hj]
 |[],_,_,_,hm,_=>by cases hm
 |_::_,[],_,h,_,_=>by simp at h
theorem Yhu {w:World}{b:Nat}{l:List (ByteArray×Value)}(h:MF w b l)(k:ByteArray)(v:Value)(hk:(k==k)=true)(hm:(k,v)∈l)(hu:∀p∈l,(k==p.1)=true→p.2=v):
    (Instr.lookup 203 (.map (some b)) (.string k) true).run prog w=.ok (.tuple #[v,.bool true]) w:=by
 obtain⟨es,cl,hb,l',he,hp⟩:=h
 have hc:(Instr.checkKey es.isEmpty 10000 9 (.string k)).run prog w=.ok () w:=MapKept.run_checkKey (k:=.string k) underlying9 (by simp[MapKept.IsKey]) _ 9999
 obtain⟨j,hf⟩:=Xup k v hk l' es.toList 0 he (hp.mem_iff.2 hm) (fun p hp'=>hu p (hp.mem_iff.1 hp'))
 simp[Instr.lookup,run_underlying underlying203,MapKept.run_getObj_map hb,hc,MapKept.run_findKey underlying9 hf,Result.andThen]
theorem Yht {w:World}{b:Nat}{l:List (ByteArray×Value)}(h:MF w b l)(k:ByteArray)(hn:∀p∈l,(k==p.1)=false):
    (Instr.lookup 203 (.map (some b)) (.string k) true).run prog w=.ok (.tuple #[.nilFunc,.bool false]) w:=by
 obtain⟨es,cl,hb,l',he,hp⟩:=h
 have hc:(Instr.checkKey es.isEmpty 10000 9 (.string k)).run prog w=.ok () w:=MapKept.run_checkKey (k:=.string k) underlying9 (by simp[MapKept.IsKey]) _ 9999
 have hf:=Xsa k l' es.toList 0 he (fun p hp'=>hn p (hp.mem_iff.1 hp'))
 simp[Instr.lookup,run_underlying underlying203,MapKept.run_getObj_map hb,hc,MapKept.run_findKey underlying9 hf,Result.andThen]
theorem Yif {es:Array MapEntry}{l:List (ByteArray×Value)}(h:Yl7 es l)(k:ByteArray)(v:Value)(n:Nat):Yl7 (es.push ⟨.string k,v,n⟩) (l++[(k,v)]):=by
 unfold Yl7 at h⊢
 rw[Array.toList_push,List.map_append,List.map_append,h]
 rfl
theorem Ykh {w:World}{b:Nat}{l:List (ByteArray×Value)}(h:MF w b l)(k:ByteArray)(v:Value)(hn:∀p∈l,(k==p.1)=false):
    ∃w',(Instr.mapUpdate 203 (.map (some b)) (.string k) v).run prog w=.ok () w'∧MF w' b ((k,v)::l)∧Fr1 b w w':=by
 obtain⟨es,cl,hb,l',he,hp⟩:=h
 have hc:(Instr.checkKey false 10000 9 (.string k)).run prog w=.ok () w:=MapKept.run_checkKey (k:=.string k) underlying9 (by simp[MapKept.IsKey]) false 9999
 have hf:=Xsa k l' es.toList 0 he (fun p hp'=>hn p (hp.mem_iff.1 hp'))
 refine⟨{w with heap:=w.heap.setIfInBounds b (.map (es.push ⟨.string k,v,cl⟩) (cl+1))},?_,⟨es.push ⟨.string k,v,cl⟩,cl+1,?_,l'++[(k,v)],Yif he k v cl,?_⟩,⟨rfl,rfl,rfl,?_,?_⟩⟩
 ·simp[Instr.mapUpdate,run_underlying underlying203,MapKept.run_getObj_map hb,hc,MapKept.run_findKey underlying9 hf,MapKept.run_setObj_map _ hb,Result.andThen]
 ·have hlt:b<w.heap.size:=zY hb
  simp[hlt]
 ·exact(List.perm_append_singleton _ _).trans (hp.cons _)
 ·simp
 ·intro q hq hne
  simp[Ne.symm hne]
def kN (k:Nat):ByteArray:=if k=0 then⟨#[99,97,110,99,101,108]⟩ else if k=1 then⟨#[97,112,112,114,111,118,101]⟩ else if k=2 then⟨#[100,101,102,105,110,101]⟩ else if k=3 then⟨#[114,101,109,111,118,101]⟩ else⟨#[114,101,107,101,121]⟩
def fN (k:Nat):FuncId:=if k=0 then 190 else if k=1 then 192 else if k=2 then 194 else if k=3 then 198 else 199
def fmE (k:Nat):ByteArray×Value:=(kN k,.func (.func (fN k)) #[] #[])
theorem Ykq:∀j<5,∀k<5,j≠k→(kN j==kN k)=false:=by decide
theorem Yh6:∀k<5,(kN k==kN k)=true:=by decide
structure FI (w0:World) (d:Nat→Bool) (a:Act) (w:World):Prop where
 size:Bw w0 w
 tmps:∃v0 v1 v2 v3 v4 v5 v6 v7,a=⟨#[v0,v1,v2,v3,v4,v5,v6,v7],[]⟩∧
  (d 1=true→v2=.string (kN 0))∧(d 3=true→v3=.string (kN 1))∧(d 5=true→v4=.string (kN 2))∧(d 7=true→v5=.string (kN 3))∧(d 9=true→v6=.string (kN 4))∧
  (d 0=false→∀k,k<5→d (2*k+2)=false)∧
  (d 0=true→∃b l,v1=.map (some b)∧w0.heap.size≤b∧MF w b l∧∀p,p∈l↔∃k,k<5∧d (2*k+2)=true∧p=fmE k)∧
  (d 11=true→v7=v1)∧(d 12=true→v0=v7)
def upd (d:Nat→Bool)(i:Nat)(j:Nat):Bool:=if j=i then true else d j
theorem Yek {listed:Array Bool}(hs:listed.size=13){i:Nat}(hi:i<13)(j:Nat):(listed.setIfInBounds i true).getD j false=upd (fun j=>listed.getD j false) i j:=by
 unfold upd
 by_cases h:j=i
 ·subst h;simp[Array.getD,hs,hi]
 ·rw[Array.getD_eq_getD_getElem?,Array.getElem?_setIfInBounds,qN (Ne.symm h),qN h]
  show _=listed.getD j false
  rw[Array.getD_eq_getD_getElem?]
theorem Xbw {P:Program}{ops:Array Oper}{Q:Exit→Act→World→Prop}{i:Nat}{o:Oper}{K:Act→World→Prop}{a:Act}{w:World}(ho:ops[i]?=some o)(hg:o.guard=none)(h:o.wp P a w K Q):wpOp P ops Q i K a w:=by
 unfold wpOp
 simp only[ho]
 rw[qP (by simp[Region.wanted,hg])]
 exact .inl h
def Ygl (w:World)(e:Ending)(w':World):Prop:=∃b l,e=.returned (.map (some b))∧Bw w w'∧w.heap.size≤b∧MF w' b l∧∀p,p∈l↔∃k,k<5∧p=fmE k
theorem Xfx {w0 w:World}{d:Nat→Bool}{a:Act}(h:FI w0 d a w)(k:Nat)(hk:k<5)(hd:d (2*k+2)=false)(h0:d 0=true)(hkey:d (2*k+1)=true):
    ∃b w',a.eval (.tmp 1)=.map (some b)∧a.eval (.tmp (k+2))=.string (kN k)∧
     (Instr.mapUpdate 203 (.map (some b)) (.string (kN k)) (.func (.func (fN k)) #[] #[])).run prog w=.ok () w'∧FI w0 (upd d (2*k+2)) a w':=by
 obtain⟨hs,v0,v1,v2,v3,v4,v5,v6,v7,rfl,h2,h3,h4,h5,h6,h7,h8,h9,h10⟩:=h
 obtain⟨b,l,rfl,hb,hm,hl⟩:=h8 h0
 obtain⟨w',hr,hm',hf⟩:=Ykh hm (kN k) (.func (.func (fN k)) #[] #[]) (fun p hp=>by
  obtain⟨j,hj,hdj,rfl⟩:=(hl p).1 hp
  refine Ykq k hk j hj ?_
  rintro rfl
  rw[hd] at hdj;cases hdj)
 have hn:∀j,j≠2*k+2→upd d (2*k+2) j=d j:=fun j hj=>by unfold upd;rw[qN hj]
 refine⟨b,w',rfl,?_,hr,⟨hs.trans (hf.below hs.size hb),v0,_,v2,v3,v4,v5,v6,v7,rfl,?_,?_,?_,?_,?_,?_,?_,?_,?_⟩⟩
 ·rcases(by omega:k=0∨k=1∨k=2∨k=3∨k=4) with rfl|rfl|rfl|rfl|rfl
  ·exact h2 hkey
  ·exact h3 hkey
  ·exact h4 hkey
  ·exact h5 hkey
  ·exact h6 hkey
 ·rw[hn 1 (by omega)];exact h2
 ·rw[hn 3 (by omega)];exact h3
 ·rw[hn 5 (by omega)];exact h4
 ·rw[hn 7 (by omega)];exact h5
 ·rw[hn 9 (by omega)];exact h6
 ·rw[hn 0 (by omega),h0];intro h;cases h
 ·intro _
  refine⟨b,_,rfl,hb,hm',fun p=>?_⟩
  rw[List.mem_cons,hl p]
  constructor
  ·rintro(rfl|⟨j,hj,hdj,rfl⟩)
   ·exact⟨k,hk,by unfold upd;rw[qP rfl],rfl⟩
   ·exact⟨j,hj,by unfold upd;split<;>first|rfl|exact hdj,rfl⟩
  ·rintro⟨j,hj,hdj,rfl⟩
   by_cases e:j=k
   ·subst e;exact .inl rfl
   ·refine .inr ⟨j,hj,?_,rfl⟩
    rw[hn _ (by omega)] at hdj;exact hdj
 ·rw[hn 11 (by omega)];exact h9
 ·rw[hn 12 (by omega)];exact h10
theorem Xlf {w0 w:World}{d:Nat→Bool}{a:Act}(h:FI w0 d a w)(k:Nat)(hk:k<5):FI w0 (upd d (2*k+1)) (a.put (some (k+2)) (.string (kN k))) w:=by
 obtain⟨hs,v0,v1,v2,v3,v4,v5,v6,v7,rfl,h2,h3,h4,h5,h6,h7,h8,h9,h10⟩:=h
 have hn:∀j,j≠2*k+1→upd d (2*k+1) j=d j:=fun j hj=>by unfold upd;rw[qN hj]
 have he:∀j,j<5→upd d (2*k+1) (2*j+2)=d (2*j+2):=fun j hj=>hn _ (by omega)
 have h7':upd d (2*k+1) 0=false→∀j,j<5→upd d (2*k+1) (2*j+2)=false:=by
  rw[hn 0 (by omega)];intro h j hj;rw[he j hj];exact h7 h j hj
 have h8':upd d (2*k+1) 0=true→∃b l,v1=.map (some b)∧w0.heap.size≤b∧MF w b l∧∀p,p∈l↔∃j,j<5∧upd d (2*k+1) (2*j+2)=true∧p=fmE j:=by
  rw[hn 0 (by omega)];intro h
  obtain⟨b,l,e,hb,hm,hl⟩:=h8 h
  refine⟨b,l,e,hb,hm,fun p=>(hl p).trans ?_⟩
  constructor
  ·rintro⟨j,hj,h1,h2⟩;exact⟨j,hj,by rw[he j hj];exact h1,h2⟩
  ·rintro⟨j,hj,h1,h2⟩;exact⟨j,hj,by rw[he j hj] at h1;exact h1,h2⟩
 have h11:upd d (2*k+1) 11=d 11:=hn _ (by omega)
 have h12:upd d (2*k+1) 12=d 12:=hn _ (by omega)
 rcases(by omega:k=0∨k=1∨k=2∨k=3∨k=4) with rfl|rfl|rfl|rfl|rfl
 ·exact⟨hs,v0,v1,_,v3,v4,v5,v6,v7,rfl,fun _=>rfl,by rw[hn 3 (by omega)];exact h3,by rw[hn 5 (by omega)];exact h4,by rw[hn 7 (by omega)];exact h5,by rw[hn 9 (by omega)];exact h6,h7',h8',by rw[h11];exact h9,by rw[h12];exact h10⟩
 ·exact⟨hs,v0,v1,v2,_,v4,v5,v6,v7,rfl,by rw[hn 1 (by omega)];exact h2,fun _=>rfl,by rw[hn 5 (by omega)];exact h4,by rw[hn 7 (by omega)];exact h5,by rw[hn 9 (by omega)];exact h6,h7',h8',by rw[h11];exact h9,by rw[h12];exact h10⟩
 ·exact⟨hs,v0,v1,v2,v3,_,v5,v6,v7,rfl,by rw[hn 1 (by omega)];exact h2,by rw[hn 3 (by omega)];exact h3,fun _=>rfl,by rw[hn 7 (by omega)];exact h5,by rw[hn 9 (by omega)];exact h6,h7',h8',by rw[h11];exact h9,by rw[h12];exact h10⟩
 ·exact⟨hs,v0,v1,v2,v3,v4,_,v6,v7,rfl,by rw[hn 1 (by omega)];exact h2,by rw[hn 3 (by omega)];exact h3,by rw[hn 5 (by omega)];exact h4,fun _=>rfl,by rw[hn 9 (by omega)];exact h6,h7',h8',by rw[h11];exact h9,by rw[h12];exact h10⟩
 ·exact⟨hs,v0,v1,v2,v3,v4,v5,_,v7,rfl,by rw[hn 1 (by omega)];exact h2,by rw[hn 3 (by omega)];exact h3,by rw[hn 5 (by omega)];exact h4,by rw[hn 7 (by omega)];exact h5,fun _=>rfl,h7',h8',by rw[h11];exact h9,by rw[h12];exact h10⟩
theorem Yid {w0 w:World}{d:Nat→Bool}{a:Act}(h:FI w0 d a w)(h0:d 0=false)(h11d:d 11=false):FI w0 (upd d 0) (a.put (some 1) (.map (some w.heap.size))) (w.alloc (.map #[] 0)):=by
 obtain⟨hs,v0,v1,v2,v3,v4,v5,v6,v7,rfl,h2,h3,h4,h5,h6,h7,h8,h9,h10⟩:=h
 have hn:∀j,j≠0→upd d 0 j=d j:=fun j hj=>by unfold upd;rw[qN hj]
 refine⟨hs.alloc hs.size _,v0,_,v2,v3,v4,v5,v6,v7,rfl,by rw[hn 1 (by omega)];exact h2,by rw[hn 3 (by omega)];exact h3,by rw[hn 5 (by omega)];exact h4,by rw[hn 7 (by omega)];exact h5,by rw[hn 9 (by omega)];exact h6,?_,?_,?_,by rw[hn 12 (by omega)];exact h10⟩
 ·intro h;cases h
 ·intro _
  refine⟨w.heap.size,[],rfl,hs.size,⟨#[],0,zN w _,[],rfl,List.Perm.refl _⟩,fun p=>?_⟩
  constructor
  ·intro h;cases h
  ·rintro⟨j,hj,h1,_⟩
   rw[hn _ (by omega),h7 h0 j hj] at h1;cases h1
 ·rw[hn 11 (by omega),h11d];intro h;cases h
theorem Yic {w0 w:World}{d:Nat→Bool}{a:Act}(h:FI w0 d a w)(h12d:d 12=false):FI w0 (upd d 11) (a.put (some 7) (a.eval (.tmp 1))) w:=by
 obtain⟨hs,v0,v1,v2,v3,v4,v5,v6,v7,rfl,h2,h3,h4,h5,h6,h7,h8,h9,h10⟩:=h
 have hn:∀j,j≠11→upd d 11 j=d j:=fun j hj=>by unfold upd;rw[qN hj]
 refine⟨hs,v0,v1,v2,v3,v4,v5,v6,_,rfl,by rw[hn 1 (by omega)];exact h2,by rw[hn 3 (by omega)];exact h3,by rw[hn 5 (by omega)];exact h4,by rw[hn 7 (by omega)];exact h5,by rw[hn 9 (by omega)];exact h6,?_,?_,fun _=>rfl,?_⟩
 ·rw[hn 0 (by omega)];intro h j hj;rw[hn _ (by omega)];exact h7 h j hj
 ·rw[hn 0 (by omega)];intro h
  obtain⟨b,l,e,hb,hm,hl⟩:=h8 h
  refine⟨b,l,e,hb,hm,fun p=>(hl p).trans ?_⟩
  constructor
  ·rintro⟨j,hj,h1,h2⟩;exact⟨j,hj,by rw[hn _ (by omega)];exact h1,h2⟩
  ·rintro⟨j,hj,h1,h2⟩;exact⟨j,hj,by rw[hn _ (by omega)] at h1;exact h1,h2⟩
 ·rw[hn 12 (by omega),h12d];intro h;cases h
theorem Yak {w0 w:World}{d:Nat→Bool}{a:Act}(h:FI w0 d a w):FI w0 (upd d 12) (a.put (some 0) (a.eval (.tmp 7))) w:=by
 obtain⟨hs,v0,v1,v2,v3,v4,v5,v6,v7,rfl,h2,h3,h4,h5,h6,h7,h8,h9,h10⟩:=h
 have hn:∀j,j≠12→upd d 12 j=d j:=fun j hj=>by unfold upd;rw[qN hj]
 refine⟨hs,_,v1,v2,v3,v4,v5,v6,v7,rfl,by rw[hn 1 (by omega)];exact h2,by rw[hn 3 (by omega)];exact h3,by rw[hn 5 (by omega)];exact h4,by rw[hn 7 (by omega)];exact h5,by rw[hn 9 (by omega)];exact h6,?_,?_,by rw[hn 11 (by omega)];exact h9,fun _=>rfl⟩
 ·rw[hn 0 (by omega)];intro h j hj;rw[hn _ (by omega)];exact h7 h j hj
 ·rw[hn 0 (by omega)];intro h
  obtain⟨b,l,e,hb,hm,hl⟩:=h8 h
  refine⟨b,l,e,hb,hm,fun p=>(hl p).trans ?_⟩
  constructor
  ·rintro⟨j,hj,h1,h2⟩;exact⟨j,hj,by rw[hn _ (by omega)];exact h1,h2⟩
  ·rintro⟨j,hj,h1,h2⟩;exact⟨j,hj,by rw[hn _ (by omega)] at h1;exact h1,h2⟩
theorem Xd5 {P:Program}{o:Oper}{a:Act}{w w':World}{t:TypeId}{m k x:Operand}{vm vk vx:Value}(ho:o.op=.insert t m k x)(h1:a.eval m=vm)(h2:a.eval k=vk)(h3:a.eval x=vx)(h:(Instr.mapUpdate t vm vk vx).run P w=.ok () w'):
    (execOp a.eval o).run P w=.ok .skip w':=by
 unfold execOp
 simp only[ho,h1,h2,h3,Sem.run_bind,h,Result.andThen_ok,Sem.run_pure]
theorem Xez {w0 w:World}{d d':Nat→Bool}{a:Act}(h:FI w0 d a w)(e:∀j,d' j=d j):FI w0 d' a w:=by
 have:d'=d:=funext e
 rw[this];exact h
theorem Xqc {P:Program}{o:Oper}{a:Act}{w:World}{t:TypeId}(ho:o.op=.makeMap t none):(execOp a.eval o).run P w=.ok (.value (.map (some w.heap.size))) (w.alloc (.map #[] 0)):=by
 unfold execOp
 simp[ho,run_makeMap]
theorem Yap {P:Program}{o:Oper}{a:Act}{w:World}{x:Operand}(ho:o.op=.move x):(execOp a.eval o).run P w=.ok (.value (a.eval x)) w:=by
 unfold execOp
 simp[ho]
theorem Xlg {P:Program}{o:Oper}{a:Act}{w:World}{x:Operand}(ho:o.op=.assign x):(execOp a.eval o).run P w=.ok (.value (a.eval x)) w:=by
 unfold execOp
 simp[ho]
theorem Xj4 {K:Act→World→Prop}{Q:Exit→Act→World→Prop}{a:Act}{w:World}{o:Oper}{k:Int}{v:Value}(ho:o.op=.call {callee:=.value (.func 189),args:=#[.const (.int .i64 k)],argTypes:=#[3]})
    (hc:Calls prog 189 #[.int .i64 k] w fun e w'=>e=.returned v∧w'=w) (h:K (a.put o.dst v) w):o.wp prog a w K Q:=by
 obtain⟨dst,op,ty,pos,after,guard⟩:=o
 simp only at ho
 subst ho
 go_simp
 exact hc.mono fun e w' he=>by obtain⟨rfl,rfl⟩:=he;exact h
theorem Xbx {md:Region.Mode}{ops:Array Oper}{listed:Array Bool}(hr:Region.ready md ops listed=[]){i:Nat}{o:Oper}(ho:ops[i]?=some o)(hlt:i<listed.size)(hall:∀e∈o.after,listed.getD e.on false=true):listed.getD i false=true:=by
 cases h:listed.getD i false with
 |true=>rfl
 |false=>
  have hm:i∈Region.ready md ops listed:=mem_ready.2 ⟨by simpa [Array.getD,hlt] using h,o,ho,fun e he _=>hall e he⟩
  rw[hr] at hm;cases hm
theorem Xce {K:Act→World→Prop}{Q:Exit→Act→World→Prop}{P:Program}{a:Act}{w w':World}{o:Oper}(h:(execOp a.eval o).run P w=.ok .skip w')(hk:K (a.put o.dst undef) w'):o.wp P a w K Q:=by
 unfold Oper.wp;rw[h];exact hk
theorem Xb1 {K:Act→World→Prop}{Q:Exit→Act→World→Prop}{P:Program}{a:Act}{w w':World}{o:Oper}{v:Value}(h:(execOp a.eval o).run P w=.ok (.value v) w')(hk:K (a.put o.dst v) w'):o.wp P a w K Q:=by
 unfold Oper.wp;rw[h];exact hk
theorem Xw2 (w:World):Calls prog 141 #[] w (Ygl w):=by
 go_enter func141,ntmps141
 go_wp2_with fail
 refine wp_region_any (by kernel_rfl) ?_
 refine Xo1 (fun listed a w'=>listed.size=13∧FI w (fun j=>listed.getD j false) a w'∧(listed.getD 11 false=true→listed.getD 0 false=true)∧(listed.getD 12 false=true→listed.getD 11 false=true)) ?_ ?_ _ _ _ _ ⟨by simp,?_,by simp,by simp⟩ ?_
 ·rintro listed a w1 i ⟨hs,hI,O1,O2⟩ hr
  obtain⟨h0,o,ho,hall⟩:=mem_ready.1 hr
  refine⟨h0,?_⟩
  have hi:i<13:=by have:=(Array.getElem?_eq_some_iff.1 ho).1;simpa using this
  have h0':listed.getD i false=false:=by simpa [Array.getD,hs,hi] using h0
  have UP:∀j,(listed.setIfInBounds i true).getD j false=upd (fun j=>listed.getD j false) i j:=fun j=>Yek hs hi j
  have SZ:(listed.setIfInBounds i true).size=13:=by simp[hs]
  have ORD:i≠11→i≠12→((listed.setIfInBounds i true).getD 11 false=true→(listed.setIfInBounds i true).getD 0 false=true)∧((listed.setIfInBounds i true).getD 12 false=true→(listed.setIfInBounds i true).getD 11 false=true):=by
   intro n1 n2
   rw[UP,UP,UP]
   unfold upd
   rw[qN (Ne.symm n1),qN (Ne.symm n2)]
   refine⟨fun h=>?_,O2⟩
   split
   ·rfl
   ·exact O1 h
  clear hr
  rcases(by omega:i=0∨i=1∨i=2∨i=3∨i=4∨i=5∨i=6∨i=7∨i=8∨i=9∨i=10∨i=11∨i=12) with rfl|rfl|rfl|rfl|rfl|rfl|rfl|rfl|rfl|rfl|rfl|rfl|rfl
  ·have hq:=ho
   simp only[List.getElem?_toArray,List.getElem?_cons_zero,Option.some.injEq] at hq
   subst hq
   have h11:listed.getD 11 false=false:=by
    cases hq:listed.getD 11 false
    ·rfl
    ·rw[O1 hq] at h0';cases h0'
   exact Xbw ho rfl (Xb1 (Xqc rfl) ⟨SZ,Xez (Yid hI h0' h11) UP,ORD (by decide) (by decide)⟩)
  ·have hq:=ho
   simp only[List.getElem?_toArray,List.getElem?_cons_zero,List.getElem?_cons_succ,Option.some.injEq] at hq
   subst hq
   exact Xbw ho rfl (Xj4 rfl (Ymp w1) ⟨SZ,Xez (Xlf hI 0 (by omega)) UP,ORD (by decide) (by decide)⟩)
  ·have hq:=ho
   simp only[List.getElem?_toArray,List.getElem?_cons_zero,List.getElem?_cons_succ,Option.some.injEq] at hq
   subst hq
   obtain⟨b,w2,e1,e2,e3,e4⟩:=Xfx hI 0 (by omega) h0' (hall ⟨0,.data⟩ (by simp) rfl) (hall ⟨1,.data⟩ (by simp) rfl)
   exact Xbw ho rfl (Xce (Xd5 rfl e1 e2 rfl e3) ⟨SZ,Xez e4 UP,ORD (by decide) (by decide)⟩)
  ·have hq:=ho
   simp only[List.getElem?_toArray,List.getElem?_cons_zero,List.getElem?_cons_succ,Option.some.injEq] at hq
   subst hq
   exact Xbw ho rfl (Xj4 rfl (Ymo w1) ⟨SZ,Xez (Xlf hI 1 (by omega)) UP,ORD (by decide) (by decide)⟩)
  ·have hq:=ho
   simp only[List.getElem?_toArray,List.getElem?_cons_zero,List.getElem?_cons_succ,Option.some.injEq] at hq
   subst hq
   obtain⟨b,w2,e1,e2,e3,e4⟩:=Xfx hI 1 (by omega) h0' (hall ⟨0,.data⟩ (by simp) rfl) (hall ⟨3,.data⟩ (by simp) rfl)
   exact Xbw ho rfl (Xce (Xd5 rfl e1 e2 rfl e3) ⟨SZ,Xez e4 UP,ORD (by decide) (by decide)⟩)
  ·have hq:=ho
   simp only[List.getElem?_toArray,List.getElem?_cons_zero,List.getElem?_cons_succ,Option.some.injEq] at hq
   subst hq
   exact Xbw ho rfl (Xj4 rfl (Ymn w1) ⟨SZ,Xez (Xlf hI 2 (by omega)) UP,ORD (by decide) (by decide)⟩)
  ·have hq:=ho
   simp only[List.getElem?_toArray,List.getElem?_cons_zero,List.getElem?_cons_succ,Option.some.injEq] at hq
   subst hq
   obtain⟨b,w2,e1,e2,e3,e4⟩:=Xfx hI 2 (by omega) h0' (hall ⟨0,.data⟩ (by simp) rfl) (hall ⟨5,.data⟩ (by simp) rfl)
   exact Xbw ho rfl (Xce (Xd5 rfl e1 e2 rfl e3) ⟨SZ,Xez e4 UP,ORD (by decide) (by decide)⟩)
  ·have hq:=ho
   simp only[List.getElem?_toArray,List.getElem?_cons_zero,List.getElem?_cons_succ,Option.some.injEq] at hq
   subst hq
   exact Xbw ho rfl (Xj4 rfl (Ymm w1) ⟨SZ,Xez (Xlf hI 3 (by omega)) UP,ORD (by decide) (by decide)⟩)
  ·have hq:=ho
   simp only[List.getElem?_toArray,List.getElem?_cons_zero,List.getElem?_cons_succ,Option.some.injEq] at hq
   subst hq
   obtain⟨b,w2,e1,e2,e3,e4⟩:=Xfx hI 3 (by omega) h0' (hall ⟨0,.data⟩ (by simp) rfl) (hall ⟨7,.data⟩ (by simp) rfl)
   exact Xbw ho rfl (Xce (Xd5 rfl e1 e2 rfl e3) ⟨SZ,Xez e4 UP,ORD (by decide) (by decide)⟩)
  ·have hq:=ho
   simp only[List.getElem?_toArray,List.getElem?_cons_zero,List.getElem?_cons_succ,Option.some.injEq] at hq
   subst hq
   exact Xbw ho rfl (Xj4 rfl (Yml w1) ⟨SZ,Xez (Xlf hI 4 (by omega)) UP,ORD (by decide) (by decide)⟩)
  ·have hq:=ho
   simp only[List.getElem?_toArray,List.getElem?_cons_zero,List.getElem?_cons_succ,Option.some.injEq] at hq
   subst hq
   obtain⟨b,w2,e1,e2,e3,e4⟩:=Xfx hI 4 (by omega) h0' (hall ⟨0,.data⟩ (by simp) rfl) (hall ⟨9,.data⟩ (by simp) rfl)
   exact Xbw ho rfl (Xce (Xd5 rfl e1 e2 rfl e3) ⟨SZ,Xez e4 UP,ORD (by decide) (by decide)⟩)
  ·have hq:=ho
   simp only[List.getElem?_toArray,List.getElem?_cons_zero,List.getElem?_cons_succ,Option.some.injEq] at hq
   subst hq
   have h12:listed.getD 12 false=false:=by
    cases hq:listed.getD 12 false
    ·rfl
    ·rw[O2 hq] at h0';cases h0'
   refine Xbw ho rfl (Xb1 (Yap rfl) ⟨SZ,Xez (Yic hI h12) UP,?_,?_⟩)
   ·intro _;rw[UP];exact hall ⟨0,.data⟩ (by simp) rfl
   ·intro _;rw[UP];rfl
  ·have hq:=ho
   simp only[List.getElem?_toArray,List.getElem?_cons_zero,List.getElem?_cons_succ,Option.some.injEq] at hq
   subst hq
   refine Xbw ho rfl (Xb1 (Xlg rfl) ⟨SZ,Xez (Yak hI) UP,?_,?_⟩)
   ·rw[UP,UP];exact O1
   ·intro _;rw[UP];exact hall ⟨11,.data⟩ (by simp) rfl
 ·rintro listed a w1 ⟨hs,hI,O1,O2⟩ hr
  have a0:=Xbx hr (i:=0) rfl (by omega) (by intro e he;simp at he)
  have a1:=Xbx hr (i:=1) rfl (by omega) (by intro e he;simp at he)
  have a3:=Xbx hr (i:=3) rfl (by omega) (by intro e he;simp at he;subst he;assumption)
  have a5:=Xbx hr (i:=5) rfl (by omega) (by intro e he;simp at he;subst he;assumption)
  have a7:=Xbx hr (i:=7) rfl (by omega) (by intro e he;simp at he;subst he;assumption)
  have a9:=Xbx hr (i:=9) rfl (by omega) (by intro e he;simp at he;subst he;assumption)
  have a2:=Xbx hr (i:=2) rfl (by omega) (by intro e he;simp at he;rcases he with rfl|rfl<;>assumption)
  have a4:=Xbx hr (i:=4) rfl (by omega) (by intro e he;simp at he;rcases he with rfl|rfl<;>assumption)
  have a6:=Xbx hr (i:=6) rfl (by omega) (by intro e he;simp at he;rcases he with rfl|rfl<;>assumption)
  have a8:=Xbx hr (i:=8) rfl (by omega) (by intro e he;simp at he;rcases he with rfl|rfl<;>assumption)
  have a10:=Xbx hr (i:=10) rfl (by omega) (by intro e he;simp at he;rcases he with rfl|rfl<;>assumption)
  have a11:=Xbx hr (i:=11) rfl (by omega) (by intro e he;simp at he;rcases he with rfl|rfl|rfl|rfl|rfl|rfl|rfl|rfl|rfl|rfl|rfl<;>assumption)
  have a12:=Xbx hr (i:=12) rfl (by omega) (by intro e he;simp at he;rcases he with rfl|rfl|rfl|rfl|rfl|rfl|rfl|rfl|rfl|rfl|rfl|rfl|rfl|rfl<;>assumption)
  obtain⟨hbel,v0,v1,v2,v3,v4,v5,v6,v7,rfl,-,-,-,-,-,-,h8,h9,h10⟩:=hI
  obtain⟨b,l,rfl,hb,hm,hl⟩:=h8 a0
  obtain rfl:=h9 a11
  obtain rfl:=h10 a12
  have POST:Hid (Ygl w (.returned (.map (some b))) w1):=Hd ⟨b,l,rfl,hbel,hb,hm,fun p=>(hl p).trans (by
   constructor
   ·rintro⟨k,hk,_,h⟩;exact⟨k,hk,h⟩
   ·rintro⟨k,hk,h⟩
    refine⟨k,hk,?_,h⟩
    rcases(by omega:k=0∨k=1∨k=2∨k=3∨k=4) with rfl|rfl|rfl|rfl|rfl<;>assumption)⟩
  clear hr O1 O2 hb hm hl hbel h8 h9 h10 a0 a1 a2 a3 a4 a5 a6 a7 a8 a9 a10 a11 a12
  refine‹∀(a:Act) (w_1:World),Code.wp _ _ _ a w_1→_› _ _ ?_
  go_wp2_with fail
  go_ret
  exact POST.o
 ·refine⟨(Dr.below ⟨1,rfl⟩),_,_,_,_,_,_,_,_,rfl,?_⟩
  simp
  intro k hk
  rw[Array.getElem?_replicate]
  split<;>rfl
 ·simp[Xo4]
theorem Xdu {P:Program}{ops:Array Oper}{rest:List Oper}{o:Oper}{a:Act}{w:World}{Q:Exit→Act→World→Prop}(t:TypeId)(hgd:o.guard=none)(ps:Array (Nat×Operand))(ho:o.op=.build t ps)(h:∃vs v,ps.map (fun(i,x)=>(i,a.eval x))=vs∧(Instr.build t vs).run P w=.ok v w∧wpList P ops Q rest (a.put o.dst v) w):wpList P ops Q (o::rest) a w:=by
 obtain⟨vs,v,rfl,h2,h3⟩:=h
 exact Xas hgd (Xc1 ho h2) h3
def FK (k:Nat)(T:List Nat):Nat:=
 if k=0 then nxt T fun x T=>fe (Xid x) (fin T)
 else if k=1 then nxt T fun x T=>fe (Xid x) ((fun T=>nxt T fun x T=>fe (Xiu x) (fin T)) T)
 else if k=2 then nxt T fun x T=>fe (Xiu x) ((fun T=>nxt T fun x T=>fe ((Xfi 0 1000000) x) ((fun T=>nxt T fun m T=>if m=Xgz then Xd9 T else if m=Xi1 then nxt T (fun a T=>fe (Xc8 a) (Xd9 T)) else 3) T)) T)
 else if k=3 then nxt T fun x T=>fe (Xiu x) ((fun T=>nxt T fun x T=>fe ((Xfi 0 1000000) x) (fin T)) T)
 else nxt T fun x T=>fe ((Xfi 1 1000) x) ((fun T=>nxt T fun x T=>fe (Xgl x) (fin T)) T)
theorem Ymq:∀k<5,bs (kN k)=(if k=0 then Xit else if k=1 then Xga else if k=2 then Xis else if k=3 then Xir else Xmv):=by decide
theorem Ybd {k:Nat}(hk:k<5)(T:List Nat):Xw0 (bs (kN k)) T=FK k T:=by
 rw[Ymq k hk]
 rcases(by omega:k=0∨k=1∨k=2∨k=3∨k=4) with rfl|rfl|rfl|rfl|rfl
 ·rfl
 ·unfold Xw0 FK;rw[qN (by decide),qP (by decide),qN (by decide),qP (by decide)]
 ·unfold Xw0 FK;rw[qN (by decide),qN (by decide),qP (by decide),qN (by decide),qN (by decide),qP (by decide)]
 ·unfold Xw0 FK;rw[qN (by decide),qN (by decide),qN (by decide),qP (by decide),qN (by decide),qN (by decide),qN (by decide),qP (by decide)]
 ·unfold Xw0 FK;rw[qN (by decide),qN (by decide),qN (by decide),qN (by decide),qP (by decide),qN (by decide),qN (by decide),qN (by decide),qN (by decide)]
theorem Ybc {x:ByteArray}(h:∀k<5,x≠kN k)(T:List Nat):Xw0 (bs x) T=11:=by
 have n0:bs x≠Xit:=fun e=>h 0 (by omega) (Xdt (e.trans (by decide)))
 have n1:bs x≠Xga:=fun e=>h 1 (by omega) (Xdt (e.trans (by decide)))
 have n2:bs x≠Xis:=fun e=>h 2 (by omega) (Xdt (e.trans (by decide)))
 have n3:bs x≠Xir:=fun e=>h 3 (by omega) (Xdt (e.trans (by decide)))
 have n4:bs x≠Xmv:=fun e=>h 4 (by omega) (Xdt (e.trans (by decide)))
 unfold Xw0
 rw[qN n0,qN n1,qN n2,qN n3,qN n4]
theorem Yac {k:Nat}(hk:k<5)(w:World)(b:Nat)(t:ByteArray)(st en:Nat)(at_:Int)(er:Nat)(h:WS w b t st en at_ er)(hE:Env w)(hb9:9≤b)(ht:t.size≤100000):
    Calls prog (fN k) #[.pointer (some ⟨b,0,none⟩)] w (Xcy w b t en er (FK k)):=by
 rcases(by omega:k=0∨k=1∨k=2∨k=3∨k=4) with rfl|rfl|rfl|rfl|rfl
 ·exact Yah w b t st en at_ er h hE hb9 (by omega)
 ·exact Yag w b t st en at_ er h hE hb9 (by omega)
 ·exact Yaf w b t st en at_ er h hE hb9 ht
 ·exact Yae w b t st en at_ er h hE hb9 (by omega)
 ·exact Yad w b t st en at_ er h hE hb9 (by omega)
theorem Yer {x:ByteArray}{k:Nat}(h:(x==kN k)=true):x=kN k:=by
 obtain⟨a⟩:=x
 have:(⟨a⟩:ByteArray)==kN k:=h
 have h2:(a==(kN k).data)=true:=h
 have:=eq_of_beq h2
 cases hq:kN k with
 |mk d=>rw[hq] at this;rw[this]
theorem Ydw {x:ByteArray}{k:Nat}(h:x≠kN k):(x==kN k)=false:=by
 cases hq:x==kN k
 ·rfl
 ·exact absurd (Yer hq) h
def Ygm (l:List Nat)(w:World)(e:Ending)(w':World):Prop:=
 ∃(cs:Array Value) (a:Int),e=.returned (.tuple #[.agg cs,.int .i64 a,.int .i64 ((Xea l:Nat):Int)])∧Cl 56 cs∧Bw w w'
theorem Xxz (s x:ByteArray)(hx:bs x=Xi2 32 (bs s)):Xea (bs s)=if 1000<s.size then 5 else Xw0 (bs x) ((bs s).drop x.size):=by
 unfold Xea
 rw[Xaa]
 have e1:(bs s).takeWhile (fun c=>!decide (c=32))=bs x:=hx.symm
 have e3:(bs s).drop x.size=(bs s).dropWhile (fun c=>!decide (c=32)):=by
  have:=List.takeWhile_append_dropWhile (p:=fun c=>!decide (c=32)) (l:=bs s)
  rw[e1] at this
  conv=>lhs;rw[←this]
  rw[←Xaa x,List.drop_append,List.drop_length,Nat.sub_self];rfl
 rw[e1,e3]
theorem MB.on {w w':World}{p:Nat}(h:MB w p)(hb:Bw w w'):MB w' p:=by
 obtain⟨cs,h1,h2⟩:=h
 exact⟨cs,(hb.block p (zY h1)).trans h1,h2⟩
theorem MB.storeAll {w:World}{p:Nat}(h:MB w p){cs:Array Value}(hc:Cl 56 cs):
    Sv 139 ⟨p,0,none⟩ (.agg cs) w (w.setRow p cs)∧(w.setRow p cs).heap[p]?=some (.cells cs 139 (0,0))∧Fr1 p w (w.setRow p cs):=by
 obtain⟨zs,h1,h2⟩:=h
 exact⟨run_storeVar_row (P:=prog) w p _ 139 zs cs h1 (by rw[hc.1];exact Xax) (by rw[hc.1,h2.1]) hc.2,setRow_heap w p zs cs _ _ h1,⟨rfl,rfl,rfl,by simp[World.setRow],fun k hk hne=>setRow_other w p k cs hne⟩⟩
theorem Xay {P:Program}{md:Region.Mode}{ops:Array Oper}{Q:Exit→Act→World→Prop}{S:World→Prop}{i:Nat}{o:Oper}{fuel:Nat}{listed:Array Bool}{a:Act}{w w':World}{v:Value}(hr:Region.ready md ops listed=[i])(ho:ops[i]?=some o)(hg:o.guard=none)
    (he:(execOp a.eval o).run P w=.ok (.value v) w') (hS:S w') (h:wpAnyH P md ops Q S fuel (listed.setIfInBounds i true) (a.put o.dst v) w'):wpAnyH P md ops Q S (fuel+1) listed a w:=
 wpAnyH_all hr (by simp) (fun j hj=>by
  obtain rfl:j=i:=by simpa using hj
  exact Xbw ho hg (Xb1 he ⟨hS,h⟩))
theorem Xap {P:Program}{o:Oper}{a:Act}{w:World}{x:Operand}{v:Value}(ho:o.op=.assign x)(hx:a.eval x=v):(execOp a.eval o).run P w=.ok (.value v) w:=by
 rw[←hx];exact Xlg ho
theorem Xa6 {P:Program}{md:Region.Mode}{ops:Array Oper}{Q:Exit→Act→World→Prop}{S:World→Prop}{i:Nat}{o:Oper}{fuel:Nat}{listed:Array Bool}{a:Act}{w w':World}(hr:Region.ready md ops listed=[i])(ho:ops[i]?=some o)(hg:o.guard=none)
    (he:(execOp a.eval o).run P w=.ok .skip w') (hS:S w') (h:wpAnyH P md ops Q S fuel (listed.setIfInBounds i true) (a.put o.dst undef) w'):wpAnyH P md ops Q S (fuel+1) listed a w:=
 wpAnyH_all hr (by simp) (fun j hj=>by
  obtain rfl:j=i:=by simpa using hj
  exact Xbw ho hg (Xce he ⟨hS,h⟩))
def S34 (b:Nat)(a:Int)(er:Nat)(w':World):Prop:=w'.cell? ⟨b,3,none⟩=some (.int .i64 a)∧w'.cell? ⟨b,4,none⟩=some (.int .i64 (er:Int))
theorem Yis {k:Nat}(hk:k<5)(args:Array Value)(w:World):(callFunc (fN k) args).run prog w=.ok (.enter (fN k) args) w:=by
 rcases(by omega:k=0∨k=1∨k=2∨k=3∨k=4) with rfl|rfl|rfl|rfl|rfl<;>rfl
theorem Xwx (s:ByteArray)(w:World)(hs:s.size≤1000000)(hE:Env w):
    Calls prog 90 #[.string s] w (Ygm (bs s) w):=by
 obtain⟨zs,hzs⟩:=xq (Xmc 0 Xic)
 have ZCL:Hid (Cl 56 zs):=Hd (by rw[hzs];exact Xd7 0 _ (by simp[Xic]) Xer)
 have BK:Hid (∀w,(Instr.build 139 #[]).run prog w=.ok (.agg zs) w):=Hd (fun w=>by rw[hzs];kernel_rfl)
 obtain⟨w0,hw0⟩:=xq (w.alloc (.cells zs 139))
 have EW:Hid (w0=w.alloc (.cells #[.int .i64 0,.int .u8 0,.int .u8 0,.int .u8 0,.int .u8 0,.int .u8 0,.int .u8 0,.int .u8 0,.int .u8 0,.int .u8 0,.int .u8 0,.int .u8 0,.int .u8 0,.int .u8 0,.int .u8 0,.int .u8 0,.int .u8 0,.int .u8 0,.int .u8 0,.int .u8 0,.int .u8 0,.int .u8 0,.int .u8 0,.int .u8 0,.int .u8 0,.int .u8 0,.int .u8 0,.int .u8 0,.int .u8 0,.int .u8 0,.int .u8 0,.int .u8 0,.int .u8 0,.string ⟨#[]⟩,.int .i64 0,.bool false,.slice none 0 0,.string ⟨#[]⟩,.int .i64 0,.int .i64 0,.int .u8 0,.int .u8 0,.int .u8 0,.int .u8 0,.int .u8 0,.int .u8 0,.int .u8 0,.int .u8 0,.int .u8 0,.int .u8 0,.int .u8 0,.int .u8 0,.int .u8 0,.int .u8 0,.int .u8 0,.int .u8 0] 139)):=Hd (by rw[hw0,hzs];rfl)
 have B0:Hid (Bw w w0):=Hd (by rw[hw0];exact(zR _ _).alloc (zL _) _)
 have M0:Hid (MB w0 w.heap.size):=Hd ⟨zs,by rw[hw0];exact zN w _,ZCL.o⟩
 have E0:=Hd (hE.on B0.o)
 have hw9:9≤w.heap.size:=hE.size
 have SZ0:Hid (w0.heap.size=w.heap.size+1):=Hd (by rw[hw0];simp)
 clear hzs hw0 hE
 by_cases hl:1000<s.size
 ·have F:Hid (Xea (bs s)=5):=Hd (by unfold Xea;rw[Xaa,qP hl])
  obtain⟨ST,W2,FR⟩:=M0.o.storeAll ZCL.o
  have ST:=Hd ST;have W2:=Hd W2
  have BB:Hid (Bw w (w0.setRow w.heap.size zs)):=Hd (B0.o.trans (FR.below B0.o.size (zL _)))
  have ZS:Hid (zs.size=56):=Hd ZCL.o.1
  clear FR
  go_enter func90,ntmps90
  go_upto_region 1 with fail
  rw[←EW.o]
  go_upto_region 2 with fail
  refine wp_region_list ?_
  simp only[]
  refine Xaf 139 rfl rfl ⟨_,BK.o _,?_⟩
  go_wp2_with ((with_reducible refine Xab 139 rfl _ _ rfl ?_);refine⟨_,_,_,rfl,rfl,ST.o,?_⟩)
  exact zP (Xat results90 _ _ w.heap.size _ _ _ _ rfl W2.o underlying139 rfl (by rw[ZS.o];exact Xax)) rfl ⟨zs,0,by rw[F.o];rfl,ZCL.o,BB.o⟩
 ·have hl2:s.size≤1000:=by omega
  obtain⟨x,y,ok,⟨hx,hy,hok,hxs⟩,hcut⟩:=Ya3 s 32 (by omega)
  have CUT:=Hd (hcut w0 E0.o.mx)
  have F0:Hid (Xea (bs s)=Xw0 (bs x) ((bs s).drop x.size)):=Hd (by rw[Xxz s x hx,qN hl])
  clear hl hx hy hok hcut
  go_enter func90,ntmps90
  go_upto_region 1 with fail
  rw[←EW.o]
  clear EW
  go_wp2_with fail
  refine CUT.o.mono ?_
  rintro e w1 ⟨rfl,hd1⟩
  have B1:=Hd (B0.o.trans ((Dr.below hd1).mono B0.o.size))
  have M1:=Hd (M0.o.on (Dr.below hd1))
  have E1:=Hd (E0.o.on (Dr.below hd1))
  clear CUT hd1 M0 B0 E0
  have FM:=Hd (Xw2 w1)
  go_wp2_with fail
  refine FM.o.mono ?_
  rintro e w2 ⟨b,l,rfl,hb2,hbb,hm,hlm⟩
  have B2:=bh B1 hb2
  have M2:=Hd (M1.o.on hb2)
  have E2:=Hd (E1.o.on hb2)
  have szR:w.heap.size<w2.heap.size:=M2.o.lt
  clear FM M1 B1 E1 hb2 hbb
  by_cases hk:∃k,k<5∧x=kN k
  ·obtain⟨k,hk5,hxk⟩:=hk
   have LK:=Yhu hm x (.func (.func (fN k)) #[] #[]) (by rw[hxk];exact Yh6 k hk5) ((hlm _).2 ⟨k,hk5,by rw[hxk];rfl⟩) (fun p hp h=>by
    obtain⟨j,hj,rfl⟩:=(hlm p).1 hp
    by_cases e:j=k
    ·subst e;rfl
    ·have h2:(kN k==kN j)=true:=by rw[←hxk];exact h
     rw[Ykq k hk5 j hj (fun e2=>e e2.symm)] at h2;cases h2)
   have F1:Hid (Xea (bs s)=FK k ((bs s).drop x.size)):=Hd (by rw[F0.o,hxk,Ybd hk5])
   have HK:=Hd hk5
   obtain⟨fk,hfk⟩:=xq (fN k)
   have FN:Hid (∀(w:World) (b:Nat) (st en:Nat) (at_:Int) (er:Nat) (h:WS w b s st en at_ er) (hE:Env w) (hb9:9≤b),Calls prog fk #[.pointer (some ⟨b,0,none⟩)] w (Xcy w b s en er (FK k))):=Hd (fun w b st en at_ er h hE hb9=>by rw[hfk];exact Yac hk5 w b s st en at_ er h hE hb9 (by omega))
   have CF:Hid (∀args w,(callFunc fk args).run prog w=.ok (.enter fk args) w):=Hd (fun args w=>by rw[hfk];exact Yis hk5 args w)
   rw[←hfk] at LK
   clear hm hlm hxk F0 hk5 hfk
   have hxs':x.size≤s.size:=hxs
   go_upto_region 8 with fail
   clear LK
   obtain⟨w3,hw3⟩:=xq (w2.alloc (.cells #[.string s,.int .i64 0,.int .i64 (x.size:Int),.int .i64 0,.int .i64 0] 207))
   have b3:Bw w2 w3:=by rw[hw3];exact(zR _ _).alloc (zL _) _
   have S3:Hid (WS w3 w2.heap.size s 0 x.size 0 0):=Hd ⟨by rw[hw3];exact zN w2 _,hxs⟩
   have B3:=bh B2 b3
   have M3:=Hd (M2.o.on b3)
   have E3:=Hd (E2.o.on b3)
   rw[←hw3]
   clear b3 hw3 B2 M2 E2
   have C:=Hd (FN.o w3 w2.heap.size 0 x.size 0 0 S3.o E3.o (by omega))
   clear FN
   have cf:=CF.o #[.pointer (some ⟨w2.heap.size,0,none⟩)] w3
   clear CF
   go_wp2_with fail
   clear cf
   refine C.o.mono ?_
   rintro e w4 ⟨cs,st',en',a,er',rfl,hcl,h4,f4,hlaw⟩
   have CL:=Hd hcl
   have M4:=Hd (M3.o.fr f4 (by omega))
   have B4:=Hd (B3.o.trans (f4.below B3.o.size (by omega)))
   obtain⟨ST,W5,f5⟩:=M4.o.storeAll hcl
   obtain⟨w5,hw5⟩:=xq (w4.setRow w.heap.size cs)
   rw[←hw5] at ST W5 f5
   have ST:=Hd ST
   have M5:Hid (MB w5 w.heap.size):=Hd ⟨cs,W5,hcl⟩
   have S5:=Hd (h4.fr f5 (by omega))
   have B5:=Hd (B4.o.trans (f5.below B4.o.size (zL _)))
   have LAW:Hid (fe er' (fin ((bs s).drop en'))=Xea (bs s)):=Hd (by rw[hlaw,F1.o];rfl)
   clear hcl h4 f4 hlaw C B3 M3 E3 S3 W5 f5 hw5 M4 B4
   have hc2:w5.cell? ⟨w2.heap.size,2,none⟩=some (.int .i64 (en':Int)):=cell_of_row w5 w2.heap.size 2 _ _ _ S5.o.1
   have hen':=S5.o.2
   have LEN:=Hd (Xaa s)
   by_cases hen:en'<s.size
   ·have FL:=Hd (Xb8 w5 w2.heap.size s st' en' a er' S5.o (en':Int) 5)
    have L5:Hid (fe er' 5=Xea (bs s)):=Hd (by
     have:=LAW.o
     have h5:fin ((bs s).drop en')=5:=by unfold fin;rw[qN (by rw[List.drop_eq_nil_iff,LEN.o];omega)]
     rw[h5] at this;exact this)
    go_wp2_with ((with_reducible refine Xab 139 rfl _ _ rfl ?_);refine⟨_,_,_,rfl,rfl,ST.o,?_⟩)
    refine FL.o.mono ?_
    rintro e w6 ⟨⟨v6,rfl⟩,⟨a6,h6⟩,f6⟩
    have M6:=Hd (M5.o.fr f6 (by omega))
    have B6:=Hd (B5.o.trans (f6.below B5.o.size (by omega)))
    obtain⟨er6,her6⟩:=xq (fe er' 5)
    rw[←her6] at h6
    have S6:=Hd h6
    have LAW6:Hid (er6=Xea (bs s)):=Hd (by rw[her6];exact L5.o)
    clear h6 f6 her6 FL L5 LAW hen hc2 M5 B5 S5 ST
    have hc4:w6.cell? ⟨w2.heap.size,4,none⟩=some (.int .i64 (er6:Int)):=cell_of_row w6 w2.heap.size 4 _ _ _ S6.o.1
    have hc3:w6.cell? ⟨w2.heap.size,3,none⟩=some (.int .i64 a6):=cell_of_row w6 w2.heap.size 3 _ _ _ S6.o.1
    by_cases e0:er6=0
    ·have q:((er6:Int) !=0)=false:=by rw[e0];rfl
     have L0:Hid (Xea (bs s)=0):=Hd (by rw[←LAW6.o,e0])
     obtain⟨c6,hp6,hcl6⟩:=M6.o
     obtain⟨ST6,W7,f7⟩:=M6.o.storeAll hcl6
     have ST6:=Hd ST6;have W7:=Hd W7
     have LD:=Hd (Xal w6 w.heap.size 56 _ _ c6 _ _ hp6 rfl underlying139 Xax hcl6.1)
     have CL6:=Hd hcl6
     have B7:=Hd (B6.o.trans (f7.below B6.o.size (zL _)))
     clear e0 hp6 hcl6 f7 LAW6
     go_upto_region 13 with fail
     refine wp_region_list ?_
     simp only[]
     refine Xac 139 rfl _ rfl ⟨_,_,rfl,LD.o,?_⟩
     go_wp2_with ((with_reducible refine Xab 139 rfl _ _ rfl ?_);refine⟨_,_,_,rfl,rfl,ST6.o,?_⟩)
     exact zP (Xat results90 _ _ w.heap.size _ _ _ _ rfl W7.o underlying139 rfl (by rw[CL6.o.1];exact Xax)) rfl ⟨c6,0,by rw[L0.o];rfl,CL6.o,B7.o⟩
    ·have q:((er6:Int) !=0)=true:=Xam (by omega)
     clear e0
     go_upto_region 12 with fail
     have M7:=Hd (M6.o.on (Dr.below ⟨1,rfl⟩:Bw w6 w6.drew))
     have B7:=Hd (B6.o.trans ((Dr.below ⟨1,rfl⟩:Bw w6 w6.drew).mono B6.o.size))
     have c3':w6.drew.cell? ⟨w2.heap.size,3,none⟩=some (.int .i64 a6):=hc3
     have c4':w6.drew.cell? ⟨w2.heap.size,4,none⟩=some (.int .i64 (er6:Int)):=hc4
     obtain⟨ST7,W8,f8⟩:=M7.o.storeAll ZCL.o
     have HS:S34 w2.heap.size a6 er6 w6.drew:=⟨c3',c4'⟩
     have HS8:S34 w2.heap.size a6 er6 (w6.drew.setRow w.heap.size zs):=by
      have ho:(w6.drew.setRow w.heap.size zs).heap[w2.heap.size]?=w6.drew.heap[w2.heap.size]?:=f8.other _ S6.o.lt (by omega)
      exact⟨by rw[←c3'];unfold World.cell?;simp only[ho],by rw[←c4'];unfold World.cell?;simp only[ho]⟩
     have B8:=Hd (B7.o.trans (f8.below B7.o.size (zL _)))
     obtain⟨w8,hw8⟩:=xq (w6.drew.setRow w.heap.size zs)
     rw[←hw8] at ST7 W8 HS8 B8
     refine wp_region_held (S:=S34 w2.heap.size a6 er6) (by kernel_rfl) ?_
     change wpAnyH _ _ _ _ _ _ _ _ w6.drew
     refine Xad 0 (.agg zs) rfl (fun w' hw'=>Xc1 (ps:=#[]) rfl (by simpa using BK.o w')) HS ?_
     refine Xad 1 (.pointer (some ⟨w2.heap.size,0,none⟩)) rfl (fun w' hw'=>by obtain⟨c3,c4⟩:=hw';go_simp) HS ?_
     refine Xad 2 (.pointer (some ⟨w2.heap.size,0,none⟩)) rfl (fun w' hw'=>by obtain⟨c3,c4⟩:=hw';go_simp) HS ?_
     refine Xad 3 (.pointer (some ⟨w2.heap.size,3,none⟩)) rfl (fun w' hw'=>by obtain⟨c3,c4⟩:=hw';go_simp) HS ?_
     refine Xad 4 (.int .i64 a6) rfl (fun w' hw'=>by obtain⟨c3,c4⟩:=hw';go_simp) HS ?_
     refine Xad 5 (.pointer (some ⟨w2.heap.size,0,none⟩)) rfl (fun w' hw'=>by obtain⟨c3,c4⟩:=hw';go_simp) HS ?_
     refine Xad 6 (.pointer (some ⟨w2.heap.size,0,none⟩)) rfl (fun w' hw'=>by obtain⟨c3,c4⟩:=hw';go_simp) HS ?_
     refine Xad 7 (.pointer (some ⟨w2.heap.size,4,none⟩)) rfl (fun w' hw'=>by obtain⟨c3,c4⟩:=hw';go_simp) HS ?_
     refine Xad 8 (.int .i64 (er6:Int)) rfl (fun w' hw'=>by obtain⟨c3,c4⟩:=hw';go_simp) HS ?_
     refine Xa6 (i:=9) (by kernel_rfl) rfl rfl (Xar (t:=139) (x:=.tmp 2) (y:=.tmp 56) (ad:=⟨w.heap.size,0,none⟩) (u:=.agg zs) rfl (by kernel_rfl) (by kernel_rfl) ST7) HS8 ?_
     refine Xay (i:=10) (v:=.int .i64 a6) (by kernel_rfl) rfl rfl (Xap (x:=.tmp 60) rfl (by kernel_rfl)) HS8 ?_
     refine Xay (i:=11) (v:=.int .i64 (er6:Int)) (by kernel_rfl) rfl rfl (Xap (x:=.tmp 64) rfl (by kernel_rfl)) HS8 ?_
     refine wpAnyH_done (by kernel_rfl) ?_ _
     have W8:=Hd W8
     clear HS HS8 c3' c4' ST7 f8 hw8 hc3 hc4
     go_simp
     refine‹∀(a:Act) (w_1:World),Code.wp _ _ _ a w_1→_› _ _ ?_
     go_wp2_with fail
     exact zP (Xat results90 _ _ w.heap.size _ _ _ _ rfl W8.o underlying139 rfl (by rw[ZCL.o.1];exact Xax)) rfl ⟨zs,a6,by rw[←LAW6.o];rfl,ZCL.o,B8.o⟩
   ·have L0':Hid (er'=Xea (bs s)):=Hd (by
       have:=LAW.o
       have h5:fin ((bs s).drop en')=0:=by unfold fin;rw[qP (by rw[List.drop_eq_nil_iff,LEN.o];omega)]
       rw[h5,Xqb] at this;exact this)
    go_upto_region 11 with((with_reducible refine Xab 139 rfl _ _ rfl ?_);refine⟨_,_,_,rfl,rfl,ST.o,?_⟩)
    obtain⟨w6,hw6⟩:=xq w5
    obtain⟨er6,her6⟩:=xq er'
    obtain⟨a6,ha6⟩:=xq a
    rw[←hw6,←her6,←ha6] at S5
    rw[←hw6] at M5 B5⊢
    rw[←her6] at L0'
    have S6:=S5;have M6:=M5;have B6:=B5;have LAW6:=L0'
    clear S5 M5 B5 L0' LAW hen hc2 hw6 her6 ha6 ST
    have hc4:w6.cell? ⟨w2.heap.size,4,none⟩=some (.int .i64 (er6:Int)):=cell_of_row w6 w2.heap.size 4 _ _ _ S6.o.1
    have hc3:w6.cell? ⟨w2.heap.size,3,none⟩=some (.int .i64 a6):=cell_of_row w6 w2.heap.size 3 _ _ _ S6.o.1
    by_cases e0:er6=0
    ·have q:((er6:Int) !=0)=false:=by rw[e0];rfl
     have L0:Hid (Xea (bs s)=0):=Hd (by rw[←LAW6.o,e0])
     obtain⟨c6,hp6,hcl6⟩:=M6.o
     obtain⟨ST6,W7,f7⟩:=M6.o.storeAll hcl6
     have ST6:=Hd ST6;have W7:=Hd W7
     have LD:=Hd (Xal w6 w.heap.size 56 _ _ c6 _ _ hp6 rfl underlying139 Xax hcl6.1)
     have CL6:=Hd hcl6
     have B7:=Hd (B6.o.trans (f7.below B6.o.size (zL _)))
     clear e0 hp6 hcl6 f7 LAW6
     go_upto_region 13 with fail
     refine wp_region_list ?_
     simp only[]
     refine Xac 139 rfl _ rfl ⟨_,_,rfl,LD.o,?_⟩
     go_wp2_with ((with_reducible refine Xab 139 rfl _ _ rfl ?_);refine⟨_,_,_,rfl,rfl,ST6.o,?_⟩)
     exact zP (Xat results90 _ _ w.heap.size _ _ _ _ rfl W7.o underlying139 rfl (by rw[CL6.o.1];exact Xax)) rfl ⟨c6,0,by rw[L0.o];rfl,CL6.o,B7.o⟩
    ·have q:((er6:Int) !=0)=true:=Xam (by omega)
     clear e0
     go_upto_region 12 with fail
     have M7:=Hd (M6.o.on (Dr.below ⟨1,rfl⟩:Bw w6 w6.drew))
     have B7:=Hd (B6.o.trans ((Dr.below ⟨1,rfl⟩:Bw w6 w6.drew).mono B6.o.size))
     have c3':w6.drew.cell? ⟨w2.heap.size,3,none⟩=some (.int .i64 a6):=hc3
     have c4':w6.drew.cell? ⟨w2.heap.size,4,none⟩=some (.int .i64 (er6:Int)):=hc4
     obtain⟨ST7,W8,f8⟩:=M7.o.storeAll ZCL.o
     have HS:S34 w2.heap.size a6 er6 w6.drew:=⟨c3',c4'⟩
     have HS8:S34 w2.heap.size a6 er6 (w6.drew.setRow w.heap.size zs):=by
      have ho:(w6.drew.setRow w.heap.size zs).heap[w2.heap.size]?=w6.drew.heap[w2.heap.size]?:=f8.other _ S6.o.lt (by omega)
      exact⟨by rw[←c3'];unfold World.cell?;simp only[ho],by rw[←c4'];unfold World.cell?;simp only[ho]⟩
     have B8:=Hd (B7.o.trans (f8.below B7.o.size (zL _)))
     obtain⟨w8,hw8⟩:=xq (w6.drew.setRow w.heap.size zs)
     rw[←hw8] at ST7 W8 HS8 B8
     refine wp_region_held (S:=S34 w2.heap.size a6 er6) (by kernel_rfl) ?_
     change wpAnyH _ _ _ _ _ _ _ _ w6.drew
     refine Xad 0 (.agg zs) rfl (fun w' hw'=>Xc1 (ps:=#[]) rfl (by simpa using BK.o w')) HS ?_
     refine Xad 1 (.pointer (some ⟨w2.heap.size,0,none⟩)) rfl (fun w' hw'=>by obtain⟨c3,c4⟩:=hw';go_simp) HS ?_
     refine Xad 2 (.pointer (some ⟨w2.heap.size,0,none⟩)) rfl (fun w' hw'=>by obtain⟨c3,c4⟩:=hw';go_simp) HS ?_
     refine Xad 3 (.pointer (some ⟨w2.heap.size,3,none⟩)) rfl (fun w' hw'=>by obtain⟨c3,c4⟩:=hw';go_simp) HS ?_
     refine Xad 4 (.int .i64 a6) rfl (fun w' hw'=>by obtain⟨c3,c4⟩:=hw';go_simp) HS ?_
     refine Xad 5 (.pointer (some ⟨w2.heap.size,0,none⟩)) rfl (fun w' hw'=>by obtain⟨c3,c4⟩:=hw';go_simp) HS ?_
     refine Xad 6 (.pointer (some ⟨w2.heap.size,0,none⟩)) rfl (fun w' hw'=>by obtain⟨c3,c4⟩:=hw';go_simp) HS ?_
     refine Xad 7 (.pointer (some ⟨w2.heap.size,4,none⟩)) rfl (fun w' hw'=>by obtain⟨c3,c4⟩:=hw';go_simp) HS ?_
     refine Xad 8 (.int .i64 (er6:Int)) rfl (fun w' hw'=>by obtain⟨c3,c4⟩:=hw';go_simp) HS ?_
     refine Xa6 (i:=9) (by kernel_rfl) rfl rfl (Xar (t:=139) (x:=.tmp 2) (y:=.tmp 56) (ad:=⟨w.heap.size,0,none⟩) (u:=.agg zs) rfl (by kernel_rfl) (by kernel_rfl) ST7) HS8 ?_
     refine Xay (i:=10) (v:=.int .i64 a6) (by kernel_rfl) rfl rfl (Xap (x:=.tmp 60) rfl (by kernel_rfl)) HS8 ?_
     refine Xay (i:=11) (v:=.int .i64 (er6:Int)) (by kernel_rfl) rfl rfl (Xap (x:=.tmp 64) rfl (by kernel_rfl)) HS8 ?_
     refine wpAnyH_done (by kernel_rfl) ?_ _
     have W8:=Hd W8
     clear HS HS8 c3' c4' ST7 f8 hw8 hc3 hc4
     go_simp
     refine‹∀(a:Act) (w_1:World),Code.wp _ _ _ a w_1→_› _ _ ?_
     go_wp2_with fail
     exact zP (Xat results90 _ _ w.heap.size _ _ _ _ rfl W8.o underlying139 rfl (by rw[ZCL.o.1];exact Xax)) rfl ⟨zs,a6,by rw[←LAW6.o];rfl,ZCL.o,B8.o⟩
  ·have hno:∀k<5,x≠kN k:=fun k hk5 e=>hk ⟨k,hk5,e⟩
   have LK:=Yht hm x (fun p hp=>by
    obtain⟨j,hj,rfl⟩:=(hlm p).1 hp
    exact Ydw (hno j hj))
   have F1:Hid (Xea (bs s)=11):=Hd (by rw[F0.o,Ybc hno])
   obtain⟨ST,W3,f3⟩:=M2.o.storeAll ZCL.o
   have ST:=Hd ST;have W3:=Hd W3
   have B3:=Hd (B2.o.trans (f3.below B2.o.size (zL _)))
   clear hm hlm hk hno F0 f3
   go_upto_region 6 with fail
   clear LK
   refine wp_region_list ?_
   simp only[]
   refine Xaf 139 rfl rfl ⟨_,BK.o _,?_⟩
   go_wp2_with ((with_reducible refine Xab 139 rfl _ _ rfl ?_);refine⟨_,_,_,rfl,rfl,ST.o,?_⟩)
   exact zP (Xat results90 _ _ w.heap.size _ _ _ _ rfl W3.o underlying139 rfl (by rw[ZCL.o.1];exact Xax)) rfl ⟨zs,0,by rw[F1.o];rfl,ZCL.o,B3.o⟩
def CB (w:World)(b:Nat)(c:Cn)(gv rv:Value)(T:TypeId):Prop:=w.heap[b]?=some (.cells (c.cells gv rv) T (0,0))
theorem CB.on {w w':World}{b:Nat}{c:Cn}{gv rv:Value}{T:TypeId}(h:CB w b c gv rv T)(hb:Bw w w'):CB w' b c gv rv T:=(hb.block b (zY h)).trans h
theorem CB.new (w:World)(c:Cn)(gv rv:Value)(T:TypeId):CB (w.alloc (.cells (c.cells gv rv) T)) w.heap.size c gv rv T:=heap_alloc_last w _
theorem CB.lt {w:World}{b:Nat}{c:Cn}{gv rv:Value}{T:TypeId}(h:CB w b c gv rv T):b<w.heap.size:=zY h
section
variable {w:World} {b:Nat} {c:Cn} {gv rv:Value} {T:TypeId} (h:CB w b c gv rv T)
include h
theorem CB.at {j:Nat}{u:Value}(hu:(c.cells gv rv)[j]?=some u):w.cell? ⟨b,j,none⟩=some u:=by rw[cell_of_row w b j _ _ _ h];exact hu
theorem CB.part (off:Nat){ids:Array Value}(hp:∀j u,ids[j]?=some u→(c.cells gv rv)[off+j]?=some u):∀j u,ids[j]?=some u→w.cell? ⟨b,off+j,none⟩=some u:=fun j u hu=>by rw[cell_of_row w b (off+j) _ _ _ h];exact hp j u hu
theorem CB.pk (hc:c.Ok):Ld 37 ⟨b,56,none⟩ w (.agg (pkC c.height c.root)):=Xru w b 56 hc.root.len (h.part 56 (Ya8 hc gv rv))
theorem CB.sup (hc:c.Ok):Ld 26 ⟨b,21,none⟩ w (.agg (idA c.sup)):=Xah w b 21 26 _ _ underlying26 rfl (by rw[Xag,hc.sup.len];exact Xa3) (h.part 21 (Ylf hc gv rv))
theorem CB.author (hc:c.Ok):Ld 35 ⟨b,1,none⟩ w (.agg (idA c.author)):=Xah w b 1 35 _ _ underlying35 rfl (by rw[Xag,hc.author.len];exact Xkf) (h.part 1 (Xqn c gv rv))
end
theorem Xbg:(prog.info? 39).map (·.size)=some 75:=by kernel_rfl
theorem CB.all {w:World}{b:Nat}{c:Cn}{gv rv:Value}{T:TypeId}(h:CB w b c gv rv T)(hc:c.Ok):Ld 39 ⟨b,0,none⟩ w (.agg (c.cells gv rv)):=
 Xah w b 0 39 _ _ underlying39 rfl (by rw[Xa2 hc];exact Xbg) (Xgg w b T _ _ h)
theorem Xhx {n:Int}(h:(Lit.int .i64 n).wf=true):-9223372036854775808≤n∧n≤9223372036854775807:=by
 simp[Lit.wf,IntKind.min,IntKind.max,IntKind.signed,IntKind.bits] at h
 omega
def Yl1 (c:Cn)(w:World)(e:Ending)(w':World):Prop:=
 ∃t:ByteArray,e=.returned (.tuple #[.string t,.int .i64 (eIf (!Xav c.height) 2:Nat)])∧(Xav c.height=true→bs t=Xi7 c.p)∧t.size≤2000∧Bw w w'
theorem Xgw (a b:ByteArray):bs (a++b)=bs a++bs b:=by
 simp[bs,ByteArray.data_append]
theorem Xzq (w:World)(c:Cn)(hc:c.Ok)(gv rv:Value)(hE:Env w):
    Calls prog 36 #[.agg (c.cells gv rv)] w (Yl1 c w):=by
 have C0:=CB.new w c gv rv 39
 have B0:Hid (Bw w (w.alloc (.cells (c.cells gv rv) 39))):=Hd ((zR _ _).alloc (zL _) _)
 have LD:=Hd (C0.pk hc)
 have PT:=Hd (Xyx (w.alloc (.cells (c.cells gv rv) 39)) c.height hc.root (hE.on B0.o))
 have NUM:Hid (∀w',Below (w.alloc (.cells (c.cells gv rv) 39)).heap.size (w.alloc (.cells (c.cells gv rv) 39)) w'→w'.cell? ⟨w.heap.size,55,none⟩=some (.int .i64 c.number)):=Hd (fun w' hb=>(C0.on hb).at (Xjm hc gv rv))
 have DG:Hid (∀w',Env w'→Calls prog 38 #[.int .i64 c.number] w' (Yb4 c.number w')):=Hd (fun w' he=>Xlj c.number (Xhx hc.number).1 (Xhx hc.number).2 w' he)
 have HE:=Hd hE
 have KF:Hid (Xi7 c.p=Xdq c.number++32::Xfk ((c.height%256).toNat::c.root)):=Hd rfl
 obtain⟨cs,hcs⟩:=xq (c.cells gv rv)
 rw[←hcs] at B0 LD PT NUM⊢
 obtain⟨pk,hpk⟩:=xq (pkC c.height c.root)
 rw[←hpk] at LD PT
 clear hcs hpk C0 hE hc
 go_enter func36,ntmps36
 go_wp2_with ((with_reducible refine Xac 37 rfl _ rfl ?_);refine⟨_,_,rfl,LD.o,?_⟩)
 refine PT.o.mono ?_
 rintro e w1 ⟨t,rfl,ht,hts,hb1⟩
 have B1:=bh B0 hb1
 have num:=NUM.o w1 hb1
 have D1:=Hd (DG.o w1 (HE.o.on B1.o))
 have HT:=Hd ht
 clear hb1 PT LD NUM DG ht
 go_wp2_with fail
 refine D1.o.mono ?_
 rintro e w2 ⟨d,rfl,hd,hds,hb2⟩
 have B2:=bh B1 hb2
 have HD:=Hd hd
 have z1:(d++(⟨#[32]⟩:ByteArray)).size≤22:=by rw[ByteArray.size_append];show d.size+1≤22;omega
 have z2:(d++(⟨#[32]⟩:ByteArray)++t).size≤2000:=by rw[ByteArray.size_append];omega
 have Z2:=Hd z2
 clear hb2 D1 num hd z2
 go_wp2_with fail
 go_ret2
 exact⟨_,rfl,(fun h=>by rw[Xgw,Xgw,HD.o,HT.o h,KF.o];simp[bs]),Z2.o,B2.o⟩
end Go.Proofs.YtjolcnopipbkhaaGreatDoor
