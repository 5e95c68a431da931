/- sha256: Sum. -/
import Derived.Test.YtjolcnopipbkhaaGreatDoorFo08
namespace Go.Proofs.YtjolcnopipbkhaaGreatDoor
open Go.Proofs.Tryz
open Go.RowKit Go.Maps
set_option linter.unusedVariables false
set_option maxHeartbeats 100000000
set_option maxRecDepth 100000
theorem Yhb {w:World}{B n cap:Nat}{a:Option Addr}{xs:List Nat}(h:w.ownsRow B 5 1 (.slice a n cap) n (xs.map U))(hx:∀x∈xs,x<256):Rd w a xs:=by
 have hl:=h.1
 rw[Nat.mul_one,List.length_map] at hl
 rcases h.2 with⟨e,_⟩|⟨g,c,cur,e,_,hg,_,_,_,ht⟩
 ·cases e
  exact⟨hx,fun h0=>by omega⟩
 ·cases e
  refine⟨hx,fun h0=>⟨g,0,rfl,zY hg,fun i hi=>?_⟩⟩
  rw[cell_of_row w g (0+i) _ _ _ hg,Nat.zero_add]
  have:=congrArg (fun z=>z[i]?) ht
  simp only[List.getElem?_map,List.getElem?_eq_getElem hi,Option.map_some] at this
  rw[←this,Nat.mul_one,List.getElem?_take_of_lt (by omega)]
  simp
def Yio (len k:Nat):Nat:=(8*len%18446744073709551616)/2^(56-8*k)%256
def Xl0 (len k:Nat):List Nat:=128::List.replicate (Yf5 len) 0++(List.range k).map (Yio len)
theorem Xpr (len k:Nat):Xl0 len (k+1)=Xl0 len k++[Yio len k]:=by simp[Xl0,List.range_succ]
theorem Xps (len:Nat):Xl0 len 8=Xrn len:=rfl
theorem Xrm (len:Nat):∀x∈Xrn len,x<256:=by
 intro x hx
 rw[←Xps] at hx
 unfold Xl0 Yio at hx
 simp only[List.cons_append,List.mem_cons,List.mem_append,List.mem_replicate,List.mem_map] at hx
 rcases hx with rfl|⟨_,rfl⟩|⟨k,_,rfl⟩
 ·decide
 ·decide
 ·exact Nat.mod_lt _ (by decide)
theorem Xt4 (len:Nat):(Xrn len).length≤100:=by
 rw[←Xps];simp[Xl0,Yf5];omega
theorem OW.slice {B:Nat}{xs:List Nat}{v:Value}{w:World}(h:OW B xs v w)(h0:0<xs.length):∃g c,v=.slice (some ⟨g,0,none⟩) xs.length c∧xs.length≤c∧c≤maxLen∧B≤g∧g<w.heap.size:=by
 rcases h.2 with⟨_,e⟩|⟨g,c,cur,e,hb,hg,hc,hm,_,_⟩
 ·omega
 ·exact⟨g,c,e,hc,hm,hb,zY hg⟩
theorem Ygb:hC hs0=#[.int .u32 0,.int .u32 0,.int .u32 0,.int .u32 0,.int .u32 0,.int .u32 0,.int .u32 0,.int .u32 0,.int .u8 0,.int .u8 0,.int .u8 0,.int .u8 0,.int .u8 0,.int .u8 0,.int .u8 0,.int .u8 0,.int .u8 0,.int .u8 0,.int .u8 0,.int .u8 0,.int .u8 0,.int .u8 0,.int .u8 0,.int .u8 0,.int .u8 0,.int .u8 0,.int .u8 0,.int .u8 0,.int .u8 0,.int .u8 0,.int .u8 0,.int .u8 0,.int .u8 0,.int .u8 0,.int .u8 0,.int .u8 0,.int .u8 0,.int .u8 0,.int .u8 0,.int .u8 0,.int .u8 0,.int .u8 0,.int .u8 0,.int .u8 0,.int .u8 0,.int .u8 0,.int .u8 0,.int .u8 0,.int .u8 0,.int .u8 0,.int .u8 0,.int .u8 0,.int .u8 0,.int .u8 0,.int .u8 0,.int .u8 0,.int .u8 0,.int .u8 0,.int .u8 0,.int .u8 0,.int .u8 0,.int .u8 0,.int .u8 0,.int .u8 0,.int .u8 0,.int .u8 0,.int .u8 0,.int .u8 0,.int .u8 0,.int .u8 0,.int .u8 0,.int .u8 0,.int .i64 0]:=by rfl
theorem Rd.onB {w w':World}{a:Option Addr}{l:List Nat}(h:Rd w a l)(hb:Bw w w'):Rd w' a l:=by
 refine⟨h.lt,fun h0=>?_⟩
 obtain⟨b,off,rfl,hbw,hc⟩:=h.at_ h0
 exact⟨b,off,rfl,Nat.lt_of_lt_of_le hbw hb.size,fun i hi=>(hb.cell (by exact hbw)).trans (hc i hi)⟩
theorem Yf4 (n:Nat):Xl0 n 0=128::List.replicate (Yf5 n) 0:=by simp[Xl0]
theorem Xhf (w:World)(b:Nat)(cs:Array Value):Fr1 b w (w.setRow b cs):=⟨rfl,rfl,rfl,by simp[World.setRow],fun k hk hne=>setRow_other w b k cs hne⟩
theorem Xpm (k:Nat):128::List.replicate (k+1) 0=(128::List.replicate k 0)++[0]:=by rw[List.replicate_succ'];rfl
theorem Yeh (w:World)(b:Nat)(h:Hs)(hk:HK w b h)(ho:h.Ok)(hl:h.len≤100000000)(hE:Env w):
    zJ 86 #[.pointer (some ⟨b,0,none⟩)] w (.agg (idA (smF h))):=by
 obtain⟨i0,hi0,hz0,hz1,hz2⟩:=info_parts Xhw
 have hb:=hk.lt
 obtain⟨zs,hzs⟩:=xq (idA (List.replicate 32 0))
 have Z0:Hid (zs=#[.int .u8 0,.int .u8 0,.int .u8 0,.int .u8 0,.int .u8 0,.int .u8 0,.int .u8 0,.int .u8 0,.int .u8 0,.int .u8 0,.int .u8 0,.int .u8 0,.int .u8 0,.int .u8 0,.int .u8 0,.int .u8 0,.int .u8 0,.int .u8 0,.int .u8 0,.int .u8 0,.int .u8 0,.int .u8 0,.int .u8 0,.int .u8 0,.int .u8 0,.int .u8 0,.int .u8 0,.int .u8 0,.int .u8 0,.int .u8 0,.int .u8 0,.int .u8 0]):=Hd (by rw[hzs];rfl)
 obtain⟨wA,hwA⟩:=xq (w.alloc (.cells zs 90))
 have BA:Hid (Bw w wA):=Hd (by rw[hwA];exact(zR _ _).alloc (zL _) _)
 have RA:Hid (IB wA w.heap.size 90 (List.replicate 32 0)):=Hd (by unfold IB;rw[hwA,←hzs];exact heap_alloc_last w _)
 have SA:wA.heap.size=w.heap.size+1:=by rw[hwA];simp
 have HKA:Hid (HK wA b h):=Hd (hk.below BA.o)
 have WA:=Hd hwA
 obtain⟨n,hn⟩:=xq h.len
 have HN:=Hd hn
 rw[←hn] at hl
 have HO:=Hd ho;have HE:=Hd hE
 clear hwA hzs hk hn ho hE
 go_enter func86,ntmps86
 go_upto_region 3 with fail
 have WA':=WA.o
 rw[Z0.o] at WA'
 rw[←WA']
 clear WA' WA
 have SA':=Hd SA
 go_wp2_with fail
 have O1:Hid (OW (w.heap.size+1) [128] (.slice (some ⟨w.heap.size+1,0,none⟩) 1 1) (wA.alloc (.cells #[.int .u8 128] 5))):=Hd (by
  have:=heap_alloc_last wA (.cells #[.int .u8 128] 5)
  rw[SA'.o] at this
  exact⟨rfl,.inr ⟨w.heap.size+1,1,#[.int .u8 128],rfl,zL _,this,zL _,by decide,rfl,rfl⟩⟩)
 have B1:Hid (Below (w.heap.size+1) wA (wA.alloc (.cells #[.int .u8 128] 5))):=Hd ((zR _ _).alloc (by rw[SA'.o];exact zL _) _)
 obtain⟨P,hP⟩:=xq (Yf5 n)
 have hP2:P=(119-n%64)%64:=hP
 go_loopg [3] P (fun k v wr=>∃j:Nat,j≤P∧k=P-j∧Hid (OW (w.heap.size+1) (128::List.replicate j 0) v wr)∧Hid (Below (w.heap.size+1) wA wr))
 case atStart=>exact⟨0,by omega,rfl,O1,B1⟩
 case round=>
  clear O1 B1
  obtain⟨j,hj,rfl,ow,bw⟩:=hrel
  have c72:wr.cell? ⟨b,72,none⟩=some (.int .i64 (n:Int)):=by
   rw[HN.o];exact HK.len ((bw.o.block b (by omega)).trans HKA.o) HO.o.blk.len
  obtain⟨g,c,rfl,hgc,hcm,hBg,hgw⟩:=ow.o.slice (by simp)
  obtain⟨m,hm⟩:=xq (j+1)
  have hml:(128::List.replicate j 0:List Nat).length=m:=by simp[hm]
  rw[hml] at ow hgc⊢
  have hsz:w.heap.size+1≤wr.heap.size:=by have:=bw.o.size;omega
  obtain⟨r,hr⟩:=xq ((n+m)%64)
  have jt:((n:Int)+(m:Int)).tmod 64=(r:Int):=by rw[Int.tmod_eq_emod_of_nonneg (by omega)];omega
  have wN:IntKind.i64.wrap ((n:Int)+(m:Int))=(n:Int)+(m:Int):=IntWalk.i64_in _ (by omega)
  have OWN:Hid (wr.ownsRow (w.heap.size+1) 5 1 (.slice (some ⟨g,0,none⟩) m c) m ((128::List.replicate j 0:List Nat).map U)):=Hd (by have:=ow.o;unfold OW at this;rw[hml] at this;exact this)
  have hP63:P≤63:=by omega
  have hm64:m≤64:=by omega
  obtain⟨xs,hxs⟩:=xq ((128::List.replicate j 0:List Nat))
  by_cases hlt:j<P
  ·have hne:((r:Int) !=56)=true:=by
      have:r≠56:=by omega
      simpa using(by omega:¬((r:Int)=56))
   have FIN:Hid (∀(v':Value) (w1:World),w1.ownsRow (w.heap.size+1) 5 1 v' (m+1) (xs.map U++[.int .u8 0])→(wr.alloc (.cells #[.int .u8 0] 5)).grownBy w1 (Value.slice (some ⟨g,0,none⟩) m c).ownBlock→OW (w.heap.size+1) (128::List.replicate (j+1) 0) v' w1∧Below (w.heap.size+1) wA w1):=Hd (fun v' w1 h1 h2=>⟨by
       rw[Xpm,←hxs];rw[hxs] at h1⊢;rw[←hml] at h1;exact OW.app (ys:=[0]) rfl rfl h1,Xe1 bw.o hsz (zL _) ow.o h2⟩)
   rw[←hxs] at OWN
   have HP:=Hd hP2
   clear hr hm hP2 hP hml SA hxs hgc
   go_wp2_with (at_builtin;refine wpList_append_own _ rfl _ _ 82 rfl (w.heap.size+1) 5 i0 (.int .u8 0) 1 1 underlying82 hi0 hz0 hz1 hz2 rfl (by decide) _ _ _ rfl (OWN.o.alloc _) ⟨wr.heap.size,0,none⟩ 1 1 [.int .u8 0] rfl rfl (World.news_of_block (cs:=#[.int .u8 0]) (t:=5) (fr:=(0,0)) (zN wr _)) (by simp[Value.oneCell']) (by unfold maxLen;omega) (by omega) (by simp;omega) ?_;intro v' w3 hown' hgrow _)
   have F:=Hd (FIN.o _ w3 hown' hgrow)
   clear hown' hgrow FIN
   go_wp2_with fail
   go_roundg (P-(j+1))
   case measure=>omega
   case rel=>exact⟨j+1,by omega,rfl,Hd F.o.1,Hd F.o.2⟩
  ·obtain rfl:j=P:=by omega
   have he:((r:Int) !=56)=false:=by
    have:r=56:=by omega
    rw[this];rfl
   have O2:Hid (OW (w.heap.size+1) (Xl0 n 0) (.slice (some ⟨g,0,none⟩) m c) wr):=Hd (by rw[Yf4,←hP];exact ow.o)
   have B2:=Hd bw.o
   obtain⟨C,hC⟩:=xq (8*n)
   have eC:(8*(n:Int))%18446744073709551616=(C:Int):=by omega
   have eC2:(8*(n:Int))=(C:Int):=by omega
   have hC2:C≤800000000:=by omega
   have n64:(n:Int)%18446744073709551616=(n:Int):=by omega
   have PL:=Hd (Xt4 n)
   have HCN:=Hd hC
   have hPN:Hid (∀q,(Xl0 n q).length=1+j+q):=Hd (fun q=>by unfold Xl0;rw[←hP];simp;omega)
   clear hr hm hP2 hP hml SA hxs OWN hgc ow bw hC
   go_wp2_with fail
   go_loopg [3,5,29] 8 (fun k v v5 i wq=>∃q:Nat,q≤8∧k=8-q∧i=.int .i64 (q:Int)∧Hid (OW (w.heap.size+1) (Xl0 n q) v wq)∧Hid (Below (w.heap.size+1) wA wq))
   case atStart=>exact⟨0,by omega,rfl,rfl,O2,B2⟩
   case round=>
    clear O2 B2 c72 he jt wN
    obtain⟨q,hq,rfl,rfl,ow,bw⟩:=hrel
    by_cases hq8:q<8
    ·have hgs:∃g c,u3=.slice (some ⟨g,0,none⟩) (1+j+q) c:=by
        obtain⟨g,c,h1,_⟩:=ow.o.slice (by rw[hPN.o];omega)
        rw[hPN.o] at h1
        exact⟨g,c,h1⟩
     obtain⟨g2,c2,rfl⟩:=hgs
     obtain⟨r2,hr2⟩:=xq (56-8*q)
     have e56:(56:Int)-8*(q:Int)=(r2:Int):=by omega
     obtain⟨y,hy⟩:=xq (Yio n q)
     have YI:Hid (((y:Nat):Int)=(C:Int)/2^r2%256):=Hd (by
      rw[hy,Yio,←HCN.o,←hr2,show C%18446744073709551616=C from Nat.mod_eq_of_lt (by omega),Int.natCast_emod,Int.natCast_ediv,Int.natCast_pow];rfl)
     have OWN:Hid (wr.ownsRow (w.heap.size+1) 5 1 (.slice (some ⟨g2,0,none⟩) (1+j+q) c2) (1+j+q) ((Xl0 n q).map U)):=Hd (by have:=ow.o;unfold OW at this;rw[hPN.o] at this;exact this)
     have hsz:w.heap.size+1≤wr.heap.size:=by have:=bw.o.size;have:=SA'.o;omega
     have FIN:Hid (∀(v':Value) (w1:World) (z:Value),z=.int .u8 (y:Int)→w1.ownsRow (w.heap.size+1) 5 1 v' ((1+j+q)+1) ((Xl0 n q).map U++[z])→(wr.alloc (.cells #[z] 5)).grownBy w1 (Value.slice (some ⟨g2,0,none⟩) (1+j+q) c2).ownBlock→OW (w.heap.size+1) (Xl0 n (q+1)) v' w1∧Below (w.heap.size+1) wA w1):=Hd (fun v' w1 z hz h1 h2=>⟨by
         subst hz;rw[Xpr,←hy];rw[←hPN.o q] at h1;exact OW.app (ys:=[y]) rfl rfl h1,Xe1 bw.o hsz (zL _) ow.o h2⟩)
     obtain⟨ps,hps⟩:=xq ((Xl0 n q).map U)
     rw[←hps] at OWN FIN
     obtain⟨m2,hm2⟩:=xq (1+j+q)
     rw[←hm2] at OWN FIN⊢
     have hm3:m2≤100:=by omega
     have hYZ:Hid (Value.int .u8 ((C:Int)/2^r2%256)=.int .u8 (y:Int)):=Hd (by rw[YI.o])
     clear hr2 hy hps hm2 ow bw
     go_wp2_with (at_builtin;refine wpList_append_own _ rfl _ _ 82 rfl (w.heap.size+1) 5 i0 (.int .u8 0) 1 1 underlying82 hi0 hz0 hz1 hz2 rfl (by decide) _ _ _ rfl (OWN.o.alloc _) ⟨wr.heap.size,0,none⟩ 1 1 [.int .u8 ((C:Int)/2^r2%256)] rfl rfl (World.news_of_block (cs:=#[.int .u8 ((C:Int)/2^r2%256)]) (t:=5) (fr:=(0,0)) (zN wr _)) (by simp[Value.oneCell']) (by unfold maxLen;omega) (by omega) (by simp;omega) ?_;intro v' w3 hown' hgrow _)
     have F:=Hd (FIN.o _ w3 _ hYZ.o hown' hgrow)
     clear hown' hgrow FIN
     go_wp2_with fail
     go_roundg (8-(q+1))
     case measure=>omega
     case rel=>exact⟨q+1,by omega,rfl,by go_num,Hd F.o.1,Hd F.o.2⟩
    ·obtain rfl:q=8:=by omega
     obtain⟨g2,c2,rfl,hgc2,hcm2,hBg2,hgw2⟩:=ow.o.slice (by rw[hPN.o];omega)
     have OWN:=ow.o
     unfold OW at OWN
     rw[hPN.o] at OWN hgc2⊢
     rw[Xps] at OWN
     have RD:Hid (Rd wr (some ⟨g2,0,none⟩) (Xrn n)):=Hd (Yhb OWN (Xrm n))
     have PLN:Hid ((Xrn n).length=1+j+8):=Hd (by rw[←Xps];exact hPN.o 8)
     have HKq:Hid (HK wr b h):=Hd ((bw.o.block b (by have:=SA'.o;omega)).trans HKA.o)
     have LD:=Hd (HKq.o.all HO.o.blk.len)
     have h9:=HE.o.size
     have hwz:w.heap.size+1≤wr.heap.size:=by have:=bw.o.size;have:=SA'.o;omega
     obtain⟨w4,hw4⟩:=xq (wr.alloc (.cells (hC hs0) 193))
     have H4:HK w4 wr.heap.size hs0:=by rw[hw4];exact heap_alloc_last wr _
     have ST0:Sv 193 ⟨wr.heap.size,0,none⟩ (.agg (hC h)) w4 (w4.setRow wr.heap.size (hC h)):=run_storeVar_row w4 wr.heap.size _ 193 _ _ H4 (by rw[Xla HO.o.blk.len];exact Xo7) (by rw[Xla HO.o.blk.len,Xla (by simp[hs0])]) (Yk3 h)
     obtain⟨w5,hw5⟩:=xq (w4.setRow wr.heap.size (hC h))
     have H5:HK w5 wr.heap.size h:=by rw[hw5];exact setRow_heap w4 _ _ _ _ _ H4
     have B5:Bw wr w5:=by rw[hw5,hw4];exact below_setRow ((zR _ _).alloc (zL _) _) (zL _) _
     have ST:Hid (Sv 193 ⟨wr.heap.size,0,none⟩ (.agg (hC h)) (wr.alloc (.cells #[.int .u32 0,.int .u32 0,.int .u32 0,.int .u32 0,.int .u32 0,.int .u32 0,.int .u32 0,.int .u32 0,.int .u8 0,.int .u8 0,.int .u8 0,.int .u8 0,.int .u8 0,.int .u8 0,.int .u8 0,.int .u8 0,.int .u8 0,.int .u8 0,.int .u8 0,.int .u8 0,.int .u8 0,.int .u8 0,.int .u8 0,.int .u8 0,.int .u8 0,.int .u8 0,.int .u8 0,.int .u8 0,.int .u8 0,.int .u8 0,.int .u8 0,.int .u8 0,.int .u8 0,.int .u8 0,.int .u8 0,.int .u8 0,.int .u8 0,.int .u8 0,.int .u8 0,.int .u8 0,.int .u8 0,.int .u8 0,.int .u8 0,.int .u8 0,.int .u8 0,.int .u8 0,.int .u8 0,.int .u8 0,.int .u8 0,.int .u8 0,.int .u8 0,.int .u8 0,.int .u8 0,.int .u8 0,.int .u8 0,.int .u8 0,.int .u8 0,.int .u8 0,.int .u8 0,.int .u8 0,.int .u8 0,.int .u8 0,.int .u8 0,.int .u8 0,.int .u8 0,.int .u8 0,.int .u8 0,.int .u8 0,.int .u8 0,.int .u8 0,.int .u8 0,.int .u8 0,.int .i64 0] 193)) w5):=Hd (by
      rw[hw4] at ST0 hw5
      rw[Ygb] at ST0 hw5
      rw[hw5];exact ST0)
     have RD5:Rd w5 (some ⟨g2,0,none⟩) (Xrn n):=RD.o.onB B5
     have WR:=Hd (Xoz w5 wr.heap.size h (some ⟨g2,0,none⟩) c2 (Xrn n) H5 HO.o RD5 (fun ad e _=>by cases e;show g2≠wr.heap.size;omega) (by rw[←HN.o];have:=PL.o;omega) (by rw[PLN.o];exact hgc2) hcm2 (HE.o.below ((BA.o.trans (bw.o.mono (by omega))).trans (B5.mono (by omega))) HE.o.size) (by omega))
     rw[PLN.o] at WR
     have FOK:Hid ((wrF h (Xrn n)).Ok):=Hd (Yfr HO.o (Xrm n))
     have R5:Hid (IB w5 w.heap.size 90 (List.replicate 32 0)):=Hd ((B5.block w.heap.size (by omega)).trans ((bw.o.block w.heap.size (by have:=SA'.o;omega)).trans RA.o))
     have BW5:Hid (Bw w w5):=Hd ((BA.o.trans (bw.o.mono (by omega))).trans (B5.mono (by omega)))
     have s5:w.heap.size<w5.heap.size:=by have:=B5.size;omega
     obtain⟨hv,hhv⟩:=xq (hC h)
     rw[←hhv] at LD ST
     clear hw4 hw5 H4 ST0 H5 B5 RD5 hhv ow bw OWN RD HKq
     go_wp2_with (first
      |((with_reducible refine Xac 193 rfl _ rfl ?_);refine⟨_,_,rfl,LD.o,?_⟩)
      |((with_reducible refine Xab 193 rfl _ _ rfl ?_);refine⟨_,_,_,rfl,rfl,ST.o,?_⟩))
     refine WR.o.mono ?_
     rintro e w6 ⟨⟨v6,rfl⟩,h6,f6⟩
     have L6:=Hd h6.st
     have DG:=Hd (Xwv w6 FOK.o.st)
     have R6:IB w6 w.heap.size 90 (List.replicate 32 0):=(f6.other w.heap.size s5 (by omega)).trans R5.o
     have FIN:Hid (∀w7,Bw w6 w7→Sv 90 ⟨w.heap.size,0,none⟩ (.agg (idA (smF h))) w7 (w7.setRow w.heap.size (idA (smF h)))∧IB (w7.setRow w.heap.size (idA (smF h))) w.heap.size 90 (smF h)∧Bw w (w7.setRow w.heap.size (idA (smF h)))):=Hd (fun w7 hb7=>by
      have R7:=R6.below hb7
      have bw6:Bw w w6:=BW5.o.trans (f6.below BW5.o.size (by omega))
      have sl:(smF h).length=32:=Xbj _
      exact⟨run_storeVar_row w7 w.heap.size _ 90 _ _ R7 (by rw[Xag,sl];exact Xg4) (by rw[Xag,Xag,sl];simp) (Xdf _),setRow_heap w7 _ _ _ _ _ R7,below_setRow (bg bw6 hb7) (zL _) _⟩)
     have SM:Hid (idA (dgF (wrF h (Xrn n)).st)=idA (smF h)):=Hd (by rw[HN.o];rfl)
     rw[SM.o] at DG
     obtain⟨v7,hv7⟩:=xq (wC (wrF h (Xrn n)).st)
     rw[←hv7] at L6 DG
     have SZ:Hid ((prog.info? 90).map (·.size)=some (idA (smF h)).size):=Hd (by rw[Xag,show(smF h).length=32 from Xbj _];exact Xg4)
     obtain⟨rs,hrs⟩:=xq (idA (smF h))
     rw[←hrs] at DG FIN SZ
     have HRS:=Hd hrs
     clear hv7 hrs h6 f6 R6 WR ST LD SM
     go_wp2_with ((with_reducible refine Xac 191 rfl _ rfl ?_);refine⟨_,_,rfl,L6.o,?_⟩)
     refine DG.o.mono ?_
     rintro e w7 ⟨rfl,hb7⟩
     obtain⟨f0,f1,f2⟩:=FIN.o w7 hb7
     have F0:=Hd f0
     have F1:=Hd f1
     have F2:=Hd f2
     clear f0 f1 f2 hb7 FIN DG L6
     go_wp2_with ((with_reducible refine Xab 90 rfl _ _ rfl ?_);refine⟨_,_,_,rfl,rfl,F0.o,?_⟩)
     have f1:=F1.o
     unfold IB at f1
     rw[←HRS.o] at f1
     exact zP (results_cell_row results86 _ _ w.heap.size _ _ _ _ rfl f1 underlying90 rfl SZ.o) rfl ⟨by rw[HRS.o],F2.o⟩
theorem Yhp (w:World):Calls prog 84 #[] w fun e w'=>e=.returned (.pointer (some ⟨w.heap.size,0,none⟩))∧w'=w.alloc (.cells (hC hs0) 193):=by
 rw[Ygb]
 go_enter func84,ntmps84
 go_wp2_with fail
 go_ret
 exact⟨rfl,rfl⟩
theorem Yg4 (w:World)(a:Option Addr)(cap:Nat)(l:List Nat)(hr:Rd w a l)(hl:l.length≤10000000)(hcap:l.length≤cap)(hcm:cap≤maxLen)(hE:Env w):
    zJ 42 #[.slice a l.length cap] w (.agg (idA (Xi4 l))):=by
 obtain⟨zs,hzs⟩:=xq (idA (List.replicate 32 0))
 have Z0:Hid (zs=#[.int .u8 0,.int .u8 0,.int .u8 0,.int .u8 0,.int .u8 0,.int .u8 0,.int .u8 0,.int .u8 0,.int .u8 0,.int .u8 0,.int .u8 0,.int .u8 0,.int .u8 0,.int .u8 0,.int .u8 0,.int .u8 0,.int .u8 0,.int .u8 0,.int .u8 0,.int .u8 0,.int .u8 0,.int .u8 0,.int .u8 0,.int .u8 0,.int .u8 0,.int .u8 0,.int .u8 0,.int .u8 0,.int .u8 0,.int .u8 0,.int .u8 0,.int .u8 0]):=Hd (by rw[hzs];rfl)
 obtain⟨wA,hwA⟩:=xq (w.alloc (.cells zs 90))
 have BA:Bw w wA:=by rw[hwA];exact(zR _ _).alloc (zL _) _
 have RA:IB wA w.heap.size 90 (List.replicate 32 0):=by unfold IB;rw[hwA,←hzs];exact heap_alloc_last w _
 have SA:wA.heap.size=w.heap.size+1:=by rw[hwA];simp
 have h9:=hE.size
 have NW:=Hd (Yhp wA)
 obtain⟨w1,hw1⟩:=xq (wA.alloc (.cells (hC hs0) 193))
 rw[←hw1] at NW
 have B1:Bw wA w1:=by rw[hw1];exact(zR _ _).alloc (zL _) _
 have H1:HK w1 wA.heap.size hs0:=by unfold HK;rw[hw1];exact heap_alloc_last wA _
 have R1:=RA.below B1
 have BW1:Bw w w1:=bg BA B1
 have RD1:Rd w1 a l:=hr.onB BW1
 have WR:=Hd (Xoz w1 wA.heap.size hs0 a cap l H1 Yga RD1 (fun ad e h0=>by
  obtain⟨b,off,e2,hb,_⟩:=hr.at_ h0
  rw[e2] at e;cases e
  show b≠_
  omega) (by show 0+_≤_;omega) hcap hcm (hE.on BW1) (by omega))
 have OK:Hid ((wrF hs0 l).Ok):=Hd (Yfr Yga hr.lt)
 have LN:Hid ((wrF hs0 l).len≤100000000):=Hd (by
  show(wrN l.length _ l).len≤_
  rw[Xxi _ _ _ (zL _)];show 0+_≤_;omega)
 have s1:w.heap.size<w1.heap.size:=by have:=B1.size;omega
 have HR1:=Hd R1;have HB1:=Hd BW1;have HE:=Hd hE;have HWA:=Hd hwA
 have SA':=Hd SA
 obtain⟨L,hL⟩:=xq l.length
 rw[←hL] at WR⊢
 clear hwA hw1 hzs BA RA B1 H1 R1 BW1 RD1 hr hl hcap hcm hE hL
 go_enter func42,ntmps42
 go_upto_region 1 with fail
 have WA':=HWA.o
 rw[Z0.o] at WA'
 rw[←WA']
 clear WA' HWA
 go_wp2_with fail
 refine NW.o.mono ?_
 rintro e wx ⟨rfl,rfl⟩
 clear NW
 rw[SA'.o] at WR⊢
 clear SA
 go_wp2_with fail
 refine WR.o.mono ?_
 rintro e w2 ⟨⟨v2,rfl⟩,h2,f2⟩
 have bw2:Bw w w2:=HB1.o.trans (f2.below HB1.o.size (Nat.le_succ _))
 have SM:=Hd (Yeh w2 (w.heap.size+1) _ h2 OK.o LN.o (HE.o.on bw2))
 have R2:IB w2 w.heap.size 90 (List.replicate 32 0):=(f2.other w.heap.size s1 (by omega)).trans HR1.o
 have FIN:Hid (∀w7,Bw w2 w7→Sv 90 ⟨w.heap.size,0,none⟩ (.agg (idA (smF (wrF hs0 l)))) w7 (w7.setRow w.heap.size (idA (smF (wrF hs0 l))))∧IB (w7.setRow w.heap.size (idA (smF (wrF hs0 l)))) w.heap.size 90 (smF (wrF hs0 l))∧Bw w (w7.setRow w.heap.size (idA (smF (wrF hs0 l))))):=Hd (fun w7 hb7=>by
  have R7:=R2.below hb7
  have sl:(smF (wrF hs0 l)).length=32:=Xbj _
  exact⟨run_storeVar_row w7 w.heap.size _ 90 _ _ R7 (by rw[Xag,sl];exact Xg4) (by rw[Xag,Xag,sl];simp) (Xdf _),setRow_heap w7 _ _ _ _ _ R7,below_setRow (bg bw2 hb7) (zL _) _⟩)
 have SZ:Hid ((prog.info? 90).map (·.size)=some (idA (smF (wrF hs0 l))).size):=Hd (by rw[Xag,show(smF (wrF hs0 l)).length=32 from Xbj _];exact Xg4)
 obtain⟨rs,hrs⟩:=xq (idA (smF (wrF hs0 l)))
 have HRS:Hid (idA (Xi4 l)=rs):=Hd (by rw[hrs];rfl)
 have HRS2:=Hd hrs
 rw[←hrs] at SM FIN SZ
 clear hrs h2 f2 R2 WR bw2
 go_wp2_with fail
 refine SM.o.mono ?_
 rintro e w7 ⟨rfl,hb7⟩
 obtain⟨f0,f1,f2⟩:=FIN.o w7 hb7
 have F0:=Hd f0;have F1:=Hd f1;have F2:=Hd f2
 clear f0 f1 f2 hb7 FIN SM
 go_wp2_with ((with_reducible refine Xab 90 rfl _ _ rfl ?_);refine⟨_,_,_,rfl,rfl,F0.o,?_⟩)
 have f1:=F1.o
 unfold IB at f1
 rw[←HRS2.o] at f1
 exact zP (results_cell_row results42 _ _ w.heap.size _ _ _ _ rfl f1 underlying90 rfl SZ.o) rfl ⟨by rw[HRS.o],F2.o⟩
theorem Ymh:liesAt prog prog.depth 84 (2/prog.cellsOf 84) 0 84 1=true:=by kernel_rfl
structure BD (w:World) (b:Nat) (xs:List Nat) (wr:World):Prop where
 bd:∃cs v,cs.size=2∧Bd wr w.heap.size b 0 84 cs v xs
 bel:Bw w wr
 le:w.heap.size≤b
structure KN (b:Nat) (w w':World):Prop where
 size:w.heap.size≤w'.heap.size
 same:∀k cs t fz,k≠b→t≠5→w.heap[k]?=some (.cells cs t fz)→w'.heap[k]?=some (.cells cs t fz)
theorem BD.write {w:World}{b:Nat}{xs:List Nat}{wr:World}(h:BD w b xs wr)(s:ByteArray)(hlen:xs.length+s.size≤140737488355328):
    Calls prog 40 #[.pointer (some ⟨b,0,none⟩),.string s] wr fun e w'=>e=.returned (.tuple #[.int .i64 (s.size:Int),.nilIface])∧BD w b (xs++bs s) w'∧KN b wr w':=by
 obtain⟨cs,v,h1,h2⟩:=h.bd
 refine(Xj3 wr w.heap.size b 0 84 cs v xs s h2 (by decide) h.bel.size (by rw[h1];exact Ymh) hlen).mono ?_
 rintro e w' ⟨rfl,cs',v',hbd,hsz,_,hov,hfr⟩
 have hv:∀k,v.ownBlock=some k→w.heap.size≤k∧∃cs fz,wr.heap[k]?=some (.cells cs 5 fz):=by
  intro k hk
  rcases h2.row.2 with⟨rfl,h0⟩|⟨g,cap,cur,fz,rfl,hbg,hg,r⟩
  ·cases hk
  ·simp[Value.ownBlock] at hk;subst hk;exact⟨hbg,cur,fz,hg⟩
 refine⟨rfl,⟨⟨cs',v',by rw[hsz,h1],hbd⟩,h.bel.trans (hfr.below h.bel.size h.le (fun k hk=>(hv k hk).1)),h.le⟩,hfr.size,?_⟩
 intro k cs t fz hne ht hk
 refine(hfr.other k (zY hk) hne (fun e=>?_)).trans hk
 obtain⟨_,cs',fz',hk'⟩:=hv k e
 rw[hk] at hk';cases hk';exact ht rfl
theorem BD.text {w:World}{b:Nat}{xs:List Nat}{wr:World}(h:BD w b xs wr)(hx:∀x∈xs,x<256)(hlen:xs.length≤140737488355328):
    Calls prog 41 #[.pointer (some ⟨b,0,none⟩)] wr fun e w'=>e=.returned (.string (Xaq xs))∧Bw w w':=by
 obtain⟨cs,v,h1,h2⟩:=h.bd
 refine(Xsy wr w.heap.size b 0 84 cs v xs h2 (by decide) hx hlen).mono ?_
 rintro e w' ⟨rfl,_,hfr⟩
 refine⟨rfl,h.bel.trans (hfr.below h.bel.size h.le (fun k hk=>?_))⟩
 rcases h2.row.2 with⟨rfl,h0⟩|⟨g,cap,cur,fz,rfl,hbg,hg,r⟩
 ·cases hk
 ·simp[Value.ownBlock] at hk;subst hk;exact hbg
theorem BD.new {w0 w:World}(h:Bw w0 w):BD w0 w.heap.size [] (w.alloc (.cells #[.pointer none,.slice none 0 0] 84)):=
 ⟨⟨#[.pointer none,.slice none 0 0],.slice none 0 0,rfl,heap_alloc_last w _,.inl rfl,rfl,⟨rfl,.inl ⟨rfl,rfl⟩⟩⟩,h.alloc h.size _,h.size⟩
theorem Xy7 (w:World){l:List Nat}(hl:IdOk l):
    zJ 39 #[.agg (idA l)] w (.string (Xaq (Xg8 l))):=by
 obtain⟨cs,hcs⟩:=xq (idA l)
 have B0:Hid (Bw w (w.alloc (.cells cs 26))):=Hd ((zR _ _).alloc (zL _) _)
 have Z:=Hd (Xgb (w.alloc (.cells cs 26)) hl)
 have P:=Hd (fun w=>Xmo w hl)
 have LD:Hid (∀w1,Below (w.alloc (.cells cs 26)).heap.size (w.alloc (.cells cs 26)) w1→Ld 26 ⟨w.heap.size,0,none⟩ w1 (.agg cs)):=Hd (fun w1 hb=>
  run_loadVar_row w1 w.heap.size _ 26 cs _ _ ((hb.block w.heap.size (by simp)).trans (heap_alloc_last w _)) underlying26 rfl (by rw[hcs,Xag,hl.len];exact Xa3))
 rw[←hcs] at Z P⊢
 have OPT:Hid (Xg8 l=if l=zero32 then[] else Xcr l):=Hd rfl
 obtain⟨q,hq⟩:=xq (decide (l=zero32))
 rw[←hq] at Z
 have HQ:=Hd hq
 have LD0:=Hd (LD.o _ (zR _ _))
 clear hcs hl hq
 go_enter func39,ntmps39
 go_wp2_with ((with_reducible refine Xac 26 rfl _ rfl ?_);refine⟨_,_,rfl,LD0.o,?_⟩)
 refine Z.o.mono ?_
 rintro e w1 ⟨rfl,hb1⟩
 have LD1:=Hd (LD.o _ hb1)
 have B1:=bh B0 hb1
 clear hb1 LD LD0 Z
 cases q
 ·have O2:Hid (Xg8 l=Xcr l):=Hd (by rw[OPT.o,qN (of_decide_eq_false HQ.o.symm)])
  have P1:=Hd (P.o w1)
  clear P HQ OPT
  go_wp2_with ((with_reducible refine Xac 26 rfl _ rfl ?_);refine⟨_,_,rfl,LD1.o,?_⟩)
  refine P1.o.mono ?_
  rintro e w2 ⟨rfl,hb2⟩
  have B2:=bh B1 hb2
  clear hb2 P1 LD1
  go_wp2_with fail
  go_ret
  exact⟨by rw[O2.o];rfl,B2.o⟩
 ·have O2:Hid (Xg8 l=[]):=Hd (by rw[OPT.o,qP (of_decide_eq_true HQ.o.symm)])
  clear P HQ OPT
  go_wp2_with fail
  go_ret
  exact⟨by rw[O2.o];rfl,B1.o⟩
theorem Xnm {c:Nat}:∀{v v' r r':List Nat},c∉v→c∉v'→v++c::r=v'++c::r'→v=v'∧r=r'
 |[],[],r,r',_,_,h=>⟨rfl,by simpa using h⟩
 |[],x::v',r,r',_,h',h=>by
  simp only[List.nil_append,List.cons_append,List.cons.injEq] at h
  exact absurd (h.1▸List.mem_cons_self ..) h'
 |x::v,[],r,r',h',_,h=>by
  simp only[List.nil_append,List.cons_append,List.cons.injEq] at h
  exact absurd (h.1▸List.mem_cons_self ..) h'
 |x::v,y::v',r,r',h1,h2,h=>by
  simp only[List.cons_append,List.cons.injEq] at h
  obtain⟨rfl,h⟩:=h
  obtain⟨rfl,rfl⟩:=Xnm (fun m=>h1 (List.mem_cons_of_mem _ m)) (fun m=>h2 (List.mem_cons_of_mem _ m)) h
  exact⟨rfl,rfl⟩
theorem Xp0:∀(ws vs vs':List (List Nat)) (r r':List Nat),ws.length=vs.length→ws.length=vs'.length→(∀v∈vs,10∉v)→(∀v∈vs',10∉v)→
    ((ws.zip vs).flatMap fun p=>p.1++32::p.2++[10])++r=((ws.zip vs').flatMap fun p=>p.1++32::p.2++[10])++r'→vs=vs'∧r=r'
 |[],[],[],r,r',_,_,_,_,h=>⟨rfl,by simpa using h⟩
 |w::ws,v::vs,v'::vs',r,r',h1,h2,h3,h4,h=>by
  simp only[List.zip_cons_cons,List.flatMap_cons,List.append_assoc,List.cons_append,List.nil_append] at h
  have h5:=List.append_cancel_left h
  simp only[List.cons.injEq,true_and] at h5
  obtain⟨rfl,h6⟩:=Xnm (h3 v (List.mem_cons_self ..)) (h4 v' (List.mem_cons_self ..)) h5
  obtain⟨rfl,rfl⟩:=Xp0 ws vs vs' r r' (by simpa using h1) (by simpa using h2) (fun x hx=>h3 x (List.mem_cons_of_mem _ hx)) (fun x hx=>h4 x (List.mem_cons_of_mem _ hx)) (by simpa [List.append_assoc] using h6)
  exact⟨rfl,rfl⟩
 |[],_::_,_,_,_,h,_,_,_,_=>by simp at h
 |[],[],_::_,_,_,_,h,_,_,_=>by simp at h
 |_::_,[],_,_,_,h,_,_,_,_=>by simp at h
 |_::_,_::_,[],_,_,_,h,_,_,_=>by simp at h
theorem Xj0:∀(k u:Nat),∀c∈Xes k u,48≤c∧c≤57
 |0,u,c,h=>by simp[Xes] at h;omega
 |k+1,u,c,h=>by
  simp only[Xes] at h
  split at h
  ·simp at h;omega
  ·rw[List.mem_append] at h
   rcases h with h|h
   ·exact Xj0 k _ c h
   ·simp at h;omega
def Xjg (l:List Nat):Nat:=l.foldl (fun n c=>10*n+(c-48)) 0
theorem Xhl:∀(k u:Nat),u<10^(k+1)→Xjg (Xes k u)=u
 |0,u,h=>by simp[Xes,Xjg];omega
 |k+1,u,h=>by
  simp only[Xes]
  split
  ·simp[Xjg]
  ·have:=Xhl k (u/10) (by rw[Nat.pow_succ] at h;omega)
   unfold Xjg at this⊢
   rw[List.foldl_append,this]
   simp;omega
theorem Xgf {n:Int}(h:0≤n):Xdq n=Xes 20 n.toNat:=by unfold Xdq;rw[qN (by omega)]
theorem Xoh {a b:Int}(ha:0≤a)(hb:0≤b)(ha2:a≤1000000000)(hb2:b≤1000000000)(h:Xdq a=Xdq b):a=b:=by
 rw[Xgf ha,Xgf hb] at h
 have h1:=Xhl 20 a.toNat (by have:(10:Nat)^21=1000000000000000000000:=by decide
                             omega)
 have h2:=Xhl 20 b.toNat (by have:(10:Nat)^21=1000000000000000000000:=by decide
                             omega)
 rw[h] at h1
 omega
theorem Xdl {n:Int}(h:0≤n):∀c∈Xdq n,48≤c∧c≤57:=by rw[Xgf h];exact Xj0 _ _
theorem Xz3:∀a<16,∀b<16,hxl a=hxl b→a=b:=by decide
theorem Yf9:∀a<16,48≤hxl a∧hxl a≤102:=by decide
theorem Xey (a:Nat)(l:List Nat):Xbv (a::l)=hxl (a/16)::hxl (a%16)::Xbv l:=rfl
theorem Xoa:∀{l m:List Nat},(∀x∈l,x<256)→(∀x∈m,x<256)→Xbv l=Xbv m→l=m
 |[],[],_,_,_=>rfl
 |a::l,b::m,h1,h2,h=>by
  rw[Xey,Xey] at h
  simp only[List.cons.injEq] at h
  have a1:=h1 a (List.mem_cons_self ..)
  have b1:=h2 b (List.mem_cons_self ..)
  have e1:=Xz3 _ (by omega) _ (by omega) h.1
  have e2:=Xz3 _ (by omega) _ (by omega) h.2.1
  have e3:a=b:=by omega
  rw[e3,Xoa (fun x hx=>h1 x (List.mem_cons_of_mem _ hx)) (fun x hx=>h2 x (List.mem_cons_of_mem _ hx)) h.2.2]
 |[],b::m,_,_,h=>by rw[Xey] at h;cases h
 |a::l,[],_,_,h=>by rw[Xey] at h;cases h
theorem Xhy:∀{l:List Nat},(∀x∈l,x<256)→∀c∈Xbv l,48≤c∧c≤102
 |[],_,c,h=>by cases h
 |a::l,h1,c,h=>by
  rw[Xey] at h
  have a1:=h1 a (List.mem_cons_self ..)
  rcases List.mem_cons.1 h with rfl|h
  ·exact Yf9 _ (by omega)
  ·rcases List.mem_cons.1 h with rfl|h
   ·exact Yf9 _ (by omega)
   ·exact Xhy (fun x hx=>h1 x (List.mem_cons_of_mem _ hx)) c h
theorem Xfd {l:List Nat}(hl:∀x∈l,x<256):∀c∈Xcr l,48≤c∧c≤104+11:=by
 intro c h
 unfold Xcr sHash at h
 rw[List.mem_append,List.mem_cons] at h
 rcases h with(rfl|h)|h
 ·omega
 ·have:=Xhy hl c h;omega
 ·simp only[List.mem_cons] at h;rcases h with rfl|rfl|rfl|rfl|rfl|rfl|h<;>first|omega|cases h
theorem Xue {l m:List Nat}(h1:∀x∈l,x<256)(h2:∀x∈m,x<256)(h:Xcr l=Xcr m):l=m:=by
 unfold Xcr at h
 have:=List.append_cancel_right h
 simp only[List.cons.injEq,true_and] at this
 exact Xoa h1 h2 this
theorem Xn3 (l:List Nat):Xcr l≠[]:=by unfold Xcr;simp
theorem Xjt (s:Nat):∀(l:List (List Nat)) (c:Nat),c∈Xaw [s] l→c=s∨∃x∈l,c∈x
 |[],c,h=>by cases h
 |[x],c,h=>.inr ⟨x,List.mem_cons_self ..,h⟩
 |x::y::r,c,h=>by
  simp only[Xaw] at h
  rw[List.mem_append,List.mem_append] at h
  rcases h with(h|h)|h
  ·exact .inr ⟨x,List.mem_cons_self ..,h⟩
  ·exact .inl (by simpa using h)
  ·rcases Xjt s (y::r) c h with h|⟨z,hz,hc⟩
   ·exact .inl h
   ·exact .inr ⟨z,List.mem_cons_of_mem _ hz,hc⟩
theorem join_cons (s:Nat)(x y:List Nat)(r:List (List Nat)):Xaw [s] (x::y::r)=x++s::Xaw [s] (y::r):=by simp[Xaw]
theorem Xn7 {s:Nat}:∀{l m:List (List Nat)},l≠[]→m≠[]→(∀x∈l,s∉x)→(∀x∈m,s∉x)→Xaw [s] l=Xaw [s] m→l=m
 |[x],[y],_,_,_,_,h=>by simp only[Xaw] at h;rw[h]
 |[x],y::z::r,_,_,h1,_,h=>by
  rw[join_cons] at h
  simp only[Xaw] at h
  exact absurd (by rw[h];simp) (h1 x (List.mem_cons_self ..))
 |y::z::r,[x],_,_,_,h1,h=>by
  rw[join_cons] at h
  simp only[Xaw] at h
  exact absurd (by rw[←h];simp) (h1 x (List.mem_cons_self ..))
 |x::y::r,x'::y'::r',_,_,h1,h2,h=>by
  rw[join_cons,join_cons] at h
  obtain⟨rfl,h3⟩:=Xnm (h1 x (List.mem_cons_self ..)) (h2 x' (List.mem_cons_self ..)) h
  rw[Xn7 (by simp) (by simp) (fun z hz=>h1 z (List.mem_cons_of_mem _ hz)) (fun z hz=>h2 z (List.mem_cons_of_mem _ hz)) h3]
theorem Xn6 {s:Nat}:∀{l:List (List Nat)},(∀x∈l,x≠[])→Xaw [s] l=[]→l=[]
 |[],_,_=>rfl
 |[x],h,e=>absurd e (h x (List.mem_cons_self ..))
 |x::y::r,h,e=>by rw[join_cons] at e;simp at e
theorem Xnh (s:Nat):∀(l:List Nat) (c:Nat),c∈l→c=s∨∃p∈spl s l,c∈p
 |x::t,c,h=>by
  simp only[spl]
  by_cases hx:x=s
  ·rw[qP hx]
   rcases List.mem_cons.1 h with rfl|h
   ·exact .inl hx
   ·rcases Xnh s t c h with h|⟨p,hp,hc⟩
    ·exact .inl h
    ·exact .inr ⟨p,List.mem_cons_of_mem _ hp,hc⟩
  ·rw[qN hx]
   cases hq:spl s t with
   |nil=>exact absurd hq (Xkc s t)
   |cons q r=>
    simp only[]
    rcases List.mem_cons.1 h with rfl|h
    ·exact .inr ⟨_,List.mem_cons_self ..,List.mem_cons_self ..⟩
    ·rcases Xnh s t c h with h|⟨p,hp,hc⟩
     ·exact .inl h
     ·rw[hq] at hp
      rcases List.mem_cons.1 hp with rfl|hp
      ·exact .inr ⟨_,List.mem_cons_self ..,List.mem_cons_of_mem _ hc⟩
      ·exact .inr ⟨p,List.mem_cons_of_mem _ hp,hc⟩
theorem Xbc {a b:Nat}(h:fe a b=0):a=0∧b=0:=by unfold fe at h;split at h<;>omega
theorem Xee {p:Bool}{e:Nat}(he:e≠0)(h:eIf p e=0):p=false:=by unfold eIf at h;cases p<;>simp_all
theorem Ykf {c:Nat}(h:nmC c=true):c≠10∧c≠44∧c≠32:=by
 unfold nmC low dig at h;simp at h;omega
theorem Xhs {x:List Nat}(h:Xbf x=0):∀c∈x,c≠10∧c≠44∧c≠32:=by
 intro c hc
 unfold Xbf at h
 split at h
 ·cases h
 ·split at h
  ·cases h
  ·rename_i h2
   rcases Xnh 46 x c hc with rfl|⟨p,hp,hcp⟩
   ·omega
   ·have h3:Xeq p=true:=by
       cases hq:Xeq p
       ·exact absurd (List.any_eq_true.2 ⟨p,hp,by rw[hq];rfl⟩) h2
       ·rfl
    unfold Xeq at h3
    simp only[Bool.and_eq_true] at h3
    exact Ykf (List.all_eq_true.1 h3.2 c hcp)
theorem Xpy {f:List Nat→Nat}{d:Nat}(hd:d≠0):∀(l pre:List (List Nat)),Xc9 f d pre l=0→∀x∈l,f x=0
 |[],_,_,x,h=>by cases h
 |y::r,pre,h,x,hx=>by
  simp only[Xc9] at h
  split at h
  ·rename_i h1;exact absurd h h1
  ·rename_i h1
   split at h
   ·exact absurd h hd
   ·rcases List.mem_cons.1 hx with rfl|hx
    ·simpa using h1
    ·exact Xpy hd r _ h x hx
theorem Xp8 {l:List (List Nat)}(h:Xbt l=0):l≠[]∧∀x∈l,Xbf x=0:=by
 unfold Xbt at h
 split at h
 ·cases h
 ·rename_i h1
  unfold Xcd at h
  split at h
  ·cases h
  ·exact⟨h1,Xpy (by decide) l [] h⟩
theorem Ycr {l:List Nat}(hw:Xb7 l=true)(h:10∈l.take (rn l)):cpt l=10:=by
 obtain⟨h1,h2,h3⟩:=(Xca l).1 hw
 obtain⟨e,hp⟩:=Xfr hw
 obtain⟨i,hi,hx⟩:=List.getElem_of_mem h
 rw[List.length_take] at hi
 have hg:l.getD i 0=10:=by
  rw[List.getElem_take] at hx
  rw[List.getD_eq_getElem?_getD,List.getElem?_eq_getElem (by omega)];simpa using hx
 by_cases h0:i=0
 ·subst h0
  have e1:rn l=1:=by rw[e,hg];rfl
  unfold cpt
  rw[e1,qP (zL _),hg]
  have:((l.take 1).drop 1)=[]:=by rw[List.drop_eq_nil_iff,List.length_take];omega
  rw[this];rfl
 ·have:=Ycn (h3 i (by omega) (by omega))
  omega
theorem Xum:∀(n:Nat) (l:List Nat) (a:Nat),l.length≤n→vld l=true→((rsN l.length a l).all fun x=>gd false x.2)=true→10∉l
 |0,l,a,hl,_,_=>by have:l=[]:=List.length_eq_zero_iff.1 (by omega)
                   rw[this];simp
 |n+1,l,a,hl,hv,hr=>by
  by_cases hn:l=[]
  ·rw[hn];simp
  ·rw[Xnd hn] at hv
   simp only[Bool.and_eq_true,decide_eq_true_eq] at hv
   have hle:=(Xrf l).1
   rw[Xnt _ _ _ hv.1 (zL _)] at hr
   simp only[List.all_cons,Bool.and_eq_true] at hr
   have ih:=Xum n (l.drop (rn l)) _ (by rw[List.length_drop];omega) hv.2 hr.2
   intro h
   rw[←List.take_append_drop (rn l) l,List.mem_append] at h
   rcases h with h|h
   ·rw[Ycr (rn_ne.1 hv.1) h] at hr
    exact absurd hr.1 (by decide)
   ·exact ih h
theorem Xtf {l:List Nat}{m:Nat}(h:Xfp l m=0):10∉l:=by
 unfold Xfp at h
 have h1:=Xee (by decide) (Xbc (Xbc h).2).1
 have h2:Xie false l=true:=by simpa using h1
 unfold Xie at h2
 simp only[Bool.and_eq_true] at h2
 exact Xum l.length l 0 (zL _) h2.1 h2.2
theorem Xz4 {c:Nat}(h:(hvl c).isSome=true):c≠10:=by rintro rfl;cases h
theorem Xj7:∀{l r:List Nat},Xjh l=some r→10∉l
 |[],_,_=>by simp
 |[_],_,h=>by cases h
 |a::b::t,r,h=>by
  simp only[Xjh] at h
  cases ha:hvl a with
  |none=>rw[ha] at h;cases h
  |some x=>
   cases hb:hvl b with
   |none=>rw[ha,hb] at h;cases h
   |some y=>
    cases hu:Xjh t with
    |none=>rw[ha,hb,hu] at h;cases h
    |some s=>
     have:=Xj7 hu
     have h1:=Xz4 (c:=a) (by rw[ha];rfl)
     have h2:=Xz4 (c:=b) (by rw[hb];rfl)
     simp only[List.mem_cons,not_or]
     exact⟨Ne.symm h1,Ne.symm h2,this⟩
theorem Yhr {x i:List Nat}(h:Xfl x=some i):10∉x:=by
 unfold Xfl at h
 split at h
 ·rename_i hc
  obtain⟨h1,h2,h3⟩:=hc
  have hu:=Xj7 h
  intro hx
  rw[←List.take_append_drop 1 x,List.mem_append] at hx
  rcases hx with hx|hx
  ·cases x with
   |nil=>cases hx
   |cons a t=>simp at hx h2;omega
  ·rw[←List.take_append_drop 64 (x.drop 1),List.mem_append] at hx
   rcases hx with hx|hx
   ·exact hu hx
   ·rw[List.drop_drop,h3] at hx;exact absurd hx (by decide)
 ·cases h
theorem Yi3 {x i:List Nat}(h:Xe2 x=some i):10∉x:=by
 unfold Xe2 at h
 split at h
 ·exact Xj7 h
 ·cases h
theorem Xz1 {f:List Nat→Option (List Nat)}:∀(l:List (List Nat)) (r:List (List Nat)),l.mapM f=some r→∀p∈l,∃i,f p=some i
 |[],_,_,p,h=>by cases h
 |y::t,r,h,p,hp=>by
  rw[List.mapM_cons] at h
  cases hy:f y with
  |none=>rw[hy] at h;cases h
  |some z=>
   rw[hy] at h
   cases ht:t.mapM f with
   |none=>rw[ht] at h;cases h
   |some s=>
    rcases List.mem_cons.1 hp with rfl|hp
    ·exact⟨z,hy⟩
    ·exact Xz1 t s ht p hp
theorem Ydy {x:List Nat}(h:Xc8 x=0):10∉x:=by
 unfold Xc8 at h
 cases hm:(spl 44 x).mapM Xe2 with
 |none=>rw[hm] at h;cases h
 |some l=>
  intro hx
  rcases Xnh 44 x 10 hx with h|⟨p,hp,hc⟩
  ·omega
  ·obtain⟨i,hi⟩:=Xz1 _ _ hm p hp
   exact Yi3 hi hc
theorem Xxy {x:List Nat}(h:Xid x=0):10∉x:=by
 unfold Xid at h
 cases hm:Xfl x with
 |none=>rw[hm] at h;cases h
 |some i=>exact Yhr hm
theorem Xr7 {x:List Nat}(h:Xiu x=0):10∉x:=by
 unfold Xiu at h
 split at h
 ·rename_i h1;intro hx;exact(Xhs h1 10 hx).1 rfl
 ·cases h
theorem Xrr {a b:Nat}{x:List Nat}(h:Xfi a b x=0):10∉x:=by
 unfold Xfi at h
 cases hm:Xlx x with
 |none=>rw[hm] at h;cases h
 |some n=>
  unfold Xlx at hm
  split at hm
  ·cases hm
  ·rename_i hc
   intro hx
   have h1:x.all dig=true:=by
    cases hq:x.all dig
    ·exact absurd (.inr (.inr (.inr hq))) hc
    ·rfl
   exact absurd (List.all_eq_true.1 h1 10 hx) (by decide)
theorem Yna:∀v,v<64→43≤al v:=by decide
theorem Xur {l:List Nat}(h:∀x∈l,x<256):10∉Xfk l:=by
 rw[Xof l h]
 have hs:=(Xti l.length l (zL _) h).2.1
 unfold Xik
 intro hx
 rw[List.mem_append] at hx
 rcases hx with hx|hx
 ·obtain⟨v,hv,e⟩:=List.mem_map.1 hx
  have:=Yna v (hs v hv)
  omega
 ·rw[List.mem_replicate] at hx;omega
theorem Yhe {x:List Nat}(h:Xgl x=0):10∉x:=by
 unfold Xgl at h
 split at h
 ·rename_i h1;exact absurd h h1
 ·rename_i h1
  obtain⟨h2,h3⟩:=Xoe x (by omega)
  rw[←h2]
  exact Xur h3
def Sp (t:List Nat):Prop:=t=[]∨∃u,t=32::u
theorem Xx7 (l:List Nat):Sp (l.dropWhile fun c=>!decide (c=32)):=by
 induction l with
 |nil=>exact .inl rfl
 |cons a l ih=>
  by_cases ha:a=32
  ·rw[List.dropWhile_cons_of_neg (by simp[ha])];exact .inr ⟨l,by rw[ha]⟩
  ·rw[List.dropWhile_cons_of_pos (by simp[ha])];exact ih
theorem Xc7 {t:List Nat}{k:List Nat→List Nat→Nat}(ht:Sp t)(h:nxt t k=0)(P:∀x u,Sp u→k x u=0→10∉x∧10∉u):10∉t:=by
 rcases ht with rfl|⟨u,rfl⟩
 ·simp
 ·unfold nxt at h
  obtain⟨h1,h2⟩:=P _ _ (Xx7 u) h
  intro hx
  rcases List.mem_cons.1 hx with hx|hx
  ·omega
  ·rw[←List.takeWhile_append_dropWhile (p:=fun c=>!decide (c=32)) (l:=u),List.mem_append] at hx
   rcases hx with hx|hx
   ·exact h1 hx
   ·exact h2 hx
theorem Xjx {t:List Nat}(h:fin t=0):10∉t:=by
 unfold fin at h
 split at h
 ·rename_i h1;rw[h1];simp
 ·cases h
theorem Xpl {t:List Nat}(ht:Sp t)(h:Xd9 t=0):10∉t:=by
 rcases ht with rfl|⟨u,rfl⟩
 ·simp
 ·unfold Xd9 at h
  simp only[] at h
  split at h
  ·cases h
  ·unfold Xnf at h
   split at h
   ·cases h
   ·split at h
    ·cases h
    ·rename_i h1
     have h2:u.all prC=true:=by
      cases hq:u.all prC
      ·exact absurd hq h1
      ·rfl
     intro hx
     rcases List.mem_cons.1 hx with hx|hx
     ·omega
     ·exact absurd (List.all_eq_true.1 h2 10 hx) (by decide)
theorem Yil {s:List Nat}(h:Xea s=0):10∉s:=by
 unfold Xea at h
 split at h
 ·cases h
 ·obtain⟨k,hk⟩:=xq (s.takeWhile fun c=>!decide (c=32))
  obtain⟨t,ht⟩:=xq (s.dropWhile fun c=>!decide (c=32))
  have hs:s=k++t:=by rw[hk,ht];exact List.takeWhile_append_dropWhile.symm
  have hsp:Sp t:=by rw[ht];exact Xx7 s
  rw[←hk,←ht] at h
  have key:10∉k∧10∉t:=by
   unfold Xw0 at h
   split at h
   ·rename_i e
    refine⟨by rw[e];decide,Xc7 hsp h fun x u hu h=>?_⟩
    exact⟨Xxy (Xbc h).1,Xjx (Xbc h).2⟩
   ·split at h
    ·rename_i e
     refine⟨by rw[e];decide,Xc7 hsp h fun x u hu h=>⟨Xxy (Xbc h).1,Xc7 hu (Xbc h).2 fun y v hv h=>?_⟩⟩
     exact⟨Xr7 (Xbc h).1,Xjx (Xbc h).2⟩
    ·split at h
     ·rename_i e
      refine⟨by rw[e];decide,Xc7 hsp h fun x u hu h=>⟨Xr7 (Xbc h).1,Xc7 hu (Xbc h).2 fun y v hv h=>⟨Xrr (Xbc h).1,Xc7 hv (Xbc h).2 fun m v hv h=>?_⟩⟩⟩
      split at h
      ·rename_i e;exact⟨by rw[e];decide,Xpl hv h⟩
      ·split at h
       ·rename_i e;exact⟨by rw[e];decide,Xc7 hv h fun a z hz h=>⟨Ydy (Xbc h).1,Xpl hz (Xbc h).2⟩⟩
       ·cases h
     ·split at h
      ·rename_i e
       refine⟨by rw[e];decide,Xc7 hsp h fun x u hu h=>⟨Xr7 (Xbc h).1,Xc7 hu (Xbc h).2 fun y v hv h=>?_⟩⟩
       exact⟨Xrr (Xbc h).1,Xjx (Xbc h).2⟩
      ·split at h
       ·rename_i e
        refine⟨by rw[e];decide,Xc7 hsp h fun x u hu h=>⟨Xrr (Xbc h).1,Xc7 hu (Xbc h).2 fun y v hv h=>?_⟩⟩
        exact⟨Yhe (Xbc h).1,Xjx (Xbc h).2⟩
       ·cases h
  rw[hs,List.mem_append]
  rintro(hx|hx)
  ·exact key.1 hx
  ·exact key.2 hx
structure Cont.Ok (c:Cont):Prop where
 author:∀x∈c.author,x<256
 root:∀x∈c.root,x<256
 rootl:c.root.length=16
 sup:∀x∈c.sup,x<256
 refs:∀y∈c.refs,∀x∈y,x<256
structure Cont.Vd (c:Cont):Prop where
 name:10∉c.name
 date:0≤c.date∧c.date≤105190559
 groups:c.groups≠[]∧∀x∈c.groups,Xbf x=0
 subject:10∉c.subject
 ctl:10∉c.ctl
 dist:10∉c.dist
 number:0≤c.number∧c.number≤1000
 height:1≤c.height∧c.height≤8
 leaf:0≤c.leaf∧c.leaf≤256
theorem Xe6 {c:Cont}(h:Xc4 c=0):c.Vd:=by
 unfold Xc4 at h
 obtain⟨h1,h⟩:=Xbc h
 obtain⟨h2,h⟩:=Xbc h
 obtain⟨h3,h⟩:=Xbc h
 obtain⟨h4,h⟩:=Xbc h
 obtain⟨h5,h⟩:=Xbc h
 obtain⟨h6,h⟩:=Xbc h
 obtain⟨h7,h⟩:=Xbc h
 obtain⟨h8,h⟩:=Xbc h
 obtain⟨h9,h⟩:=Xbc h
 obtain⟨h10,h⟩:=Xbc h
 have h2:=Xee (by decide) h2
 have h8:=Xee (by decide) h8
 have h9:=Xee (by decide) h9
 have h10:=Xee (by decide) h10
 simp only[Bool.or_eq_false_iff,decide_eq_false_iff_not] at h2 h8 h10
 have hh:1≤c.height∧c.height≤8:=by unfold Xav at h9;simp at h9;omega
 refine⟨Xtf h1,by omega,Xp8 h3,Xtf h4,?_,?_,by omega,hh,by omega,?_⟩
 ·unfold Xxg at h6
  split at h6
  ·rename_i e;rw[e];simp
  ·exact Yil (Xbc (Xbc h6).2).1
 ·unfold Xli at h7
  have:=Xee (by decide) (Xbc h7).2
  intro hx
  rw[List.any_eq_false] at this
  exact absurd (this 10 hx) (by decide)
 ·have h11:=h10.2
  unfold Xbh at h11
  have hb:Xav c.height=true:=by unfold Xav;simp;omega
  rw[qP hb] at h11
  have:(2:Int)^c.height.toNat≤256:=by
   obtain⟨k,hk⟩:=xq c.height.toNat
   rw[←hk]
   have:k≤8:=by omega
   have:∀k,k≤8→(2:Int)^k≤256:=by decide
   exact this k (by omega)
  omega
theorem Xne {c:Cont}(ho:c.Ok)(h:c.Vd):∀v∈Xaz c,10∉v:=by
 intro v hv
 unfold Xaz at hv
 simp only[List.mem_cons,List.not_mem_nil,or_false] at hv
 rcases hv with rfl|rfl|rfl|rfl|rfl|rfl|rfl|rfl|rfl|rfl|rfl
 ·exact h.name
 ·intro hx;have:=Xhy ho.author 10 hx;omega
 ·intro hx;have:=Xdl h.date.1 10 hx;omega
 ·intro hx
  rcases Xjt 44 _ 10 hx with h1|⟨x,h1,h2⟩
  ·omega
  ·exact(Xhs (h.groups.2 x h1) 10 h2).1 rfl
 ·exact h.subject
 ·intro hx
  rcases Xjt 32 _ 10 hx with h1|⟨x,h1,h2⟩
  ·omega
  ·obtain⟨y,hy,rfl⟩:=List.mem_map.1 h1
   have:=Xfd (ho.refs y hy) 10 h2;omega
 ·unfold Xg8
  split
  ·simp
  ·intro hx;have:=Xfd ho.sup 10 hx;omega
 ·exact h.ctl
 ·exact h.dist
 ·unfold Xi7
  rw[List.mem_append,List.mem_cons]
  rintro(hx|hx|hx)
  ·have:=Xdl h.number.1 10 hx;omega
  ·omega
  ·exact Xur (by unfold Xho;intro x hx;rcases List.mem_cons.1 hx with rfl|hx;· omega
                 exact ho.root x hx) hx
 ·intro hx;have:=Xdl h.leaf.1 10 hx;omega
theorem Yhv {l m:List (List Nat)}(h1:∀y∈l,∀x∈y,x<256)(h2:∀y∈m,∀x∈y,x<256)(h:l.map Xcr=m.map Xcr):l=m:=by
 induction l generalizing m with
 |nil=>cases m with
  |nil=>rfl
  |cons b m=>simp at h
 |cons a l ih=>
  cases m with
  |nil=>simp at h
  |cons b m=>
   simp only[List.map_cons,List.cons.injEq] at h
   rw[Xue (h1 a (List.mem_cons_self ..)) (h2 b (List.mem_cons_self ..)) h.1,ih (fun y hy=>h1 y (List.mem_cons_of_mem _ hy)) (fun y hy=>h2 y (List.mem_cons_of_mem _ hy)) h.2]
theorem Yem {a b:Cont}(oa:a.Ok)(ob:b.Ok)(ha:Xc4 a=0)(hb:Xc4 b=0)(h:Xa8 a=Xa8 b):a=b:=by
 have va:=Xe6 ha
 have vb:=Xe6 hb
 unfold Xa8 at h
 obtain⟨h1,h2⟩:=Xp0 fWords (Xaz a) (Xaz b) _ _ rfl rfl (Xne oa va) (Xne ob vb) h
 simp only[List.cons.injEq,true_and] at h2
 unfold Xaz at h1
 simp only[List.cons.injEq,and_true] at h1
 obtain⟨e1,e2,e3,e4,e5,e6,e7,e8,e9,e10,e11⟩:=h1
 have f2:=Xoa oa.author ob.author e2
 have f3:=Xoh va.date.1 vb.date.1 (by have:=va.date.2;omega) (by have:=vb.date.2;omega) e3
 have f4:=Xn7 va.groups.1 vb.groups.1 (fun x hx hc=>(Xhs (va.groups.2 x hx) 44 hc).2.1 rfl) (fun x hx hc=>(Xhs (vb.groups.2 x hx) 44 hc).2.1 rfl) e4
 have nsp:∀{l:List (List Nat)},(∀y∈l,∀x∈y,x<256)→∀z∈l.map Xcr,32∉z∧z≠[]:=by
  intro l hl z hz
  obtain⟨y,hy,rfl⟩:=List.mem_map.1 hz
  exact⟨fun hx=>by have:=Xfd (hl y hy) 32 hx;omega,Xn3 y⟩
 have f6:a.refs=b.refs:=by
  refine Yhv oa.refs ob.refs ?_
  by_cases ea:a.refs.map Xcr=[]
  ·rw[ea] at e6⊢
   exact(Xn6 (fun z hz=>(nsp ob.refs z hz).2) e6.symm).symm
  ·by_cases eb:b.refs.map Xcr=[]
   ·rw[eb] at e6
    exact absurd (Xn6 (fun z hz=>(nsp oa.refs z hz).2) e6) ea
   ·exact Xn7 ea eb (fun z hz=>(nsp oa.refs z hz).1) (fun z hz=>(nsp ob.refs z hz).1) e6
 have f7:a.sup=b.sup:=by
  unfold Xg8 at e7
  split at e7
  ·rename_i h3
   split at e7
   ·rename_i h4;rw[h3,h4]
   ·exact absurd e7.symm (Xn3 _)
  ·split at e7
   ·exact absurd e7 (Xn3 _)
   ·exact Xue oa.sup ob.sup e7
 have f10:a.number=b.number∧a.height=b.height∧a.root=b.root:=by
  unfold Xi7 at e10
  have n32:∀{n:Int},0≤n→32∉Xdq n:=fun hn hx=>by have:=Xdl hn 32 hx;omega
  obtain⟨g1,g2⟩:=Xnm (n32 va.number.1) (n32 vb.number.1) e10
  have pa:∀{c:Cont},c.Ok→(∀x∈Xho c,x<256)∧(Xho c).length≤131072:=fun{c} ho=>
   ⟨by unfold Xho;intro x hx;rcases List.mem_cons.1 hx with rfl|hx;· omega
       exact ho.root x hx,by unfold Xho;rw[List.length_cons,ho.rootl];omega⟩
  have d1:=Xsl (Xho a) (pa oa).1 (pa oa).2
  have d2:=Xsl (Xho b) (pa ob).1 (pa ob).2
  rw[g2,d2] at d1
  have d3:Xho b=Xho a:=congrArg Prod.fst d1
  unfold Xho at d3
  simp only[List.cons.injEq] at d3
  have:=va.height;have:=vb.height
  exact⟨Xoh va.number.1 vb.number.1 (by have:=va.number.2;omega) (by have:=vb.number.2;omega) g1,by omega,d3.2.symm⟩
 have f11:=Xoh va.leaf.1 vb.leaf.1 (by have:=va.leaf.2;omega) (by have:=vb.leaf.2;omega) e11
 obtain⟨f8,f9,f12⟩:=f10
 cases a;cases b
 simp only at e1 f2 f3 f4 e5 f6 f7 e8 e9 f8 f9 f12 f11 h2
 rw[e1,f2,f3,f4,e5,f6,f7,e8,e9,f8,f9,f12,f11,h2]
theorem Xlo {c:Cont}(h:Xc4 c=0):Xbt c.groups=0∧Xe9 c.refs=0∧Xav c.height=true:=by
 unfold Xc4 at h
 obtain⟨h1,h⟩:=Xbc h
 obtain⟨h2,h⟩:=Xbc h
 obtain⟨h3,h⟩:=Xbc h
 obtain⟨h4,h⟩:=Xbc h
 obtain⟨h5,h⟩:=Xbc h
 obtain⟨h6,h⟩:=Xbc h
 obtain⟨h7,h⟩:=Xbc h
 obtain⟨h8,h⟩:=Xbc h
 obtain⟨h9,h⟩:=Xbc h
 have h9:=Xee (by decide) h9
 exact⟨h3,h5,by simpa using h9⟩
theorem Yen (c:Cont):fe (fe (fe (fe 0 (Xc4 c)) (Xbt c.groups)) (Xe9 c.refs)) (eIf (!Xav c.height) 2)=Xc4 c:=by
 by_cases h:Xc4 c=0
 ·obtain⟨h1,h2,h3⟩:=Xlo h
  rw[h,h1,h2,h3];rfl
 ·unfold fe
  simp[h]
def Xfg (ws vs:List (List Nat))(j:Nat):List Nat:=((ws.zip vs).take j).flatMap fun p=>p.1++32::p.2++[10]
theorem Xrx {ws vs:List (List Nat)}{j:Nat}(h:j<ws.length)(h2:j<vs.length):Xfg ws vs (j+1)=Xfg ws vs j++(ws.getD j []++32::vs.getD j []++[10]):=by
 have hz:j<(ws.zip vs).length:=by rw[List.length_zip];omega
 unfold Xfg
 rw[List.take_succ_eq_append_getElem hz,List.flatMap_append,List.getElem_zip]
 simp[List.getD,h,h2]
theorem Xzf (ws vs:List (List Nat))(j:Nat):(Xfg ws vs j).length≤((ws.zip vs).flatMap fun p=>p.1++32::p.2++[10]).length:=by
 unfold Xfg
 conv=>rhs;rw[←List.take_append_drop j (ws.zip vs),List.flatMap_append]
 rw[List.length_append];omega
def vA (vs:List ByteArray):Array Value:=(vs.map Value.string).toArray
theorem Yju (vs:List ByteArray):(vA vs).all (·.oneCell')=true:=by
 rw[Array.all_eq_true']
 intro x hx
 unfold vA at hx
 rw[List.mem_toArray,List.mem_map] at hx
 obtain⟨y,_,rfl⟩:=hx
 rfl
theorem Xf5:(prog.info? 80).map (·.size)=some 11:=by kernel_rfl
theorem Yh7 {vs:List ByteArray}(hl:vs.length=11)(j:Nat)(hj:j<11)(s:ByteArray)(hs:vs[j]?=some s)(w:World):(Instr.index 80 (.agg (vA vs)) (.int .i64 (j:Int))).run prog w=.ok (.string s) w:=by
 have hi:(0:Int)≤(j:Int)∧(j:Int)<11:=by omega
 have e:(vA vs)[j]?=some (.string s):=by
  unfold vA
  rw[List.getElem?_toArray,List.getElem?_map,hs];rfl
 simp[Instr.index,run_underlying underlying80,asIntOf,hi,go_sem]
 rw[qP hj,e]
 rfl
theorem Ybh (w:World)(s0 s1 s2 s3 s4 s5 s6 s7 s8 s9 s10:ByteArray):(Instr.build 80 #[(0,.string s0),(1,.string s1),(2,.string s2),(3,.string s3),(4,.string s4),(5,.string s5),(6,.string s6),(7,.string s7),(8,.string s8),(9,.string s9),(10,.string s10)]).run prog w=.ok (.agg (vA [s0,s1,s2,s3,s4,s5,s6,s7,s8,s9,s10])) w:=by kernel_rfl
theorem Xak {P:Program}{md:Region.Mode}{ops:Array Oper}{Q:Exit→Act→World→Prop}{S:World→Prop}{i:Nat}{fuel:Nat}{listed:Array Bool}{a:Act}{w:World}(hr:Region.ready md ops listed=[i])
    (h:wpOp P ops Q i (fun a' w'=>S w'∧wpAnyH P md ops Q S fuel (listed.setIfInBounds i true) a' w') a w):wpAnyH P md ops Q S (fuel+1) listed a w:=
 wpAnyH_all hr (by simp) (fun j hj=>by
  obtain rfl:j=i:=by simpa using hj
  exact h)
theorem Xef {P:Program}{md:Region.Mode}{ops:Array Oper}{Q:Exit→Act→World→Prop}{S:World→Prop}{i k:Nat}{fuel:Nat}{listed:Array Bool}{a:Act}{w:World}(hr:Region.ready md ops listed=[i,k])
    (h:wpOp P ops Q i (fun a' w'=>S w'∧wpAnyH P md ops Q S fuel (listed.setIfInBounds i true) a' w') a w) (h2:wpOp P ops Q k (fun a' w'=>S w'∧wpAnyH P md ops Q S fuel (listed.setIfInBounds k true) a' w') a w):wpAnyH P md ops Q S (fuel+1) listed a w:=
 wpAnyH_all hr (by simp) (fun j hj=>by
  simp only[List.mem_cons,List.not_mem_nil,or_false] at hj
  rcases hj with rfl|rfl
  ·exact h
  ·exact h2)
theorem Yaz {n:Int}{w:World}{e:Ending}{w':World}(h:Yb4 n w e w'):e=.returned (.string (Xaq (Xdq n)))∧Bw w w':=by
 obtain⟨t,rfl,ht,_,hb⟩:=h
 exact⟨by rw[←ht,Xd3],hb⟩
theorem Xbl {P:Program}{ops:Array Oper}{Q:Exit→Act→World→Prop}{i:Nat}{o:Oper}{K:Act→World→Prop}{a:Act}{w w':World}{v:Value}(ho:ops[i]?=some o)(hg:o.guard=none)
    (he:(execOp a.eval o).run P w=.ok (.value v) w') (h:K (a.put o.dst v) w'):wpOp P ops Q i K a w:=Xbw ho hg (Xb1 he h)
theorem Xd6 {o:Oper}{a:Act}(w:World)(ho:o.op=.alloc 80):(execOp a.eval o).run prog w=.ok (.value (.pointer (some ⟨w.heap.size,0,none⟩))) (w.alloc (.cells #[.string ⟨#[]⟩,.string ⟨#[]⟩,.string ⟨#[]⟩,.string ⟨#[]⟩,.string ⟨#[]⟩,.string ⟨#[]⟩,.string ⟨#[]⟩,.string ⟨#[]⟩,.string ⟨#[]⟩,.string ⟨#[]⟩,.string ⟨#[]⟩] 80)):=by
 unfold execOp
 rw[ho]
 rfl
theorem ChI.row {w:World}{c:Cn}{gv rv:Value}{n:Nat}{wx:World}(h:ChI w c gv rv n wx)(hw:CnIn w c gv rv)(hE:Env w){p':Nat}(hp:w.heap.size+1<p')(cs:Array Value):ChI w c gv rv n (wx.setRow p' cs):=by
 have b:=below_setRow h.fr (show w.heap.size≤p' by omega) cs
 exact⟨(setRow_other wx p' _ cs (by omega)).trans h.ck,b,(setRow_other wx p' _ cs (by omega)).trans h.cb,hE.on b,hw.on b⟩
def V0 (c:Cn)(da d1 tg tr op tk d2:ByteArray):List ByteArray:=[c.name,da,d1,tg,c.subject,tr,op,c.ctl,c.dist,tk,d2]
theorem Xwq:∀j,j<11→(fWords.getD j []).length≤20:=by decide
theorem Yal:∀j,j<11→∀x∈fWords.getD j [],x<256:=by decide
theorem Ymc (c:Cn)(da d1 tg tr op tk d2:ByteArray)(ok:c.Ok)(vd:c.p.Vd)(h1:da=Xaq (Xbv c.author))(h2:d1=Xaq (Xdq c.date))(h3:op=Xaq (Xg8 c.sup))(h4:d2=Xaq (Xdq c.leaf))(h5:bs tg=Xaw [44] (c.groups.map bs))(h6:bs tr=Xaw [32] (c.refs.map Xcr))(h7:bs tk=Xi7 c.p):(V0 c da d1 tg tr op tk d2).map bs=Xaz c.p:=by
 have e1:bs da=Xbv c.author:=by rw[h1];exact Xci _ (fun x hx=>by have:=Xhy ok.author.lt x hx;omega)
 have e2:bs d1=Xdq c.date:=by rw[h2];exact Xci _ (fun x hx=>by have:=Xdl (n:=c.date) vd.date.1 x hx;omega)
 have e3:bs op=Xg8 c.sup:=by
  rw[h3]
  refine Xci _ (fun x hx=>?_)
  unfold Xg8 at hx
  split at hx
  ·cases hx
  ·have:=Xfd ok.sup.lt x hx;omega
 have e4:bs d2=Xdq c.leaf:=by rw[h4];exact Xci _ (fun x hx=>by have:=Xdl (n:=c.leaf) vd.leaf.1 x hx;omega)
 unfold V0 Xaz
 simp only[List.map_cons,List.map_nil,e1,e2,e3,e4,h5,h6,h7]
 rfl
theorem Ygt {V:List ByteArray}{c:Cont}(h:V.map bs=Xaz c)(j:Nat)(hj:j<11):∃s,V[j]?=some s∧bs s=(Xaz c).getD j []:=by
 have hl:(Xaz c).length=11:=rfl
 have hV:V.length=11:=by rw[←List.length_map bs,h,hl]
 refine⟨V[j],List.getElem?_eq_getElem (by omega),?_⟩
 rw[←h,List.getD_eq_getElem?_getD,List.getElem?_map,List.getElem?_eq_getElem (by omega)]
 rfl
theorem Yia {V:List ByteArray}{c:Cn}(h:V.map bs=Xaz c.p):∀x∈Xa8 c.p,x<256:=by
 intro x hx
 unfold Xa8 at hx
 rw[List.mem_append,List.mem_cons] at hx
 rcases hx with hx|rfl|hx
 ·obtain⟨p,hp,hx⟩:=List.mem_flatMap.1 hx
  rw[List.mem_append,List.mem_append,List.mem_cons,List.mem_singleton] at hx
  rcases hx with(hx|rfl|hx)|rfl
  ·have h1:=(List.of_mem_zip hp).1
   have:∀l∈fWords,∀x∈l,x<256:=by decide
   exact this _ h1 x hx
  ·decide
  ·have h2:=(List.of_mem_zip hp).2
   rw[←h] at h2
   obtain⟨s,_,hs⟩:=List.mem_map.1 h2
   rw[←hs] at hx
   exact Xgq s x hx
  ·decide
 ·decide
 ·exact Xgq c.body x hx
def Yji (c:Cont)(w:World)(e:Ending)(w':World):Prop:=
 e=.returned (.tuple #[.string (Xaq (if Xc4 c=0 then Xa8 c else[])),.int .i64 ((Xc4 c:Nat):Int)])∧Bw w w'
theorem Xjw (w:World)(c:Cn)(gv rv:Value)(hin:CnIn w c gv rv)(hF:Xc4 c.p=0→(Xa8 c.p).length≤10000000)(hE:Env w):
    Calls prog 8 #[.agg (c.cells gv rv)] w (Yji c.p w):=by
 have HIN:=Hd hin;have HE:=Hd hE;have OK:=Hd hin.ok;have HF:=Hd hF
 have ERR:=Hd (Yen c.p)
 have FX:Hid (∀e w',Yji c.p w e w'↔e=.returned (.tuple #[.string (Xaq (if Xc4 c.p=0 then Xa8 c.p else[])),.int .i64 ((Xc4 c.p:Nat):Int)])∧Bw w w'):=Hd (fun _ _=>Iff.rfl)
 obtain⟨p0,hp0⟩:=xq (Xc4 c.p)
 obtain⟨p1,hp1⟩:=xq (Xbt (c.groups.map bs))
 obtain⟨p2,hp2⟩:=xq (Xe9 c.refs)
 obtain⟨p3,hp3⟩:=xq (eIf (!Xav c.height) 2)
 have HP0:=Hd hp0;have HP1:=Hd hp1;have HP2:=Hd hp2;have HP3:=Hd hp3
 have ERR2:Hid (fe (fe (fe (fe 0 p0) p1) p2) p3=p0):=Hd (by have:=ERR.o;rw[hp0,hp1,hp2,hp3];exact this)
 obtain⟨w0,hw0⟩:=xq ((w.alloc (.cells (c.cells gv rv) 39)).alloc (.cells #[.int .i64 0] 73))
 have I0:Hid (ChI w c gv rv 0 w0):=Hd (by
  have b1:Bw w (w.alloc (.cells (c.cells gv rv) 39)):=(zR _ _).alloc (zL _) _
  have b2:Below (w.alloc (.cells (c.cells gv rv) 39)).heap.size (w.alloc (.cells (c.cells gv rv) 39)) w0:=by rw[hw0];exact(zR _ _).alloc (zL _) _
  have b:=b1.trans (b2.mono (by simp))
  refine⟨?_,b,(CB.new w c gv rv _).on b2,hE.on b,hin.on b⟩
  have:=zN (w.alloc (.cells (c.cells gv rv) 39)) (.cells #[.int .i64 0] 73)
  rw[World.size_alloc,←hw0] at this
  exact this)
 have hw9:9≤w.heap.size+1:=by have:=hE.size;omega
 have LD:=Hd (I0.o.cb.all OK.o)
 have CK:=Hd (Xqr w0 c gv rv I0.o.inp I0.o.env)
 rw[←hp0] at CK
 obtain⟨cs,hcs⟩:=xq (c.cells gv rv)
 have HCS:=Hd hcs
 rw[←hcs] at hw0 LD CK⊢
 have HW:=Hd hw0
 clear hcs hw0 hin hE hF hp0 hp1 hp2 hp3 ERR
 go_enter func8,ntmps8
 go_upto_region 2 with fail
 rw[←HW.o]
 clear HW
 refine wp_region_list ?_
 simp only[]
 refine Xac 39 rfl _ rfl ⟨_,_,rfl,LD.o,?_⟩
 go_wp2_with fail
 refine CK.o.mono ?_
 rintro e w1 ⟨rfl,hb⟩
 have I1:=Hd (I0.o.on hb)
 clear hb I0 LD CK
 have K:=Hd (Xdw w1 (w.heap.size+1) _ I1.o.ck p0)
 go_wp2_with fail
 refine K.o.mono ?_
 rintro e w2 ⟨⟨v2,rfl⟩,h,f⟩
 have I2:=Hd (I1.o.step HIN.o HE.o h f)
 clear h f I1 K
 have cg:w2.cell? ⟨w.heap.size,18,none⟩=some gv:=I2.o.cb.at (Xh8 OK.o gv rv)
 have FL:=Hd (Xqa w2 gv c.groups I2.o.inp.srow HIN.o.gl HIN.o.gz I2.o.env)
 rw[←HP1.o] at FL
 go_wp2_with fail
 refine FL.o.mono ?_
 rintro e w3 ⟨tg,rfl,htg,htg2,hb⟩
 have TG:=Hd htg
 have I3:=Hd (I2.o.on hb)
 clear hb I2 FL cg htg htg2
 have K:=Hd (Xdw w3 (w.heap.size+1) _ I3.o.ck p1)
 go_wp2_with fail
 refine K.o.mono ?_
 rintro e w4 ⟨⟨v4,rfl⟩,h,f⟩
 have I4:=Hd (I3.o.step HIN.o HE.o h f)
 clear h f I3 K
 have cr:w4.cell? ⟨w.heap.size,20,none⟩=some rv:=I4.o.cb.at (Xh7 OK.o gv rv)
 have RP:=Hd (Xvp w4 rv c.refs I4.o.inp.irow HIN.o.rl OK.o.refs)
 rw[←HP2.o] at RP
 go_wp2_with fail
 refine RP.o.mono ?_
 rintro e w5 ⟨tr,rfl,htr,htr2,hb⟩
 have TR:=Hd htr
 have I5:=Hd (I4.o.on hb)
 clear hb I4 RP cr htr htr2
 have K:=Hd (Xdw w5 (w.heap.size+1) _ I5.o.ck p2)
 go_wp2_with fail
 refine K.o.mono ?_
 rintro e w6 ⟨⟨v6,rfl⟩,h,f⟩
 have I6:=Hd (I5.o.step HIN.o HE.o h f)
 clear h f I5 K
 have LD:=Hd (I6.o.cb.all OK.o)
 have KT:=Hd (Xzq w6 c OK.o gv rv I6.o.env)
 rw[←HCS.o] at LD KT
 go_upto_region 7 with fail
 refine wp_region_list ?_
 simp only[]
 refine Xac 39 rfl _ rfl ⟨_,_,rfl,LD.o,?_⟩
 go_wp2_with fail
 refine KT.o.mono ?_
 rintro e w7 ⟨tk,rfl,htk,htk2,hb⟩
 rw[←HP3.o]
 have TK:=Hd htk
 have I7:=Hd (I6.o.on hb)
 clear hb I6 KT LD htk htk2
 have K:=Hd (Xdw w7 (w.heap.size+1) _ I7.o.ck p3)
 go_wp2_with fail
 refine K.o.mono ?_
 rintro e w8 ⟨⟨v8,rfl⟩,h,f⟩
 have h8:=I7.o.step HIN.o HE.o h f
 rw[ERR2.o] at h8
 have I8:=Hd h8
 clear h f I7 K h8
 have ce:=I8.o.ck.cell
 by_cases h0:p0=0
 ·subst h0
  have hz:((((0:Nat):Int)) !=0)=false:=rfl
  obtain⟨da,hda⟩:=xq (Xaq (Xbv c.author))
  obtain⟨d1,hd1⟩:=xq (Xaq (Xdq c.date))
  obtain⟨op,hop⟩:=xq (Xaq (Xg8 c.sup))
  obtain⟨d2,hd2⟩:=xq (Xaq (Xdq c.leaf))
  obtain⟨au,hau⟩:=xq (idA c.author)
  obtain⟨sp,hsp⟩:=xq (idA c.sup)
  have LDA:Hid (∀wx,CB wx w.heap.size c gv rv 39→Ld 35 ⟨w.heap.size,1,none⟩ wx (.agg au)):=Hd (fun wx h=>by rw[hau];exact CB.author h OK.o)
  have LDS:Hid (∀wx,CB wx w.heap.size c gv rv 39→Ld 26 ⟨w.heap.size,21,none⟩ wx (.agg sp)):=Hd (fun wx h=>by rw[hsp];exact CB.sup h OK.o)
  have C4:Hid (∀wx,Env wx→zJ 37 #[.agg au] wx (.string da)):=Hd (fun wx _=>by rw[hau,hda];exact Xxc wx OK.o.author)
  have C7:Hid (∀wx,Env wx→zJ 38 #[.int .i64 c.date] wx (.string d1)):=Hd (fun wx he=>by rw[hd1];exact(Xlj c.date (Xhx OK.o.date).1 (Xhx OK.o.date).2 wx he).mono (fun _ _ h=>Yaz h))
  have C14:Hid (∀wx,Env wx→zJ 39 #[.agg sp] wx (.string op)):=Hd (fun wx _=>by rw[hsp,hop];exact Xy7 wx OK.o.sup)
  have C22:Hid (∀wx,Env wx→zJ 38 #[.int .i64 c.leaf] wx (.string d2)):=Hd (fun wx he=>by rw[hd2];exact(Xlj c.leaf (Xhx OK.o.leaf).1 (Xhx OK.o.leaf).2 wx he).mono (fun _ _ h=>Yaz h))
  obtain⟨vs,hvs⟩:=xq (vA [c.name,da,d1,tg,c.subject,tr,op,c.ctl,c.dist,tk,d2])
  have VSZ:Hid (vs.size=11):=Hd (by rw[hvs];rfl)
  have VON:Hid (vs.all (·.oneCell')=true):=Hd (by rw[hvs];exact Yju _)
  have BLD:Hid (∀w,(Instr.build 80 #[(0,.string c.name),(1,.string da),(2,.string d1),(3,.string tg),(4,.string c.subject),(5,.string tr),(6,.string op),(7,.string c.ctl),(8,.string c.dist),(9,.string tk),(10,.string d2)]).run prog w=.ok (.agg vs) w):=Hd (fun w=>by rw[hvs];exact Ybh w _ _ _ _ _ _ _ _ _ _ _)
  have HVS:=Hd hvs;have HDA:=Hd hda;have HD1:=Hd hd1;have HOP:=Hd hop;have HD2:=Hd hd2
  clear hvs hda hd1 hop hd2 hau hsp
  go_upto_region 11 with fail
  go_cut [9] (fun p wx=>∃p',p=.pointer (some ⟨p',0,none⟩)∧Hid (wx.heap[p']?=some (.cells vs 80 (0,0)))∧Hid (ChI w c gv rv 0 wx))
  case first=>
   have ID:=Hd (I8.o.on (Dr.below ⟨1,rfl⟩:Bw w8 w8.drew))
   refine wp_region_held (S:=fun wx=>CB wx w.heap.size c gv rv 39) (by kernel_rfl) ?_
   change wpAnyH _ _ _ _ _ _ _ _ w8.drew
   obtain⟨wd,hwd⟩:=xq w8.drew
   rw[←hwd] at ID⊢
   clear hwd I8 ce
   have hB:(fun wx:World=>CB wx w.heap.size c gv rv 39) wd:=ID.o.cb
   refine Xad 0 (.pointer (some ⟨w.heap.size,0,none⟩)) rfl (fun _ _=>by go_simp) hB ?_
   refine Xad 1 (.string c.name) rfl (fun w' hw'=>by have cl:=hw'.at (Ya9 c gv rv);go_simp) hB ?_
   refine Xad 2 (.pointer (some ⟨w.heap.size,1,none⟩)) rfl (fun _ _=>by go_simp) hB ?_
   refine Xad 3 (.agg au) rfl (fun w' hw'=>Xai (ty:=35) (x:=.tmp 46) (ad:=⟨w.heap.size,1,none⟩) rfl (by kernel_rfl) (LDA.o w' hw')) hB ?_
   refine Xad 5 (.pointer (some ⟨w.heap.size,17,none⟩)) rfl (fun _ _=>by go_simp) hB ?_
   refine Xad 6 (.int .i64 c.date) rfl (fun w' hw'=>by have cl:=hw'.at (Xln OK.o gv rv);go_simp) hB ?_
   refine Xad 8 (.string tg) rfl (fun _ _=>by go_simp) hB ?_
   refine Xad 9 (.pointer (some ⟨w.heap.size,19,none⟩)) rfl (fun _ _=>by go_simp) hB ?_
   refine Xad 10 (.string c.subject) rfl (fun w' hw'=>by have cl:=hw'.at (Xlm OK.o gv rv);go_simp) hB ?_
   refine Xad 11 (.string tr) rfl (fun _ _=>by go_simp) hB ?_
   refine Xad 12 (.pointer (some ⟨w.heap.size,21,none⟩)) rfl (fun _ _=>by go_simp) hB ?_
   refine Xad 13 (.agg sp) rfl (fun w' hw'=>Xai (ty:=26) (x:=.tmp 56) (ad:=⟨w.heap.size,21,none⟩) rfl (by kernel_rfl) (LDS.o w' hw')) hB ?_
   refine Xad 15 (.pointer (some ⟨w.heap.size,53,none⟩)) rfl (fun _ _=>by go_simp) hB ?_
   refine Xad 16 (.string c.ctl) rfl (fun w' hw'=>by have cl:=hw'.at (Xjn OK.o gv rv);go_simp) hB ?_
   refine Xad 17 (.pointer (some ⟨w.heap.size,54,none⟩)) rfl (fun _ _=>by go_simp) hB ?_
   refine Xad 18 (.string c.dist) rfl (fun w' hw'=>by have cl:=hw'.at (Xll OK.o gv rv);go_simp) hB ?_
   refine Xad 19 (.string tk) rfl (fun _ _=>by go_simp) hB ?_
   refine Xad 20 (.pointer (some ⟨w.heap.size,73,none⟩)) rfl (fun _ _=>by go_simp) hB ?_
   refine Xad 21 (.int .i64 c.leaf) rfl (fun w' hw'=>by have cl:=hw'.at (Xh6 OK.o gv rv);go_simp) hB ?_
   refine Xef (i:=4) (k:=24) (by kernel_rfl) ?_ ?_
   ·skip
    refine Xao (f:=37) (args:=#[.agg au]) rfl rfl (by kernel_rfl) ?_
    refine(C4.o wd ID.o.env).mono ?_
    rintro e y1 ⟨rfl,hb⟩
    have J0:=Hd (ID.o.on hb)
    clear hb
    refine⟨_,rfl,J0.o.cb,?_⟩
    refine Xef (i:=7) (k:=24) (by kernel_rfl) ?_ ?_
    ·skip
     refine Xao (f:=38) (args:=#[.int .i64 c.date]) rfl rfl (by kernel_rfl) ?_
     refine(C7.o y1 J0.o.env).mono ?_
     rintro e y2 ⟨rfl,hb⟩
     have J1:=Hd (J0.o.on hb)
     clear hb
     refine⟨_,rfl,J1.o.cb,?_⟩
     refine Xef (i:=14) (k:=24) (by kernel_rfl) ?_ ?_
     ·skip
      refine Xao (f:=39) (args:=#[.agg sp]) rfl rfl (by kernel_rfl) ?_
      refine(C14.o y2 J1.o.env).mono ?_
      rintro e y3 ⟨rfl,hb⟩
      have J2:=Hd (J1.o.on hb)
      clear hb
      refine⟨_,rfl,J2.o.cb,?_⟩
      refine Xef (i:=22) (k:=24) (by kernel_rfl) ?_ ?_
      ·skip
       refine Xao (f:=38) (args:=#[.int .i64 c.leaf]) rfl rfl (by kernel_rfl) ?_
       refine(C22.o y3 J2.o.env).mono ?_
       rintro e y4 ⟨rfl,hb⟩
       have J3:=Hd (J2.o.on hb)
       clear hb
       refine⟨_,rfl,J3.o.cb,?_⟩
       have hB:=J3.o.cb
       refine Xad 23 (.agg vs) rfl (fun _ _=>by go_simp;exact HVS.o.symm) hB ?_
       refine Xak (i:=24) (by kernel_rfl) ?_
       refine Xbl rfl rfl (Xd6 y4 rfl) ?_
       have HP':=J3.o.ck.lt
       obtain⟨y5,hy5⟩:=xq (y4.alloc (.cells #[.string ⟨#[]⟩,.string ⟨#[]⟩,.string ⟨#[]⟩,.string ⟨#[]⟩,.string ⟨#[]⟩,.string ⟨#[]⟩,.string ⟨#[]⟩,.string ⟨#[]⟩,.string ⟨#[]⟩,.string ⟨#[]⟩,.string ⟨#[]⟩] 80))
       rw[←hy5]
       have A0:Hid (ChI w c gv rv 0 y5):=Hd (by rw[hy5];exact J3.o.on ((zR _ _).alloc (zL _) _))
       have AB:Hid (y5.heap[y4.heap.size]?=some (.cells #[.string ⟨#[]⟩,.string ⟨#[]⟩,.string ⟨#[]⟩,.string ⟨#[]⟩,.string ⟨#[]⟩,.string ⟨#[]⟩,.string ⟨#[]⟩,.string ⟨#[]⟩,.string ⟨#[]⟩,.string ⟨#[]⟩,.string ⟨#[]⟩] 80 (0,0))):=Hd (by rw[hy5];exact heap_alloc_last y4 _)
       clear hy5
       refine⟨A0.o.cb,?_⟩
       refine Xak (i:=25) (by kernel_rfl) ?_
       have IF:=Hd (A0.o.row HIN.o HE.o (p':=y4.heap.size) (by omega) vs)
       have W2:=Hd (setRow_heap y5 y4.heap.size _ vs _ _ AB.o)
       have STR:=Hd (run_storeVar_row (P:=prog) y5 y4.heap.size _ 80 _ vs AB.o (by rw[VSZ.o];exact Xf5) (by rw[VSZ.o];rfl) VON.o)
       refine Xco rfl rfl (Xar (t:=80) (x:=.tmp 9) (y:=.tmp 67) (ad:=⟨y4.heap.size,0,none⟩) (u:=.agg vs) rfl (by kernel_rfl) (by kernel_rfl) STR.o) ?_
       refine⟨IF.o.cb,?_⟩
       refine wpAnyH_done (by kernel_rfl) ?_ _
       go_simp
       clear hB
       refine‹∀(a:Act) (w_1:World),_→_› _ _ ?_
       go_meet
       exact⟨_,rfl,W2,IF⟩
      ·skip
       refine Xbl rfl rfl (Xd6 y3 rfl) ?_
       have HP':=J2.o.ck.lt
       obtain⟨y6,hy6⟩:=xq (y3.alloc (.cells #[.string ⟨#[]⟩,.string ⟨#[]⟩,.string ⟨#[]⟩,.string ⟨#[]⟩,.string ⟨#[]⟩,.string ⟨#[]⟩,.string ⟨#[]⟩,.string ⟨#[]⟩,.string ⟨#[]⟩,.string ⟨#[]⟩,.string ⟨#[]⟩] 80))
       rw[←hy6]
       have A0:Hid (ChI w c gv rv 0 y6):=Hd (by rw[hy6];exact J2.o.on ((zR _ _).alloc (zL _) _))
       have AB:Hid (y6.heap[y3.heap.size]?=some (.cells #[.string ⟨#[]⟩,.string ⟨#[]⟩,.string ⟨#[]⟩,.string ⟨#[]⟩,.string ⟨#[]⟩,.string ⟨#[]⟩,.string ⟨#[]⟩,.string ⟨#[]⟩,.string ⟨#[]⟩,.string ⟨#[]⟩,.string ⟨#[]⟩] 80 (0,0))):=Hd (by rw[hy6];exact heap_alloc_last y3 _)
       clear hy6
       refine⟨A0.o.cb,?_⟩
       refine Xak (i:=22) (by kernel_rfl) ?_
       refine Xao (f:=38) (args:=#[.int .i64 c.leaf]) rfl rfl (by kernel_rfl) ?_
       refine(C22.o y6 A0.o.env).mono ?_
       rintro e y7 ⟨rfl,hb⟩
       have A4:=Hd (A0.o.on hb)
       replace AB:=Hd ((hb.block _ (zY AB.o)).trans AB.o)
       clear hb
       refine⟨_,rfl,A4.o.cb,?_⟩
       have hB:=A4.o.cb
       refine Xad 23 (.agg vs) rfl (fun _ _=>by go_simp;exact HVS.o.symm) hB ?_
       refine Xak (i:=25) (by kernel_rfl) ?_
       have IF:=Hd (A4.o.row HIN.o HE.o (p':=y3.heap.size) (by omega) vs)
       have W2:=Hd (setRow_heap y7 y3.heap.size _ vs _ _ AB.o)
       have STR:=Hd (run_storeVar_row (P:=prog) y7 y3.heap.size _ 80 _ vs AB.o (by rw[VSZ.o];exact Xf5) (by rw[VSZ.o];rfl) VON.o)
       refine Xco rfl rfl (Xar (t:=80) (x:=.tmp 9) (y:=.tmp 67) (ad:=⟨y3.heap.size,0,none⟩) (u:=.agg vs) rfl (by kernel_rfl) (by kernel_rfl) STR.o) ?_
       refine⟨IF.o.cb,?_⟩
       refine wpAnyH_done (by kernel_rfl) ?_ _
       go_simp
       clear hB
       refine‹∀(a:Act) (w_1:World),_→_› _ _ ?_
       go_meet
       exact⟨_,rfl,W2,IF⟩
     ·skip
      refine Xbl rfl rfl (Xd6 y2 rfl) ?_
      have HP':=J1.o.ck.lt
      obtain⟨y8,hy8⟩:=xq (y2.alloc (.cells #[.string ⟨#[]⟩,.string ⟨#[]⟩,.string ⟨#[]⟩,.string ⟨#[]⟩,.string ⟨#[]⟩,.string ⟨#[]⟩,.string ⟨#[]⟩,.string ⟨#[]⟩,.string ⟨#[]⟩,.string ⟨#[]⟩,.string ⟨#[]⟩] 80))
      rw[←hy8]
      have A0:Hid (ChI w c gv rv 0 y8):=Hd (by rw[hy8];exact J1.o.on ((zR _ _).alloc (zL _) _))
      have AB:Hid (y8.heap[y2.heap.size]?=some (.cells #[.string ⟨#[]⟩,.string ⟨#[]⟩,.string ⟨#[]⟩,.string ⟨#[]⟩,.string ⟨#[]⟩,.string ⟨#[]⟩,.string ⟨#[]⟩,.string ⟨#[]⟩,.string ⟨#[]⟩,.string ⟨#[]⟩,.string ⟨#[]⟩] 80 (0,0))):=Hd (by rw[hy8];exact heap_alloc_last y2 _)
      clear hy8
      refine⟨A0.o.cb,?_⟩
      refine Xak (i:=14) (by kernel_rfl) ?_
      refine Xao (f:=39) (args:=#[.agg sp]) rfl rfl (by kernel_rfl) ?_
      refine(C14.o y8 A0.o.env).mono ?_
      rintro e y9 ⟨rfl,hb⟩
      have A3:=Hd (A0.o.on hb)
      replace AB:=Hd ((hb.block _ (zY AB.o)).trans AB.o)
      clear hb
      refine⟨_,rfl,A3.o.cb,?_⟩
      refine Xak (i:=22) (by kernel_rfl) ?_
      refine Xao (f:=38) (args:=#[.int .i64 c.leaf]) rfl rfl (by kernel_rfl) ?_
      refine(C22.o y9 A3.o.env).mono ?_
      rintro e y10 ⟨rfl,hb⟩
      have A4:=Hd (A3.o.on hb)
      replace AB:=Hd ((hb.block _ (zY AB.o)).trans AB.o)
      clear hb
      refine⟨_,rfl,A4.o.cb,?_⟩
      have hB:=A4.o.cb
      refine Xad 23 (.agg vs) rfl (fun _ _=>by go_simp;exact HVS.o.symm) hB ?_
      refine Xak (i:=25) (by kernel_rfl) ?_
      have IF:=Hd (A4.o.row HIN.o HE.o (p':=y2.heap.size) (by omega) vs)
      have W2:=Hd (setRow_heap y10 y2.heap.size _ vs _ _ AB.o)
      have STR:=Hd (run_storeVar_row (P:=prog) y10 y2.heap.size _ 80 _ vs AB.o (by rw[VSZ.o];exact Xf5) (by rw[VSZ.o];rfl) VON.o)
      refine Xco rfl rfl (Xar (t:=80) (x:=.tmp 9) (y:=.tmp 67) (ad:=⟨y2.heap.size,0,none⟩) (u:=.agg vs) rfl (by kernel_rfl) (by kernel_rfl) STR.o) ?_
      refine⟨IF.o.cb,?_⟩
      refine wpAnyH_done (by kernel_rfl) ?_ _
      go_simp
      clear hB
      refine‹∀(a:Act) (w_1:World),_→_› _ _ ?_
      go_meet
      exact⟨_,rfl,W2,IF⟩
    ·skip
     refine Xbl rfl rfl (Xd6 y1 rfl) ?_
     have HP':=J0.o.ck.lt
     obtain⟨y11,hy11⟩:=xq (y1.alloc (.cells #[.string ⟨#[]⟩,.string ⟨#[]⟩,.string ⟨#[]⟩,.string ⟨#[]⟩,.string ⟨#[]⟩,.string ⟨#[]⟩,.string ⟨#[]⟩,.string ⟨#[]⟩,.string ⟨#[]⟩,.string ⟨#[]⟩,.string ⟨#[]⟩] 80))
     rw[←hy11]
     have A0:Hid (ChI w c gv rv 0 y11):=Hd (by rw[hy11];exact J0.o.on ((zR _ _).alloc (zL _) _))
     have AB:Hid (y11.heap[y1.heap.size]?=some (.cells #[.string ⟨#[]⟩,.string ⟨#[]⟩,.string ⟨#[]⟩,.string ⟨#[]⟩,.string ⟨#[]⟩,.string ⟨#[]⟩,.string ⟨#[]⟩,.string ⟨#[]⟩,.string ⟨#[]⟩,.string ⟨#[]⟩,.string ⟨#[]⟩] 80 (0,0))):=Hd (by rw[hy11];exact heap_alloc_last y1 _)
     clear hy11
     refine⟨A0.o.cb,?_⟩
     refine Xak (i:=7) (by kernel_rfl) ?_
     refine Xao (f:=38) (args:=#[.int .i64 c.date]) rfl rfl (by kernel_rfl) ?_
     refine(C7.o y11 A0.o.env).mono ?_
     rintro e y12 ⟨rfl,hb⟩
     have A2:=Hd (A0.o.on hb)
     replace AB:=Hd ((hb.block _ (zY AB.o)).trans AB.o)
     clear hb
     refine⟨_,rfl,A2.o.cb,?_⟩
     refine Xak (i:=14) (by kernel_rfl) ?_
     refine Xao (f:=39) (args:=#[.agg sp]) rfl rfl (by kernel_rfl) ?_
     refine(C14.o y12 A2.o.env).mono ?_
     rintro e y13 ⟨rfl,hb⟩
     have A3:=Hd (A2.o.on hb)
     replace AB:=Hd ((hb.block _ (zY AB.o)).trans AB.o)
     clear hb
     refine⟨_,rfl,A3.o.cb,?_⟩
     refine Xak (i:=22) (by kernel_rfl) ?_
     refine Xao (f:=38) (args:=#[.int .i64 c.leaf]) rfl rfl (by kernel_rfl) ?_
     refine(C22.o y13 A3.o.env).mono ?_
     rintro e y14 ⟨rfl,hb⟩
     have A4:=Hd (A3.o.on hb)
     replace AB:=Hd ((hb.block _ (zY AB.o)).trans AB.o)
     clear hb
     refine⟨_,rfl,A4.o.cb,?_⟩
     have hB:=A4.o.cb
     refine Xad 23 (.agg vs) rfl (fun _ _=>by go_simp;exact HVS.o.symm) hB ?_
     refine Xak (i:=25) (by kernel_rfl) ?_
     have IF:=Hd (A4.o.row HIN.o HE.o (p':=y1.heap.size) (by omega) vs)
     have W2:=Hd (setRow_heap y14 y1.heap.size _ vs _ _ AB.o)
     have STR:=Hd (run_storeVar_row (P:=prog) y14 y1.heap.size _ 80 _ vs AB.o (by rw[VSZ.o];exact Xf5) (by rw[VSZ.o];rfl) VON.o)
     refine Xco rfl rfl (Xar (t:=80) (x:=.tmp 9) (y:=.tmp 67) (ad:=⟨y1.heap.size,0,none⟩) (u:=.agg vs) rfl (by kernel_rfl) (by kernel_rfl) STR.o) ?_
     refine⟨IF.o.cb,?_⟩
     refine wpAnyH_done (by kernel_rfl) ?_ _
     go_simp
     clear hB
     refine‹∀(a:Act) (w_1:World),_→_› _ _ ?_
     go_meet
     exact⟨_,rfl,W2,IF⟩
   ·skip
    refine Xbl rfl rfl (Xd6 wd rfl) ?_
    have HP':=ID.o.ck.lt
    obtain⟨y15,hy15⟩:=xq (wd.alloc (.cells #[.string ⟨#[]⟩,.string ⟨#[]⟩,.string ⟨#[]⟩,.string ⟨#[]⟩,.string ⟨#[]⟩,.string ⟨#[]⟩,.string ⟨#[]⟩,.string ⟨#[]⟩,.string ⟨#[]⟩,.string ⟨#[]⟩,.string ⟨#[]⟩] 80))
    rw[←hy15]
    have A0:Hid (ChI w c gv rv 0 y15):=Hd (by rw[hy15];exact ID.o.on ((zR _ _).alloc (zL _) _))
    have AB:Hid (y15.heap[wd.heap.size]?=some (.cells #[.string ⟨#[]⟩,.string ⟨#[]⟩,.string ⟨#[]⟩,.string ⟨#[]⟩,.string ⟨#[]⟩,.string ⟨#[]⟩,.string ⟨#[]⟩,.string ⟨#[]⟩,.string ⟨#[]⟩,.string ⟨#[]⟩,.string ⟨#[]⟩] 80 (0,0))):=Hd (by rw[hy15];exact heap_alloc_last wd _)
    clear hy15
    refine⟨A0.o.cb,?_⟩
    refine Xak (i:=4) (by kernel_rfl) ?_
    refine Xao (f:=37) (args:=#[.agg au]) rfl rfl (by kernel_rfl) ?_
    refine(C4.o y15 A0.o.env).mono ?_
    rintro e y16 ⟨rfl,hb⟩
    have A1:=Hd (A0.o.on hb)
    replace AB:=Hd ((hb.block _ (zY AB.o)).trans AB.o)
    clear hb
    refine⟨_,rfl,A1.o.cb,?_⟩
    refine Xak (i:=7) (by kernel_rfl) ?_
    refine Xao (f:=38) (args:=#[.int .i64 c.date]) rfl rfl (by kernel_rfl) ?_
    refine(C7.o y16 A1.o.env).mono ?_
    rintro e y17 ⟨rfl,hb⟩
    have A2:=Hd (A1.o.on hb)
    replace AB:=Hd ((hb.block _ (zY AB.o)).trans AB.o)
    clear hb
    refine⟨_,rfl,A2.o.cb,?_⟩
    refine Xak (i:=14) (by kernel_rfl) ?_
    refine Xao (f:=39) (args:=#[.agg sp]) rfl rfl (by kernel_rfl) ?_
    refine(C14.o y17 A2.o.env).mono ?_
    rintro e y18 ⟨rfl,hb⟩
    have A3:=Hd (A2.o.on hb)
    replace AB:=Hd ((hb.block _ (zY AB.o)).trans AB.o)
    clear hb
    refine⟨_,rfl,A3.o.cb,?_⟩
    refine Xak (i:=22) (by kernel_rfl) ?_
    refine Xao (f:=38) (args:=#[.int .i64 c.leaf]) rfl rfl (by kernel_rfl) ?_
    refine(C22.o y18 A3.o.env).mono ?_
    rintro e y19 ⟨rfl,hb⟩
    have A4:=Hd (A3.o.on hb)
    replace AB:=Hd ((hb.block _ (zY AB.o)).trans AB.o)
    clear hb
    refine⟨_,rfl,A4.o.cb,?_⟩
    have hB:=A4.o.cb
    refine Xad 23 (.agg vs) rfl (fun _ _=>by go_simp;exact HVS.o.symm) hB ?_
    refine Xak (i:=25) (by kernel_rfl) ?_
    have IF:=Hd (A4.o.row HIN.o HE.o (p':=wd.heap.size) (by omega) vs)
    have W2:=Hd (setRow_heap y19 wd.heap.size _ vs _ _ AB.o)
    have STR:=Hd (run_storeVar_row (P:=prog) y19 wd.heap.size _ 80 _ vs AB.o (by rw[VSZ.o];exact Xf5) (by rw[VSZ.o];rfl) VON.o)
    refine Xco rfl rfl (Xar (t:=80) (x:=.tmp 9) (y:=.tmp 67) (ad:=⟨wd.heap.size,0,none⟩) (u:=.agg vs) rfl (by kernel_rfl) (by kernel_rfl) STR.o) ?_
    refine⟨IF.o.cb,?_⟩
    refine wpAnyH_done (by kernel_rfl) ?_ _
    go_simp
    clear hB
    refine‹∀(a:Act) (w_1:World),_→_› _ _ ?_
    go_meet
    exact⟨_,rfl,W2,IF⟩
  case rest=>
  obtain⟨w9,hw9'⟩:=xq wc
  rw[←hw9'] at hcut⊢
  obtain⟨p',rfl,AB,I9⟩:=hcut
  clear hw9'
  have VD:Hid ((V0 c da d1 tg tr op tk d2).map bs=Xaz c.p):=Hd (by
   have h0:=HP0.o.symm
   obtain⟨q1,q2,q3⟩:=Xlo h0
   have vd:=Xe6 h0
   exact Ymc c da d1 tg tr op tk d2 OK.o vd HDA.o HD1.o HOP.o HD2.o (TG.o (by rw[HP1.o];exact q1)) (TR.o (by rw[HP2.o];exact q2)) (TK.o q3))
  have FL:Hid ((Xa8 c.p).length≤10000000):=Hd (HF.o HP0.o.symm)
  obtain⟨w10,hw10⟩:=xq (w9.alloc (.cells #[.pointer none,.slice none 0 0] 84))
  have B10:Hid (BD w w9.heap.size (Xfg fWords (Xaz c.p) 0) w10):=Hd (by rw[hw10];exact BD.new I9.o.fr)
  have C10:Hid (CB w10 w.heap.size c gv rv 39):=Hd (I9.o.cb.on (by rw[hw10];exact(zR _ _).alloc (zL _) _))
  have A10:Hid (w10.heap[p']?=some (.cells vs 80 (0,0))):=Hd (by rw[hw10];exact Xae AB.o)
  have LD11:=Hd (run_loadVar_row (P:=prog) w10 p' _ 80 vs _ _ A10.o underlying80 rfl (by rw[VSZ.o];exact Xf5))
  have CLT:Hid (w.heap.size<w9.heap.size):=Hd I9.o.cb.lt
  have HW10:=Hd hw10
  clear hw10 AB I9 BLD C4 C7 C14 C22 LDA LDS A10 HDA HD1 HOP HD2 TG TR TK HP1 HP2 HP3 ERR2 hz
  go_upto_region 13 with fail
  rw[←HW10.o]
  clear HW10
  obtain⟨q,hq⟩:=xq w9.heap.size
  rw[←hq] at B10 CLT⊢
  clear hq
  refine wp_region_list ?_
  simp only[]
  refine Xac 80 rfl _ rfl ⟨_,_,rfl,LD11.o,?_⟩
  clear LD11
  go_wp2_with fail
  go_loopg [11,12,69] 11 (fun k v11 v12 i wr=>∃j:Nat,j≤11∧k=11-j∧i=.int .i64 (j:Int)∧Hid (BD w q (Xfg fWords (Xaz c.p) j) wr)∧Hid (CB wr w.heap.size c gv rv 39))
  case atStart=>exact⟨0,by omega,rfl,rfl,B10,C10⟩
  case round=>
   clear B10 C10
   obtain⟨j,hj,rfl,rfl,bd,cb⟩:=hrel
   by_cases hlt:j<11
   ·obtain⟨s,hs,hsb⟩:=Ygt VD.o j hlt
    have ix:∀w,(Instr.index 80 (.agg vs) (.int .i64 (j:Int))).run prog w=.ok (.string s) w:=fun w=>by rw[HVS.o];exact Yh7 rfl j hlt s hs w
    obtain⟨fw,hfw⟩:=xq (Xaq (fWords.getD j []))
    have cf:wr.cell? ⟨0,j,none⟩=some (.string fw):=by rw[hfw];exact(HE.o.below bd.o.bel HE.o.size).fw j hlt
    have fz:fw.size≤20:=by rw[hfw,Xan];exact Xwq j hlt
    have LS:=Xrx (ws:=fWords) (vs:=Xaz c.p) (j:=j) (by show j<11;exact hlt) (by show j<11;exact hlt)
    have LE:=Xzf fWords (Xaz c.p) (j+1)
    have LF:((fWords.zip (Xaz c.p)).flatMap fun p=>p.1++32::p.2++[10]).length≤(Xa8 c.p).length:=by unfold Xa8;rw[List.length_append];omega
    have sz:s.size≤10000000:=by
     have:=FL.o
     rw[LS] at LE
     rw[←Xaa,hsb]
     simp only[List.length_append,List.length_cons] at LE
     omega
    have lz:(Xfg fWords (Xaz c.p) j).length≤10000000:=by
     have:=FL.o
     rw[LS] at LE
     simp only[List.length_append] at LE
     omega
    have z1:(fw++(⟨#[32]⟩:ByteArray)).size≤21:=by rw[ByteArray.size_append];show fw.size+1≤21;omega
    have z2:(fw++(⟨#[32]⟩:ByteArray)++s).size≤10000100:=by rw[ByteArray.size_append];omega
    have z3:(fw++(⟨#[32]⟩:ByteArray)++s++(⟨#[10]⟩:ByteArray)).size≤10000101:=by rw[ByteArray.size_append];show _+1≤_;omega
    have TX:Hid (Xfg fWords (Xaz c.p) j++bs (fw++(⟨#[32]⟩:ByteArray)++s++(⟨#[10]⟩:ByteArray))=Xfg fWords (Xaz c.p) (j+1)):=Hd (by
     rw[LS,Xgw,Xgw,Xgw,hsb,hfw,Xci _ (Yal j hlt)]
     simp[bs])
    have WR:=Hd (bd.o.write (fw++(⟨#[32]⟩:ByteArray)++s++(⟨#[10]⟩:ByteArray)) (by omega))
    have CB':=Hd cb.o
    rw[TX.o] at WR
    clear hs hsb hfw LS LE LF TX bd cb
    go_wp2_with fail
    refine WR.o.mono ?_
    rintro e w2 ⟨rfl,b2,k2⟩
    have B2:=Hd b2
    have C2:Hid (CB w2 w.heap.size c gv rv 39):=Hd (k2.same _ _ _ _ (by have:=CLT.o;omega) (by decide) CB'.o)
    clear b2 k2 WR CB' cf ix
    go_wp2_with fail
    go_roundg (11-(j+1))
    case measure=>omega
    case rel=>exact⟨j+1,by omega,rfl,by go_num,B2,C2⟩
   ·obtain rfl:j=11:=by omega
    have cb74:wr.cell? ⟨w.heap.size,74,none⟩=some (.string c.body):=cb.o.at (Xjl OK.o gv rv)
    have FE:Xfg fWords (Xaz c.p) 11++bs ((⟨#[10]⟩:ByteArray)++c.body)=Xa8 c.p:=by rw[Xgw];rfl
    have bz:c.body.size≤1000000:=HIN.o.body
    have z1:((⟨#[10]⟩:ByteArray)++c.body).size≤1000001:=by rw[ByteArray.size_append];show 1+c.body.size≤_;omega
    have lz:(Xfg fWords (Xaz c.p) 11).length≤10000000:=by
     have:=FL.o
     rw[←FE,List.length_append] at this
     omega
    have WR:=Hd (bd.o.write ((⟨#[10]⟩:ByteArray)++c.body) (by omega))
    rw[FE] at WR
    clear FE bd cb hlt
    go_wp2_with fail
    refine WR.o.mono ?_
    rintro e w2 ⟨rfl,b2,k2⟩
    have TX:=Hd (b2.text (Yia VD.o) (by have:=FL.o;omega))
    clear b2 k2 WR cb74
    go_wp2_with fail
    refine TX.o.mono ?_
    rintro e w3 ⟨rfl,hb3⟩
    have B3:=Hd hb3
    clear TX hb3
    go_wp2_with fail
    go_ret2
    exact(FX.o _ _).2 ⟨by rw[qP HP0.o.symm,←HP0.o];rfl,B3.o⟩
 ·have hz:((p0:Int) !=0)=true:=Xam (by omega)
  have FR:=Hd (I8.o.fr.trans ((Dr.below ⟨1,rfl⟩:Bw w8 w8.drew).mono I8.o.fr.size))
  have N0:=Hd h0
  clear h0
  go_upto_region 10 with fail
  go_quiet (fail)
  go_wp2_with fail
  go_ret2
  exact(FX.o _ _).2 ⟨by rw[←HP0.o,qN N0.o];rfl,I8.o.fr.trans ((Dr.below ⟨nq,rfl⟩).mono I8.o.fr.size)⟩
theorem Xm5 (w:World)(s:ByteArray)(hs:s.size≤10000000):∃cap w',(convert 9 82 (.string s)).run prog w=.ok (.slice (some ⟨w.heap.size,0,none⟩) s.size cap) w'∧s.size≤cap∧cap≤maxLen∧Rd w' (some ⟨w.heap.size,0,none⟩) (bs s)∧Bw w w':=by
 refine⟨_,_,run_bytes_of_string (P:=prog) w 9 82 5 s underlying9 underlying82 underlying5,grownCap_ge w s.size 0 _,grownCap_le_maxLen w s.size 0 _ (by unfold maxLen;omega),⟨Xgq s,fun h0=>⟨w.heap.size,0,rfl,?_,fun i hi=>?_⟩⟩,?_⟩
 ·simp
 ·rw[cell_of_row _ w.heap.size (0+i) _ _ _ (zN w.drew _),Nat.zero_add]
  rw[Xaa] at hi
  unfold bytesRow
  rw[Array.getElem?_append_left (by rw[Array.size_map];exact hi),Array.getElem?_map]
  have hi2:i<s.data.size:=hi
  rw[Array.getElem?_eq_getElem hi2]
  simp[bs,U]
 ·exact((zR w.heap.size w).drew).alloc (zL _) _
theorem Xed {P:Program}{o:Oper}{a:Act}{w w':World}{s d:TypeId}{x:Operand}{u v:Value}(ho:o.op=.convert s d x)(hx:a.eval x=u)(h:(convert s d u).run P w=.ok v w'):(execOp a.eval o).run P w=.ok (.value v) w':=by
 unfold execOp
 rw[ho]
 simp only[hx]
 rw[Sem.run_bind,h]
 rfl
theorem Xe5 {P:Program}{ops:Array Oper}{rest:List Oper}{o:Oper}{a:Act}{w:World}{Q:Exit→Act→World→Prop}(s d:TypeId)(hgd:o.guard=none)(x:Operand)(ho:o.op=.convert s d x)(h:∃u v w',a.eval x=u∧(convert s d u).run P w=.ok v w'∧wpList P ops Q rest (a.put o.dst v) w'):wpList P ops Q (o::rest) a w:=by
 obtain⟨u,v,w',h1,h2,h3⟩:=h
 exact Xas hgd (Xed ho h1 h2) h3
theorem Xdg {c:Cn}(ok:c.Ok)(h:Xc4 c.p=0):∀x∈Xa8 c.p,x<256:=by
 have vd:=Xe6 h
 have jl:∀(s:Nat) (l:List (List Nat)),s<256→(∀y∈l,∀x∈y,x<256)→∀x∈Xaw [s] l,x<256:=fun s l hs hl x hx=>by
  rcases Xjt s l x hx with rfl|⟨y,hy,hx⟩
  ·exact hs
  ·exact hl y hy x hx
 have vl:∀v∈Xaz c.p,∀x∈v,x<256:=by
  intro v hv x hx
  unfold Xaz at hv
  simp only[List.mem_cons,List.not_mem_nil,or_false] at hv
  rcases hv with rfl|rfl|rfl|rfl|rfl|rfl|rfl|rfl|rfl|rfl|rfl
  ·exact Xgq c.name x hx
  ·have:=Xhy ok.author.lt x hx;omega
  ·have:=Xdl (n:=c.date) vd.date.1 x hx;omega
  ·exact jl 44 _ (by decide) (fun y hy z hz=>by obtain⟨g,_,rfl⟩:=List.mem_map.1 (show y∈c.groups.map bs from hy);exact Xgq g z hz) x hx
  ·exact Xgq c.subject x hx
  ·exact jl 32 _ (by decide) (fun y hy z hz=>by obtain⟨g,hg,rfl⟩:=List.mem_map.1 (show y∈c.refs.map Xcr from hy);have:=Xfd (ok.refs g hg).lt z hz;omega) x hx
  ·unfold Xg8 at hx
   split at hx
   ·cases hx
   ·have:=Xfd (l:=c.sup) ok.sup.lt x hx;omega
  ·exact Xgq c.ctl x hx
  ·exact Xgq c.dist x hx
  ·unfold Xi7 at hx
   rw[List.mem_append,List.mem_cons] at hx
   rcases hx with hx|rfl|hx
   ·have:=Xdl (n:=c.number) vd.number.1 x hx;omega
   ·decide
   ·exact Yav _ x hx
  ·have:=Xdl (n:=c.leaf) vd.leaf.1 x hx;omega
 intro x hx
 unfold Xa8 at hx
 rw[List.mem_append,List.mem_cons] at hx
 rcases hx with hx|rfl|hx
 ·obtain⟨p,hp,hx⟩:=List.mem_flatMap.1 hx
  rw[List.mem_append,List.mem_append,List.mem_cons,List.mem_singleton] at hx
  rcases hx with(hx|rfl|hx)|rfl
  ·have h1:=(List.of_mem_zip hp).1
   have:∀l∈fWords,∀x∈l,x<256:=by decide
   exact this _ h1 x hx
  ·decide
  ·exact vl _ (List.of_mem_zip hp).2 x hx
  ·decide
 ·decide
 ·exact Xgq c.body x hx
def idV (c:Cont):List Nat:=if Xc4 c=0 then idF c else zero32
def IdP (c:Cont)(w:World)(e:Ending)(w':World):Prop:=
 e=.returned (.tuple #[.agg (idA (idV c)),.int .i64 ((Xc4 c:Nat):Int)])∧Bw w w'
theorem Xz2 (w:World)(c:Cn)(gv rv:Value)(hin:CnIn w c gv rv)(hF:Xc4 c.p=0→(Xa8 c.p).length≤10000000)(hE:Env w):
    Calls prog 10 #[.agg (c.cells gv rv)] w (IdP c.p w):=by
 have FX:Hid (∀e w',IdP c.p w e w'↔e=.returned (.tuple #[.agg (idA (idV c.p)),.int .i64 ((Xc4 c.p:Nat):Int)])∧Bw w w'):=Hd (fun _ _=>Iff.rfl)
 obtain⟨zs,hzs⟩:=xq (idA zero32)
 have Z0:Hid (zs=#[.int .u8 0,.int .u8 0,.int .u8 0,.int .u8 0,.int .u8 0,.int .u8 0,.int .u8 0,.int .u8 0,.int .u8 0,.int .u8 0,.int .u8 0,.int .u8 0,.int .u8 0,.int .u8 0,.int .u8 0,.int .u8 0,.int .u8 0,.int .u8 0,.int .u8 0,.int .u8 0,.int .u8 0,.int .u8 0,.int .u8 0,.int .u8 0,.int .u8 0,.int .u8 0,.int .u8 0,.int .u8 0,.int .u8 0,.int .u8 0,.int .u8 0,.int .u8 0]):=Hd (by rw[hzs];rfl)
 obtain⟨w0,hw0⟩:=xq ((w.alloc (.cells (c.cells gv rv) 39)).alloc (.cells zs 26))
 have B0:Hid (Bw w w0):=Hd (by rw[hw0];exact((zR _ _).alloc (zL _) _).alloc (by simp) _)
 have C0:CB w0 w.heap.size c gv rv 39:=by unfold CB;rw[hw0];exact Xae (heap_alloc_last w _)
 have R0:Hid (IB w0 (w.heap.size+1) 26 zero32):=Hd (by
  unfold IB;rw[hw0,←hzs];have:=heap_alloc_last (w.alloc (.cells (c.cells gv rv) 39)) (.cells zs 26);rw[World.size_alloc] at this;exact this)
 have SZ0:w0.heap.size=w.heap.size+2:=by rw[hw0];simp
 have LD:=Hd (C0.all hin.ok)
 have FM:=Hd (Xjw w0 c gv rv (hin.on B0.o) hF (hE.on B0.o))
 have HF:=Hd hF;have HE:=Hd hE
 have FLT:Hid (Xc4 c.p=0→∀x∈Xa8 c.p,x<256):=Hd (fun h=>Xdg hin.ok h)
 obtain⟨cs,hcs⟩:=xq (c.cells gv rv)
 rw[←hcs] at hw0 LD FM⊢
 have HW:=Hd hw0
 clear hw0 hcs hin hF hE C0
 go_enter func10,ntmps10
 go_upto_region 1 with fail
 have W':=HW.o
 rw[Z0.o] at W'
 rw[←W']
 clear W' HW
 refine wp_region_list ?_
 simp only[]
 refine Xac 39 rfl _ rfl ⟨_,_,rfl,LD.o,?_⟩
 go_wp2_with fail
 refine FM.o.mono ?_
 rintro e w1 ⟨rfl,hb1⟩
 have B1:=bh B0 hb1
 have R1:Hid (IB w1 (w.heap.size+1) 26 zero32):=Hd (R0.o.below hb1)
 clear hb1 FM LD R0 B0 SZ0
 obtain⟨tx,htx⟩:=xq (Xaq (if Xc4 c.p=0 then Xa8 c.p else[]))
 rw[←htx]
 obtain⟨p0,hp0⟩:=xq (Xc4 c.p)
 rw[←hp0]
 have HP0:=Hd hp0;have HTX:=Hd htx
 clear hp0 htx
 have PW:Hid (∀w5 (l:List Nat),l.length=32→IB w5 (w.heap.size+1) 26 zero32→Bw w w5→Sv 26 ⟨w.heap.size+1,0,none⟩ (.agg (idA l)) w5 (w5.setRow (w.heap.size+1) (idA l))∧IB (w5.setRow (w.heap.size+1) (idA l)) (w.heap.size+1) 26 l∧Bw w (w5.setRow (w.heap.size+1) (idA l))):=Hd (fun w5 l hl hi hb=>
  ⟨run_storeVar_row w5 (w.heap.size+1) _ 26 _ _ hi (by rw[Xag,hl];exact Xa3) (by rw[Xag,Xag,hl];rfl) (Xdf _),setRow_heap w5 _ _ _ _ _ hi,below_setRow hb (Nat.le_succ _) _⟩)
 have SZ:Hid (∀l:List Nat,l.length=32→(prog.info? 26).map (·.size)=some (idA l).size):=Hd (fun l hl=>by rw[Xag,hl];exact Xa3)
 by_cases h0:p0=0
 ·subst h0
  have hz:((((0:Nat):Int)) !=0)=false:=rfl
  have FL:=HF.o HP0.o.symm
  have TXE:tx=Xaq (Xa8 c.p):=by rw[HTX.o,qP HP0.o.symm]
  have tz:tx.size≤10000000:=by rw[TXE,Xan];exact FL
  obtain⟨cap,w2,cv,hc1,hc2,rd,hb2⟩:=Xm5 w1 tx tz
  have CV:=Hd cv
  have B2:=bg B1.o hb2
  have SH:=Yg4 w2 (some ⟨w1.heap.size,0,none⟩) cap (bs tx) rd (by rw[Xaa];exact tz) (by rw[Xaa];exact hc1) hc2 (HE.o.on B2)
  rw[Xaa] at SH
  have SHH:=Hd SH
  have R2:=R1.o.below hb2
  have IDV:Hid (idV c.p=Xi4 (bs tx)):=Hd (by
   unfold idV idF
   rw[qP HP0.o.symm,TXE]
   by_cases hlt:∀x∈Xa8 c.p,x<256
   ·rw[Xci _ hlt]
   ·exact absurd (FLT.o HP0.o.symm) hlt)
  have SL:(Xi4 (bs tx)).length=32:=Xbj _
  have FIN:Hid (∀w5,Bw w2 w5→Sv 26 ⟨w.heap.size+1,0,none⟩ (.agg (idA (Xi4 (bs tx)))) w5 (w5.setRow (w.heap.size+1) (idA (Xi4 (bs tx))))∧IB (w5.setRow (w.heap.size+1) (idA (Xi4 (bs tx)))) (w.heap.size+1) 26 (Xi4 (bs tx))∧Bw w (w5.setRow (w.heap.size+1) (idA (Xi4 (bs tx))))):=Hd (fun w5 hb=>PW.o w5 _ SL (R2.below hb) (bg B2 hb))
  have SZ2:=Hd (SZ.o _ SL)
  obtain⟨rs,hrs⟩:=xq (idA (Xi4 (bs tx)))
  have HRS:Hid (idA (idV c.p)=rs):=Hd (by rw[hrs,IDV.o])
  have HRS2:=Hd hrs
  rw[←hrs] at SHH FIN SZ2
  clear hrs FL TXE cv hc1 hc2 rd hb2 B2 SH R2 SL PW SZ
  go_wp2_with ((with_reducible refine Xe5 9 82 rfl _ rfl ?_);refine⟨_,_,_,rfl,CV.o,?_⟩)
  refine SHH.o.mono ?_
  rintro e w5 ⟨rfl,hb5⟩
  obtain⟨f0,f1,f2⟩:=FIN.o w5 hb5
  have F0:=Hd f0;have F1:=Hd f1;have F2:=Hd f2
  clear f0 f1 f2 hb5 FIN SHH CV
  go_wp2_with ((with_reducible refine Xab 26 rfl _ _ rfl ?_);refine⟨_,_,_,rfl,rfl,F0.o,?_⟩)
  have f1:=F1.o
  unfold IB at f1
  rw[←HRS2.o] at f1
  exact zP (Xa1 results10 _ _ (w.heap.size+1) _ _ _ _ rfl f1 underlying26 rfl SZ2.o) rfl ((FX.o _ _).2 ⟨by rw[HRS.o,←HP0.o];rfl,F2.o⟩)
 ·have hz:((p0:Int) !=0)=true:=Xam (by omega)
  have Z32:zero32.length=32:=by simp[zero32]
  obtain⟨f0,f1,f2⟩:=PW.o w1 zero32 Z32 R1.o B1.o
  have F0:=Hd f0;have F1:=Hd f1;have F2:=Hd f2
  have BZ:Hid (∀w,(Instr.build 26 #[]).run prog w=.ok (.agg zs) w):=Hd (fun w=>by rw[Z0.o];kernel_rfl)
  have SZ2:=Hd (SZ.o _ Z32)
  have IDV:Hid (idV c.p=zero32):=Hd (by unfold idV;rw[qN (by rw[←HP0.o];exact h0)])
  rw[←hzs] at F0 F1 F2 SZ2
  have HZS:=Hd hzs
  clear f0 f1 f2 PW SZ hzs h0 Z32
  go_wp2_with (first
   |((with_reducible refine Xaf 26 rfl rfl ?_);refine⟨_,BZ.o _,?_⟩)
   |((with_reducible refine Xab 26 rfl _ _ rfl ?_);refine⟨_,_,_,rfl,rfl,F0.o,?_⟩))
  have f1:=F1.o
  unfold IB at f1
  rw[←HZS.o] at f1
  exact zP (Xa1 results10 _ _ (w.heap.size+1) _ _ _ _ rfl f1 underlying26 rfl SZ2.o) rfl ((FX.o _ _).2 ⟨by rw[IDV.o,←HZS.o,←HP0.o];rfl,F2.o⟩)
end Go.Proofs.YtjolcnopipbkhaaGreatDoor
