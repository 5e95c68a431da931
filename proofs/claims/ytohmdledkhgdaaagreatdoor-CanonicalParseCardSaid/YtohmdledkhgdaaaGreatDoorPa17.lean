/- article.Lines, CheckBody. -/
import Derived.Test.YtohmdledkhgdaaaGreatDoorPa16
import Derived.RangeFuncWrites
namespace Go.Proofs.YtohmdledkhgdaaaGreatDoor
open Go.RowKit Go.Shelf
attribute [local go_sem] Oper.semAt_some
set_option linter.unusedVariables false
set_option maxRecDepth 100000
abbrev Ln:={x:Nat×ByteArray//x.2.size≤1000000}
def lnV (x:Ln):Array Value:=#[.int .i64 (x.1.1:Int),.string x.1.2]
def lnL (pre:List Ln):List (List Nat):=pre.map fun x=>bs x.1.2
theorem Xiu (pre:List Ln) (x:Ln):lnL (pre++[x])=lnL pre++[bs x.1.2]:=by simp[lnL]
theorem Ye5 (pre:List Ln):(lnL pre).length=pre.length:=by simp[lnL]
theorem Yhq (pre:List Ln):Xnl (lnL pre)≤pre.length*1000001:=by
 have:=Ygd (lnL pre) 1000000 (fun x hx=>by
  obtain⟨y,_,rfl⟩:=List.mem_map.1 hx
  rw[Xaa];exact y.2)
 rwa [Ye5] at this
theorem Xvs (l:List Nat):Xh5 10 l=Xe2 l:=rfl
set_option maxHeartbeats 2000000 in
theorem Xxd (n:Nat) (hn:1≤n) (l Bs B:Nat) (s:ByteArray) (hs:s.size≤1000000) (J Jx:List Ln→World→Prop) (hJa:AbidesFrom B J)
    (hY:∀pre x W,J pre W→pre.length<s.size+1→YieldAt Fence.wide (n-1) Tryz.prog l (lnV x) W fun e W'=>
     (e=.returned (.bool true)∧J (pre++[x]) W'∧Below 9 W W')∨(e=.returned (.bool false)∧Jx (pre++[x]) W'))
    (W:World) (hE:Env W) (hBs:W.cell? ⟨Bs,0,none⟩=some (.string s)) (h0:J [] W):
    CallsIn Fence.wide n Tryz.prog 147 #[.func (.yield l) #[] #[],.pointer (some ⟨Bs,0,none⟩)] W fun e W'=>(∃v,e=.returned v)∧
     ((∃ys:List Ln,lnL ys=lns (bs s)∧J ys W')∨(∃pre:List Ln,(∃q,lnL pre++q=lns (bs s))∧Jx pre W')):=by
 refine callsIn_of_wp Tryz.func147 rfl trivial ?_ rfl
 simp only[Tryz.ntmps147,List.size_toArray,List.length_cons,List.length_nil,Nat.reduceAdd,Nat.reduceSub,Array.replicate_succ,Array.replicate_zero,List.push_toArray,List.append_toArray,List.nil_append,List.cons_append]
 gi_wp2
 gi_loopw [3,4] (fun r i wr=>∃(k:Nat) (t:ByteArray) (pre:List Ln),r=.string t∧i=.int .i64 (k:Int)∧t.size+k≤s.size∧Hid (lns (bs s)=lnL pre++lns (bs t))∧pre.length≤k∧Env wr∧J pre wr)
  (fun r i wr=>s.size-(intOf i).toNat)
 case atStart=>
  exact⟨0,s,[],rfl,rfl,by omega,rfl,Nat.zero_le _,hE,h0⟩
 case round=>
  obtain⟨k,t,pre,rfl,rfl,hk,hpre,hpl,he,hJ⟩:=hrel
  by_cases h1:t.size=0
  ·obtain rfl:=Xea h1
   have ST:Hid (lns (bs s)=lnL pre):=Hd (by rw[hpre.out];simp[bs,lns,Xzs])
   clear h1 he
   gi_wp2
   go_end0
   exact⟨⟨_,rfl⟩,.inl ⟨pre,ST.out.symm,hJ⟩⟩
  ·have n0:=Xdr h1
   have C:=Hd (Xq5 t 10 wr (by omega) he.mx)
   have HE:=Hd he
   have LC:Hid (lns (bs t)=Xe2 (bs t)::lns ((bs t).drop ((Xe2 (bs t)).length+1))):=Hd (Ybk (fun e=>h1 (by rw[←Xaa,e];rfl)))
   have HLL:=Xqf (bs t)
   rw[Xaa] at HLL
   clear he
   gi_wp2_with fail
   refine⟨trivial,?_⟩
   refine(callsIn_wide.2 C.out).mono ?_
   rintro e w1 ⟨x,y,b,rfl,hx,hy,hb,hxs,hd1⟩
   rw[show(10:UInt8).toNat=10 from rfl,Xvs] at hx hy hb
   have J1:J pre w1:=by obtain⟨q,rfl⟩:=hd1;exact hJa _ _ _ _ hJ (Xkd _ _) (fun r e=>by cases e)
   have E1:=Hd (HE.out.on hd1.below)
   have YS:y.size+1≤t.size:=by
    have:=congrArg List.length hy
    rw[Xaa,List.length_drop,Xaa] at this;omega
   have ST:Hid (lns (bs s)=lnL (pre++[⟨(k,x),by show x.size≤1000000;omega⟩])++lns (bs y)):=Hd (by rw[hpre.out,LC.out,Xiu];simp[hx,hy])
   clear hJ hd1 C hx hy hb LC HE
   obtain⟨fn,tmps,assign,body,hyy,hR⟩:=hY pre ⟨(k,x),by show x.size≤1000000;omega⟩ w1 J1 (by omega)
   unfold lnV at hyy
   dsimp only at hyy
   gi_wp2
   refine hR.mono ?_
   rintro e W3 (⟨rfl,hJ3,hk3⟩|⟨rfl,hJx3⟩)
   ·have E3:=Hd (E1.out.below hk3 (Nat.le_refl _))
    gi_wp2
    go_roundw
    case rel=>exact⟨k+1,y,pre++[_],rfl,by go_num,by omega,ST,by simp;omega,E3.out,hJ3⟩
    case measure=>simp[intOf];omega
   ·gi_wp2
    refine bodyPost_ret (results_none rfl _ _ _) rfl ?_
    exact⟨⟨_,rfl⟩,.inr ⟨_,⟨_,ST.out.symm⟩,hJx3⟩⟩
theorem Ybl (F:Fence) (n:Nat) (h37:F.fn 107) (hro:F.round=none) (s:ByteArray) (w:World):
    CallsIn F n Tryz.prog 107 #[.string s] w fun e w'=>e=.returned (.func (.func 147) #[] #[.pointer (some ⟨w.heap.size,0,none⟩)])∧w'=w.alloc (.cells #[.string s] 9):=by
 refine callsIn_of_wp Tryz.func107 rfl h37 ?_ hro
 simp only[Tryz.ntmps107,List.size_toArray,List.length_cons,List.length_nil,Nat.reduceAdd,Nat.reduceSub,Array.replicate_succ,Array.replicate_zero,List.push_toArray,List.append_toArray,List.nil_append,List.cons_append]
 gi_wp2
 go_ret
 exact⟨rfl,rfl⟩
theorem Xqd (n:Nat) (hn:1≤n) (Bs:Nat) (s:ByteArray) (hs:s.size≤1000000) (w:World) (hE:Env w) (hB:Bs<w.heap.size) (hc:w.cell? ⟨Bs,0,none⟩=some (.string s)):
    SeqStopsK Fence.wide n Tryz.prog 147 #[.pointer (some ⟨Bs,0,none⟩)] lnV (Below 9) (fun ys=>lnL ys=lns (bs s)) (fun pre=>∃q,lnL pre++q=lns (bs s)) (s.size+1) w:=fun l J Jx W hW hJ _ hY h0=>
 Xxd n hn l Bs W.heap.size s hs J Jx hJ hY W (hE.on hW) ((hW.cell (p:=⟨Bs,0,none⟩) hB).trans hc) h0
end Go.Proofs.YtohmdledkhgdaaaGreatDoor
/- article.CheckBody. -/
namespace Go.Proofs.YtohmdledkhgdaaaGreatDoor
open Go.RowKit Go.Shelf
attribute [local go_sem] Oper.semAt_some
set_option linter.unusedVariables false
set_option maxRecDepth 100000
def XBox (W:World) (p:Nat):Prop:=∃n:Int,Boxed W p 3 (.int .i64 n)
theorem XBox.own (p B:Nat):OwnFrom B (fun(_:List Ln) W=>XBox W p):=fun s X Y row hs hg hrow=>by
 obtain⟨n,h⟩:=hs
 exact⟨n,(Own.from (boxed_own p 3 (fun _:Unit=>.int .i64 n)) B) () X Y row h hg hrow⟩
def CbI (w:World) (p:Nat) (s:ByteArray) (pre:List Ln) (W:World):Prop:=
 Boxed W p 9 (.string s)∧(Boxed W (p+1) 3 (.int .i64 0)∧(Boxed W (p+2) 39 (.int .i64 0)∧(Boxed W (p+3) 3 (.int .i64 (Xnl (lnL pre):Nat))∧(Hid (Xcb s.size 0 (lnL pre)=0)∧Below p w W))))
def CbX (w:World) (p:Nat) (s:ByteArray) (c:Code) (pre:List Ln) (W:World):Prop:=
 XBox W (p+1)∧(Boxed W (p+2) 39 (.int .i64 (Xcb s.size 0 (lnL pre):Nat))∧(Hid (c=.ret∧Xcb s.size 0 (lnL pre)≠0)∧Below p w W))
theorem CbI.own (w:World) (p:Nat) (s:ByteArray) (hp:p≤w.heap.size) (B:Nat) (hB:p≤B):OwnFrom B (CbI w p s):=
 OwnFrom.and (Own.from (boxed_own p 9 (fun _=>.string s)) _) (OwnFrom.and (Own.from (boxed_own (p+1) 3 (fun _=>.int .i64 0)) _) (OwnFrom.and (Own.from (boxed_own (p+2) 39 (fun _=>.int .i64 0)) _)
  (OwnFrom.and (Own.from (boxed_own (p+3) 3 (fun pre:List Ln=>.int .i64 (Xnl (lnL pre):Nat))) _) (OwnFrom.and (Xc6 B _) (ownFrom_below hp hB)))))
theorem CbX.own (w:World) (p:Nat) (s:ByteArray) (c:Code) (hp:p≤w.heap.size) (B:Nat) (hB:p≤B):OwnFrom B (CbX w p s c):=
 OwnFrom.and (XBox.own (p+1) B) (OwnFrom.and (Own.from (boxed_own (p+2) 39 (fun pre:List Ln=>.int .i64 (Xcb s.size 0 (lnL pre):Nat))) _) (OwnFrom.and (Xc6 B _) (ownFrom_below hp hB)))
theorem CbI.on {w:World} {p:Nat} {s:ByteArray} {pre:List Ln} {W W':World} (h:CbI w p s pre W) (hb:Below W.heap.size W W'):CbI w p s pre W':=
 ⟨Xcq h.1 hb,Xcq h.2.1 hb,Xcq h.2.2.1 hb,Xcq h.2.2.2.1 hb,h.2.2.2.2.1,h.2.2.2.2.2.trans (hb.mono (Nat.le_of_lt h.1.lt))⟩
theorem CbI.stop {w:World} {p:Nat} {s:ByteArray} {pre:List Ln} {W:World} (h:CbI w p s pre W) (x:Ln) (n:Int) (m:Nat) (hm:Xil s.size (Xnl (lnL pre)) (bs x.1.2)=m) (h0:m≠0):
    CbX w p s .ret (pre++[x]) ((W.setCell ⟨p+1,0,none⟩ (.int .i64 n)).setCell ⟨p+2,0,none⟩ (.int .i64 (m:Nat))):=by
 have e:Xcb s.size 0 (lnL (pre++[x]))=m:=by rw[Xiu,Xjz _ _ _ h.2.2.2.2.1.out,hm]
 refine⟨⟨n,?_⟩,?_,Hd ⟨rfl,by rw[e];exact h0⟩,?_⟩
 ·exact Boxed.other (Xd0 h.2.1 0 _) (by omega) _
 ·rw[e];exact Xd0 (Boxed.other h.2.2.1 (by omega) _) 0 _
 ·exact(h.2.2.2.2.2.setCell (p:=⟨p+1,0,none⟩) (by show p≤p+1;omega) _).setCell (p:=⟨p+2,0,none⟩) (by show p≤p+2;omega) _
theorem Xj5 (B:Nat) (W:World) (p:Nat) (u v:Value):KeepsFrom B W ((W.setCell ⟨p+1,0,none⟩ u).setCell ⟨p+2,0,none⟩ v):=((KeepsOthers.setCell _ _ _).trans (KeepsOthers.setCell _ _ _)).from B
def Yi2 (l:List Nat) (w:World) (e:Ending) (w':World):Prop:=∃n:Int,e=.returned (.tuple #[.int .i64 n,.int .i64 (Xfk l:Nat)])∧Below w.heap.size w w'
set_option maxHeartbeats 4000000 in
theorem Xq8 (s:ByteArray) (w:World) (hs:s.size≤1000000) (hE:Env w):
    Calls Tryz.prog 65 #[.string s] w (Yi2 (bs s) w):=by
 have HS:=Hd hs
 have HE:=Hd hE
 have h9:=hE.size
 have BF:Hid (Xfk (bs s)=Xcb s.size 0 (lns (bs s))):=Hd (by rw[←Xaa,Ye3])
 clear hs hE
 refine(callsIn_wide (n:=5)).1 ?_
 refine callsIn_of_wp_marks Tryz.func65 rfl trivial ?_ rfl
 simp only[Tryz.ntmps65,List.size_toArray,List.length_cons,List.length_nil,Nat.reduceAdd,Nat.reduceSub,Array.replicate_succ,Array.replicate_zero,List.push_toArray,List.append_toArray,List.nil_append,List.cons_append]
 gi_wp2_with fail
 refine⟨trivial,?_⟩
 gi_at_call 107
 refine(Ybl Fence.wide _ trivial rfl _ _).mono ?_
 rintro e w' ⟨rfl,rfl⟩
 gi_wp2
 obtain⟨p,hp⟩:∃p,p=w.heap.size:=⟨_,rfl⟩
 obtain⟨W0,hW0⟩:∃W0,(((((w.alloc (.cells #[.string s] 9)).alloc (.cells #[.int .i64 0] 3)).alloc (.cells #[.int .i64 0] 39)).alloc (.cells #[.int .i64 0] 3)).alloc (.cells #[.string s] 9))=W0:=⟨_,rfl⟩
 have z0:W0.heap.size=p+5:=by rw[←hW0,hp];simp
 have b0:Below w.heap.size w W0:=by
  rw[←hW0]
  exact(((((Below.refl _ w).alloc (Nat.le_refl _) _).alloc (by simp) _).alloc (by simp;omega) _).alloc (by simp;omega) _).alloc (by simp;omega) _
 have i0':CbI w p s [] W0:=by
  refine⟨?_,?_,?_,?_,Hd rfl,by rw[hp];exact b0⟩<;>rw[←hW0,hp]
  ·exact((((Boxed.new w 9 (.string s)).alloc _).alloc _).alloc _).alloc _
  ·have:=((((Boxed.new (w.alloc (.cells #[.string s] 9)) 3 (.int .i64 0)).alloc (.cells #[.int .i64 0] 39)).alloc (.cells #[.int .i64 0] 3)).alloc (.cells #[.string s] 9))
   simpa using this
  ·have:=(((Boxed.new ((w.alloc (.cells #[.string s] 9)).alloc (.cells #[.int .i64 0] 3)) 39 (.int .i64 0)).alloc (.cells #[.int .i64 0] 3)).alloc (.cells #[.string s] 9))
   simpa using this
  ·have:=((Boxed.new (((w.alloc (.cells #[.string s] 9)).alloc (.cells #[.int .i64 0] 3)).alloc (.cells #[.int .i64 0] 39)) 3 (.int .i64 0)).alloc (.cells #[.string s] 9))
   simpa [Xnl,lnL,Nat.add_assoc] using this
 have hc0:W0.cell? ⟨p+4,0,none⟩=some (.string s):=by
  have:=(Boxed.new ((((w.alloc (.cells #[.string s] 9)).alloc (.cells #[.int .i64 0] 3)).alloc (.cells #[.int .i64 0] 39)).alloc (.cells #[.int .i64 0] 3)) 9 (.string s)).cell
  rw[←hW0,hp]
  simpa [Nat.add_assoc] using this
 have E0:=Hd (HE.out.on b0)
 rw[hW0,←hp]
 simp only[Nat.add_assoc,Nat.reduceAdd]
 have HP:=Hd hp
 clear hW0 hp b0
 refine wpIn_rangeFunc_ownG (F:=Fence.wide) (n:=5) rfl (by omega) (gf:=147) (lb:=#[.pointer (some ⟨p+4,0,none⟩)]) rfl trivial (enters_of Tryz.func147 (by kernel_rfl) rfl)
  (Xqd 4 (by omega) (p+4) s HS.out W0 E0.out (by omega) hc0) (fun h k=>h.trans k) ?keep (Below.refl _ _) (fun _=>rfl)
  (CbI w p s) (CbX w p s) (CbI.own w p s (by rw[HP.out];exact Nat.le_refl _) _ (by omega)) (fun c=>CbX.own w p s c (by rw[HP.out];exact Nat.le_refl _) _ (by omega)) i0'
  (fun x=>{tmps:=#[.string s,.pointer (some ⟨p,0,none⟩),.pointer (some ⟨p+1,0,none⟩),.pointer (some ⟨p+2,0,none⟩),.pointer (some ⟨p+3,0,none⟩),undef,.string x.1.2,undef,undef,.string s,.func (.func 147) #[] #[.pointer (some ⟨p+4,0,none⟩)],.int .i64 (x.1.1:Int),.string x.1.2,undef,undef,undef,undef,undef,undef,undef,undef,undef,undef,undef,undef,undef,undef,undef,undef,undef,undef,undef,undef,undef,undef,undef,undef],defers:=[]})
  ?assign ?body ?done ?stop
 case keep=>
  intro W l o o' hl hlo ho _
  exact⟨rfl,rfl,rfl,by simp[World.putObj],fun k hk=>(grownBy_putObj' W l o').block k (by have:=lt_of_block hlo;have:=HP.out;omega) (fun e=>by cases e;have:=HP.out;omega)⟩
 case assign=>
  rintro l x W K hK
  unfold lnV
  gi_wp2
  exact hK
 case body=>
  rintro l pre x W hI hlt
  have hsp:p+3<W.heap.size:=hI.2.2.2.1.lt
  have h91:9≤p:=by rw[HP.out];exact h9
  have hat:=Yhq pre
  have hx2:=x.2
  have hs6:=HS.out
  have hat2:Xnl (lnL pre)≤1000001*1000001:=Nat.le_trans hat (Nat.mul_le_mul_right _ (by omega))
  have bp:=hI.1.cell
  have b1:=hI.2.1.cell
  have f1:=hI.2.1.frozen
  have b2:=hI.2.2.1.cell
  have f2:=hI.2.2.1.frozen
  have b3:=hI.2.2.2.1.cell
  have f3:=hI.2.2.2.1.frozen
  have HI:=Hd hI
  have EW:=Hd (HE.out.below hI.2.2.2.2.2 h91)
  obtain⟨⟨xi,ln⟩,hln⟩:=x
  simp only at hx2 hln⊢
  obtain⟨a,ha⟩:∃a,a=Xnl (lnL pre):=⟨_,rfl⟩
  rw[←ha] at b3 hat2
  have HA:=Hd ha
  have BL:=Xaa ln
  have HBL:=Hd BL
  clear hI hat ha BL
  by_cases c1:a+ln.size=s.size
  ·have q1:(((a:Int)+(ln.size:Int))==(s.size:Int))=true:=Xa6 (by omega)
   have C1:=Hd c1
   clear c1
   gi_wp2
   exact⟨Xj5 _ _ _ _ _,HI.out.stop _ _ 4 (by rw[←HA.out];unfold Xil;rw[if_pos (by rw[Xaa];exact C1.out)]) (by decide)⟩
  ·have q1:(((a:Int)+(ln.size:Int))==(s.size:Int))=false:=Xak (by omega)
   have C1:=Hd c1
   clear c1
   by_cases c2:998<ln.size
   ·gi_wp2
    exact⟨Xj5 _ _ _ _ _,HI.out.stop _ _ 5 (by rw[←HA.out];unfold Xil;rw[if_neg (by rw[Xaa];exact C1.out),if_pos (by rw[Xaa];exact c2)]) (by decide)⟩
   ·have BB:=Hd (Ycq ln W (by unfold maxLen;omega))
    gi_wp2_with fail
    refine⟨trivial,?_⟩
    gi_at_call 108
    refine(CallsIn.inRound l (callsIn_wide.2 BB.out)).mono ?_
    rintro e w2 ⟨n,rfl,h1,h2,hb2⟩
    have I2:=Hd (HI.out.on hb2)
    have KF:=Hd (Xqi hb2 W0.heap.size)
    have B9:Hid (Below 9 W w2):=Hd (hb2.mono (by omega))
    have bp:=I2.out.1.cell
    have b1:=I2.out.2.1.cell
    have f1:=I2.out.2.1.frozen
    have b2:=I2.out.2.2.1.cell
    have f2:=I2.out.2.2.1.frozen
    have b3:=I2.out.2.2.2.1.cell
    have f3:=I2.out.2.2.2.1.frozen
    rw[←HA.out] at b3
    clear hb2 BB
    cases hg:Xhg true (bs ln)
    ·have hn:=h2 hg
     have HG:=Hd hg
     clear h1 h2 hg
     gi_wp2
     exact⟨KF.out.trans (Xj5 _ _ _ _ _),I2.out.stop _ _ 6 (by rw[←HA.out];unfold Xil;rw[if_neg (by rw[Xaa];exact C1.out),if_neg (by rw[Xaa];exact c2),if_pos HG.out]) (by decide)⟩
    ·have hn:=h1 hg
     have HG:=Hd hg
     clear h1 h2 hg
     gi_wp2
     have e0:Xil s.size (Xnl (lnL pre)) (bs ln)=0:=by rw[←HA.out];unfold Xil;rw[if_neg (by rw[Xaa];exact C1.out),if_neg (by rw[Xaa];exact c2),if_neg (by rw[HG.out];decide)]
     refine⟨KF.out.trans ((KeepsOthers.setCell _ _ _).from _),B9.out.trans ((Below.refl _ _).setCell (p:=⟨p+3,0,none⟩) (by show 9≤p+3;omega) _),Boxed.other I2.out.1 (by omega) _,Boxed.other I2.out.2.1 (by omega) _,Boxed.other I2.out.2.2.1 (by omega) _,?_,Hd (by rw[Xiu,Xjz _ _ _ I2.out.2.2.2.2.1.out];exact e0),I2.out.2.2.2.2.2.setCell (p:=⟨p+3,0,none⟩) (by show p≤p+3;omega) _⟩
     have:=Xd0 I2.out.2.2.2.1 0 (.int .i64 ((a:Int)+(ln.size:Int)+1))
     rw[Xiu,Xzc,←HA.out,Xaa]
     exact this
 case done=>
  rintro D ys W hD hys hI hK
  have b1:=hI.2.1.cell
  have f1:=hI.2.1.frozen
  have b2:=hI.2.2.1.cell
  have f2:=hI.2.2.1.frozen
  have hz:Xcb s.size 0 (lns (bs s))=0:=by rw[←hys];exact hI.2.2.2.2.1.out
  have HZ:=Hd hz
  have HI:=Hd hI
  clear hI hz hys
  gi_wp2
  have k1:=Xd0 HI.out.2.1 0 (.int .i64 0)
  have k2:Boxed ((W.setCell ⟨p+1,0,none⟩ (.int .i64 0)).setCell ⟨p+2,0,none⟩ (.int .i64 0)) (p+1) 3 (.int .i64 0):=Boxed.other k1 (by omega) _
  have k3:Boxed ((W.setCell ⟨p+1,0,none⟩ (.int .i64 0)).setCell ⟨p+2,0,none⟩ (.int .i64 0)) (p+2) 39 (.int .i64 0):=Xd0 (Boxed.other HI.out.2.2.1 (by omega) _) 0 _
  have hK':=((KeepsOthers.setCell W ⟨p+1,0,none⟩ (.int .i64 0)).trans (KeepsOthers.setCell _ ⟨p+2,0,none⟩ (.int .i64 0))).same D _ hK rfl
  refine⟨by simp,.inl ⟨_,_,rfl,run_takeDeferred hK',?_⟩⟩
  have d1:=cell_kept k2.cell (grownBy_putObj' _ D (.deferred none)) (fun r e=>by cases e;exact⟨_,hK',rfl⟩)
  have d2:=cell_kept k3.cell (grownBy_putObj' _ D (.deferred none)) (fun r e=>by cases e;exact⟨_,hK',rfl⟩)
  refine⟨.tuple #[.int .i64 0,.int .i64 0],?_,0,by rw[BF.out,HZ.out];rfl,(((HI.out.2.2.2.2.2.mono (Nat.le_of_eq HP.out.symm)).setCell (p:=⟨p+1,0,none⟩) (by show w.heap.size≤p+1;have:=HP.out;omega) _).setCell (p:=⟨p+2,0,none⟩) (by show w.heap.size≤p+2;have:=HP.out;omega) _).trans (belowK_b (w:=w) (Nat.le_refl _) _ D _ _ (by have:=HP.out;omega) hK' rfl rfl)⟩
  simp[results,Tryz.f65,go_sem,d1,d2]
 case stop=>
  rintro D c pre W hD ⟨q,hq⟩ hI hK
  obtain⟨⟨n,h1⟩,h2,h3,h4⟩:=hI
  obtain⟨rfl,h5⟩:=h3.out
  have c1:=h1.cell
  have c2:=h2.cell
  have GF:Hid (Xfk (bs s)=Xcb s.size 0 (lnL pre)):=Hd (by rw[BF.out,←hq,Xhr,if_pos h5])
  clear hq h5 h3
  gi_wp2
  refine⟨by simp,.inl ⟨_,_,rfl,run_takeDeferred hK,?_⟩⟩
  have d1:=cell_kept c1 (grownBy_putObj' _ D (.deferred none)) (fun r e=>by cases e;exact⟨_,hK,rfl⟩)
  have d2:=cell_kept c2 (grownBy_putObj' _ D (.deferred none)) (fun r e=>by cases e;exact⟨_,hK,rfl⟩)
  refine⟨.tuple #[.int .i64 n,.int .i64 (Xcb s.size 0 (lnL pre):Nat)],?_,n,by rw[GF.out],(h4.mono (Nat.le_of_eq HP.out.symm)).trans (belowK_b (w:=w) (Nat.le_refl _) _ D _ _ (by have:=HP.out;omega) hK rfl rfl)⟩
  simp[results,Tryz.f65,go_sem,d1,d2]
end Go.Proofs.YtohmdledkhgdaaaGreatDoor
/- (Content).Check (printed by gen_chk.py). -/
namespace Go.Proofs.YtohmdledkhgdaaaGreatDoor
open Go.RowKit
set_option linter.unusedVariables false
set_option maxRecDepth 100000
structure CnIn (w:World) (c:Cn) (gv rv:Value):Prop where
 ok:c.Ok
 name:c.name.size≤1000000
 subject:c.subject.size≤1000000
 ctl:c.ctl.size≤1000000
 dist:c.dist.size≤1000000
 body:c.body.size≤1000000
 gl:c.groups.length≤1000000
 gz:∀g∈c.groups,g.size≤1000000
 rl:c.refs.length≤1000000
 srow:SRow w gv c.groups
 irow:IRow w rv c.refs
theorem CnIn.on {w w':World} {c:Cn} {gv rv:Value} (h:CnIn w c gv rv) (hb:Below w.heap.size w w'):CnIn w' c gv rv:=⟨h.ok,h.name,h.subject,h.ctl,h.dist,h.body,h.gl,h.gz,h.rl,h.srow.below hb,h.irow.below hb⟩
structure ChI (w:World) (c:Cn) (gv rv:Value) (n:Nat) (wx:World):Prop where
 ck:Ck wx (w.heap.size+1) n
 fr:Below w.heap.size w wx
 cb:CB wx w.heap.size c gv rv 37
 env:Env wx
 inp:CnIn wx c gv rv
section
variable {w:World} {c:Cn} {gv rv:Value} {n:Nat} {wx wy:World} (h:ChI w c gv rv n wx)
include h
theorem ChI.on (hb:Below wx.heap.size wx wy):ChI w c gv rv n wy:=⟨h.ck.below hb,h.fr.trans (hb.mono h.fr.size),h.cb.on hb,h.env.on hb,h.inp.on hb⟩
theorem ChI.step {m:Nat} (hw:CnIn w c gv rv) (hE:Env w) (h1:Ck wy (w.heap.size+1) m) (hf:Fr1 (w.heap.size+1) wx wy):ChI w c gv rv m wy:=by
 have b:=h.fr.trans (hf.below h.fr.size (Nat.le_succ _))
 exact⟨h1,b,h.cb.fr hf (by omega),hE.on b,hw.on b⟩
end
theorem Xrl {P:Program} {Q:Exit→Act→World→Prop} {K:Act→World→Prop} {a:Act} {w:World} {o:Oper} {f:FuncId} {args:Array Value} (he:(execOp a.eval o).run P w=.ok (.enter f args) w)
    (hc:Calls P f args w fun e w'=>∃v,e=.returned v∧K (a.put o.dst v) w'):o.wp P a w K Q:=by
 unfold Oper.wp
 rw[he,Oper.upon_enter]
 exact hc.mono fun e w' ⟨v,h1,h2⟩=>by subst h1;exact h2
theorem Xku {P:Program} {md:Region.Mode} {ops:Array Oper} {Q:Exit→Act→World→Prop} {S:World→Prop} {i:Nat} {o:Oper} {fuel:Nat} {listed:Array Bool} {a:Act} {w:World} {f:FuncId} {args:Array Value} (hr:Region.ready md ops listed=[i]) (ho:ops[i]?=some o) (hw:Region.wanted o (yielded ops a.tmps)=true)
    (he:(execOp a.eval o).run P w=.ok (.enter f args) w)
    (hc:Calls P f args w fun e w'=>∃v,e=.returned v∧S w'∧wpAnyH P md ops Q S fuel (listed.setIfInBounds i true) (a.put o.dst v) w'):wpAnyH P md ops Q S (fuel+1) listed a w:=
 wpAnyH_all hr (by simp) (fun j hj=>by
  obtain rfl:j=i:=by simpa using hj
  unfold wpOp
  simp only[ho]
  rw[if_pos hw]
  exact .inl (Xrl he hc))
set_option maxHeartbeats 1000000 in
theorem Xy5 (w:World) (c:Cn) (gv rv:Value) (hin:CnIn w c gv rv) (hE:Env w):
    Calls Tryz.prog 20 #[.agg (c.cells gv rv)] w fun e w'=>e=.returned (.int .i64 (Xc3 c.p:Nat))∧Below w.heap.size w w':=by
 have HIN:=Hd hin
 have HE:=Hd hE
 have OK:=Hd hin.ok
 have LAW:Hid (Xc3 c.p=(fe (Xfa (bs c.name) 60) (fe (eIf (decide (c.date<0)||decide (105190559<c.date)) 13) (fe (Xbp (c.groups.map bs)) (fe (Xfa (bs c.subject) 200) (fe (Xer c.refs) (fe (Xvk c.p) (fe (Xkk (bs c.dist)) (fe (eIf (decide (c.number<0)||decide (1000<c.number)) 2) (fe (eIf (!Xau c.height) 2) (fe (eIf (decide (c.leaf<0)||decide (Xbh c.height≤c.leaf)) 2) (fe (eIf (decide (57344<c.body.size)) 5) (Xfk (bs c.body)))))))))))))):=Hd (by
  rw[←Xaa c.body]
  rfl)
 obtain⟨p0,hp0⟩:∃p,p=Xfa (bs c.name) 60:=⟨_,rfl⟩
 obtain⟨p1,hp1⟩:∃p,p=eIf (decide (c.date<0)||decide (105190559<c.date)) 13:=⟨_,rfl⟩
 obtain⟨p2,hp2⟩:∃p,p=Xbp (c.groups.map bs):=⟨_,rfl⟩
 obtain⟨p3,hp3⟩:∃p,p=Xfa (bs c.subject) 200:=⟨_,rfl⟩
 obtain⟨p4,hp4⟩:∃p,p=Xer c.refs:=⟨_,rfl⟩
 obtain⟨p5,hp5⟩:∃p,p=Xvk c.p:=⟨_,rfl⟩
 obtain⟨p6,hp6⟩:∃p,p=Xkk (bs c.dist):=⟨_,rfl⟩
 obtain⟨p7,hp7⟩:∃p,p=eIf (decide (c.number<0)||decide (1000<c.number)) 2:=⟨_,rfl⟩
 obtain⟨p8,hp8⟩:∃p,p=eIf (!Xau c.height) 2:=⟨_,rfl⟩
 obtain⟨p9,hp9⟩:∃p,p=eIf (decide (c.leaf<0)||decide (Xbh c.height≤c.leaf)) 2:=⟨_,rfl⟩
 obtain⟨p10,hp10⟩:∃p,p=eIf (decide (57344<c.body.size)) 5:=⟨_,rfl⟩
 obtain⟨p11,hp11⟩:∃p,p=Xfk (bs c.body):=⟨_,rfl⟩
 rw[←hp0,←hp1,←hp2,←hp3,←hp4,←hp5,←hp6,←hp7,←hp8,←hp9,←hp10,←hp11] at LAW
 have HP0:=Hd hp0
 have HP1:=Hd hp1
 have HP2:=Hd hp2
 have HP3:=Hd hp3
 have HP4:=Hd hp4
 have HP5:=Hd hp5
 have HP6:=Hd hp6
 have HP7:=Hd hp7
 have HP8:=Hd hp8
 have HP9:=Hd hp9
 have HP10:=Hd hp10
 have HP11:=Hd hp11
 obtain⟨w0,hw0⟩:∃w0,w0=(w.alloc (.cells (c.cells gv rv) 37)).alloc (.cells #[.int .i64 0] 96):=⟨_,rfl⟩
 have I0:Hid (ChI w c gv rv 0 w0):=Hd (by
  have b1:Below w.heap.size w (w.alloc (.cells (c.cells gv rv) 37)):=(Below.refl _ _).alloc (Nat.le_refl _) _
  have b2:Below (w.alloc (.cells (c.cells gv rv) 37)).heap.size (w.alloc (.cells (c.cells gv rv) 37)) w0:=by rw[hw0];exact(Below.refl _ _).alloc (Nat.le_refl _) _
  have b:=b1.trans (b2.mono (by simp))
  refine⟨?_,b,(CB.new w c gv rv _).on b2,hE.on b,hin.on b⟩
  have:=heap_alloc_new (w.alloc (.cells (c.cells gv rv) 37)) (.cells #[.int .i64 0] 96)
  rw[World.size_alloc,←hw0] at this
  exact this)
 have hw9:9≤w.heap.size+1:=by have:=hE.size;omega
 obtain⟨cs,hcs⟩:∃cs,cs=c.cells gv rv:=⟨_,rfl⟩
 rw[←hcs] at hw0⊢
 have HW:=Hd hw0
 clear hcs hw0 hin hE hp0 hp1 hp2 hp3 hp4 hp5 hp6 hp7 hp8 hp9 hp10 hp11
 go_enter Tryz.func20,Tryz.ntmps20
 go_upto_region 2 with fail
 rw[←HW.out]
 clear HW
 have cn:w0.cell? ⟨w.heap.size,0,none⟩=some (.string c.name):=I0.out.cb.at (Xe6 c gv rv)
 have K:Hid (Calls Tryz.prog 58 #[.pointer (some ⟨w.heap.size+1,0,none⟩),.string c.name,.int .i64 60] w0 (Xb5 w0 (w.heap.size+1) (fe 0 p0))):=Hd (by rw[HP0.out];exact Xrs w0 (w.heap.size+1) 0 I0.out.ck c.name 60 HIN.out.name (by omega) I0.out.env hw9)
 go_wp2_with fail
 refine K.out.mono ?_
 rintro e w1 ⟨⟨v1,rfl⟩,h,f⟩
 have I1:=Hd (I0.out.step HIN.out HE.out h f)
 clear h f I0 K cn
 have cd:w1.cell? ⟨w.heap.size,17,none⟩=some (.int .i64 c.date):=I1.out.cb.at (Xcn OK.out gv rv)
 go_upto_region 3 with fail
 go_cut [] (fun wx=>Hid (ChI w c gv rv (fe (fe 0 p0) p1) wx))
 case first=>
  have D:(c.date<0)∨(¬c.date<0∧105190559<c.date)∨(¬c.date<0∧¬105190559<c.date):=by omega
  rcases D with d1|⟨d1,d2⟩|⟨d1,d2⟩
  ·have e1:decide (c.date<0)=true:=decide_eq_true d1
   have hp:p1=eIf true 13:=by rw[HP1.out,e1];rfl
   have K:Hid (Calls Tryz.prog 59 #[.pointer (some ⟨w.heap.size+1,0,none⟩),.bool true,.int .i64 13] w1 (Xb5 w1 (w.heap.size+1) (fe (fe 0 p0) p1))):=Hd (by rw[hp];exact Xbn w1 (w.heap.size+1) _ I1.out.ck true 13)
   clear hp d1
   go_wp2_with fail
   refine K.out.mono ?_
   rintro e wy ⟨⟨v,rfl⟩,h,f⟩
   have I:=Hd (I1.out.step HIN.out HE.out h f)
   clear h f K
   go_wp2_with fail
   go_meet
   exact I
  ·have e1:decide (c.date<0)=false:=decide_eq_false d1
   have e2:decide (105190559<c.date)=true:=decide_eq_true d2
   have hp:p1=eIf true 13:=by rw[HP1.out,e1,e2];rfl
   have K:Hid (Calls Tryz.prog 59 #[.pointer (some ⟨w.heap.size+1,0,none⟩),.bool true,.int .i64 13] w1 (Xb5 w1 (w.heap.size+1) (fe (fe 0 p0) p1))):=Hd (by rw[hp];exact Xbn w1 (w.heap.size+1) _ I1.out.ck true 13)
   clear hp d1 d2
   go_wp2_with fail
   refine K.out.mono ?_
   rintro e wy ⟨⟨v,rfl⟩,h,f⟩
   have I:=Hd (I1.out.step HIN.out HE.out h f)
   clear h f K
   go_wp2_with fail
   go_meet
   exact I
  ·have e1:decide (c.date<0)=false:=decide_eq_false d1
   have e2:decide (105190559<c.date)=false:=decide_eq_false d2
   have hp:p1=eIf false 13:=by rw[HP1.out,e1,e2];rfl
   have K:Hid (Calls Tryz.prog 59 #[.pointer (some ⟨w.heap.size+1,0,none⟩),.bool false,.int .i64 13] w1 (Xb5 w1 (w.heap.size+1) (fe (fe 0 p0) p1))):=Hd (by rw[hp];exact Xbn w1 (w.heap.size+1) _ I1.out.ck false 13)
   clear hp d1 d2
   go_wp2_with fail
   refine K.out.mono ?_
   rintro e wy ⟨⟨v,rfl⟩,h,f⟩
   have I:=Hd (I1.out.step HIN.out HE.out h f)
   clear h f K
   go_wp2_with fail
   go_meet
   exact I
 case rest=>
 obtain⟨w2,hwz⟩:∃x,x=wc:=⟨_,rfl⟩
 rw[←hwz] at hcut⊢
 have I2:=hcut
 clear hcut hwz I1 cd
 have cg:w2.cell? ⟨w.heap.size,18,none⟩=some (gv):=I2.out.cb.at (Xgv OK.out gv rv)
 have K:Hid (Calls Tryz.prog 52 #[gv] w2 (Xrj p2 (Xa0 [44] (c.groups.map bs)) w2)):=Hd (by rw[HP2.out];exact Xov w2 gv c.groups I2.out.inp.srow HIN.out.gl HIN.out.gz I2.out.env)
 go_wp2_with fail
 refine K.out.mono ?_
 rintro e w3 ⟨tx,rfl,-,-,hb⟩
 have I3:=Hd (I2.out.on hb)
 clear hb I2 K cg
 have K:=Hd (Xdk w3 (w.heap.size+1) _ I3.out.ck p2)
 go_wp2_with fail
 refine K.out.mono ?_
 rintro e w4 ⟨⟨v4,rfl⟩,h,f⟩
 have I4:=Hd (I3.out.step HIN.out HE.out h f)
 clear h f I3 K
 have cs:w4.cell? ⟨w.heap.size,19,none⟩=some (.string c.subject):=I4.out.cb.at (Xct OK.out gv rv)
 have K:Hid (Calls Tryz.prog 58 #[.pointer (some ⟨w.heap.size+1,0,none⟩),.string c.subject,.int .i64 200] w4 (Xb5 w4 (w.heap.size+1) (fe (fe (fe (fe 0 p0) p1) p2) p3))):=Hd (by rw[HP3.out];exact Xrs w4 (w.heap.size+1) _ I4.out.ck c.subject 200 HIN.out.subject (by omega) I4.out.env hw9)
 go_wp2_with fail
 refine K.out.mono ?_
 rintro e w5 ⟨⟨v5,rfl⟩,h,f⟩
 have I5:=Hd (I4.out.step HIN.out HE.out h f)
 clear h f I4 K cs
 have cr:w5.cell? ⟨w.heap.size,20,none⟩=some (rv):=I5.out.cb.at (Xhz OK.out gv rv)
 have K:Hid (Calls Tryz.prog 60 #[rv] w5 fun e w'=>e=.returned (.int .i64 (p4:Nat))∧Below w5.heap.size w5 w'):=Hd (by rw[HP4.out];exact Xll w5 rv c.refs I5.out.inp.irow HIN.out.rl OK.out.refs)
 go_wp2_with fail
 refine K.out.mono ?_
 rintro e w6 ⟨rfl,hb⟩
 have I6:=Hd (I5.out.on hb)
 clear hb I5 K cr
 have K:=Hd (Xdk w6 (w.heap.size+1) _ I6.out.ck p4)
 go_wp2_with fail
 refine K.out.mono ?_
 rintro e w7 ⟨⟨v7,rfl⟩,h,f⟩
 have I7:=Hd (I6.out.step HIN.out HE.out h f)
 clear h f I6 K
 have LD:=Hd (I7.out.cb.all OK.out)
 have K:Hid (Calls Tryz.prog 61 #[.pointer (some ⟨w.heap.size+1,0,none⟩),.agg (c.cells gv rv)] w7 (Xb5 w7 (w.heap.size+1) (fe (fe (fe (fe (fe (fe 0 p0) p1) p2) p3) p4) p5))):=Hd (by rw[HP5.out];exact Yci w7 (w.heap.size+1) _ I7.out.ck c OK.out gv rv HIN.out.ctl I7.out.env hw9)
 obtain⟨ds,hds⟩:∃ds,ds=c.cells gv rv:=⟨_,rfl⟩
 rw[←hds] at LD K
 clear hds
 go_upto_region 8 with fail
 refine wp_region_list ?_
 simp only[]
 refine Xac 37 rfl _ rfl ⟨_,_,rfl,LD.out,?_⟩
 go_wp2_with fail
 refine K.out.mono ?_
 rintro e w8 ⟨⟨v8,rfl⟩,h,f⟩
 have I8:=Hd (I7.out.step HIN.out HE.out h f)
 clear h f I7 K LD
 have ct:w8.cell? ⟨w.heap.size,54,none⟩=some (.string c.dist):=I8.out.cb.at (Xdn OK.out gv rv)
 have K:Hid (Calls Tryz.prog 62 #[.pointer (some ⟨w.heap.size+1,0,none⟩),.string c.dist] w8 (Xb5 w8 (w.heap.size+1) (fe (fe (fe (fe (fe (fe (fe 0 p0) p1) p2) p3) p4) p5) p6))):=Hd (by rw[HP6.out];exact Yb7 w8 (w.heap.size+1) _ I8.out.ck c.dist HIN.out.dist)
 go_wp2_with fail
 refine K.out.mono ?_
 rintro e w9 ⟨⟨v9,rfl⟩,h,f⟩
 have I9:=Hd (I8.out.step HIN.out HE.out h f)
 clear h f I8 K ct
 have cu:w9.cell? ⟨w.heap.size,55,none⟩=some (.int .i64 c.number):=I9.out.cb.at (Xdy OK.out gv rv)
 go_upto_region 10 with fail
 go_cut [] (fun wx=>Hid (ChI w c gv rv (fe (fe (fe (fe (fe (fe (fe (fe 0 p0) p1) p2) p3) p4) p5) p6) p7) wx))
 case first=>
  have D:(c.number<0)∨(¬c.number<0∧1000<c.number)∨(¬c.number<0∧¬1000<c.number):=by omega
  rcases D with d1|⟨d1,d2⟩|⟨d1,d2⟩
  ·have e1:decide (c.number<0)=true:=decide_eq_true d1
   have hp:p7=eIf true 2:=by rw[HP7.out,e1];rfl
   have K:Hid (Calls Tryz.prog 59 #[.pointer (some ⟨w.heap.size+1,0,none⟩),.bool true,.int .i64 2] w9 (Xb5 w9 (w.heap.size+1) (fe (fe (fe (fe (fe (fe (fe (fe 0 p0) p1) p2) p3) p4) p5) p6) p7))):=Hd (by rw[hp];exact Xbn w9 (w.heap.size+1) _ I9.out.ck true 2)
   clear hp d1
   go_wp2_with fail
   refine K.out.mono ?_
   rintro e wy ⟨⟨v,rfl⟩,h,f⟩
   have I:=Hd (I9.out.step HIN.out HE.out h f)
   clear h f K
   go_wp2_with fail
   go_meet
   exact I
  ·have e1:decide (c.number<0)=false:=decide_eq_false d1
   have e2:decide (1000<c.number)=true:=decide_eq_true d2
   have hp:p7=eIf true 2:=by rw[HP7.out,e1,e2];rfl
   have K:Hid (Calls Tryz.prog 59 #[.pointer (some ⟨w.heap.size+1,0,none⟩),.bool true,.int .i64 2] w9 (Xb5 w9 (w.heap.size+1) (fe (fe (fe (fe (fe (fe (fe (fe 0 p0) p1) p2) p3) p4) p5) p6) p7))):=Hd (by rw[hp];exact Xbn w9 (w.heap.size+1) _ I9.out.ck true 2)
   clear hp d1 d2
   go_wp2_with fail
   refine K.out.mono ?_
   rintro e wy ⟨⟨v,rfl⟩,h,f⟩
   have I:=Hd (I9.out.step HIN.out HE.out h f)
   clear h f K
   go_wp2_with fail
   go_meet
   exact I
  ·have e1:decide (c.number<0)=false:=decide_eq_false d1
   have e2:decide (1000<c.number)=false:=decide_eq_false d2
   have hp:p7=eIf false 2:=by rw[HP7.out,e1,e2];rfl
   have K:Hid (Calls Tryz.prog 59 #[.pointer (some ⟨w.heap.size+1,0,none⟩),.bool false,.int .i64 2] w9 (Xb5 w9 (w.heap.size+1) (fe (fe (fe (fe (fe (fe (fe (fe 0 p0) p1) p2) p3) p4) p5) p6) p7))):=Hd (by rw[hp];exact Xbn w9 (w.heap.size+1) _ I9.out.ck false 2)
   clear hp d1 d2
   go_wp2_with fail
   refine K.out.mono ?_
   rintro e wy ⟨⟨v,rfl⟩,h,f⟩
   have I:=Hd (I9.out.step HIN.out HE.out h f)
   clear h f K
   go_wp2_with fail
   go_meet
   exact I
 case rest=>
 obtain⟨w10,hwz⟩:∃x,x=wc:=⟨_,rfl⟩
 rw[←hwz] at hcut⊢
 have I10:=hcut
 clear hcut hwz I9 cu
 have LD:=Hd (I10.out.cb.pk OK.out)
 have K:Hid (Calls Tryz.prog 63 #[.agg (pkC c.height c.root)] w10 fun e w'=>e=.returned (.int .i64 (p8:Nat))∧Below w10.heap.size w10 w'):=Hd (by rw[HP8.out];exact Xet w10 c.height OK.out.root.len)
 obtain⟨pk,hpk⟩:∃pk,pk=pkC c.height c.root:=⟨_,rfl⟩
 have HPK:=Hd hpk
 rw[←hpk] at LD K
 clear hpk
 go_wp2_with ((with_reducible refine Xac 35 rfl _ rfl ?_);refine⟨_,_,rfl,LD.out,?_⟩)
 refine K.out.mono ?_
 rintro e w11 ⟨rfl,hb⟩
 have I11:=Hd (I10.out.on hb)
 clear hb I10 K LD
 have K:=Hd (Xdk w11 (w.heap.size+1) _ I11.out.ck p8)
 go_wp2_with fail
 refine K.out.mono ?_
 rintro e w12 ⟨⟨v12,rfl⟩,h,f⟩
 have I12:=Hd (I11.out.step HIN.out HE.out h f)
 clear h f I11 K
 go_upto_region 12 with fail
 go_cut [] (fun wx=>Hid (ChI w c gv rv (fe (fe (fe (fe (fe (fe (fe (fe (fe (fe 0 p0) p1) p2) p3) p4) p5) p6) p7) p8) p9) wx))
 case first=>
  have ID:=Hd (I12.out.on (Dr.below ⟨1,rfl⟩:Below w12.heap.size w12 w12.drew))
  have hB:(fun wx:World=>CB wx w.heap.size c gv rv 37) w12.drew:=ID.out.cb
  refine wp_region_held (S:=fun wx=>CB wx w.heap.size c gv rv 37) (by kernel_rfl) ?_
  change wpAnyH _ _ _ _ _ _ _ _ w12.drew
  by_cases d1:c.leaf<0
  ·have e1:decide (c.leaf<0)=true:=decide_eq_true d1
   have hp:p9=eIf true 2:=by rw[HP9.out,e1];rfl
   have K:Hid (Calls Tryz.prog 59 #[.pointer (some ⟨w.heap.size+1,0,none⟩),.bool true,.int .i64 2] w12.drew (Xb5 w12.drew (w.heap.size+1) (fe (fe (fe (fe (fe (fe (fe (fe (fe (fe 0 p0) p1) p2) p3) p4) p5) p6) p7) p8) p9))):=Hd (by rw[hp];exact Xbn w12.drew (w.heap.size+1) _ ID.out.ck true 2)
   clear hp d1
   refine Xad 0 (.pointer (some ⟨w.heap.size,73,none⟩)) rfl (fun _ _=>by go_simp) hB ?_
   refine Xad 1 (.int .i64 c.leaf) rfl (fun w' hw'=>by have cl:=hw'.at (Xev OK.out gv rv);go_simp) hB ?_
   refine Xad 2 (.bool true) rfl (fun _ _=>by go_simp) hB ?_
   refine Xad 3 (.bool true) rfl (fun _ _=>by go_simp) hB ?_
   refine Xar 4 rfl hB ?_
   refine Xar 5 rfl hB ?_
   refine Xar 6 rfl hB ?_
   refine Xar 7 rfl hB ?_
   refine Xar 8 rfl hB ?_
   refine Xar 9 rfl hB ?_
   refine Xad 10 (.bool true) rfl (fun _ _=>by go_simp) hB ?_
   refine Xku (i:=11) (f:=59) (args:=#[.pointer (some ⟨w.heap.size+1,0,none⟩),.bool true,.int .i64 2]) (by kernel_rfl) rfl (by kernel_rfl) (by kernel_rfl) ?_
   refine K.out.mono ?_
   rintro e wy ⟨⟨v,rfl⟩,h,f⟩
   have I:=Hd (ID.out.step HIN.out HE.out h f)
   clear h f K
   refine⟨v,rfl,I.out.cb,?_⟩
   refine wpAnyH_done (by kernel_rfl) ?_ _
   go_simp
   clear hB
   refine‹∀(a:Act) (w_1:World),_→_› _ _ ?_
   go_meet
   exact I
  ·have e1:decide (c.leaf<0)=false:=decide_eq_false d1
   obtain⟨q,hq⟩:∃q,q=decide (Xbh c.height≤c.leaf):=⟨_,rfl⟩
   have hp:p9=eIf q 2:=by rw[HP9.out,e1,hq];rfl
   have LV:Hid (Calls Tryz.prog 64 #[.agg pk] w12.drew fun e w'=>e=.returned (.int .i64 (Xbh c.height))∧Below w12.drew.heap.size w12.drew w'):=Hd (by rw[HPK.out];exact Xug w12.drew c.height OK.out.root.len)
   have hq2:decide (Xbh c.height≤c.leaf)=q:=hq.symm
   obtain⟨lv,hlv⟩:∃lv,lv=Xbh c.height:=⟨_,rfl⟩
   rw[←hlv] at LV hq2
   have HPP:=Hd hp
   have LDP:Hid (∀wx,CB wx w.heap.size c gv rv 37→(loadVar 35 ⟨w.heap.size,56,none⟩).run Tryz.prog wx=.ok (.agg pk) wx):=Hd (fun wx h=>by rw[HPK.out];exact CB.pk h OK.out)
   clear hp d1 hq hlv
   refine Xad 0 (.pointer (some ⟨w.heap.size,73,none⟩)) rfl (fun _ _=>by go_simp) hB ?_
   refine Xad 1 (.int .i64 c.leaf) rfl (fun w' hw'=>by have cl:=hw'.at (Xev OK.out gv rv);go_simp) hB ?_
   refine Xad 2 (.bool false) rfl (fun _ _=>by go_simp) hB ?_
   refine Xad 3 (.bool false) rfl (fun _ _=>by go_simp) hB ?_
   refine Xad 4 (.pointer (some ⟨w.heap.size,73,none⟩)) rfl (fun _ _=>by go_simp) hB ?_
   refine Xad 5 (.int .i64 c.leaf) rfl (fun w' hw'=>by have cl:=hw'.at (Xev OK.out gv rv);go_simp) hB ?_
   refine Xad 6 (.pointer (some ⟨w.heap.size,56,none⟩)) rfl (fun _ _=>by go_simp) hB ?_
   refine Xad 7 (.agg pk) rfl (fun w' hw'=>Xaw (ty:=35) (x:=.tmp 57) (ad:=⟨w.heap.size,56,none⟩) rfl (by kernel_rfl) (LDP.out w' hw')) hB ?_
   refine Xku (i:=8) (f:=64) (args:=#[.agg pk]) (by kernel_rfl) rfl (by kernel_rfl) (by kernel_rfl) ?_
   refine LV.out.mono ?_
   rintro e wz ⟨rfl,hb⟩
   have ID2:=Hd (ID.out.on hb)
   have K:Hid (Calls Tryz.prog 59 #[.pointer (some ⟨w.heap.size+1,0,none⟩),.bool q,.int .i64 2] wz (Xb5 wz (w.heap.size+1) (fe (fe (fe (fe (fe (fe (fe (fe (fe (fe 0 p0) p1) p2) p3) p4) p5) p6) p7) p8) p9))):=Hd (by rw[HPP.out];exact Xbn wz (w.heap.size+1) _ ID2.out.ck q 2)
   have hB:=ID2.out.cb
   refine⟨_,rfl,hB,?_⟩
   clear hb LV
   refine Xad 9 (.bool q) rfl (fun _ _=>by go_simp) hB ?_
   refine Xad 10 (.bool q) rfl (fun _ _=>by go_simp) hB ?_
   refine Xku (i:=11) (f:=59) (args:=#[.pointer (some ⟨w.heap.size+1,0,none⟩),.bool q,.int .i64 2]) (by kernel_rfl) rfl (by kernel_rfl) (by kernel_rfl) ?_
   refine K.out.mono ?_
   rintro e wy ⟨⟨v,rfl⟩,h,f⟩
   have I:=Hd (ID2.out.step HIN.out HE.out h f)
   clear h f K
   refine⟨v,rfl,I.out.cb,?_⟩
   refine wpAnyH_done (by kernel_rfl) ?_ _
   go_simp
   clear hB
   refine‹∀(a:Act) (w_1:World),_→_› _ _ ?_
   go_meet
   exact I
 case rest=>
 obtain⟨w13,hwz⟩:∃x,x=wc:=⟨_,rfl⟩
 rw[←hwz] at hcut⊢
 have I13:=hcut
 clear hcut hwz I12
 have cb:w13.cell? ⟨w.heap.size,74,none⟩=some (.string c.body):=I13.out.cb.at (Xgu OK.out gv rv)
 obtain⟨q,hq⟩:∃q,q=decide (57344<c.body.size):=⟨_,rfl⟩
 have dq:decide ((57344:Int)<(c.body.size:Int))=q:=by rw[hq];simp;omega
 have dq2:decide (57344<c.body.size)=q:=hq.symm
 have K:Hid (Calls Tryz.prog 59 #[.pointer (some ⟨w.heap.size+1,0,none⟩),.bool q,.int .i64 5] w13 (Xb5 w13 (w.heap.size+1) (fe (fe (fe (fe (fe (fe (fe (fe (fe (fe (fe 0 p0) p1) p2) p3) p4) p5) p6) p7) p8) p9) p10))):=Hd (by rw[HP10.out,←hq];exact Xbn w13 (w.heap.size+1) _ I13.out.ck q 5)
 have hbs:c.body.size≤1000000:=HIN.out.body
 clear hq
 go_wp2_with fail
 refine K.out.mono ?_
 rintro e w14 ⟨⟨v14,rfl⟩,h,f⟩
 have I14:=Hd (I13.out.step HIN.out HE.out h f)
 clear h f I13 K cb dq dq2
 have cb:w14.cell? ⟨w.heap.size,74,none⟩=some (.string c.body):=I14.out.cb.at (Xgu OK.out gv rv)
 have K:Hid (Calls Tryz.prog 65 #[.string c.body] w14 fun e w'=>∃m:Int,e=.returned (.tuple #[.int .i64 m,.int .i64 (p11:Nat)])∧Below w14.heap.size w14 w'):=Hd (by rw[HP11.out];exact Xq8 c.body w14 HIN.out.body I14.out.env)
 go_wp2_with fail
 refine K.out.mono ?_
 rintro e w15 ⟨m,rfl,hb⟩
 have I15:=Hd (I14.out.on hb)
 clear hb I14 K cb
 have K:=Hd (Xdk w15 (w.heap.size+1) _ I15.out.ck p11)
 go_wp2_with fail
 refine K.out.mono ?_
 rintro e w16 ⟨⟨v16,rfl⟩,h,f⟩
 have I16:=Hd (I15.out.step HIN.out HE.out h f)
 clear h f I15 K
 have ce:=I16.out.ck.cell
 have FR:=Hd I16.out.fr
 have N:Hid ((fe (fe (fe (fe (fe (fe (fe (fe (fe (fe (fe (fe 0 p0) p1) p2) p3) p4) p5) p6) p7) p8) p9) p10) p11)=Xc3 c.p):=Hd (by rw[LAW.out];simp only[Xi0];rfl)
 obtain⟨m,hm⟩:∃m,m=(fe (fe (fe (fe (fe (fe (fe (fe (fe (fe (fe (fe 0 p0) p1) p2) p3) p4) p5) p6) p7) p8) p9) p10) p11):=⟨_,rfl⟩
 rw[←hm] at ce N
 clear hm I16
 go_wp2_with fail
 go_ret
 exact⟨by rw[N.out];rfl,FR.out⟩
end Go.Proofs.YtohmdledkhgdaaaGreatDoor
