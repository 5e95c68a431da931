/- canonical: checker.control. -/
import Derived.Test.YtjolcnopipbkhaaGreatDoorFo07
import Derived.RangeFuncWrites
namespace Go.Proofs.YtjolcnopipbkhaaGreatDoor
open Go.Proofs.Tryz
open Go.RowKit Go.Maps
set_option linter.unusedVariables false
set_option maxHeartbeats 100000000
set_option maxRecDepth 100000
theorem Fr1.env {b:Nat}{w w':World}(h:Fr1 b w w')(hE:Env w)(h9:9≤b):Env w':=Xbu hE h9 h
theorem CB.fr {w w':World}{b p:Nat}{c:Cn}{gv rv:Value}{T:TypeId}(h:CB w p c gv rv T)(hf:Fr1 b w w')(hne:p≠b):CB w' p c gv rv T:=(hf.other p (zY h) hne).trans h
theorem Ye8 (w:World)(b n:Nat)(h:Ck w b n)(c:Cn)(hc:c.Ok)(gv rv:Value)(hs:c.ctl.size≤1000000)(hE:Env w)(h9:9≤b):
    Calls prog 46 #[.pointer (some ⟨b,0,none⟩),.agg (c.cells gv rv)] w (Xb6 w b (fe n (Xxg c.p))):=by
 have hbw:=h.lt
 have B0:Bw w (w.alloc (.cells (c.cells gv rv) 39)):=(zR _ _).alloc (zL _) _
 have C0:=CB.new w c gv rv 39
 obtain⟨w0,hw0⟩:=xq (w.alloc (.cells (c.cells gv rv) 39))
 rw[←hw0] at B0 C0
 have H0:=Hd (h.below B0)
 have E0:=Hd (hE.on B0)
 have F0:Hid (Fr1 b w w0):=Hd (Fr1.of_below B0)
 have HC0:=Hd C0
 have HCO:=Hd hc
 have CTL:Hid (∀w',CB w' w.heap.size c gv rv 39→w'.cell? ⟨w.heap.size,53,none⟩=some (.string c.ctl)):=Hd (fun w' h=>h.at (Xjn hc gv rv))
 have LAW:Hid (Xxg c.p=if bs c.ctl=[] then 0 else fe (eIf (!sqz (bs c.ctl)) 3) (fe (Xea (bs c.ctl)) (eIf (!decide (c.sup=zero32)) 11))):=Hd rfl
 have hne:w.heap.size≠b:=by omega
 have HNE:=Hd hne
 have hct:=CTL.o w0 C0
 obtain⟨t,ht⟩:=xq c.ctl
 rw[←ht] at CTL LAW hct hs
 obtain⟨cs,hcs⟩:=xq (c.cells gv rv)
 rw[←hcs] at hw0⊢
 have HW:=Hd hw0
 clear ht hcs h B0 C0 hE hc hne hw0
 by_cases h0:t.size=0
 ·obtain rfl:=Xeh h0
  have L:Hid (fe n (Xxg c.p)=n):=Hd (by rw[LAW.o,qP (show bs ⟨#[]⟩=[] from rfl),Xqb])
  clear LAW h0
  go_enter func46,ntmps46
  go_upto_region 1 with fail
  rw[←HW.o]
  go_wp2_with fail
  go_end0
  exact⟨⟨_,rfl⟩,by rw[L.o];exact H0.o,F0.o⟩
 ·have n0:=Xd2 h0
  have L:Hid (fe n (Xxg c.p)=fe (fe (fe n (eIf (!sqz (bs t)) 3)) (Xea (bs t))) (eIf (!decide (c.sup=zero32)) 11)):=Hd (by
   rw[LAW.o,qN (fun e=>h0 (by rw[←Xaa,e];rfl)),Xjy,Xjy])
  have Q:=Hd (Xx3 t w0 hs E0.o)
  have W1:=Hd (Xbq w0 b n H0.o (!sqz (bs t)) 3)
  obtain⟨q,hq⟩:=xq (sqz (bs t))
  rw[←hq] at Q W1 L
  clear hq LAW h0
  go_enter func46,ntmps46
  go_upto_region 1 with fail
  rw[←HW.o]
  clear HW
  go_wp2_with (go_at_call 88;refine Q.o.mono ?_;rintro e w' ⟨rfl,rfl⟩)
  refine W1.o.mono ?_
  rintro e w1 ⟨⟨v,rfl⟩,h1,f1⟩
  have H1:=Hd h1;have F1:=Hd (F0.o.trans f1)
  have C1:=Hd (HC0.o.fr f1 HNE.o)
  have E1:=Hd (f1.env E0.o h9)
  clear Q W1 h1 f1 H0 F0 HC0 E0 hct n0
  have hct:=CTL.o w1 C1.o
  have P:=Hd (Xwx t w1 hs E1.o)
  obtain⟨m,hm⟩:=xq (Xea (bs t))
  unfold Ygm at P
  rw[←hm] at P L
  clear hm
  go_wp2_with fail
  refine P.o.mono ?_
  rintro e w2 ⟨ds,a,rfl,hcl,hb2⟩
  have CL:=Hd hcl
  have STN:Hid (∀zz:Array Value,zz.size=56→Sv 139 ⟨w2.heap.size,0,none⟩ (.agg ds) (w2.alloc (.cells zz 139)) (w2.alloc (.cells ds 139))):=Hd (fun zz hz=>
   run_storeVar_new w2 139 zz ds (by rw[CL.o.1];exact Xax) (by rw[hz,CL.o.1]) CL.o.2)
  have b3:Bw w1 (w2.alloc (.cells ds 139)):=hb2.alloc hb2.size _
  obtain⟨w3,hw3⟩:=xq (w2.alloc (.cells ds 139))
  rw[←hw3] at b3 STN
  have H3:=H1.o.below b3
  have F3:=Hd (F1.o.trans (Fr1.of_below b3))
  have C3:=Hd (C1.o.on b3)
  have E3:=Hd (E1.o.on b3)
  have TK:=Hd (Xdw w3 b _ H3 m)
  clear hcl hb2 b3 hw3 P H1 F1 C1 E1 hct H3
  go_wp2_with ((with_reducible refine Xab 139 rfl _ _ rfl ?_);refine⟨_,_,_,rfl,rfl,STN.o _ rfl,?_⟩)
  refine TK.o.mono ?_
  rintro e w4 ⟨⟨v,rfl⟩,h4,f4⟩
  have H4:=Hd h4;have F4:=Hd (F3.o.trans f4)
  have c4:=C3.o.fr f4 HNE.o
  have LD:=Hd (c4.sup HCO.o)
  have Z:=Hd (Xgb w4 HCO.o.sup)
  obtain⟨z,hz⟩:=xq (decide (c.sup=zero32))
  rw[←hz] at Z L
  clear hz TK h4 f4 STN CL c4
  go_upto_region 5 with fail
  go_wp2_with ((with_reducible refine Xac 26 rfl _ rfl ?_);refine⟨_,_,rfl,LD.o,?_⟩)
  refine Z.o.mono ?_
  rintro e w5 ⟨rfl,hb5⟩
  have W5:=Hd (Xbq w5 b _ (H4.o.below hb5) (!z) 11)
  have F5:=Hd (F4.o.trans (Fr1.of_below hb5))
  clear hb5 Z LD
  go_wp2_with fail
  refine W5.o.mono ?_
  rintro e w6 ⟨⟨v,rfl⟩,h6,f6⟩
  have H6:=Hd h6;have F6:=Hd (F5.o.trans f6)
  clear h6 f6 W5
  go_wp2_with fail
  go_end0
  exact⟨⟨_,rfl⟩,by rw[L.o];exact H6.o,F6.o⟩
end Go.Proofs.YtjolcnopipbkhaaGreatDoor
/- article.badByte. -/
namespace Go.Proofs.YtjolcnopipbkhaaGreatDoor
open Go.Proofs.Tryz
open Go.RowKit Go.Shelf
attribute [local go_sem] Oper.semAt_some
set_option linter.unusedVariables false
set_option maxHeartbeats 100000000
set_option maxRecDepth 100000
theorem Yfn (w:World)(n:Nat):Rx 144 #[.int .i32 (n:Int)] w (.bool (Xuw n)):=by
 obtain⟨b,hb⟩:=xq (Xuw n)
 rw[←hb]
 have HB:=Hd hb
 clear hb
 rcases(by omega:n<32∨(32≤n∧n<127)∨(127≤n∧n≤159)∨(n=8232)∨(n=8233)∨(159<n∧n≠8232∧n≠8233)) with h|⟨h,h2⟩|⟨h,h2⟩|rfl|rfl|⟨h,h2,h3⟩
 all_goals
  try have q1:((n:Int)==8232)=false:=Xaj (by omega)
  try have q2:((n:Int)==8233)=false:=Xaj (by omega)
  go_enter func144,ntmps144
  go_wp2_with fail
  go_ret
  exact⟨Xa0 (by rw[HB.o,Bool.eq_iff_iff];simp[Xuw];try omega),rfl⟩
def NBox (W:World)(p:Nat):Prop:=∃n:Nat,Boxed W p 3 (.int .i64 (n:Int))
theorem NBox.own (p B:Nat):OwnFrom B (fun(_:List (Nat×Nat)) W=>NBox W p):=fun s X Y row hs hg hrow=>by
 obtain⟨n,h⟩:=hs
 exact⟨n,(Own.from (boxed_own p 3 (fun _:Unit=>.int .i64 (n:Int))) B) () X Y row h hg hrow⟩
def BbI (w:World)(p:Nat)(s:ByteArray)(pre:List (Nat×Nat))(W:World):Prop:=
 Boxed W p 3 (.int .i64 0)∧(Boxed W (p+1) 9 (.string s)∧(Hid (pre.all (fun x=>gd true x.2)=true)∧Below p w W))
def BbX (w:World)(p:Nat)(s:ByteArray)(c:Code)(pre:List (Nat×Nat))(W:World):Prop:=
 NBox W p∧(Hid (c=.ret∧pre.all (fun x=>gd true x.2)=false)∧Below p w W)
theorem BbI.own (w:World)(p:Nat)(s:ByteArray)(hp:p≤w.heap.size)(B:Nat)(hB:p≤B):OwnFrom B (BbI w p s):=
 OwnFrom.and (Own.from (boxed_own p 3 (fun _=>.int .i64 0)) _) (OwnFrom.and (Own.from (boxed_own (p+1) 9 (fun _=>.string s)) _) (OwnFrom.and (Xdd B _) (ownFrom_below hp hB)))
theorem BbX.own (w:World)(p:Nat)(s:ByteArray)(c:Code)(hp:p≤w.heap.size)(B:Nat)(hB:p≤B):OwnFrom B (BbX w p s c):=
 OwnFrom.and (NBox.own p B) (OwnFrom.and (Xdd B _) (ownFrom_below hp hB))
def Yl5 (l:List Nat)(w:World)(e:Ending)(w':World):Prop:=
 ∃n:Int,e=.returned (.int .i64 n)∧(Xie true l=true→n<0)∧(Xie true l=false→0≤n)∧Bw w w'
theorem Yfe (s:ByteArray)(w:World)(hs:s.size≤maxLen):
    Calls prog 95 #[.string s] w (Yl5 (bs s) w):=by
 have HS:=Hd hs
 have CK:=Hd (fun w=>Xmh s w hs)
 clear hs
 refine(callsIn_wide (n:=5)).1 ?_
 refine callsIn_of_wp_marks func95 rfl trivial ?_ rfl
 simp only[ntmps95,List.size_toArray,List.length_cons,List.length_nil,Nat.reduceAdd,Nat.reduceSub,Array.replicate_succ,Array.replicate_zero,List.push_toArray,List.append_toArray,List.nil_append,List.cons_append]
 gi_wp2_with fail
 refine⟨trivial,?_⟩
 gi_at_call 137
 refine(Yfy Fence.wide _ trivial rfl _ _).mono ?_
 rintro e w' ⟨rfl,rfl⟩
 gi_wp2
 obtain⟨p,hp⟩:=xq w.heap.size
 obtain⟨W0,hW0⟩:∃W0,((w.alloc (.cells #[.int .i64 0] 3)).alloc (.cells #[.string s] 9))=W0:=⟨_,rfl⟩
 have z0:W0.heap.size=p+2:=by rw[←hW0,hp];simp
 have i0':BbI w p s [] W0:=by
  rw[←hW0,hp]
  refine⟨?_,?_,Hd rfl,?_⟩
  ·exact Xcz (Boxed.new w 3 (.int .i64 0)) ((zR _ _).alloc (zL _) _)
  ·have:=Boxed.new (w.alloc (.cells #[.int .i64 0] 3)) 9 (.string s)
   simpa using this
  ·exact((zR _ w).alloc (zL _) _).alloc (by simp) _
 rw[hW0,←hp]
 have hc0:W0.cell? ⟨p+1,0,none⟩=some (.string s):=i0'.2.1.cell
 have HP:=Hd hp
 clear hW0 hp
 refine wpIn_rangeFunc_ownF (F:=Fence.wide) (n:=5) rfl (by omega) (gf:=185) (lb:=#[.pointer (some ⟨p+1,0,none⟩)]) rfl trivial (enters_of func185 (by kernel_rfl) rfl)
  (Xpg 4 (by omega) (p+1) s HS.o W0 (by omega) hc0) (fun h k=>Eq.trans k h) ?keep (zR _ _) (fun _=>rfl)
  (BbI w p s) (BbX w p s) (BbI.own w p s (by rw[HP.o];exact zL _) _ (by omega)) (fun c=>BbX.own w p s c (by rw[HP.o];exact zL _) _ (by omega)) i0'
  (fun x=>{tmps:=#[.string s,undef,.pointer (some ⟨p,0,none⟩),.int .i64 (x.1:Int),.int .i32 (x.2:Int),undef,undef,.string s,.func (.func 185) #[] #[.pointer (some ⟨p+1,0,none⟩)],.int .i64 (x.1:Int),.int .i32 (x.2:Int),undef,undef,undef,undef,undef,undef,undef,undef,undef,undef,undef,undef,undef,undef,undef],defers:=[]})
  ?assign ?body ?done ?stop
 case keep=>
  intro W l o o' hl _ _ _
  show(W.putObj l o').heap[p+1]?=W.heap[p+1]?
  exact(grownBy_putObj' W l o').block _ (by have:=zY ‹_›;omega) (fun e=>by cases e;omega)
 case assign=>
  rintro l x W K hK
  unfold rnV
  gi_wp2
  exact hK
 case body=>
  rintro l pre x W hI hlt
  have hb:=hI.1.cell
  have hf:=hI.1.frozen
  have HI:=Hd hI
  have UC:=Hd (fun w=>Yfn w x.2)
  have z:∃b,b=Xuw x.2:=⟨_,rfl⟩
  obtain⟨b,hbx⟩:=z
  rw[←hbx] at UC
  have HB:=Hd hbx
  clear hbx hI
  by_cases h9:x.2=9
  ·have q9:((x.2:Int) !=9)=false:=Xau (by omega)
   have H9:=Hd h9
   clear h9
   gi_wp2
   refine⟨trivial,?_⟩
   gi_wp2
   refine⟨KeepsOthers.refl _,rfl,HI.o.1,HI.o.2.1,Hd ?_,HI.o.2.2.2⟩
   rw[List.all_append,HI.o.2.2.1.o]
   simp[gd,H9.o]
  ·have q9:((x.2:Int) !=9)=true:=Xam (by omega)
   have H9:=Hd h9
   clear h9
   cases b
   ·gi_wp2_with (refine⟨trivial,?_⟩;gi_at_call 144;refine(CallsIn.inRound l (callsIn_wide.2 (UC.o _))).mono ?_;rintro e w1 ⟨rfl,rfl⟩)
    refine⟨KeepsOthers.refl _,rfl,HI.o.1,HI.o.2.1,Hd ?_,HI.o.2.2.2⟩
    rw[List.all_append,HI.o.2.2.1.o]
    simp[gd,←HB.o]
   ·gi_wp2_with (refine⟨trivial,?_⟩;gi_at_call 144;refine(CallsIn.inRound l (callsIn_wide.2 (UC.o _))).mono ?_;rintro e w1 ⟨rfl,rfl⟩)
    refine⟨KeepsOthers.setCell _ _ _,⟨⟨x.1,Xd8 HI.o.1 0 _⟩,Hd ⟨rfl,?_⟩,HI.o.2.2.2.setCell (p:=⟨p,0,none⟩) (zL _) _⟩⟩
    rw[List.all_append,Bool.and_eq_false_iff]
    exact .inr (by simp[gd,←HB.o,H9.o])
 case done=>
  rintro D ys W hD rfl hI hK
  have hb:=hI.1.cell
  have hf:=hI.1.frozen
  have HI:=Hd hI
  have G:Hid (Xie true (bs s)=vld (bs s)):=Hd (by unfold Xie;rw[hI.2.2.1.o,Bool.and_true])
  have CW:=Hd (CK.o W)
  have HK:=Hd hK
  clear hI hK
  gi_wp2_with fail
  refine⟨trivial,?_⟩
  gi_at_call 145
  refine(callsIn_wide.2 CW.o).mono ?_
  rintro e w1 ⟨n,er,rfl,h1,h2,⟨q,rfl⟩⟩
  cases hv:vld (bs s)
  ·have q1:(er !=0)=true:=Xam (h2 hv)
   have HV:=Hd hv
   clear h1 h2 hv
   gi_wp2
   have hK':=(KeepsOthers.setCell (W.drewN q) ⟨p,0,none⟩ (.int .i64 (n:Int))).same D _ HK.o rfl
   refine⟨by simp,.inl ⟨_,_,rfl,run_takeDeferred hK',?_⟩⟩
   have hc5:=cell_kept (World.cell?_setCell_same' (W.drewN q) ⟨p,0,none⟩ (.int .i64 (n:Int)) (by show(W.cell? _).isSome=true;rw[hb];rfl)) (grownBy_putObj' _ D (.deferred none)) (fun r e=>by cases e;exact⟨_,hK',rfl⟩)
   refine⟨.int .i64 (n:Int),?_,(n:Int),rfl,(fun h=>by rw[G.o,HV.o] at h;cases h),(fun _=>by omega),?_⟩
   ·simp[results,Tryz.f95,go_sem,hc5]
   ·exact(((HI.o.2.2.2.mono (Nat.le_of_eq HP.o.symm)).trans ((Dr.below ⟨q,rfl⟩).mono (by have:=HI.o.2.1.lt;have:=HP.o;omega))).setCell (p:=⟨p,0,none⟩) (Nat.le_of_eq HP.o.symm) _).trans (belowK_b (w:=w) (zL _) _ D _ _ (by have:=HP.o;omega) hK' rfl rfl)
  ·obtain rfl:=h1 hv
   have HV:=Hd hv
   clear h1 h2 hv
   gi_wp2
   have hK':=(KeepsOthers.setCell (W.drewN q) ⟨p,0,none⟩ (.int .i64 (-1))).same D _ HK.o rfl
   refine⟨by simp,.inl ⟨_,_,rfl,run_takeDeferred hK',?_⟩⟩
   have hc5:=cell_kept (World.cell?_setCell_same' (W.drewN q) ⟨p,0,none⟩ (.int .i64 (-1)) (by show(W.cell? _).isSome=true;rw[hb];rfl)) (grownBy_putObj' _ D (.deferred none)) (fun r e=>by cases e;exact⟨_,hK',rfl⟩)
   refine⟨.int .i64 (-1),?_,-1,rfl,(fun _=>by omega),(fun h=>by rw[G.o,HV.o] at h;cases h),?_⟩
   ·simp[results,Tryz.f95,go_sem,hc5]
   ·exact(((HI.o.2.2.2.mono (Nat.le_of_eq HP.o.symm)).trans ((Dr.below ⟨q,rfl⟩).mono (by have:=HI.o.2.1.lt;have:=HP.o;omega))).setCell (p:=⟨p,0,none⟩) (Nat.le_of_eq HP.o.symm) _).trans (belowK_b (w:=w) (zL _) _ D _ _ (by have:=HP.o;omega) hK' rfl rfl)
 case stop=>
  rintro D c pre W hD ⟨q,hq⟩ hI hK
  obtain⟨⟨n,h1⟩,h2,h3⟩:=hI
  obtain⟨rfl,h4⟩:=h2.o
  have h5:=h1.cell
  have GF:Hid (Xie true (bs s)=false):=Hd (by unfold Xie;rw[←hq,List.all_append,h4];simp)
  clear hq h4
  gi_wp2
  refine⟨by simp,.inl ⟨_,_,rfl,run_takeDeferred hK,?_⟩⟩
  have hc5:=cell_kept h5 (grownBy_putObj' _ D (.deferred none)) (fun r e=>by cases e;exact⟨_,hK,rfl⟩)
  refine⟨.int .i64 (n:Int),?_,(n:Int),rfl,(fun h=>by rw[GF.o] at h;cases h),(fun _=>by omega),(h3.mono (Nat.le_of_eq HP.o.symm)).trans (belowK_b (w:=w) (zL _) _ D _ _ (by have:=HP.o;omega) hK rfl rfl)⟩
  simp[results,Tryz.f95,go_sem,hc5]
end Go.Proofs.YtjolcnopipbkhaaGreatDoor
/- Plain: the lines of a body and their errors. -/
namespace Go.Proofs.YtjolcnopipbkhaaGreatDoor
open Go.Proofs.Tryz
open Go.RowKit Go.Maps
set_option linter.unusedVariables false
set_option maxRecDepth 100000
set_option maxHeartbeats 100000000
def Xji (n a:Nat)(ln:List Nat):Nat:=if a+ln.length=n then 4 else if 998<ln.length then 5 else if Xie true ln=false then 6 else 0
def Xcc (n:Nat):Nat→List (List Nat)→Nat
 |_,[]=>0
 |a,ln::r=>if Xji n a ln≠0 then Xji n a ln else Xcc n (a+ln.length+1) r
def Xoy (ls:List (List Nat)):Nat:=(ls.map fun l=>l.length+1).sum
def Yb8:Nat→List Nat→List (List Nat)
 |0,_=>[]
 |k+1,l=>if l=[] then[] else Xfj l::Yb8 k (l.drop ((Xfj l).length+1))
def lns (l:List Nat):List (List Nat):=Yb8 l.length l
theorem Xry (l:List Nat):(Xfj l).length≤l.length:=by
 unfold Xfj;exact(List.takeWhile_sublist _).length_le
theorem Xug (n:Nat):∀(k a:Nat) (l:List Nat),a+l.length=n→Xcc n a (Yb8 k l)=Xon k l
 |0,_,_,_=>rfl
 |k+1,a,l,h=>by
  by_cases h0:l=[]
  ·subst h0;simp[Yb8,Xon,Xcc]
  ·have hl:=Xry l
   simp only[Yb8,Xon,qN h0,Xcc]
   have e:Xji n a (Xfj l)=if(Xfj l).length=l.length then 4 else if 998<(Xfj l).length then 5 else if Xie true (Xfj l)=false then 6 else 0:=by
    unfold Xji
    by_cases h1:(Xfj l).length=l.length
    ·rw[qP (by omega),qP h1]
    ·rw[qN (by omega),qN h1]
   rw[e]
   by_cases h1:(Xfj l).length=l.length
   ·simp[h1]
   ·by_cases h2:998<(Xfj l).length
    ·simp[h1,h2]
    ·by_cases h3:Xie true (Xfj l)=false
     ·simp[h1,h2,h3]
     ·have ih:=Xug n k (a+(Xfj l).length+1) (l.drop ((Xfj l).length+1)) (by rw[List.length_drop];omega)
      simp[h1,h2,h3,ih]
theorem Yhx (l:List Nat):Xcc l.length 0 (lns l)=Xf1 l:=Xug l.length l.length 0 l (by omega)
theorem Xip (n:Nat):∀(p q:List (List Nat)) (a:Nat),Xcc n a (p++q)=if Xcc n a p≠0 then Xcc n a p else Xcc n (a+Xoy p) q
 |[],q,a=>by simp[Xcc,Xoy]
 |x::p,q,a=>by
  simp only[List.cons_append,Xcc]
  rw[Xip n p q]
  by_cases h:Xji n a x=0
  ·simp[h,Xoy,Nat.add_assoc]
  ·simp[h]
theorem Xkz (n:Nat)(p:List (List Nat))(x:List Nat)(h:Xcc n 0 p=0):Xcc n 0 (p++[x])=Xji n (Xoy p) x:=by
 rw[Xip,h];simp[Xcc];intro e;exact e.symm
theorem Ybr (p:List (List Nat))(x:List Nat):Xoy (p++[x])=Xoy p+x.length+1:=by simp[Xoy];omega
theorem Yi4 (p:List (List Nat))(m:Nat)(h:∀x∈p,x.length≤m):Xoy p≤p.length*(m+1):=by
 induction p with
 |nil=>simp[Xoy]
 |cons x p ih=>
  have h1:=h x (by simp)
  have h2:=ih (fun y hy=>h y (by simp[hy]))
  simp only[Xoy,List.map_cons,List.sum_cons,List.length_cons] at h2⊢
  rw[Nat.succ_mul];omega
theorem Yhy:∀(n:Nat) (l:List Nat) (k:Nat),l.length≤n→l.length≤k→Yb8 k l=Yb8 l.length l:=by
 intro n
 induction n with
 |zero=>
  intro l k hl hk
  have:l=[]:=List.length_eq_zero_iff.1 (by omega)
  subst this
  cases k<;>rfl
 |succ n ih=>
  intro l k hl hk
  cases l with
  |nil=>cases k<;>rfl
  |cons x l=>
   cases k with
   |zero=>simp at hk
   |succ k=>
    rw[List.length_cons]
    simp only[Yb8]
    have hl':l.length≤n:=by simpa using hl
    have hk':l.length≤k:=by simpa using hk
    rw[ih _ k (by simp;omega) (by simp;omega),ih _ l.length (by simp;omega) (by simp)]
theorem Yd4 {l:List Nat}(h:l≠[]):lns l=Xfj l::lns (l.drop ((Xfj l).length+1)):=by
 cases l with
 |nil=>exact absurd rfl h
 |cons x l=>
  unfold lns
  rw[List.length_cons]
  simp only[Yb8]
  rw[qN (by simp),Yhy l.length _ l.length (by simp) (by simp)]
end Go.Proofs.YtjolcnopipbkhaaGreatDoor
/- article.Lines, CheckBody. -/
namespace Go.Proofs.YtjolcnopipbkhaaGreatDoor
open Go.Proofs.Tryz
open Go.RowKit Go.Shelf
attribute [local go_sem] Oper.semAt_some
set_option linter.unusedVariables false
set_option maxHeartbeats 100000000
set_option maxRecDepth 100000
abbrev Ln:={x:Nat×ByteArray//x.2.size≤1000000}
def lnV (x:Ln):Array Value:=#[.int .i64 (x.1.1:Int),.string x.1.2]
def lnL (pre:List Ln):List (List Nat):=pre.map fun x=>bs x.1.2
theorem Xjs (pre:List Ln)(x:Ln):lnL (pre++[x])=lnL pre++[bs x.1.2]:=by simp[lnL]
theorem Yhz (pre:List Ln):(lnL pre).length=pre.length:=by simp[lnL]
theorem Ykk (pre:List Ln):Xoy (lnL pre)≤pre.length*1000001:=by
 have:=Yi4 (lnL pre) 1000000 (fun x hx=>by
  obtain⟨y,_,rfl⟩:=List.mem_map.1 hx
  rw[Xaa];exact y.2)
 rwa [Yhz] at this
theorem Xxp (l:List Nat):Xi2 10 l=Xfj l:=rfl
theorem Xzg (n:Nat)(hn:1≤n)(l Bs B:Nat)(s:ByteArray)(hs:s.size≤1000000)(J Jx:List Ln→World→Prop)(hJa:AbidesFrom B J)
    (hY:∀pre x W,J pre W→pre.length<s.size+1→YieldAt Fence.wide (n-1) prog l (lnV x) W fun e W'=>
     (e=.returned (.bool true)∧J (pre++[x]) W'∧Below 9 W W')∨(e=.returned (.bool false)∧Jx (pre++[x]) W'))
    (W:World) (hE:Env W) (hBs:W.cell? ⟨Bs,0,none⟩=some (.string s)) (h0:J [] W):
    CallsIn Fence.wide n prog 143 #[.func (.yield l) #[] #[],.pointer (some ⟨Bs,0,none⟩)] W fun e W'=>(∃v,e=.returned v)∧
     ((∃ys:List Ln,lnL ys=lns (bs s)∧J ys W')∨(∃pre:List Ln,(∃q,lnL pre++q=lns (bs s))∧Jx pre W')):=by
 refine callsIn_of_wp func143 rfl trivial ?_ rfl
 simp only[ntmps143,List.size_toArray,List.length_cons,List.length_nil,Nat.reduceAdd,Nat.reduceSub,Array.replicate_succ,Array.replicate_zero,List.push_toArray,List.append_toArray,List.nil_append,List.cons_append]
 gi_wp2
 gi_loopw [3,4] (fun r i wr=>∃(k:Nat) (t:ByteArray) (pre:List Ln),r=.string t∧i=.int .i64 (k:Int)∧t.size+k≤s.size∧Hid (lns (bs s)=lnL pre++lns (bs t))∧pre.length≤k∧Env wr∧J pre wr)
  (fun r i wr=>s.size-(intOf i).toNat)
 case atStart=>
  exact⟨0,s,[],rfl,rfl,by omega,rfl,Nat.zero_le _,hE,h0⟩
 case round=>
  obtain⟨k,t,pre,rfl,rfl,hk,hpre,hpl,he,hJ⟩:=hrel
  by_cases h1:t.size=0
  ·obtain rfl:=Xeh h1
   have ST:Hid (lns (bs s)=lnL pre):=Hd (by rw[hpre.o];simp[bs,lns,Yb8])
   clear h1 he
   gi_wp2
   go_end0
   exact⟨⟨_,rfl⟩,.inl ⟨pre,ST.o.symm,hJ⟩⟩
  ·have n0:=Xd2 h1
   have C:=Hd (Xsq t 10 wr (by omega) he.mx)
   have HE:=Hd he
   have LC:Hid (lns (bs t)=Xfj (bs t)::lns ((bs t).drop ((Xfj (bs t)).length+1))):=Hd (Yd4 (fun e=>h1 (by rw[←Xaa,e];rfl)))
   have HLL:=Xry (bs t)
   rw[Xaa] at HLL
   clear he
   gi_wp2_with fail
   refine⟨trivial,?_⟩
   refine(callsIn_wide.2 C.o).mono ?_
   rintro e w1 ⟨x,y,b,rfl,hx,hy,hb,hxs,hd1⟩
   rw[show(10:UInt8).toNat=10 from rfl,Xxp] at hx hy hb
   have J1:J pre w1:=by obtain⟨q,rfl⟩:=hd1;exact hJa _ _ _ _ hJ (Xlb _ _) (fun r e=>by cases e)
   have E1:=Hd (HE.o.on hd1.below)
   have YS:y.size+1≤t.size:=by
    have:=congrArg List.length hy
    rw[Xaa,List.length_drop,Xaa] at this;omega
   have ST:Hid (lns (bs s)=lnL (pre++[⟨(k,x),by show x.size≤1000000;omega⟩])++lns (bs y)):=Hd (by rw[hpre.o,LC.o,Xjs];simp[hx,hy])
   clear hJ hd1 C hx hy hb LC HE
   obtain⟨fn,tmps,assign,body,hyy,hR⟩:=hY pre ⟨(k,x),by show x.size≤1000000;omega⟩ w1 J1 (by omega)
   unfold lnV at hyy
   dsimp only at hyy
   gi_wp2
   refine hR.mono ?_
   rintro e W3 (⟨rfl,hJ3,hk3⟩|⟨rfl,hJx3⟩)
   ·have E3:=Hd (E1.o.below hk3 (zL _))
    gi_wp2
    go_roundw
    case rel=>exact⟨k+1,y,pre++[_],rfl,by go_num,by omega,ST,by simp;omega,E3.o,hJ3⟩
    case measure=>simp[intOf];omega
   ·gi_wp2
    refine zP (results_none rfl _ _ _) rfl ?_
    exact⟨⟨_,rfl⟩,.inr ⟨_,⟨_,ST.o.symm⟩,hJx3⟩⟩
theorem Yd5 (F:Fence)(n:Nat)(h37:F.fn 94)(hro:F.round=none)(s:ByteArray)(w:World):
    CallsIn F n prog 94 #[.string s] w fun e w'=>e=.returned (.func (.func 143) #[] #[.pointer (some ⟨w.heap.size,0,none⟩)])∧w'=w.alloc (.cells #[.string s] 9):=by
 refine callsIn_of_wp func94 rfl h37 ?_ hro
 simp only[ntmps94,List.size_toArray,List.length_cons,List.length_nil,Nat.reduceAdd,Nat.reduceSub,Array.replicate_succ,Array.replicate_zero,List.push_toArray,List.append_toArray,List.nil_append,List.cons_append]
 gi_wp2
 go_ret
 exact⟨rfl,rfl⟩
theorem Xrw (n:Nat)(hn:1≤n)(Bs:Nat)(s:ByteArray)(hs:s.size≤1000000)(w:World)(hE:Env w)(hB:Bs<w.heap.size)(hc:w.cell? ⟨Bs,0,none⟩=some (.string s)):
    SeqStopsK Fence.wide n prog 143 #[.pointer (some ⟨Bs,0,none⟩)] lnV (Below 9) (fun ys=>lnL ys=lns (bs s)) (fun pre=>∃q,lnL pre++q=lns (bs s)) (s.size+1) w:=fun l J Jx W hW hJ _ hY h0=>
 Xzg n hn l Bs W.heap.size s hs J Jx hJ hY W (hE.on hW) ((hW.cell (p:=⟨Bs,0,none⟩) hB).trans hc) h0
end Go.Proofs.YtjolcnopipbkhaaGreatDoor
/- article.CheckBody. -/
namespace Go.Proofs.YtjolcnopipbkhaaGreatDoor
open Go.Proofs.Tryz
open Go.RowKit Go.Shelf
attribute [local go_sem] Oper.semAt_some
set_option linter.unusedVariables false
set_option maxHeartbeats 100000000
set_option maxRecDepth 100000
def XBox (W:World)(p:Nat):Prop:=∃n:Int,Boxed W p 3 (.int .i64 n)
theorem XBox.own (p B:Nat):OwnFrom B (fun(_:List Ln) W=>XBox W p):=fun s X Y row hs hg hrow=>by
 obtain⟨n,h⟩:=hs
 exact⟨n,(Own.from (boxed_own p 3 (fun _:Unit=>.int .i64 n)) B) () X Y row h hg hrow⟩
def CbI (w:World)(p:Nat)(s:ByteArray)(pre:List Ln)(W:World):Prop:=
 Boxed W p 9 (.string s)∧(Boxed W (p+1) 3 (.int .i64 0)∧(Boxed W (p+2) 32 (.int .i64 0)∧(Boxed W (p+3) 3 (.int .i64 (Xoy (lnL pre):Nat))∧(Hid (Xcc s.size 0 (lnL pre)=0)∧Below p w W))))
def CbX (w:World)(p:Nat)(s:ByteArray)(c:Code)(pre:List Ln)(W:World):Prop:=
 XBox W (p+1)∧(Boxed W (p+2) 32 (.int .i64 (Xcc s.size 0 (lnL pre):Nat))∧(Hid (c=.ret∧Xcc s.size 0 (lnL pre)≠0)∧Below p w W))
theorem CbI.own (w:World)(p:Nat)(s:ByteArray)(hp:p≤w.heap.size)(B:Nat)(hB:p≤B):OwnFrom B (CbI w p s):=
 OwnFrom.and (Own.from (boxed_own p 9 (fun _=>.string s)) _) (OwnFrom.and (Own.from (boxed_own (p+1) 3 (fun _=>.int .i64 0)) _) (OwnFrom.and (Own.from (boxed_own (p+2) 32 (fun _=>.int .i64 0)) _)
  (OwnFrom.and (Own.from (boxed_own (p+3) 3 (fun pre:List Ln=>.int .i64 (Xoy (lnL pre):Nat))) _) (OwnFrom.and (Xdd B _) (ownFrom_below hp hB)))))
theorem CbX.own (w:World)(p:Nat)(s:ByteArray)(c:Code)(hp:p≤w.heap.size)(B:Nat)(hB:p≤B):OwnFrom B (CbX w p s c):=
 OwnFrom.and (XBox.own (p+1) B) (OwnFrom.and (Own.from (boxed_own (p+2) 32 (fun pre:List Ln=>.int .i64 (Xcc s.size 0 (lnL pre):Nat))) _) (OwnFrom.and (Xdd B _) (ownFrom_below hp hB)))
theorem CbI.on {w:World}{p:Nat}{s:ByteArray}{pre:List Ln}{W W':World}(h:CbI w p s pre W)(hb:Bw W W'):CbI w p s pre W':=
 ⟨Xcz h.1 hb,Xcz h.2.1 hb,Xcz h.2.2.1 hb,Xcz h.2.2.2.1 hb,h.2.2.2.2.1,h.2.2.2.2.2.trans (hb.mono (Nat.le_of_lt h.1.lt))⟩
theorem CbI.stop {w:World}{p:Nat}{s:ByteArray}{pre:List Ln}{W:World}(h:CbI w p s pre W)(x:Ln)(n:Int)(m:Nat)(hm:Xji s.size (Xoy (lnL pre)) (bs x.1.2)=m)(h0:m≠0):
    CbX w p s .ret (pre++[x]) ((W.setCell ⟨p+1,0,none⟩ (.int .i64 n)).setCell ⟨p+2,0,none⟩ (.int .i64 (m:Nat))):=by
 have e:Xcc s.size 0 (lnL (pre++[x]))=m:=by rw[Xjs,Xkz _ _ _ h.2.2.2.2.1.o,hm]
 refine⟨⟨n,?_⟩,?_,Hd ⟨rfl,by rw[e];exact h0⟩,?_⟩
 ·exact Boxed.other (Xd8 h.2.1 0 _) (by omega) _
 ·rw[e];exact Xd8 (Boxed.other h.2.2.1 (by omega) _) 0 _
 ·exact(h.2.2.2.2.2.setCell (p:=⟨p+1,0,none⟩) (by show p≤p+1;omega) _).setCell (p:=⟨p+2,0,none⟩) (by show p≤p+2;omega) _
theorem Xk4 (B:Nat)(W:World)(p:Nat)(u v:Value):KeepsFrom B W ((W.setCell ⟨p+1,0,none⟩ u).setCell ⟨p+2,0,none⟩ v):=((KeepsOthers.setCell _ _ _).trans (KeepsOthers.setCell _ _ _)).from B
def Yl4 (l:List Nat)(w:World)(e:Ending)(w':World):Prop:=∃n:Int,e=.returned (.tuple #[.int .i64 n,.int .i64 (Xf1 l:Nat)])∧Bw w w'
theorem Xsv (s:ByteArray)(w:World)(hs:s.size≤1000000)(hE:Env w):
    Calls prog 50 #[.string s] w (Yl4 (bs s) w):=by
 have HS:=Hd hs
 have HE:=Hd hE
 have h9:=hE.size
 have BF:Hid (Xf1 (bs s)=Xcc s.size 0 (lns (bs s))):=Hd (by rw[←Xaa,Yhx])
 clear hs hE
 refine(callsIn_wide (n:=5)).1 ?_
 refine callsIn_of_wp_marks func50 rfl trivial ?_ rfl
 simp only[ntmps50,List.size_toArray,List.length_cons,List.length_nil,Nat.reduceAdd,Nat.reduceSub,Array.replicate_succ,Array.replicate_zero,List.push_toArray,List.append_toArray,List.nil_append,List.cons_append]
 gi_wp2_with fail
 refine⟨trivial,?_⟩
 gi_at_call 94
 refine(Yd5 Fence.wide _ trivial rfl _ _).mono ?_
 rintro e w' ⟨rfl,rfl⟩
 gi_wp2
 obtain⟨p,hp⟩:=xq w.heap.size
 obtain⟨W0,hW0⟩:∃W0,(((((w.alloc (.cells #[.string s] 9)).alloc (.cells #[.int .i64 0] 3)).alloc (.cells #[.int .i64 0] 32)).alloc (.cells #[.int .i64 0] 3)).alloc (.cells #[.string s] 9))=W0:=⟨_,rfl⟩
 have z0:W0.heap.size=p+5:=by rw[←hW0,hp];simp
 have b0:Bw w W0:=by
  rw[←hW0]
  exact(((((zR _ w).alloc (zL _) _).alloc (by simp) _).alloc (by simp;omega) _).alloc (by simp;omega) _).alloc (by simp;omega) _
 have i0':CbI w p s [] W0:=by
  refine⟨?_,?_,?_,?_,Hd rfl,by rw[hp];exact b0⟩<;>rw[←hW0,hp]
  ·exact((((Boxed.new w 9 (.string s)).alloc _).alloc _).alloc _).alloc _
  ·have:=((((Boxed.new (w.alloc (.cells #[.string s] 9)) 3 (.int .i64 0)).alloc (.cells #[.int .i64 0] 32)).alloc (.cells #[.int .i64 0] 3)).alloc (.cells #[.string s] 9))
   simpa using this
  ·have:=(((Boxed.new ((w.alloc (.cells #[.string s] 9)).alloc (.cells #[.int .i64 0] 3)) 32 (.int .i64 0)).alloc (.cells #[.int .i64 0] 3)).alloc (.cells #[.string s] 9))
   simpa using this
  ·have:=((Boxed.new (((w.alloc (.cells #[.string s] 9)).alloc (.cells #[.int .i64 0] 3)).alloc (.cells #[.int .i64 0] 32)) 3 (.int .i64 0)).alloc (.cells #[.string s] 9))
   simpa [Xoy,lnL,Nat.add_assoc] using this
 have hc0:W0.cell? ⟨p+4,0,none⟩=some (.string s):=by
  have:=(Boxed.new ((((w.alloc (.cells #[.string s] 9)).alloc (.cells #[.int .i64 0] 3)).alloc (.cells #[.int .i64 0] 32)).alloc (.cells #[.int .i64 0] 3)) 9 (.string s)).cell
  rw[←hW0,hp]
  simpa [Nat.add_assoc] using this
 have E0:=Hd (HE.o.on b0)
 rw[hW0,←hp]
 simp only[Nat.add_assoc,Nat.reduceAdd]
 have HP:=Hd hp
 clear hW0 hp b0
 refine wpIn_rangeFunc_ownG (F:=Fence.wide) (n:=5) rfl (by omega) (gf:=143) (lb:=#[.pointer (some ⟨p+4,0,none⟩)]) rfl trivial (enters_of func143 (by kernel_rfl) rfl)
  (Xrw 4 (by omega) (p+4) s HS.o W0 E0.o (by omega) hc0) (fun h k=>h.trans k) ?keep (zR _ _) (fun _=>rfl)
  (CbI w p s) (CbX w p s) (CbI.own w p s (by rw[HP.o];exact zL _) _ (by omega)) (fun c=>CbX.own w p s c (by rw[HP.o];exact zL _) _ (by omega)) i0'
  (fun x=>{tmps:=#[.string s,.pointer (some ⟨p,0,none⟩),.pointer (some ⟨p+1,0,none⟩),.pointer (some ⟨p+2,0,none⟩),.pointer (some ⟨p+3,0,none⟩),undef,.string x.1.2,undef,undef,.string s,.func (.func 143) #[] #[.pointer (some ⟨p+4,0,none⟩)],.int .i64 (x.1.1:Int),.string x.1.2,undef,undef,undef,undef,undef,undef,undef,undef,undef,undef,undef,undef,undef,undef,undef,undef,undef,undef,undef,undef,undef,undef,undef,undef],defers:=[]})
  ?assign ?body ?done ?stop
 case keep=>
  intro W l o o' hl hlo ho _
  exact⟨rfl,rfl,rfl,by simp[World.putObj],fun k hk=>(grownBy_putObj' W l o').block k (by have:=zY hlo;have:=HP.o;omega) (fun e=>by cases e;have:=HP.o;omega)⟩
 case assign=>
  rintro l x W K hK
  unfold lnV
  gi_wp2
  exact hK
 case body=>
  rintro l pre x W hI hlt
  have hsp:p+3<W.heap.size:=hI.2.2.2.1.lt
  have h91:9≤p:=by rw[HP.o];exact h9
  have hat:=Ykk pre
  have hx2:=x.2
  have hs6:=HS.o
  have hat2:Xoy (lnL pre)≤1000001*1000001:=Nat.le_trans hat (Nat.mul_le_mul_right _ (by omega))
  have bp:=hI.1.cell
  have b1:=hI.2.1.cell
  have f1:=hI.2.1.frozen
  have b2:=hI.2.2.1.cell
  have f2:=hI.2.2.1.frozen
  have b3:=hI.2.2.2.1.cell
  have f3:=hI.2.2.2.1.frozen
  have HI:=Hd hI
  have EW:=Hd (HE.o.below hI.2.2.2.2.2 h91)
  obtain⟨⟨xi,ln⟩,hln⟩:=x
  simp only at hx2 hln⊢
  obtain⟨a,ha⟩:=xq (Xoy (lnL pre))
  rw[←ha] at b3 hat2
  have HA:=Hd ha
  have BL:=Xaa ln
  have HBL:=Hd BL
  clear hI hat ha BL
  by_cases c1:a+ln.size=s.size
  ·have q1:(((a:Int)+(ln.size:Int))==(s.size:Int))=true:=Xa4 (by omega)
   have C1:=Hd c1
   clear c1
   gi_wp2
   exact⟨Xk4 _ _ _ _ _,HI.o.stop _ _ 4 (by rw[←HA.o];unfold Xji;rw[qP (by rw[Xaa];exact C1.o)]) (by decide)⟩
  ·have q1:(((a:Int)+(ln.size:Int))==(s.size:Int))=false:=Xaj (by omega)
   have C1:=Hd c1
   clear c1
   by_cases c2:998<ln.size
   ·gi_wp2
    exact⟨Xk4 _ _ _ _ _,HI.o.stop _ _ 5 (by rw[←HA.o];unfold Xji;rw[qN (by rw[Xaa];exact C1.o),qP (by rw[Xaa];exact c2)]) (by decide)⟩
   ·have BB:=Hd (Yfe ln W (by unfold maxLen;omega))
    gi_wp2_with fail
    refine⟨trivial,?_⟩
    gi_at_call 95
    refine(CallsIn.inRound l (callsIn_wide.2 BB.o)).mono ?_
    rintro e w2 ⟨n,rfl,h1,h2,hb2⟩
    have I2:=Hd (HI.o.on hb2)
    have KF:=Hd (Xr1 hb2 W0.heap.size)
    have B9:Hid (Below 9 W w2):=Hd (hb2.mono (by omega))
    have bp:=I2.o.1.cell
    have b1:=I2.o.2.1.cell
    have f1:=I2.o.2.1.frozen
    have b2:=I2.o.2.2.1.cell
    have f2:=I2.o.2.2.1.frozen
    have b3:=I2.o.2.2.2.1.cell
    have f3:=I2.o.2.2.2.1.frozen
    rw[←HA.o] at b3
    clear hb2 BB
    cases hg:Xie true (bs ln)
    ·have hn:=h2 hg
     have HG:=Hd hg
     clear h1 h2 hg
     gi_wp2
     exact⟨KF.o.trans (Xk4 _ _ _ _ _),I2.o.stop _ _ 6 (by rw[←HA.o];unfold Xji;rw[qN (by rw[Xaa];exact C1.o),qN (by rw[Xaa];exact c2),qP HG.o]) (by decide)⟩
    ·have hn:=h1 hg
     have HG:=Hd hg
     clear h1 h2 hg
     gi_wp2
     have e0:Xji s.size (Xoy (lnL pre)) (bs ln)=0:=by rw[←HA.o];unfold Xji;rw[qN (by rw[Xaa];exact C1.o),qN (by rw[Xaa];exact c2),qN (by rw[HG.o];decide)]
     refine⟨KF.o.trans ((KeepsOthers.setCell _ _ _).from _),B9.o.trans ((zR _ _).setCell (p:=⟨p+3,0,none⟩) (by show 9≤p+3;omega) _),Boxed.other I2.o.1 (by omega) _,Boxed.other I2.o.2.1 (by omega) _,Boxed.other I2.o.2.2.1 (by omega) _,?_,Hd (by rw[Xjs,Xkz _ _ _ I2.o.2.2.2.2.1.o];exact e0),I2.o.2.2.2.2.2.setCell (p:=⟨p+3,0,none⟩) (by show p≤p+3;omega) _⟩
     have:=Xd8 I2.o.2.2.2.1 0 (.int .i64 ((a:Int)+(ln.size:Int)+1))
     rw[Xjs,Ybr,←HA.o,Xaa]
     exact this
 case done=>
  rintro D ys W hD hys hI hK
  have b1:=hI.2.1.cell
  have f1:=hI.2.1.frozen
  have b2:=hI.2.2.1.cell
  have f2:=hI.2.2.1.frozen
  have hz:Xcc s.size 0 (lns (bs s))=0:=by rw[←hys];exact hI.2.2.2.2.1.o
  have HZ:=Hd hz
  have HI:=Hd hI
  clear hI hz hys
  gi_wp2
  have k1:=Xd8 HI.o.2.1 0 (.int .i64 0)
  have k2:Boxed ((W.setCell ⟨p+1,0,none⟩ (.int .i64 0)).setCell ⟨p+2,0,none⟩ (.int .i64 0)) (p+1) 3 (.int .i64 0):=Boxed.other k1 (by omega) _
  have k3:Boxed ((W.setCell ⟨p+1,0,none⟩ (.int .i64 0)).setCell ⟨p+2,0,none⟩ (.int .i64 0)) (p+2) 32 (.int .i64 0):=Xd8 (Boxed.other HI.o.2.2.1 (by omega) _) 0 _
  have hK':=((KeepsOthers.setCell W ⟨p+1,0,none⟩ (.int .i64 0)).trans (KeepsOthers.setCell _ ⟨p+2,0,none⟩ (.int .i64 0))).same D _ hK rfl
  refine⟨by simp,.inl ⟨_,_,rfl,run_takeDeferred hK',?_⟩⟩
  have d1:=cell_kept k2.cell (grownBy_putObj' _ D (.deferred none)) (fun r e=>by cases e;exact⟨_,hK',rfl⟩)
  have d2:=cell_kept k3.cell (grownBy_putObj' _ D (.deferred none)) (fun r e=>by cases e;exact⟨_,hK',rfl⟩)
  refine⟨.tuple #[.int .i64 0,.int .i64 0],?_,0,by rw[BF.o,HZ.o];rfl,(((HI.o.2.2.2.2.2.mono (Nat.le_of_eq HP.o.symm)).setCell (p:=⟨p+1,0,none⟩) (by show w.heap.size≤p+1;have:=HP.o;omega) _).setCell (p:=⟨p+2,0,none⟩) (by show w.heap.size≤p+2;have:=HP.o;omega) _).trans (belowK_b (w:=w) (zL _) _ D _ _ (by have:=HP.o;omega) hK' rfl rfl)⟩
  simp[results,Tryz.f50,go_sem,d1,d2]
 case stop=>
  rintro D c pre W hD ⟨q,hq⟩ hI hK
  obtain⟨⟨n,h1⟩,h2,h3,h4⟩:=hI
  obtain⟨rfl,h5⟩:=h3.o
  have c1:=h1.cell
  have c2:=h2.cell
  have GF:Hid (Xf1 (bs s)=Xcc s.size 0 (lnL pre)):=Hd (by rw[BF.o,←hq,Xip,qP h5])
  clear hq h5 h3
  gi_wp2
  refine⟨by simp,.inl ⟨_,_,rfl,run_takeDeferred hK,?_⟩⟩
  have d1:=cell_kept c1 (grownBy_putObj' _ D (.deferred none)) (fun r e=>by cases e;exact⟨_,hK,rfl⟩)
  have d2:=cell_kept c2 (grownBy_putObj' _ D (.deferred none)) (fun r e=>by cases e;exact⟨_,hK,rfl⟩)
  refine⟨.tuple #[.int .i64 n,.int .i64 (Xcc s.size 0 (lnL pre):Nat)],?_,n,by rw[GF.o],(h4.mono (Nat.le_of_eq HP.o.symm)).trans (belowK_b (w:=w) (zL _) _ D _ _ (by have:=HP.o;omega) hK rfl rfl)⟩
  simp[results,Tryz.f50,go_sem,d1,d2]
end Go.Proofs.YtjolcnopipbkhaaGreatDoor
/- (Content).Check (printed by gen_chk.py). -/
namespace Go.Proofs.YtjolcnopipbkhaaGreatDoor
open Go.Proofs.Tryz
open Go.RowKit Go.Maps
set_option linter.unusedVariables false
set_option maxHeartbeats 100000000
set_option maxRecDepth 100000
structure CnIn (w:World) (c:Cn) (gv rv:Value):Prop where
 ok:c.Ok
 name:c.name.size≤1000000
 subject:c.subject.size≤1000000
 ctl:c.ctl.size≤1000000
 dist:c.dist.size≤1000000
 body:c.body.size≤1000000
 gl:c.groups.length≤1000000
 gz:∀g∈c.groups,g.size≤1000000
 rl:c.refs.length≤1000000
 srow:SRow w gv c.groups
 irow:IRow w rv c.refs
theorem CnIn.on {w w':World}{c:Cn}{gv rv:Value}(h:CnIn w c gv rv)(hb:Bw w w'):CnIn w' c gv rv:=⟨h.ok,h.name,h.subject,h.ctl,h.dist,h.body,h.gl,h.gz,h.rl,h.srow.below hb,h.irow.below hb⟩
structure ChI (w:World) (c:Cn) (gv rv:Value) (n:Nat) (wx:World):Prop where
 ck:Ck wx (w.heap.size+1) n
 fr:Bw w wx
 cb:CB wx w.heap.size c gv rv 39
 env:Env wx
 inp:CnIn wx c gv rv
section
variable {w:World} {c:Cn} {gv rv:Value} {n:Nat} {wx wy:World} (h:ChI w c gv rv n wx)
include h
theorem ChI.on (hb:Bw wx wy):ChI w c gv rv n wy:=⟨h.ck.below hb,h.fr.trans (hb.mono h.fr.size),h.cb.on hb,h.env.on hb,h.inp.on hb⟩
theorem ChI.step {m:Nat}(hw:CnIn w c gv rv)(hE:Env w)(h1:Ck wy (w.heap.size+1) m)(hf:Fr1 (w.heap.size+1) wx wy):ChI w c gv rv m wy:=by
 have b:=h.fr.trans (hf.below h.fr.size (Nat.le_succ _))
 exact⟨h1,b,h.cb.fr hf (by omega),hE.on b,hw.on b⟩
end
theorem Xs8 {P:Program}{Q:Exit→Act→World→Prop}{K:Act→World→Prop}{a:Act}{w:World}{o:Oper}{f:FuncId}{args:Array Value}(he:(execOp a.eval o).run P w=.ok (.enter f args) w)
    (hc:Calls P f args w fun e w'=>∃v,e=.returned v∧K (a.put o.dst v) w'):o.wp P a w K Q:=by
 unfold Oper.wp
 rw[he,Oper.upon_enter]
 exact hc.mono fun e w' ⟨v,h1,h2⟩=>by subst h1;exact h2
theorem Xbm {P:Program}{md:Region.Mode}{ops:Array Oper}{Q:Exit→Act→World→Prop}{S:World→Prop}{i:Nat}{o:Oper}{fuel:Nat}{listed:Array Bool}{a:Act}{w:World}{f:FuncId}{args:Array Value}(hr:Region.ready md ops listed=[i])(ho:ops[i]?=some o)(hw:Region.wanted o (yielded ops a.tmps)=true)
    (he:(execOp a.eval o).run P w=.ok (.enter f args) w)
    (hc:Calls P f args w fun e w'=>∃v,e=.returned v∧S w'∧wpAnyH P md ops Q S fuel (listed.setIfInBounds i true) (a.put o.dst v) w'):wpAnyH P md ops Q S (fuel+1) listed a w:=
 wpAnyH_all hr (by simp) (fun j hj=>by
  obtain rfl:j=i:=by simpa using hj
  unfold wpOp
  simp only[ho]
  rw[qP hw]
  exact .inl (Xs8 he hc))
theorem Xqr (w:World)(c:Cn)(gv rv:Value)(hin:CnIn w c gv rv)(hE:Env w):
    zJ 11 #[.agg (c.cells gv rv)] w (.int .i64 (Xc4 c.p:Nat)):=by
 have HIN:=Hd hin
 have HE:=Hd hE
 have OK:=Hd hin.ok
 have LAW:Hid (Xc4 c.p=(fe (Xfp (bs c.name) 60) (fe (eIf (decide (c.date<0)||decide (105190559<c.date)) 13) (fe (Xbt (c.groups.map bs)) (fe (Xfp (bs c.subject) 200) (fe (Xe9 c.refs) (fe (Xxg c.p) (fe (Xli (bs c.dist)) (fe (eIf (decide (c.number<0)||decide (1000<c.number)) 2) (fe (eIf (!Xav c.height) 2) (fe (eIf (decide (c.leaf<0)||decide (Xbh c.height≤c.leaf)) 2) (fe (eIf (decide (57344<c.body.size)) 5) (Xf1 (bs c.body)))))))))))))):=Hd (by
  rw[←Xaa c.body]
  rfl)
 obtain⟨p0,hp0⟩:=xq (Xfp (bs c.name) 60)
 obtain⟨p1,hp1⟩:=xq (eIf (decide (c.date<0)||decide (105190559<c.date)) 13)
 obtain⟨p2,hp2⟩:=xq (Xbt (c.groups.map bs))
 obtain⟨p3,hp3⟩:=xq (Xfp (bs c.subject) 200)
 obtain⟨p4,hp4⟩:=xq (Xe9 c.refs)
 obtain⟨p5,hp5⟩:=xq (Xxg c.p)
 obtain⟨p6,hp6⟩:=xq (Xli (bs c.dist))
 obtain⟨p7,hp7⟩:=xq (eIf (decide (c.number<0)||decide (1000<c.number)) 2)
 obtain⟨p8,hp8⟩:=xq (eIf (!Xav c.height) 2)
 obtain⟨p9,hp9⟩:=xq (eIf (decide (c.leaf<0)||decide (Xbh c.height≤c.leaf)) 2)
 obtain⟨p10,hp10⟩:=xq (eIf (decide (57344<c.body.size)) 5)
 obtain⟨p11,hp11⟩:=xq (Xf1 (bs c.body))
 rw[←hp0,←hp1,←hp2,←hp3,←hp4,←hp5,←hp6,←hp7,←hp8,←hp9,←hp10,←hp11] at LAW
 have HP0:=Hd hp0
 have HP1:=Hd hp1
 have HP2:=Hd hp2
 have HP3:=Hd hp3
 have HP4:=Hd hp4
 have HP5:=Hd hp5
 have HP6:=Hd hp6
 have HP7:=Hd hp7
 have HP8:=Hd hp8
 have HP9:=Hd hp9
 have HP10:=Hd hp10
 have HP11:=Hd hp11
 obtain⟨w0,hw0⟩:=xq ((w.alloc (.cells (c.cells gv rv) 39)).alloc (.cells #[.int .i64 0] 73))
 have I0:Hid (ChI w c gv rv 0 w0):=Hd (by
  have b1:Bw w (w.alloc (.cells (c.cells gv rv) 39)):=(zR _ _).alloc (zL _) _
  have b2:Below (w.alloc (.cells (c.cells gv rv) 39)).heap.size (w.alloc (.cells (c.cells gv rv) 39)) w0:=by rw[hw0];exact(zR _ _).alloc (zL _) _
  have b:=b1.trans (b2.mono (by simp))
  refine⟨?_,b,(CB.new w c gv rv _).on b2,hE.on b,hin.on b⟩
  have:=zN (w.alloc (.cells (c.cells gv rv) 39)) (.cells #[.int .i64 0] 73)
  rw[World.size_alloc,←hw0] at this
  exact this)
 have hw9:9≤w.heap.size+1:=by have:=hE.size;omega
 obtain⟨cs,hcs⟩:=xq (c.cells gv rv)
 rw[←hcs] at hw0⊢
 have HW:=Hd hw0
 clear hcs hw0 hin hE hp0 hp1 hp2 hp3 hp4 hp5 hp6 hp7 hp8 hp9 hp10 hp11
 go_enter func11,ntmps11
 go_upto_region 2 with fail
 rw[←HW.o]
 clear HW
 have cn:w0.cell? ⟨w.heap.size,0,none⟩=some (.string c.name):=I0.o.cb.at (Ya9 c gv rv)
 have K:Hid (Calls prog 43 #[.pointer (some ⟨w.heap.size+1,0,none⟩),.string c.name,.int .i64 60] w0 (Xb6 w0 (w.heap.size+1) (fe 0 p0))):=Hd (by rw[HP0.o];exact Xtg w0 (w.heap.size+1) 0 I0.o.ck c.name 60 HIN.o.name (by omega) I0.o.env hw9)
 go_wp2_with fail
 refine K.o.mono ?_
 rintro e w1 ⟨⟨v1,rfl⟩,h,f⟩
 have I1:=Hd (I0.o.step HIN.o HE.o h f)
 clear h f I0 K cn
 have cd:w1.cell? ⟨w.heap.size,17,none⟩=some (.int .i64 c.date):=I1.o.cb.at (Xln OK.o gv rv)
 go_upto_region 3 with fail
 go_cut [] (fun wx=>Hid (ChI w c gv rv (fe (fe 0 p0) p1) wx))
 case first=>
  have D:(c.date<0)∨(¬c.date<0∧105190559<c.date)∨(¬c.date<0∧¬105190559<c.date):=by omega
  rcases D with d1|⟨d1,d2⟩|⟨d1,d2⟩
  ·have e1:decide (c.date<0)=true:=zT d1
   have hp:p1=eIf true 13:=by rw[HP1.o,e1];rfl
   have K:Hid (Calls prog 44 #[.pointer (some ⟨w.heap.size+1,0,none⟩),.bool true,.int .i64 13] w1 (Xb6 w1 (w.heap.size+1) (fe (fe 0 p0) p1))):=Hd (by rw[hp];exact Xbq w1 (w.heap.size+1) _ I1.o.ck true 13)
   clear hp d1
   go_wp2_with fail
   refine K.o.mono ?_
   rintro e wy ⟨⟨v,rfl⟩,h,f⟩
   have I:=Hd (I1.o.step HIN.o HE.o h f)
   clear h f K
   go_wp2_with fail
   go_meet
   exact I
  ·have e1:decide (c.date<0)=false:=zW d1
   have e2:decide (105190559<c.date)=true:=zT d2
   have hp:p1=eIf true 13:=by rw[HP1.o,e1,e2];rfl
   have K:Hid (Calls prog 44 #[.pointer (some ⟨w.heap.size+1,0,none⟩),.bool true,.int .i64 13] w1 (Xb6 w1 (w.heap.size+1) (fe (fe 0 p0) p1))):=Hd (by rw[hp];exact Xbq w1 (w.heap.size+1) _ I1.o.ck true 13)
   clear hp d1 d2
   go_wp2_with fail
   refine K.o.mono ?_
   rintro e wy ⟨⟨v,rfl⟩,h,f⟩
   have I:=Hd (I1.o.step HIN.o HE.o h f)
   clear h f K
   go_wp2_with fail
   go_meet
   exact I
  ·have e1:decide (c.date<0)=false:=zW d1
   have e2:decide (105190559<c.date)=false:=zW d2
   have hp:p1=eIf false 13:=by rw[HP1.o,e1,e2];rfl
   have K:Hid (Calls prog 44 #[.pointer (some ⟨w.heap.size+1,0,none⟩),.bool false,.int .i64 13] w1 (Xb6 w1 (w.heap.size+1) (fe (fe 0 p0) p1))):=Hd (by rw[hp];exact Xbq w1 (w.heap.size+1) _ I1.o.ck false 13)
   clear hp d1 d2
   go_wp2_with fail
   refine K.o.mono ?_
   rintro e wy ⟨⟨v,rfl⟩,h,f⟩
   have I:=Hd (I1.o.step HIN.o HE.o h f)
   clear h f K
   go_wp2_with fail
   go_meet
   exact I
 case rest=>
 obtain⟨w2,hwz⟩:=xq wc
 rw[←hwz] at hcut⊢
 have I2:=hcut
 clear hcut hwz I1 cd
 have cg:w2.cell? ⟨w.heap.size,18,none⟩=some (gv):=I2.o.cb.at (Xh8 OK.o gv rv)
 have K:Hid (Calls prog 34 #[gv] w2 (Xs6 p2 (Xaw [44] (c.groups.map bs)) w2)):=Hd (by rw[HP2.o];exact Xqa w2 gv c.groups I2.o.inp.srow HIN.o.gl HIN.o.gz I2.o.env)
 go_wp2_with fail
 refine K.o.mono ?_
 rintro e w3 ⟨tx,rfl,-,-,hb⟩
 have I3:=Hd (I2.o.on hb)
 clear hb I2 K cg
 have K:=Hd (Xdw w3 (w.heap.size+1) _ I3.o.ck p2)
 go_wp2_with fail
 refine K.o.mono ?_
 rintro e w4 ⟨⟨v4,rfl⟩,h,f⟩
 have I4:=Hd (I3.o.step HIN.o HE.o h f)
 clear h f I3 K
 have cs:w4.cell? ⟨w.heap.size,19,none⟩=some (.string c.subject):=I4.o.cb.at (Xlm OK.o gv rv)
 have K:Hid (Calls prog 43 #[.pointer (some ⟨w.heap.size+1,0,none⟩),.string c.subject,.int .i64 200] w4 (Xb6 w4 (w.heap.size+1) (fe (fe (fe (fe 0 p0) p1) p2) p3))):=Hd (by rw[HP3.o];exact Xtg w4 (w.heap.size+1) _ I4.o.ck c.subject 200 HIN.o.subject (by omega) I4.o.env hw9)
 go_wp2_with fail
 refine K.o.mono ?_
 rintro e w5 ⟨⟨v5,rfl⟩,h,f⟩
 have I5:=Hd (I4.o.step HIN.o HE.o h f)
 clear h f I4 K cs
 have cr:w5.cell? ⟨w.heap.size,20,none⟩=some (rv):=I5.o.cb.at (Xh7 OK.o gv rv)
 have K:Hid (zJ 45 #[rv] w5 (.int .i64 (p4:Nat))):=Hd (by rw[HP4.o];exact Xmn w5 rv c.refs I5.o.inp.irow HIN.o.rl OK.o.refs)
 go_wp2_with fail
 refine K.o.mono ?_
 rintro e w6 ⟨rfl,hb⟩
 have I6:=Hd (I5.o.on hb)
 clear hb I5 K cr
 have K:=Hd (Xdw w6 (w.heap.size+1) _ I6.o.ck p4)
 go_wp2_with fail
 refine K.o.mono ?_
 rintro e w7 ⟨⟨v7,rfl⟩,h,f⟩
 have I7:=Hd (I6.o.step HIN.o HE.o h f)
 clear h f I6 K
 have LD:=Hd (I7.o.cb.all OK.o)
 have K:Hid (Calls prog 46 #[.pointer (some ⟨w.heap.size+1,0,none⟩),.agg (c.cells gv rv)] w7 (Xb6 w7 (w.heap.size+1) (fe (fe (fe (fe (fe (fe 0 p0) p1) p2) p3) p4) p5))):=Hd (by rw[HP5.o];exact Ye8 w7 (w.heap.size+1) _ I7.o.ck c OK.o gv rv HIN.o.ctl I7.o.env hw9)
 obtain⟨ds,hds⟩:=xq (c.cells gv rv)
 rw[←hds] at LD K
 clear hds
 go_upto_region 8 with fail
 refine wp_region_list ?_
 simp only[]
 refine Xac 39 rfl _ rfl ⟨_,_,rfl,LD.o,?_⟩
 go_wp2_with fail
 refine K.o.mono ?_
 rintro e w8 ⟨⟨v8,rfl⟩,h,f⟩
 have I8:=Hd (I7.o.step HIN.o HE.o h f)
 clear h f I7 K LD
 have ct:w8.cell? ⟨w.heap.size,54,none⟩=some (.string c.dist):=I8.o.cb.at (Xll OK.o gv rv)
 have K:Hid (Calls prog 47 #[.pointer (some ⟨w.heap.size+1,0,none⟩),.string c.dist] w8 (Xb6 w8 (w.heap.size+1) (fe (fe (fe (fe (fe (fe (fe 0 p0) p1) p2) p3) p4) p5) p6))):=Hd (by rw[HP6.o];exact Yew w8 (w.heap.size+1) _ I8.o.ck c.dist HIN.o.dist)
 go_wp2_with fail
 refine K.o.mono ?_
 rintro e w9 ⟨⟨v9,rfl⟩,h,f⟩
 have I9:=Hd (I8.o.step HIN.o HE.o h f)
 clear h f I8 K ct
 have cu:w9.cell? ⟨w.heap.size,55,none⟩=some (.int .i64 c.number):=I9.o.cb.at (Xjm OK.o gv rv)
 go_upto_region 10 with fail
 go_cut [] (fun wx=>Hid (ChI w c gv rv (fe (fe (fe (fe (fe (fe (fe (fe 0 p0) p1) p2) p3) p4) p5) p6) p7) wx))
 case first=>
  have D:(c.number<0)∨(¬c.number<0∧1000<c.number)∨(¬c.number<0∧¬1000<c.number):=by omega
  rcases D with d1|⟨d1,d2⟩|⟨d1,d2⟩
  ·have e1:decide (c.number<0)=true:=zT d1
   have hp:p7=eIf true 2:=by rw[HP7.o,e1];rfl
   have K:Hid (Calls prog 44 #[.pointer (some ⟨w.heap.size+1,0,none⟩),.bool true,.int .i64 2] w9 (Xb6 w9 (w.heap.size+1) (fe (fe (fe (fe (fe (fe (fe (fe 0 p0) p1) p2) p3) p4) p5) p6) p7))):=Hd (by rw[hp];exact Xbq w9 (w.heap.size+1) _ I9.o.ck true 2)
   clear hp d1
   go_wp2_with fail
   refine K.o.mono ?_
   rintro e wy ⟨⟨v,rfl⟩,h,f⟩
   have I:=Hd (I9.o.step HIN.o HE.o h f)
   clear h f K
   go_wp2_with fail
   go_meet
   exact I
  ·have e1:decide (c.number<0)=false:=zW d1
   have e2:decide (1000<c.number)=true:=zT d2
   have hp:p7=eIf true 2:=by rw[HP7.o,e1,e2];rfl
   have K:Hid (Calls prog 44 #[.pointer (some ⟨w.heap.size+1,0,none⟩),.bool true,.int .i64 2] w9 (Xb6 w9 (w.heap.size+1) (fe (fe (fe (fe (fe (fe (fe (fe 0 p0) p1) p2) p3) p4) p5) p6) p7))):=Hd (by rw[hp];exact Xbq w9 (w.heap.size+1) _ I9.o.ck true 2)
   clear hp d1 d2
   go_wp2_with fail
   refine K.o.mono ?_
   rintro e wy ⟨⟨v,rfl⟩,h,f⟩
   have I:=Hd (I9.o.step HIN.o HE.o h f)
   clear h f K
   go_wp2_with fail
   go_meet
   exact I
  ·have e1:decide (c.number<0)=false:=zW d1
   have e2:decide (1000<c.number)=false:=zW d2
   have hp:p7=eIf false 2:=by rw[HP7.o,e1,e2];rfl
   have K:Hid (Calls prog 44 #[.pointer (some ⟨w.heap.size+1,0,none⟩),.bool false,.int .i64 2] w9 (Xb6 w9 (w.heap.size+1) (fe (fe (fe (fe (fe (fe (fe (fe 0 p0) p1) p2) p3) p4) p5) p6) p7))):=Hd (by rw[hp];exact Xbq w9 (w.heap.size+1) _ I9.o.ck false 2)
   clear hp d1 d2
   go_wp2_with fail
   refine K.o.mono ?_
   rintro e wy ⟨⟨v,rfl⟩,h,f⟩
   have I:=Hd (I9.o.step HIN.o HE.o h f)
   clear h f K
   go_wp2_with fail
   go_meet
   exact I
 case rest=>
 obtain⟨w10,hwz⟩:=xq wc
 rw[←hwz] at hcut⊢
 have I10:=hcut
 clear hcut hwz I9 cu
 have LD:=Hd (I10.o.cb.pk OK.o)
 have K:Hid (zJ 48 #[.agg (pkC c.height c.root)] w10 (.int .i64 (p8:Nat))):=Hd (by rw[HP8.o];exact Xfb w10 c.height OK.o.root.len)
 obtain⟨pk,hpk⟩:=xq (pkC c.height c.root)
 have HPK:=Hd hpk
 rw[←hpk] at LD K
 clear hpk
 go_wp2_with ((with_reducible refine Xac 37 rfl _ rfl ?_);refine⟨_,_,rfl,LD.o,?_⟩)
 refine K.o.mono ?_
 rintro e w11 ⟨rfl,hb⟩
 have I11:=Hd (I10.o.on hb)
 clear hb I10 K LD
 have K:=Hd (Xdw w11 (w.heap.size+1) _ I11.o.ck p8)
 go_wp2_with fail
 refine K.o.mono ?_
 rintro e w12 ⟨⟨v12,rfl⟩,h,f⟩
 have I12:=Hd (I11.o.step HIN.o HE.o h f)
 clear h f I11 K
 go_upto_region 12 with fail
 go_cut [] (fun wx=>Hid (ChI w c gv rv (fe (fe (fe (fe (fe (fe (fe (fe (fe (fe 0 p0) p1) p2) p3) p4) p5) p6) p7) p8) p9) wx))
 case first=>
  have ID:=Hd (I12.o.on (Dr.below ⟨1,rfl⟩:Bw w12 w12.drew))
  have hB:(fun wx:World=>CB wx w.heap.size c gv rv 39) w12.drew:=ID.o.cb
  refine wp_region_held (S:=fun wx=>CB wx w.heap.size c gv rv 39) (by kernel_rfl) ?_
  change wpAnyH _ _ _ _ _ _ _ _ w12.drew
  by_cases d1:c.leaf<0
  ·have e1:decide (c.leaf<0)=true:=zT d1
   have hp:p9=eIf true 2:=by rw[HP9.o,e1];rfl
   have K:Hid (Calls prog 44 #[.pointer (some ⟨w.heap.size+1,0,none⟩),.bool true,.int .i64 2] w12.drew (Xb6 w12.drew (w.heap.size+1) (fe (fe (fe (fe (fe (fe (fe (fe (fe (fe 0 p0) p1) p2) p3) p4) p5) p6) p7) p8) p9))):=Hd (by rw[hp];exact Xbq w12.drew (w.heap.size+1) _ ID.o.ck true 2)
   clear hp d1
   refine Xad 0 (.pointer (some ⟨w.heap.size,73,none⟩)) rfl (fun _ _=>by go_simp) hB ?_
   refine Xad 1 (.int .i64 c.leaf) rfl (fun w' hw'=>by have cl:=hw'.at (Xh6 OK.o gv rv);go_simp) hB ?_
   refine Xad 2 (.bool true) rfl (fun _ _=>by go_simp) hB ?_
   refine Xad 3 (.bool true) rfl (fun _ _=>by go_simp) hB ?_
   refine Xcl 4 rfl hB ?_
   refine Xcl 5 rfl hB ?_
   refine Xcl 6 rfl hB ?_
   refine Xcl 7 rfl hB ?_
   refine Xcl 8 rfl hB ?_
   refine Xcl 9 rfl hB ?_
   refine Xad 10 (.bool true) rfl (fun _ _=>by go_simp) hB ?_
   refine Xbm (i:=11) (f:=44) (args:=#[.pointer (some ⟨w.heap.size+1,0,none⟩),.bool true,.int .i64 2]) (by kernel_rfl) rfl (by kernel_rfl) (by kernel_rfl) ?_
   refine K.o.mono ?_
   rintro e wy ⟨⟨v,rfl⟩,h,f⟩
   have I:=Hd (ID.o.step HIN.o HE.o h f)
   clear h f K
   refine⟨v,rfl,I.o.cb,?_⟩
   refine wpAnyH_done (by kernel_rfl) ?_ _
   go_simp
   clear hB
   refine‹∀(a:Act) (w_1:World),_→_› _ _ ?_
   go_meet
   exact I
  ·have e1:decide (c.leaf<0)=false:=zW d1
   obtain⟨q,hq⟩:=xq (decide (Xbh c.height≤c.leaf))
   have hp:p9=eIf q 2:=by rw[HP9.o,e1,hq];rfl
   have LV:Hid (Calls prog 49 #[.agg pk] w12.drew fun e w'=>e=.returned (.int .i64 (Xbh c.height))∧Below w12.drew.heap.size w12.drew w'):=Hd (by rw[HPK.o];exact Xwb w12.drew c.height OK.o.root.len)
   have hq2:decide (Xbh c.height≤c.leaf)=q:=hq.symm
   obtain⟨lv,hlv⟩:=xq (Xbh c.height)
   rw[←hlv] at LV hq2
   have HPP:=Hd hp
   have LDP:Hid (∀wx,CB wx w.heap.size c gv rv 39→Ld 37 ⟨w.heap.size,56,none⟩ wx (.agg pk)):=Hd (fun wx h=>by rw[HPK.o];exact CB.pk h OK.o)
   clear hp d1 hq hlv
   refine Xad 0 (.pointer (some ⟨w.heap.size,73,none⟩)) rfl (fun _ _=>by go_simp) hB ?_
   refine Xad 1 (.int .i64 c.leaf) rfl (fun w' hw'=>by have cl:=hw'.at (Xh6 OK.o gv rv);go_simp) hB ?_
   refine Xad 2 (.bool false) rfl (fun _ _=>by go_simp) hB ?_
   refine Xad 3 (.bool false) rfl (fun _ _=>by go_simp) hB ?_
   refine Xad 4 (.pointer (some ⟨w.heap.size,73,none⟩)) rfl (fun _ _=>by go_simp) hB ?_
   refine Xad 5 (.int .i64 c.leaf) rfl (fun w' hw'=>by have cl:=hw'.at (Xh6 OK.o gv rv);go_simp) hB ?_
   refine Xad 6 (.pointer (some ⟨w.heap.size,56,none⟩)) rfl (fun _ _=>by go_simp) hB ?_
   refine Xad 7 (.agg pk) rfl (fun w' hw'=>Xai (ty:=37) (x:=.tmp 57) (ad:=⟨w.heap.size,56,none⟩) rfl (by kernel_rfl) (LDP.o w' hw')) hB ?_
   refine Xbm (i:=8) (f:=49) (args:=#[.agg pk]) (by kernel_rfl) rfl (by kernel_rfl) (by kernel_rfl) ?_
   refine LV.o.mono ?_
   rintro e wz ⟨rfl,hb⟩
   have ID2:=Hd (ID.o.on hb)
   have K:Hid (Calls prog 44 #[.pointer (some ⟨w.heap.size+1,0,none⟩),.bool q,.int .i64 2] wz (Xb6 wz (w.heap.size+1) (fe (fe (fe (fe (fe (fe (fe (fe (fe (fe 0 p0) p1) p2) p3) p4) p5) p6) p7) p8) p9))):=Hd (by rw[HPP.o];exact Xbq wz (w.heap.size+1) _ ID2.o.ck q 2)
   have hB:=ID2.o.cb
   refine⟨_,rfl,hB,?_⟩
   clear hb LV
   refine Xad 9 (.bool q) rfl (fun _ _=>by go_simp) hB ?_
   refine Xad 10 (.bool q) rfl (fun _ _=>by go_simp) hB ?_
   refine Xbm (i:=11) (f:=44) (args:=#[.pointer (some ⟨w.heap.size+1,0,none⟩),.bool q,.int .i64 2]) (by kernel_rfl) rfl (by kernel_rfl) (by kernel_rfl) ?_
   refine K.o.mono ?_
   rintro e wy ⟨⟨v,rfl⟩,h,f⟩
   have I:=Hd (ID2.o.step HIN.o HE.o h f)
   clear h f K
   refine⟨v,rfl,I.o.cb,?_⟩
   refine wpAnyH_done (by kernel_rfl) ?_ _
   go_simp
   clear hB
   refine‹∀(a:Act) (w_1:World),_→_› _ _ ?_
   go_meet
   exact I
 case rest=>
 obtain⟨w13,hwz⟩:=xq wc
 rw[←hwz] at hcut⊢
 have I13:=hcut
 clear hcut hwz I12
 have cb:w13.cell? ⟨w.heap.size,74,none⟩=some (.string c.body):=I13.o.cb.at (Xjl OK.o gv rv)
 obtain⟨q,hq⟩:=xq (decide (57344<c.body.size))
 have dq:decide ((57344:Int)<(c.body.size:Int))=q:=by rw[hq];simp;omega
 have dq2:decide (57344<c.body.size)=q:=hq.symm
 have K:Hid (Calls prog 44 #[.pointer (some ⟨w.heap.size+1,0,none⟩),.bool q,.int .i64 5] w13 (Xb6 w13 (w.heap.size+1) (fe (fe (fe (fe (fe (fe (fe (fe (fe (fe (fe 0 p0) p1) p2) p3) p4) p5) p6) p7) p8) p9) p10))):=Hd (by rw[HP10.o,←hq];exact Xbq w13 (w.heap.size+1) _ I13.o.ck q 5)
 have hbs:c.body.size≤1000000:=HIN.o.body
 clear hq
 go_wp2_with fail
 refine K.o.mono ?_
 rintro e w14 ⟨⟨v14,rfl⟩,h,f⟩
 have I14:=Hd (I13.o.step HIN.o HE.o h f)
 clear h f I13 K cb dq dq2
 have cb:w14.cell? ⟨w.heap.size,74,none⟩=some (.string c.body):=I14.o.cb.at (Xjl OK.o gv rv)
 have K:Hid (Calls prog 50 #[.string c.body] w14 fun e w'=>∃m:Int,e=.returned (.tuple #[.int .i64 m,.int .i64 (p11:Nat)])∧Bw w14 w'):=Hd (by rw[HP11.o];exact Xsv c.body w14 HIN.o.body I14.o.env)
 go_wp2_with fail
 refine K.o.mono ?_
 rintro e w15 ⟨m,rfl,hb⟩
 have I15:=Hd (I14.o.on hb)
 clear hb I14 K cb
 have K:=Hd (Xdw w15 (w.heap.size+1) _ I15.o.ck p11)
 go_wp2_with fail
 refine K.o.mono ?_
 rintro e w16 ⟨⟨v16,rfl⟩,h,f⟩
 have I16:=Hd (I15.o.step HIN.o HE.o h f)
 clear h f I15 K
 have ce:=I16.o.ck.cell
 have FR:=Hd I16.o.fr
 have N:Hid ((fe (fe (fe (fe (fe (fe (fe (fe (fe (fe (fe (fe 0 p0) p1) p2) p3) p4) p5) p6) p7) p8) p9) p10) p11)=Xc4 c.p):=Hd (by rw[LAW.o];simp only[Xjy];rfl)
 obtain⟨m,hm⟩:=xq ((fe (fe (fe (fe (fe (fe (fe (fe (fe (fe (fe (fe 0 p0) p1) p2) p3) p4) p5) p6) p7) p8) p9) p10) p11))
 rw[←hm] at ce N
 clear hm I16
 go_wp2_with fail
 go_ret
 exact⟨by rw[N.o];rfl,FR.o⟩
theorem Rd.fr1 {w w':World}{a:Option Addr}{l:List Nat}{b:Nat}(h:Rd w a l)(hf:Fr1 b w w')(hne:∀ad,a=some ad→0<l.length→ad.block≠b):Rd w' a l:=
 ⟨h.lt,fun h0=>by
  obtain⟨b',off,rfl,hbw,hc⟩:=h.at_ h0
  refine⟨b',off,rfl,Nat.lt_of_lt_of_le hbw hf.size,fun i hi=>?_⟩
  rw[←hc i hi]
  have:=hf.other b' hbw (hne _ rfl h0)
  unfold World.cell?
  simp only[]
  rw[this]⟩
theorem Rd.drop {w:World}{b off n:Nat}{l:List Nat}(h:Rd w (some ⟨b,off,none⟩) l):Rd w (some ⟨b,off+n,none⟩) (l.drop n):=
 ⟨fun x hx=>h.lt x (List.mem_of_mem_drop hx),fun h0=>by
  rw[List.length_drop] at h0
  obtain⟨b',off',e,hbw,hc⟩:=h.at_ (by omega)
  cases e
  refine⟨b,off+n,rfl,hbw,fun i hi=>?_⟩
  rw[List.length_drop] at hi
  rw[List.getElem_drop,←hc (n+i) (by omega),Nat.add_assoc]⟩
theorem Rd.nil (w:World)(a:Option Addr):Rd w a []:=⟨fun x hx=>(by cases hx),fun h=>absurd h (by simp)⟩
theorem Xbp {P:Program}{ops:Array Oper}{Q:Exit→Act→World→Prop}{i:Nat}{o:Oper}{K:Act→World→Prop}{a:Act}{w:World}{v:Value}(ho:ops[i]?=some o)(hg:o.guard=none)
    (he:(execOp a.eval o).run P w=.ok (.value v) w) (h:K (a.put o.dst v) w):wpOp P ops Q i K a w:=Xbw ho hg (Xb1 he h)
theorem Xco {P:Program}{ops:Array Oper}{Q:Exit→Act→World→Prop}{i:Nat}{o:Oper}{K:Act→World→Prop}{a:Act}{w w':World}(ho:ops[i]?=some o)(hg:o.guard=none)
    (he:(execOp a.eval o).run P w=.ok .skip w') (h:K (a.put o.dst undef) w'):wpOp P ops Q i K a w:=Xbw ho hg (Xce he h)
theorem Xao {P:Program}{ops:Array Oper}{Q:Exit→Act→World→Prop}{i:Nat}{o:Oper}{K:Act→World→Prop}{a:Act}{w:World}{f:FuncId}{args:Array Value}(ho:ops[i]?=some o)(hg:o.guard=none)
    (he:(execOp a.eval o).run P w=.ok (.enter f args) w) (hc:Calls P f args w fun e w'=>∃v,e=.returned v∧K (a.put o.dst v) w'):wpOp P ops Q i K a w:=Xbw ho hg (Xs8 he hc)
theorem Xbd {P:Program}{md:Region.Mode}{ops:Array Oper}{Q:Exit→Act→World→Prop}{i:Nat}{fuel:Nat}{listed:Array Bool}{a:Act}{w:World}(hr:Region.ready md ops listed=[i])
    (h:wpOp P ops Q i (wpAny P md ops Q fuel (listed.setIfInBounds i true)) a w):wpAny P md ops Q (fuel+1) listed a w:=
 wpAny_all hr (by simp) (fun j hj=>by
  obtain rfl:j=i:=by simpa using hj
  exact h)
theorem Xos {P:Program}{md:Region.Mode}{ops:Array Oper}{Q:Exit→Act→World→Prop}{i k:Nat}{fuel:Nat}{listed:Array Bool}{a:Act}{w:World}(hr:Region.ready md ops listed=[i,k])
    (h:wpOp P ops Q i (wpAny P md ops Q fuel (listed.setIfInBounds i true)) a w) (h2:wpOp P ops Q k (wpAny P md ops Q fuel (listed.setIfInBounds k true)) a w):wpAny P md ops Q (fuel+1) listed a w:=
 wpAny_all hr (by simp) (fun j hj=>by
  simp only[List.mem_cons,List.not_mem_nil,or_false] at hj
  rcases hj with rfl|rfl
  ·exact h
  ·exact h2)
theorem Xoz (w:World)(b:Nat)(h:Hs)(a:Option Addr)(cap:Nat)(l:List Nat)(hk:HK w b h)(ho:h.Ok)(hr:Rd w a l)(hne:∀ad,a=some ad→0<l.length→ad.block≠b)(hl:h.len+l.length≤1000000000)(hcap:l.length≤cap)(hcm:cap≤maxLen)(hE:Env w)(hb9:9≤b):
    Calls prog 85 #[.pointer (some ⟨b,0,none⟩),.slice a l.length cap] w fun e w'=>(∃v,e=.returned v)∧HK w' b (wrF h l)∧Fr1 b w w':=by
 obtain⟨h1,hh1⟩:∃h1:Hs,h1=⟨if h.len=0 then sh0 else h.st,h.blk,h.len⟩:=⟨_,rfl⟩
 have LAW:Hid (wrF h l=wrN l.length h1 l):=Hd (by rw[hh1];rfl)
 have HO:=Hd ho
 have HO1:Hid h1.Ok:=Hd (by rw[hh1];exact⟨by show W8.Ok (if _ then _ else _);split;exact Xtu;exact ho.st,ho.blk⟩)
 have LN:Hid (h1.len=h.len):=Hd (by rw[hh1])
 have IN:=Hd (Yec w)
 have c72:=hk.len ho.blk.len
 have HK0:=Hd hk;have HR:=Hd hr;have NE:=Hd hne;have HE:=Hd hE;have HH1:=Hd hh1
 unfold maxLen at hcm
 obtain⟨L,hL⟩:=xq l.length
 have HL:=Hd hL
 have HLN:Hid (h.len+L≤1000000000):=Hd (by rw[hL];exact hl)
 have hcap':L≤cap:=by rw[hL];exact hcap
 obtain⟨hlen,hhl⟩:=xq h.len
 rw[←hhl] at c72
 have HHL:=Hd hhl
 rw[←hL]
 clear hk ho hr hne hE hh1 hL hl hcap hhl
 go_enter func85,ntmps85
 go_upto_if 12 with fail
 go_cut [] (fun wx=>Hid (HK wx b h1)∧Hid (Fr1 b w wx))
 case first=>
  by_cases h0:hlen=0
  ·have hz:((hlen:Int)==0)=true:=by rw[h0];rfl
   have E1:Hid (h1=⟨sh0,h.blk,h.len⟩):=Hd (by rw[HH1.o,qP (by rw[←HHL.o];exact h0)])
   obtain⟨vs,hvs⟩:=xq (wC sh0)
   rw[←hvs] at IN
   have HVS:=Hd hvs
   clear hvs h0
   go_wp2_with fail
   refine IN.o.mono ?_
   rintro e w1 ⟨rfl,hb1⟩
   obtain⟨s1,s2⟩:=(HK0.o.below hb1).setSt sh0
   rw[←HVS.o] at s1
   rw[←E1.o] at s1 s2
   have S1:=Hd s1;have S2:=Hd s2
   have FF:Hid (Fr1 b w (w1.setRow b (hC h1))):=Hd ((Fr1.of_below hb1).trans ⟨rfl,rfl,rfl,by simp[World.setRow],fun k hk hne=>setRow_other w1 b k _ hne⟩)
   clear s1 s2 hb1 IN c72
   go_wp2_with ((with_reducible refine Xab 191 rfl _ _ rfl ?_);refine⟨_,_,_,rfl,rfl,S1.o,?_⟩)
   go_meet
   exact⟨S2,FF⟩
  ·have hz:((hlen:Int)==0)=false:=Xaj (by omega)
   have E1:Hid (h1=h):=Hd (by rw[HH1.o,qN (by rw[←HHL.o];exact h0)])
   clear h0
   go_wp2_with fail
   go_meet
   exact⟨Hd (by rw[E1.o];exact HK0.o),Hd (Fr1.refl _ _)⟩
 case rest=>
 obtain⟨wd,hwd⟩:=xq wc
 rw[←hwd] at hcut⊢
 obtain⟨hk1,f1⟩:=hcut
 have HR1:Hid (Rd wd a l):=Hd (HR.o.fr1 f1.o NE.o)
 have HE1:Hid (Env wd):=Hd (Xbu HE.o hb9 f1.o)
 clear hwd c72 IN HK0 HR
 go_wp2_with fail
 go_loopg [1,5] L (fun k v1 v5 wr=>∃(hc:Hs) (lc:List Nat) (ac:Option Addr) (cc m:Nat),k=m∧v1=.slice ac m cc∧m≤cc∧cc≤9223372036854775807∧Hid (m=lc.length)∧Hid (hc.Ok)∧Hid (HK wr b hc)∧Hid (Rd wr ac lc)∧Hid (∀ad,ac=some ad→0<lc.length→ad.block≠b)∧Hid (hc.len+lc.length≤1000000000)∧Hid (wrF h l=wrN lc.length hc lc)∧Hid (Fr1 b w wr))
 case atStart=>exact⟨h1,l,a,cap,L,rfl,rfl,hcap',by omega,HL,HO1,hk1,HR1,NE,Hd (by rw[LN.o,←HL.o];exact HLN.o),LAW,f1⟩
 case round=>
  obtain⟨hc,lc,ac,cc,m,rfl,rfl,hm,hcc,HM,OKc,HKc,RDc,NEc,LEc,LAWc,Fc⟩:=hrel
  clear hk1 f1 HR1 LAW
  by_cases h0:0<gk
  ·obtain⟨b',off,rfl,hbw,hcl⟩:=RDc.o.at_ (by rw[←HM.o];exact h0)
   have CL:=Hd hcl
   obtain⟨N,hN⟩:=xq hc.len
   have hN2:N≤1000000000:=by have:=LEc.o;omega
   obtain⟨p,hp⟩:=xq (N%64)
   have hp2:p<64:=by omega
   obtain⟨n,hn⟩:=xq (min (64-p) gk)
   have hn1:1≤n:=by omega
   have hn2:n≤gk:=by omega
   have hn3:p+n≤64:=by omega
   have jt:(N:Int).tmod 64=(p:Int):=by rw[Int.tmod_eq_emod_of_nonneg (by omega)];omega
   have p0:(0:Int)≤(p:Int):=by omega
   have p1:(p:Int)<64:=by omega
   have p2:(p:Int)≤64:=by omega
   have p3:¬(64=p):=by omega
   have hlcn:(lc.take n).length=n:=by rw[List.length_take,←HM.o];omega
   obtain⟨wY,hY⟩:=xq wr.drew
   have dY:Bw wr wY:=by rw[hY];exact(zR _ _).drew
   have K1:=HKc.o.below dY
   have c72:wY.cell? ⟨b,72,none⟩=some (.int .i64 (N:Int)):=by rw[hN];exact K1.len OKc.o.blk.len
   have KY:=Hd K1
   have DY:=Hd dY
   have HN:=Hd hN;have HP:=Hd hp;have HNn:=Hd hn
   clear K1 dY hN hp hn hcl
   go_upto_region 6 with fail
   refine wp_region_still_tail 10 (by kernel_rfl) (by kernel_rfl) ?_
   simp only[List.take_succ_cons,List.take_zero,List.drop_succ_cons,List.drop_zero]
   change wpStill _ _ wr.drew (fun a'=>wpList _ _ _ _ a' wr.drew) _ _
   rw[←hY]
   clear hY
   repeat still_step
   refine wpStill_nil ?_
   have LB:=OKc.o.blk.len
   have CC:=Xwy (h:=hc) LB (p:=p) (cs:=lc.take n) (by rw[hlcn];exact hn3)
   obtain⟨hd,hhd⟩:∃hd:Hs,hd=⟨hc.st,hc.blk.take p++lc.take n++hc.blk.drop (p+(lc.take n).length),hc.len⟩:=⟨_,rfl⟩
   rw[←hhd] at CC
   obtain⟨cs,hcs⟩:=xq ((lc.take n).map U)
   have csl:cs.length=n:=by rw[hcs,List.length_map,hlcn]
   rw[←hcs] at CC
   have SRC:Hid (∀j v,cs[j]?=some v→wY.cell? ((⟨b',off,none⟩:Addr).add j)=some v):=Hd (fun j v hv=>by
    have hj:j<n:=by rw[←csl];exact(List.getElem?_eq_some_iff.1 hv).1
    have hjl:j<lc.length:=by rw[←HM.o];omega
    rw[Addr.add_mid,DY.o.cell (p:=⟨b',off+j,none⟩) hbw,CL.o j hjl,←hv,hcs,List.getElem?_map,List.getElem?_take_of_lt hj,List.getElem?_eq_getElem hjl]
    rfl)
   have C1:Hid (∀v∈cs,v.oneCell'=true):=Hd (fun v hv=>by rw[hcs] at hv;obtain⟨y,_,rfl⟩:=List.mem_map.1 hv;rfl)
   have HFIT:Hid (8+p+cs.length≤(hC hc).size):=Hd (by rw[Xla LB,csl];omega)
   have HMIN:Hid (cs.length=Nat.min gk (64-p)):=Hd (by rw[csl,HNn.o];exact Nat.min_comm _ _)
   have GI:Hid (goInt cs.length=.int .i64 (n:Int)):=Hd (by rw[csl];rfl)
   obtain⟨w1,hw1⟩:=xq (wY.setRow b ((hC hc).toList.take (8+p)++(cs++(hC hc).toList.drop (8+p+cs.length))).toArray)
   have CC2:=Hd CC
   have HD1:Hid (HK w1 b hd):=Hd (by rw[hw1,CC2.o];exact setRow_heap wY b _ _ _ _ KY.o)
   have F1:Hid (Fr1 b w w1):=Hd (Fc.o.trans ((Fr1.of_below DY.o).trans (by rw[hw1];exact⟨rfl,rfl,rfl,by simp[World.setRow],fun k hk hne=>setRow_other wY b k _ hne⟩)))
   have HW1:=Hd hw1
   have HCS:=Hd hcs;have HHD:=Hd hhd
   clear LB CC hhd hcs csl hw1 CC2 c72 jt hlcn CL
   refine wpList_copy_own rfl (.tmp 28) (.tmp 29) 82 82 rfl 5 underlying82 (by kernel_rfl) b (8+p) (64-p) (64-p) ⟨b',off,none⟩ gk cc rfl rfl (hC hc) _ KY.o cs HMIN.o SRC.o HFIT.o C1.o ?_
   rw[GI.o,←HW1.o]
   obtain⟨oa,hoa⟩:∃oa:Option Addr,oa=if cc=n then some ⟨b',off,none⟩ else some ⟨b',off+n,none⟩:=⟨_,rfl⟩
   have hb'b:b'≠b:=NEc.o _ rfl (by rw[←HM.o];exact h0)
   have NE2:Hid (∀ad,oa=some ad→0<(lc.drop n).length→ad.block≠b):=Hd (fun ad e _=>by
    rw[hoa] at e
    by_cases e2:cc=n
    ·rw[qP e2] at e;cases e;exact hb'b
    ·rw[qN e2] at e;cases e;exact hb'b)
   have RD2:Hid (∀wx,Fr1 b wr wx→Rd wx oa (lc.drop n)):=Hd (fun wx hf=>by
    have r1:Rd wx (some ⟨b',off,none⟩) lc:=RDc.o.fr1 hf NEc.o
    rw[hoa]
    by_cases e:cc=n
    ·have:lc.drop n=[]:=List.drop_of_length_le (by rw[←HM.o];omega)
     rw[this];exact Rd.nil _ _
    ·rw[qN e];exact r1.drop)
   have n0:(0:Int)≤(n:Int):=by omega
   have nG:(n:Int)≤(gk:Int):=by omega
   have nC:n≤cc:=by omega
   have HOA:=Hd hoa
   have c1:w1.cell? ⟨b,72,none⟩=some (.int .i64 (N:Int)):=by
    have:=HD1.o.len (by rw[HHD.o];show(hc.blk.take p++lc.take n++hc.blk.drop (p+(lc.take n).length)).length=64;simp[OKc.o.blk.len];have:=HM.o;omega)
    rw[this,HHD.o];show some (Value.int .i64 (hc.len:Int))=_;rw[←HN.o]
   have f1:w1.frozen? ⟨b,72,none⟩=false:=Xdn HD1.o 72
   have wN:IntKind.i64.wrap ((N:Int)+(n:Int))=(N:Int)+(n:Int):=IntWalk.i64_in _ (by omega)
   obtain⟨M,hM⟩:=xq (N+n)
   have eM:(N:Int)+(n:Int)=(M:Int):=by omega
   have FW:Hid (Fr1 b wr w1):=Hd ((Fr1.of_below DY.o).trans (by rw[HW1.o];exact⟨rfl,rfl,rfl,by simp[World.setRow],fun k hk hne=>setRow_other wY b k _ hne⟩))
   clear hoa
   go_upto_region 8 with fail
   rw[←HOA.o]
   clear HOA
   obtain⟨he,hhe⟩:∃he:Hs,he=⟨hd.st,hd.blk,M⟩:=⟨_,rfl⟩
   obtain⟨w2,hw2⟩:=xq (w1.setCell ⟨b,72,none⟩ (.int .i64 (M:Int)))
   have hdb:hd.blk.length=64:=by rw[HHD.o];show(hc.blk.take p++lc.take n++hc.blk.drop (p+(lc.take n).length)).length=64;simp[OKc.o.blk.len];have:=HM.o;omega
   have H2:Hid (HK w2 b he):=Hd (by rw[hw2,hhe];exact HD1.o.setLen hdb M)
   have F2:Hid (Fr1 b w w2):=Hd (F1.o.trans (by rw[hw2];exact Fr1.setC _))
   have FW2:Hid (Fr1 b wr w2):=Hd (FW.o.trans (by rw[hw2];exact Fr1.setC _))
   have c2:w2.cell? ⟨b,72,none⟩=some (.int .i64 (M:Int)):=by have:=H2.o.len (by rw[hhe];exact hdb);rw[this,hhe]
   have HW2:=Hd hw2
   have bl:hd.blk=hc.blk.take (hc.len%64)++lc.take (min (64-hc.len%64) lc.length)++hc.blk.drop (hc.len%64+min (64-hc.len%64) lc.length):=by
    rw[HHD.o,←HN.o,←HP.o,←HM.o,←HNn.o]
    show hc.blk.take p++lc.take n++hc.blk.drop (p+(lc.take n).length)=_
    rw[show(lc.take n).length=n by rw[List.length_take,←HM.o];omega]
   have BL:=Hd bl
   have WS:=Xo0 OKc.o RDc.o.lt
   rw[←bl] at WS
   have OKe:Hid (he.Ok):=Hd (by rw[hhe];exact⟨by show W8.Ok hd.st;rw[HHD.o];exact OKc.o.st,WS.2⟩)
   have STEP:Hid (Xcp hc lc=⟨if M%64=0 then Xg6 hc.st (ldF hd.blk) else hc.st,hd.blk,M⟩):=Hd (by
    unfold Xcp
    simp only[]
    rw[←bl,←HN.o,←HP.o,←HM.o,←HNn.o,←hM])
   have LAW2:Hid (wrF h l=wrN (lc.drop n).length (Xcp hc lc) (lc.drop n)):=Hd (by
    rw[LAWc.o,Ycb hc lc (by rw[←HM.o];exact h0),←HN.o,←HP.o,←HM.o,←HNn.o])
   have LEN2:Hid (gk-n=(lc.drop n).length):=Hd (by rw[List.length_drop,←HM.o])
   have LE2:Hid (M+(lc.drop n).length≤1000000000):=Hd (by have:=LEc.o;rw[←HN.o,←HM.o] at this;rw[←LEN2.o,hM];omega)
   have HHE:=Hd hhe
   have HST:Hid (he.st=hc.st):=Hd (by rw[hhe,HHD.o])
   have HE2:Hid (Env w2):=Hd (Xbu HE.o hb9 F2.o)
   have WS1:=Hd WS.1
   clear hhe hw2 hdb bl WS hM
   go_upto_region 9 with fail
   rw[←HW2.o]
   clear HW2 c1 f1 HD1 HHD
   by_cases e64:M%64=0
   ·have jm:(M:Int).tmod 64=0:=by rw[Int.tmod_eq_emod_of_nonneg (by omega)];omega
    have S2:Hid (Xcp hc lc=⟨Xg6 he.st (ldF he.blk),he.blk,he.len⟩):=Hd (by rw[STEP.o,qP e64,HST.o,HHE.o])
    clear e64
    obtain⟨wZ,hZ⟩:=xq w2.drew
    have dZ:Bw w2 wZ:=by rw[hZ];exact(zR _ _).drew
    have DZ:=Hd dZ
    have HZ:=Hd (H2.o.below dZ)
    have EZ:=Hd (HE2.o.on dZ)
    have LS:Hid (∀wx,HK wx b he→Ld 191 ⟨b,0,none⟩ wx (.agg (wC he.st))):=Hd (fun wx hx=>HK.st hx)
    have LB:Hid (∀wx,HK wx b he→Ld 184 ⟨b,8,none⟩ wx (.agg (idA he.blk))):=Hd (fun wx hx=>HK.blk hx OKe.o.blk.len)
    have LDC:=Hd (Yd3 wZ OKe.o.blk)
    have L6:Hid (L16 (ldF he.blk)):=Hd (Xzl OKe.o.blk.lt 64)
    have PRC:Hid (∀wx,Bw wZ wx→zJ 133 #[.agg (wC he.st),.agg (wA (ldF he.blk))] wx (.agg (wC (Xg6 he.st (ldF he.blk))))):=Hd (fun wx hb=>Xrj wx OKe.o.st L6.o (EZ.o.on hb))
    have FIN:Hid (∀wx,Bw wZ wx→Sv 191 ⟨b,0,none⟩ (.agg (wC (Xg6 he.st (ldF he.blk)))) wx (wx.setRow b (hC (Xcp hc lc)))∧HK (wx.setRow b (hC (Xcp hc lc))) b (Xcp hc lc)∧Fr1 b w2 (wx.setRow b (hC (Xcp hc lc)))):=Hd (fun wx hb=>by
     rw[S2.o]
     obtain⟨s1,s2⟩:=(HZ.o.below hb).setSt (Xg6 he.st (ldF he.blk))
     exact⟨s1,s2,(Fr1.of_below DZ.o).trans ((Fr1.of_below hb).trans ⟨rfl,rfl,rfl,by simp[World.setRow],fun k hk hne=>setRow_other wx b k _ hne⟩)⟩)
    have LENE:Hid ((Xcp hc lc).len=M):=Hd (by rw[STEP.o])
    obtain⟨v1,hv1⟩:=xq (wC he.st)
    obtain⟨v2,hv2⟩:=xq (idA he.blk)
    obtain⟨v3,hv3⟩:=xq (wA (ldF he.blk))
    obtain⟨v4,hv4⟩:=xq (wC (Xg6 he.st (ldF he.blk)))
    rw[←hv1] at LS PRC
    rw[←hv2] at LB LDC
    rw[←hv3] at LDC PRC
    rw[←hv4] at PRC FIN
    clear hv1 hv2 hv3 hv4 dZ S2 STEP
    go_upto_region 10 with fail
    refine wp_region_any (by kernel_rfl) ?_
    change wpAny _ _ _ _ _ _ _ w2.drew
    rw[←hZ]
    clear hZ c2
    refine wpAny_take (i:=0) (v:=.pointer (some ⟨b,0,none⟩)) rfl (by kernel_rfl) (by kernel_rfl) (by kernel_rfl) (fun _ _ _ h=>h) (Or.inl ⟨by kernel_rfl,fun w'=>by go_simp⟩) ?_
    refine wpAny_take (i:=1) (v:=.pointer (some ⟨b,0,none⟩)) rfl (by kernel_rfl) (by kernel_rfl) (by kernel_rfl) (fun _ _ _ h=>h) (Or.inl ⟨by kernel_rfl,fun w'=>by go_simp⟩) ?_
    refine wpAny_take (i:=2) (v:=.pointer (some ⟨b,0,none⟩)) rfl (by kernel_rfl) (by kernel_rfl) (by kernel_rfl) (fun _ _ _ h=>h) (Or.inl ⟨by kernel_rfl,fun w'=>by go_simp⟩) ?_
    refine wpAny_take (i:=3) (v:=.pointer (some ⟨b,0,none⟩)) rfl (by kernel_rfl) (by kernel_rfl) (by kernel_rfl) (fun _ _ _ h=>h) (Or.inl ⟨by kernel_rfl,fun w'=>by go_simp⟩) ?_
    refine wpAny_take (i:=5) (v:=.pointer (some ⟨b,0,none⟩)) rfl (by kernel_rfl) (by kernel_rfl) (by kernel_rfl) (fun _ _ _ h=>h) (Or.inl ⟨by kernel_rfl,fun w'=>by go_simp⟩) ?_
    refine wpAny_take (i:=6) (v:=.pointer (some ⟨b,0,none⟩)) rfl (by kernel_rfl) (by kernel_rfl) (by kernel_rfl) (fun _ _ _ h=>h) (Or.inl ⟨by kernel_rfl,fun w'=>by go_simp⟩) ?_
    refine wpAny_take (i:=7) (v:=.pointer (some ⟨b,8,none⟩)) rfl (by kernel_rfl) (by kernel_rfl) (by kernel_rfl) (fun _ _ _ h=>h) (Or.inl ⟨by kernel_rfl,fun w'=>by go_simp⟩) ?_
    refine Xos (i:=4) (k:=8) (by kernel_rfl) ?_ ?_
    ·refine Xbp rfl rfl (Xai (ty:=191) (x:=.tmp 51) (ad:=⟨b,0,none⟩) rfl (by kernel_rfl) (LS.o _ HZ.o)) ?_
     refine Xbd (i:=8) (by kernel_rfl) ?_
     refine Xbp rfl rfl (Xai (ty:=184) (x:=.tmp 55) (ad:=⟨b,8,none⟩) rfl (by kernel_rfl) (LB.o _ HZ.o)) ?_
     refine Xbd (i:=9) (by kernel_rfl) ?_
     refine Xao (f:=134) (args:=#[.agg v2]) rfl rfl (by kernel_rfl) ?_
     refine LDC.o.mono ?_
     rintro e w3 ⟨rfl,hb3⟩
     have P3:=Hd (PRC.o w3 hb3)
     have B3:=Hd hb3
     have H3:=Hd (HZ.o.below hb3)
     refine⟨_,rfl,?_⟩
     clear hb3
     refine Xbd (i:=10) (by kernel_rfl) ?_
     refine Xao (f:=133) (args:=#[.agg v1,.agg v3]) rfl rfl (by kernel_rfl) ?_
     refine P3.o.mono ?_
     rintro e w4 ⟨rfl,hb4⟩
     have hb34:=bg B3.o hb4
     obtain⟨g1,g2,g3⟩:=FIN.o w4 hb34
     obtain⟨w5,hw5⟩:=xq (w4.setRow b (hC (Xcp hc lc)))
     rw[←hw5] at g1 g2 g3
     have G1:=Hd g1;have G2:=Hd g2;have G3:=Hd g3
     refine⟨_,rfl,?_⟩
     clear g1 g2 g3 hw5 hb4 P3 FIN B3 hb34 H3
     refine Xbd (i:=11) (by kernel_rfl) ?_
     refine Xbp (v:=.pointer (some ⟨b,0,none⟩)) rfl rfl (by kernel_rfl) ?_
     refine Xbd (i:=12) (by kernel_rfl) ?_
     refine Xbp (v:=.pointer (some ⟨b,0,none⟩)) rfl rfl (by kernel_rfl) ?_
     refine Xbd (i:=13) (by kernel_rfl) ?_
     refine Xco rfl rfl (Xar (t:=191) (x:=.tmp 60) (y:=.tmp 58) (ad:=⟨b,0,none⟩) (u:=.agg v4) rfl (by kernel_rfl) (by kernel_rfl) G1.o) ?_
     refine wpAny_done (by kernel_rfl) ?_ _
     go_simp
     refine‹∀(a:Act) (w_1:World),_→_› _ _ ?_
     go_wp2_with fail
     go_roundg (gk-n)
     case measure=>omega
     case rel=>exact⟨Xcp hc lc,lc.drop n,oa,cc-n,gk-n,rfl,rfl,by omega,by omega,LEN2,WS1,G2,Hd (RD2.o w5 (FW2.o.trans G3.o)),NE2,Hd (by rw[LENE.o];exact LE2.o),LAW2,Hd (F2.o.trans G3.o)⟩
    ·refine Xbp rfl rfl (Xai (ty:=184) (x:=.tmp 55) (ad:=⟨b,8,none⟩) rfl (by kernel_rfl) (LB.o _ HZ.o)) ?_
     refine Xos (i:=4) (k:=9) (by kernel_rfl) ?_ ?_
     ·refine Xbp rfl rfl (Xai (ty:=191) (x:=.tmp 51) (ad:=⟨b,0,none⟩) rfl (by kernel_rfl) (LS.o _ HZ.o)) ?_
      refine Xbd (i:=9) (by kernel_rfl) ?_
      refine Xao (f:=134) (args:=#[.agg v2]) rfl rfl (by kernel_rfl) ?_
      refine LDC.o.mono ?_
      rintro e w3 ⟨rfl,hb3⟩
      have P3:=Hd (PRC.o w3 hb3)
      have B3:=Hd hb3
      have H3:=Hd (HZ.o.below hb3)
      refine⟨_,rfl,?_⟩
      clear hb3
      refine Xbd (i:=10) (by kernel_rfl) ?_
      refine Xao (f:=133) (args:=#[.agg v1,.agg v3]) rfl rfl (by kernel_rfl) ?_
      refine P3.o.mono ?_
      rintro e w4 ⟨rfl,hb4⟩
      have hb34:=bg B3.o hb4
      obtain⟨g1,g2,g3⟩:=FIN.o w4 hb34
      obtain⟨w5,hw5⟩:=xq (w4.setRow b (hC (Xcp hc lc)))
      rw[←hw5] at g1 g2 g3
      have G1:=Hd g1;have G2:=Hd g2;have G3:=Hd g3
      refine⟨_,rfl,?_⟩
      clear g1 g2 g3 hw5 hb4 P3 FIN B3 hb34 H3
      refine Xbd (i:=11) (by kernel_rfl) ?_
      refine Xbp (v:=.pointer (some ⟨b,0,none⟩)) rfl rfl (by kernel_rfl) ?_
      refine Xbd (i:=12) (by kernel_rfl) ?_
      refine Xbp (v:=.pointer (some ⟨b,0,none⟩)) rfl rfl (by kernel_rfl) ?_
      refine Xbd (i:=13) (by kernel_rfl) ?_
      refine Xco rfl rfl (Xar (t:=191) (x:=.tmp 60) (y:=.tmp 58) (ad:=⟨b,0,none⟩) (u:=.agg v4) rfl (by kernel_rfl) (by kernel_rfl) G1.o) ?_
      refine wpAny_done (by kernel_rfl) ?_ _
      go_simp
      refine‹∀(a:Act) (w_1:World),_→_› _ _ ?_
      go_wp2_with fail
      go_roundg (gk-n)
      case measure=>omega
      case rel=>exact⟨Xcp hc lc,lc.drop n,oa,cc-n,gk-n,rfl,rfl,by omega,by omega,LEN2,WS1,G2,Hd (RD2.o w5 (FW2.o.trans G3.o)),NE2,Hd (by rw[LENE.o];exact LE2.o),LAW2,Hd (F2.o.trans G3.o)⟩
     ·refine Xao (f:=134) (args:=#[.agg v2]) rfl rfl (by kernel_rfl) ?_
      refine LDC.o.mono ?_
      rintro e w3 ⟨rfl,hb3⟩
      have P3:=Hd (PRC.o w3 hb3)
      have B3:=Hd hb3
      have H3:=Hd (HZ.o.below hb3)
      refine⟨_,rfl,?_⟩
      clear hb3
      refine Xbd (i:=4) (by kernel_rfl) ?_
      refine Xbp rfl rfl (Xai (ty:=191) (x:=.tmp 51) (ad:=⟨b,0,none⟩) rfl (by kernel_rfl) (LS.o _ H3.o)) ?_
      refine Xbd (i:=10) (by kernel_rfl) ?_
      refine Xao (f:=133) (args:=#[.agg v1,.agg v3]) rfl rfl (by kernel_rfl) ?_
      refine P3.o.mono ?_
      rintro e w4 ⟨rfl,hb4⟩
      have hb34:=bg B3.o hb4
      obtain⟨g1,g2,g3⟩:=FIN.o w4 hb34
      obtain⟨w5,hw5⟩:=xq (w4.setRow b (hC (Xcp hc lc)))
      rw[←hw5] at g1 g2 g3
      have G1:=Hd g1;have G2:=Hd g2;have G3:=Hd g3
      refine⟨_,rfl,?_⟩
      clear g1 g2 g3 hw5 hb4 P3 FIN B3 hb34 H3
      refine Xbd (i:=11) (by kernel_rfl) ?_
      refine Xbp (v:=.pointer (some ⟨b,0,none⟩)) rfl rfl (by kernel_rfl) ?_
      refine Xbd (i:=12) (by kernel_rfl) ?_
      refine Xbp (v:=.pointer (some ⟨b,0,none⟩)) rfl rfl (by kernel_rfl) ?_
      refine Xbd (i:=13) (by kernel_rfl) ?_
      refine Xco rfl rfl (Xar (t:=191) (x:=.tmp 60) (y:=.tmp 58) (ad:=⟨b,0,none⟩) (u:=.agg v4) rfl (by kernel_rfl) (by kernel_rfl) G1.o) ?_
      refine wpAny_done (by kernel_rfl) ?_ _
      go_simp
      refine‹∀(a:Act) (w_1:World),_→_› _ _ ?_
      go_wp2_with fail
      go_roundg (gk-n)
      case measure=>omega
      case rel=>exact⟨Xcp hc lc,lc.drop n,oa,cc-n,gk-n,rfl,rfl,by omega,by omega,LEN2,WS1,G2,Hd (RD2.o w5 (FW2.o.trans G3.o)),NE2,Hd (by rw[LENE.o];exact LE2.o),LAW2,Hd (F2.o.trans G3.o)⟩
   ·have jm:(M:Int).tmod 64=((M%64:Nat):Int):=by rw[Int.tmod_eq_emod_of_nonneg (by omega)];omega
    obtain⟨r,hr⟩:=xq (M%64)
    rw[←hr] at jm e64
    have hz:((r:Int)==0)=false:=Xaj (by omega)
    have S2:Hid (Xcp hc lc=he):=Hd (by rw[STEP.o,qN (by rw[←hr];exact e64),HHE.o,←HST.o,HHE.o])
    clear hr
    go_wp2_with fail
    go_roundg (gk-n)
    case measure=>omega
    case rel=>exact⟨he,lc.drop n,oa,cc-n,gk-n,rfl,rfl,by omega,by omega,LEN2,OKe,H2,Hd (RD2.o w2 FW2.o),NE2,Hd (by rw[HHE.o];exact LE2.o),Hd (by rw[LAW2.o,S2.o]),F2⟩
  ·obtain rfl:gk=0:=by omega
   have hnil:lc=[]:=List.eq_nil_of_length_eq_zero HM.o.symm
   have FIN:Hid (wrF h l=hc):=Hd (by rw[LAWc.o,hnil];rfl)
   go_wp2_with fail
   go_ret
   exact⟨⟨_,rfl⟩,by rw[FIN.o];exact HKc.o,Fc.o⟩
end Go.Proofs.YtjolcnopipbkhaaGreatDoor
