/- control.Parse. -/
import Derived.Test.YtohmdledkhgdaaaGreatDoorPa15
namespace Go.Proofs.YtohmdledkhgdaaaGreatDoor
open Go.RowKit
set_option linter.unusedVariables false
set_option maxRecDepth 100000
def Ydx (l:List Nat) (w:World) (e:Ending) (w':World):Prop:=
 ∃(cs:Array Value) (a:Int),e=.returned (.tuple #[.agg cs,.int .i64 a,.int .i64 ((Xd4 l:Nat):Int)])∧Cl 56 cs∧Below w.heap.size w w'
theorem Xv0 (s x:ByteArray) (hx:bs x=Xh5 32 (bs s)):Xd4 (bs s)=if 1000<s.size then 5 else Xu5 (bs x) ((bs s).drop x.size):=by
 unfold Xd4
 rw[Xaa]
 have e1:(bs s).takeWhile (fun c=>!decide (c=32))=bs x:=hx.symm
 have e3:(bs s).drop x.size=(bs s).dropWhile (fun c=>!decide (c=32)):=by
  have:=List.takeWhile_append_dropWhile (p:=fun c=>!decide (c=32)) (l:=bs s)
  rw[e1] at this
  conv=>lhs;rw[←this]
  rw[←Xaa x,List.drop_append,List.drop_length,Nat.sub_self];rfl
 rw[e1,e3]
theorem MB.on {w w':World} {p:Nat} (h:MB w p) (hb:Below w.heap.size w w'):MB w' p:=by
 obtain⟨cs,h1,h2⟩:=h
 exact⟨cs,(hb.block p (lt_of_block h1)).trans h1,h2⟩
theorem MB.storeAll {w:World} {p:Nat} (h:MB w p) {cs:Array Value} (hc:Cl 56 cs):
    (storeVar 152 ⟨p,0,none⟩ (.agg cs)).run Tryz.prog w=.ok () (w.setRow p cs)∧(w.setRow p cs).heap[p]?=some (.cells cs 152 (0,0))∧Fr1 p w (w.setRow p cs):=by
 obtain⟨zs,h1,h2⟩:=h
 exact⟨run_storeVar_row (P:=Tryz.prog) w p _ 152 zs cs h1 (by rw[hc.1];exact Xa1) (by rw[hc.1,h2.1]) hc.2,setRow_heap w p zs cs _ _ h1,⟨rfl,rfl,rfl,by simp[World.setRow],fun k hk hne=>setRow_other w p k cs hne⟩⟩
theorem Xa2 {P:Program} {md:Region.Mode} {ops:Array Oper} {Q:Exit→Act→World→Prop} {S:World→Prop} {i:Nat} {o:Oper} {fuel:Nat} {listed:Array Bool} {a:Act} {w w':World} {v:Value} (hr:Region.ready md ops listed=[i]) (ho:ops[i]?=some o) (hg:o.guard=none)
    (he:(execOp a.eval o).run P w=.ok (.value v) w') (hS:S w') (h:wpAnyH P md ops Q S fuel (listed.setIfInBounds i true) (a.put o.dst v) w'):wpAnyH P md ops Q S (fuel+1) listed a w:=
 wpAnyH_all hr (by simp) (fun j hj=>by
  obtain rfl:j=i:=by simpa using hj
  exact Xbt ho hg (Xb0 he ⟨hS,h⟩))
theorem Xap {P:Program} {o:Oper} {a:Act} {w:World} {x:Operand} {v:Value} (ho:o.op=.assign x) (hx:a.eval x=v):(execOp a.eval o).run P w=.ok (.value v) w:=by
 rw[←hx];exact Xkh ho
theorem Xba {P:Program} {md:Region.Mode} {ops:Array Oper} {Q:Exit→Act→World→Prop} {S:World→Prop} {i:Nat} {o:Oper} {fuel:Nat} {listed:Array Bool} {a:Act} {w w':World} (hr:Region.ready md ops listed=[i]) (ho:ops[i]?=some o) (hg:o.guard=none)
    (he:(execOp a.eval o).run P w=.ok .skip w') (hS:S w') (h:wpAnyH P md ops Q S fuel (listed.setIfInBounds i true) (a.put o.dst undef) w'):wpAnyH P md ops Q S (fuel+1) listed a w:=
 wpAnyH_all hr (by simp) (fun j hj=>by
  obtain rfl:j=i:=by simpa using hj
  exact Xbt ho hg (Xcd he ⟨hS,h⟩))
def S34 (b:Nat) (a:Int) (er:Nat) (w':World):Prop:=w'.cell? ⟨b,3,none⟩=some (.int .i64 a)∧w'.cell? ⟨b,4,none⟩=some (.int .i64 (er:Int))
theorem Yf2 {k:Nat} (hk:k<5) (args:Array Value) (w:World):(callFunc (fN k) args).run Tryz.prog w=.ok (.enter (fN k) args) w:=by
 rcases(by omega:k=0∨k=1∨k=2∨k=3∨k=4) with rfl|rfl|rfl|rfl|rfl<;>rfl
set_option maxHeartbeats 4000000 in
theorem Xu2 (s:ByteArray) (w:World) (hs:s.size≤1000000) (hE:Env w):
    Calls Tryz.prog 103 #[.string s] w (Ydx (bs s) w):=by
 obtain⟨zs,hzs⟩:∃zs,zs=Xla 0 Xhd:=⟨_,rfl⟩
 have ZCL:Hid (Cl 56 zs):=Hd (by rw[hzs];exact Xdz 0 _ (by simp[Xhd]) Xej)
 have BK:Hid (∀w,(Instr.build 152 #[]).run Tryz.prog w=.ok (.agg zs) w):=Hd (fun w=>by rw[hzs];kernel_rfl)
 obtain⟨w0,hw0⟩:∃w0,w0=w.alloc (.cells zs 152):=⟨_,rfl⟩
 have EW:Hid (w0=w.alloc (.cells #[.int .i64 0,.int .u8 0,.int .u8 0,.int .u8 0,.int .u8 0,.int .u8 0,.int .u8 0,.int .u8 0,.int .u8 0,.int .u8 0,.int .u8 0,.int .u8 0,.int .u8 0,.int .u8 0,.int .u8 0,.int .u8 0,.int .u8 0,.int .u8 0,.int .u8 0,.int .u8 0,.int .u8 0,.int .u8 0,.int .u8 0,.int .u8 0,.int .u8 0,.int .u8 0,.int .u8 0,.int .u8 0,.int .u8 0,.int .u8 0,.int .u8 0,.int .u8 0,.int .u8 0,.string ⟨#[]⟩,.int .i64 0,.bool false,.slice none 0 0,.string ⟨#[]⟩,.int .i64 0,.int .i64 0,.int .u8 0,.int .u8 0,.int .u8 0,.int .u8 0,.int .u8 0,.int .u8 0,.int .u8 0,.int .u8 0,.int .u8 0,.int .u8 0,.int .u8 0,.int .u8 0,.int .u8 0,.int .u8 0,.int .u8 0,.int .u8 0] 152)):=Hd (by rw[hw0,hzs];rfl)
 have B0:Hid (Below w.heap.size w w0):=Hd (by rw[hw0];exact(Below.refl _ _).alloc (Nat.le_refl _) _)
 have M0:Hid (MB w0 w.heap.size):=Hd ⟨zs,by rw[hw0];exact heap_alloc_new w _,ZCL.out⟩
 have E0:=Hd (hE.on B0.out)
 have hw9:9≤w.heap.size:=hE.size
 have SZ0:Hid (w0.heap.size=w.heap.size+1):=Hd (by rw[hw0];simp)
 clear hzs hw0 hE
 by_cases hl:1000<s.size
 ·have F:Hid (Xd4 (bs s)=5):=Hd (by unfold Xd4;rw[Xaa,if_pos hl])
  obtain⟨ST,W2,FR⟩:=M0.out.storeAll ZCL.out
  have ST:=Hd ST;have W2:=Hd W2
  have BB:Hid (Below w.heap.size w (w0.setRow w.heap.size zs)):=Hd (B0.out.trans (FR.below B0.out.size (Nat.le_refl _)))
  have ZS:Hid (zs.size=56):=Hd ZCL.out.1
  clear FR
  go_enter Tryz.func103,Tryz.ntmps103
  go_upto_region 1 with fail
  rw[←EW.out]
  go_upto_region 2 with fail
  refine wp_region_list ?_
  simp only[]
  refine Xae 152 rfl rfl ⟨_,BK.out _,?_⟩
  go_wp2_with ((with_reducible refine Xab 152 rfl _ _ rfl ?_);refine⟨_,_,_,rfl,rfl,ST.out,?_⟩)
  exact bodyPost_ret (Xas Tryz.results103 _ _ w.heap.size _ _ _ _ rfl W2.out Tryz.underlying152 rfl (by rw[ZS.out];exact Xa1)) rfl ⟨zs,0,by rw[F.out];rfl,ZCL.out,BB.out⟩
 ·have hl2:s.size≤1000:=by omega
  obtain⟨x,y,ok,⟨hx,hy,hok,hxs⟩,hcut⟩:=Xyu s 32 (by omega)
  have CUT:=Hd (hcut w0 E0.out.mx)
  have F0:Hid (Xd4 (bs s)=Xu5 (bs x) ((bs s).drop x.size)):=Hd (by rw[Xv0 s x hx,if_neg hl])
  clear hl hx hy hok hcut
  go_enter Tryz.func103,Tryz.ntmps103
  go_upto_region 1 with fail
  rw[←EW.out]
  clear EW
  go_wp2_with fail
  refine CUT.out.mono ?_
  rintro e w1 ⟨rfl,hd1⟩
  have B1:=Hd (B0.out.trans ((Dr.below hd1).mono B0.out.size))
  have M1:=Hd (M0.out.on (Dr.below hd1))
  have E1:=Hd (E0.out.on (Dr.below hd1))
  clear CUT hd1 M0 B0 E0
  have FM:=Hd (Xu7 w1)
  go_wp2_with fail
  refine FM.out.mono ?_
  rintro e w2 ⟨b,l,rfl,hb2,hbb,hm,hlm⟩
  have B2:=Hd (B1.out.trans (hb2.mono B1.out.size))
  have M2:=Hd (M1.out.on hb2)
  have E2:=Hd (E1.out.on hb2)
  have szR:w.heap.size<w2.heap.size:=M2.out.lt
  clear FM M1 B1 E1 hb2 hbb
  by_cases hk:∃k,k<5∧x=kN k
  ·obtain⟨k,hk5,hxk⟩:=hk
   have LK:=Ye1 hm x (.func (.func (fN k)) #[] #[]) (by rw[hxk];exact Yfd k hk5) ((hlm _).2 ⟨k,hk5,by rw[hxk];rfl⟩) (fun p hp h=>by
    obtain⟨j,hj,rfl⟩:=(hlm p).1 hp
    by_cases e:j=k
    ·subst e;rfl
    ·have h2:(kN k==kN j)=true:=by rw[←hxk];exact h
     rw[Yht k hk5 j hj (fun e2=>e e2.symm)] at h2;cases h2)
   have F1:Hid (Xd4 (bs s)=FK k ((bs s).drop x.size)):=Hd (by rw[F0.out,hxk,Xy3 hk5])
   have HK:=Hd hk5
   obtain⟨fk,hfk⟩:∃fk,fk=fN k:=⟨_,rfl⟩
   have FN:Hid (∀(w:World) (b:Nat) (st en:Nat) (at_:Int) (er:Nat) (h:WS w b s st en at_ er) (hE:Env w) (hb9:9≤b),Calls Tryz.prog fk #[.pointer (some ⟨b,0,none⟩)] w (Xcp w b s en er (FK k))):=Hd (fun w b st en at_ er h hE hb9=>by rw[hfk];exact Xx6 hk5 w b s st en at_ er h hE hb9 (by omega))
   have CF:Hid (∀args w,(callFunc fk args).run Tryz.prog w=.ok (.enter fk args) w):=Hd (fun args w=>by rw[hfk];exact Yf2 hk5 args w)
   rw[←hfk] at LK
   clear hm hlm hxk F0 hk5 hfk
   have hxs':x.size≤s.size:=hxs
   go_upto_region 8 with fail
   clear LK
   obtain⟨w3,hw3⟩:∃w3,w3=w2.alloc (.cells #[.string s,.int .i64 0,.int .i64 (x.size:Int),.int .i64 0,.int .i64 0] 207):=⟨_,rfl⟩
   have b3:Below w2.heap.size w2 w3:=by rw[hw3];exact(Below.refl _ _).alloc (Nat.le_refl _) _
   have S3:Hid (WS w3 w2.heap.size s 0 x.size 0 0):=Hd ⟨by rw[hw3];exact heap_alloc_new w2 _,hxs⟩
   have B3:=Hd (B2.out.trans (b3.mono B2.out.size))
   have M3:=Hd (M2.out.on b3)
   have E3:=Hd (E2.out.on b3)
   rw[←hw3]
   clear b3 hw3 B2 M2 E2
   have C:=Hd (FN.out w3 w2.heap.size 0 x.size 0 0 S3.out E3.out (by omega))
   clear FN
   have cf:=CF.out #[.pointer (some ⟨w2.heap.size,0,none⟩)] w3
   clear CF
   go_wp2_with fail
   clear cf
   refine C.out.mono ?_
   rintro e w4 ⟨cs,st',en',a,er',rfl,hcl,h4,f4,hlaw⟩
   have CL:=Hd hcl
   have M4:=Hd (M3.out.fr f4 (by omega))
   have B4:=Hd (B3.out.trans (f4.below B3.out.size (by omega)))
   obtain⟨ST,W5,f5⟩:=M4.out.storeAll hcl
   obtain⟨w5,hw5⟩:∃w5,w5=w4.setRow w.heap.size cs:=⟨_,rfl⟩
   rw[←hw5] at ST W5 f5
   have ST:=Hd ST
   have M5:Hid (MB w5 w.heap.size):=Hd ⟨cs,W5,hcl⟩
   have S5:=Hd (h4.fr f5 (by omega))
   have B5:=Hd (B4.out.trans (f5.below B4.out.size (Nat.le_refl _)))
   have LAW:Hid (fe er' (fin ((bs s).drop en'))=Xd4 (bs s)):=Hd (by rw[hlaw,F1.out];rfl)
   clear hcl h4 f4 hlaw C B3 M3 E3 S3 W5 f5 hw5 M4 B4
   have hc2:w5.cell? ⟨w2.heap.size,2,none⟩=some (.int .i64 (en':Int)):=cell_of_row w5 w2.heap.size 2 _ _ _ S5.out.1
   have hen':=S5.out.2
   have LEN:=Hd (Xaa s)
   by_cases hen:en'<s.size
   ·have FL:=Hd (Xb7 w5 w2.heap.size s st' en' a er' S5.out (en':Int) 5)
    have L5:Hid (fe er' 5=Xd4 (bs s)):=Hd (by
     have:=LAW.out
     have h5:fin ((bs s).drop en')=5:=by unfold fin;rw[if_neg (by rw[List.drop_eq_nil_iff,LEN.out];omega)]
     rw[h5] at this;exact this)
    go_wp2_with ((with_reducible refine Xab 152 rfl _ _ rfl ?_);refine⟨_,_,_,rfl,rfl,ST.out,?_⟩)
    refine FL.out.mono ?_
    rintro e w6 ⟨⟨v6,rfl⟩,⟨a6,h6⟩,f6⟩
    have M6:=Hd (M5.out.fr f6 (by omega))
    have B6:=Hd (B5.out.trans (f6.below B5.out.size (by omega)))
    obtain⟨er6,her6⟩:∃er6,er6=fe er' 5:=⟨_,rfl⟩
    rw[←her6] at h6
    have S6:=Hd h6
    have LAW6:Hid (er6=Xd4 (bs s)):=Hd (by rw[her6];exact L5.out)
    clear h6 f6 her6 FL L5 LAW hen hc2 M5 B5 S5 ST
    have hc4:w6.cell? ⟨w2.heap.size,4,none⟩=some (.int .i64 (er6:Int)):=cell_of_row w6 w2.heap.size 4 _ _ _ S6.out.1
    have hc3:w6.cell? ⟨w2.heap.size,3,none⟩=some (.int .i64 a6):=cell_of_row w6 w2.heap.size 3 _ _ _ S6.out.1
    by_cases e0:er6=0
    ·have q:((er6:Int) !=0)=false:=by rw[e0];rfl
     have L0:Hid (Xd4 (bs s)=0):=Hd (by rw[←LAW6.out,e0])
     obtain⟨c6,hp6,hcl6⟩:=M6.out
     obtain⟨ST6,W7,f7⟩:=M6.out.storeAll hcl6
     have ST6:=Hd ST6;have W7:=Hd W7
     have LD:=Hd (Xal w6 w.heap.size 56 _ _ c6 _ _ hp6 rfl Tryz.underlying152 Xa1 hcl6.1)
     have CL6:=Hd hcl6
     have B7:=Hd (B6.out.trans (f7.below B6.out.size (Nat.le_refl _)))
     clear e0 hp6 hcl6 f7 LAW6
     go_upto_region 13 with fail
     refine wp_region_list ?_
     simp only[]
     refine Xac 152 rfl _ rfl ⟨_,_,rfl,LD.out,?_⟩
     go_wp2_with ((with_reducible refine Xab 152 rfl _ _ rfl ?_);refine⟨_,_,_,rfl,rfl,ST6.out,?_⟩)
     exact bodyPost_ret (Xas Tryz.results103 _ _ w.heap.size _ _ _ _ rfl W7.out Tryz.underlying152 rfl (by rw[CL6.out.1];exact Xa1)) rfl ⟨c6,0,by rw[L0.out];rfl,CL6.out,B7.out⟩
    ·have q:((er6:Int) !=0)=true:=Xam (by omega)
     clear e0
     go_upto_region 12 with fail
     have M7:=Hd (M6.out.on (Dr.below ⟨1,rfl⟩:Below w6.heap.size w6 w6.drew))
     have B7:=Hd (B6.out.trans ((Dr.below ⟨1,rfl⟩:Below w6.heap.size w6 w6.drew).mono B6.out.size))
     have c3':w6.drew.cell? ⟨w2.heap.size,3,none⟩=some (.int .i64 a6):=hc3
     have c4':w6.drew.cell? ⟨w2.heap.size,4,none⟩=some (.int .i64 (er6:Int)):=hc4
     obtain⟨ST7,W8,f8⟩:=M7.out.storeAll ZCL.out
     have HS:S34 w2.heap.size a6 er6 w6.drew:=⟨c3',c4'⟩
     have HS8:S34 w2.heap.size a6 er6 (w6.drew.setRow w.heap.size zs):=by
      have ho:(w6.drew.setRow w.heap.size zs).heap[w2.heap.size]?=w6.drew.heap[w2.heap.size]?:=f8.other _ S6.out.lt (by omega)
      exact⟨by rw[←c3'];unfold World.cell?;simp only[ho],by rw[←c4'];unfold World.cell?;simp only[ho]⟩
     have B8:=Hd (B7.out.trans (f8.below B7.out.size (Nat.le_refl _)))
     obtain⟨w8,hw8⟩:∃w8,w8=w6.drew.setRow w.heap.size zs:=⟨_,rfl⟩
     rw[←hw8] at ST7 W8 HS8 B8
     refine wp_region_held (S:=S34 w2.heap.size a6 er6) (by kernel_rfl) ?_
     change wpAnyH _ _ _ _ _ _ _ _ w6.drew
     refine Xad 0 (.agg zs) rfl (fun w' hw'=>Xcr (ps:=#[]) rfl (by simpa using BK.out w')) HS ?_
     refine Xad 1 (.pointer (some ⟨w2.heap.size,0,none⟩)) rfl (fun w' hw'=>by obtain⟨c3,c4⟩:=hw';go_simp) HS ?_
     refine Xad 2 (.pointer (some ⟨w2.heap.size,0,none⟩)) rfl (fun w' hw'=>by obtain⟨c3,c4⟩:=hw';go_simp) HS ?_
     refine Xad 3 (.pointer (some ⟨w2.heap.size,3,none⟩)) rfl (fun w' hw'=>by obtain⟨c3,c4⟩:=hw';go_simp) HS ?_
     refine Xad 4 (.int .i64 a6) rfl (fun w' hw'=>by obtain⟨c3,c4⟩:=hw';go_simp) HS ?_
     refine Xad 5 (.pointer (some ⟨w2.heap.size,0,none⟩)) rfl (fun w' hw'=>by obtain⟨c3,c4⟩:=hw';go_simp) HS ?_
     refine Xad 6 (.pointer (some ⟨w2.heap.size,0,none⟩)) rfl (fun w' hw'=>by obtain⟨c3,c4⟩:=hw';go_simp) HS ?_
     refine Xad 7 (.pointer (some ⟨w2.heap.size,4,none⟩)) rfl (fun w' hw'=>by obtain⟨c3,c4⟩:=hw';go_simp) HS ?_
     refine Xad 8 (.int .i64 (er6:Int)) rfl (fun w' hw'=>by obtain⟨c3,c4⟩:=hw';go_simp) HS ?_
     refine Xba (i:=9) (by kernel_rfl) rfl rfl (Xax (t:=152) (x:=.tmp 2) (y:=.tmp 56) (ad:=⟨w.heap.size,0,none⟩) (u:=.agg zs) rfl (by kernel_rfl) (by kernel_rfl) ST7) HS8 ?_
     refine Xa2 (i:=10) (v:=.int .i64 a6) (by kernel_rfl) rfl rfl (Xap (x:=.tmp 60) rfl (by kernel_rfl)) HS8 ?_
     refine Xa2 (i:=11) (v:=.int .i64 (er6:Int)) (by kernel_rfl) rfl rfl (Xap (x:=.tmp 64) rfl (by kernel_rfl)) HS8 ?_
     refine wpAnyH_done (by kernel_rfl) ?_ _
     have W8:=Hd W8
     clear HS HS8 c3' c4' ST7 f8 hw8 hc3 hc4
     go_simp
     refine‹∀(a:Act) (w_1:World),Code.wp _ _ _ a w_1→_› _ _ ?_
     go_wp2_with fail
     exact bodyPost_ret (Xas Tryz.results103 _ _ w.heap.size _ _ _ _ rfl W8.out Tryz.underlying152 rfl (by rw[ZCL.out.1];exact Xa1)) rfl ⟨zs,a6,by rw[←LAW6.out];rfl,ZCL.out,B8.out⟩
   ·have L0':Hid (er'=Xd4 (bs s)):=Hd (by
       have:=LAW.out
       have h5:fin ((bs s).drop en')=0:=by unfold fin;rw[if_pos (by rw[List.drop_eq_nil_iff,LEN.out];omega)]
       rw[h5,Xow] at this;exact this)
    go_upto_region 11 with((with_reducible refine Xab 152 rfl _ _ rfl ?_);refine⟨_,_,_,rfl,rfl,ST.out,?_⟩)
    obtain⟨w6,hw6⟩:∃w6,w6=w5:=⟨_,rfl⟩
    obtain⟨er6,her6⟩:∃er6,er6=er':=⟨_,rfl⟩
    obtain⟨a6,ha6⟩:∃a6,a6=a:=⟨_,rfl⟩
    rw[←hw6,←her6,←ha6] at S5
    rw[←hw6] at M5 B5⊢
    rw[←her6] at L0'
    have S6:=S5;have M6:=M5;have B6:=B5;have LAW6:=L0'
    clear S5 M5 B5 L0' LAW hen hc2 hw6 her6 ha6 ST
    have hc4:w6.cell? ⟨w2.heap.size,4,none⟩=some (.int .i64 (er6:Int)):=cell_of_row w6 w2.heap.size 4 _ _ _ S6.out.1
    have hc3:w6.cell? ⟨w2.heap.size,3,none⟩=some (.int .i64 a6):=cell_of_row w6 w2.heap.size 3 _ _ _ S6.out.1
    by_cases e0:er6=0
    ·have q:((er6:Int) !=0)=false:=by rw[e0];rfl
     have L0:Hid (Xd4 (bs s)=0):=Hd (by rw[←LAW6.out,e0])
     obtain⟨c6,hp6,hcl6⟩:=M6.out
     obtain⟨ST6,W7,f7⟩:=M6.out.storeAll hcl6
     have ST6:=Hd ST6;have W7:=Hd W7
     have LD:=Hd (Xal w6 w.heap.size 56 _ _ c6 _ _ hp6 rfl Tryz.underlying152 Xa1 hcl6.1)
     have CL6:=Hd hcl6
     have B7:=Hd (B6.out.trans (f7.below B6.out.size (Nat.le_refl _)))
     clear e0 hp6 hcl6 f7 LAW6
     go_upto_region 13 with fail
     refine wp_region_list ?_
     simp only[]
     refine Xac 152 rfl _ rfl ⟨_,_,rfl,LD.out,?_⟩
     go_wp2_with ((with_reducible refine Xab 152 rfl _ _ rfl ?_);refine⟨_,_,_,rfl,rfl,ST6.out,?_⟩)
     exact bodyPost_ret (Xas Tryz.results103 _ _ w.heap.size _ _ _ _ rfl W7.out Tryz.underlying152 rfl (by rw[CL6.out.1];exact Xa1)) rfl ⟨c6,0,by rw[L0.out];rfl,CL6.out,B7.out⟩
    ·have q:((er6:Int) !=0)=true:=Xam (by omega)
     clear e0
     go_upto_region 12 with fail
     have M7:=Hd (M6.out.on (Dr.below ⟨1,rfl⟩:Below w6.heap.size w6 w6.drew))
     have B7:=Hd (B6.out.trans ((Dr.below ⟨1,rfl⟩:Below w6.heap.size w6 w6.drew).mono B6.out.size))
     have c3':w6.drew.cell? ⟨w2.heap.size,3,none⟩=some (.int .i64 a6):=hc3
     have c4':w6.drew.cell? ⟨w2.heap.size,4,none⟩=some (.int .i64 (er6:Int)):=hc4
     obtain⟨ST7,W8,f8⟩:=M7.out.storeAll ZCL.out
     have HS:S34 w2.heap.size a6 er6 w6.drew:=⟨c3',c4'⟩
     have HS8:S34 w2.heap.size a6 er6 (w6.drew.setRow w.heap.size zs):=by
      have ho:(w6.drew.setRow w.heap.size zs).heap[w2.heap.size]?=w6.drew.heap[w2.heap.size]?:=f8.other _ S6.out.lt (by omega)
      exact⟨by rw[←c3'];unfold World.cell?;simp only[ho],by rw[←c4'];unfold World.cell?;simp only[ho]⟩
     have B8:=Hd (B7.out.trans (f8.below B7.out.size (Nat.le_refl _)))
     obtain⟨w8,hw8⟩:∃w8,w8=w6.drew.setRow w.heap.size zs:=⟨_,rfl⟩
     rw[←hw8] at ST7 W8 HS8 B8
     refine wp_region_held (S:=S34 w2.heap.size a6 er6) (by kernel_rfl) ?_
     change wpAnyH _ _ _ _ _ _ _ _ w6.drew
     refine Xad 0 (.agg zs) rfl (fun w' hw'=>Xcr (ps:=#[]) rfl (by simpa using BK.out w')) HS ?_
     refine Xad 1 (.pointer (some ⟨w2.heap.size,0,none⟩)) rfl (fun w' hw'=>by obtain⟨c3,c4⟩:=hw';go_simp) HS ?_
     refine Xad 2 (.pointer (some ⟨w2.heap.size,0,none⟩)) rfl (fun w' hw'=>by obtain⟨c3,c4⟩:=hw';go_simp) HS ?_
     refine Xad 3 (.pointer (some ⟨w2.heap.size,3,none⟩)) rfl (fun w' hw'=>by obtain⟨c3,c4⟩:=hw';go_simp) HS ?_
     refine Xad 4 (.int .i64 a6) rfl (fun w' hw'=>by obtain⟨c3,c4⟩:=hw';go_simp) HS ?_
     refine Xad 5 (.pointer (some ⟨w2.heap.size,0,none⟩)) rfl (fun w' hw'=>by obtain⟨c3,c4⟩:=hw';go_simp) HS ?_
     refine Xad 6 (.pointer (some ⟨w2.heap.size,0,none⟩)) rfl (fun w' hw'=>by obtain⟨c3,c4⟩:=hw';go_simp) HS ?_
     refine Xad 7 (.pointer (some ⟨w2.heap.size,4,none⟩)) rfl (fun w' hw'=>by obtain⟨c3,c4⟩:=hw';go_simp) HS ?_
     refine Xad 8 (.int .i64 (er6:Int)) rfl (fun w' hw'=>by obtain⟨c3,c4⟩:=hw';go_simp) HS ?_
     refine Xba (i:=9) (by kernel_rfl) rfl rfl (Xax (t:=152) (x:=.tmp 2) (y:=.tmp 56) (ad:=⟨w.heap.size,0,none⟩) (u:=.agg zs) rfl (by kernel_rfl) (by kernel_rfl) ST7) HS8 ?_
     refine Xa2 (i:=10) (v:=.int .i64 a6) (by kernel_rfl) rfl rfl (Xap (x:=.tmp 60) rfl (by kernel_rfl)) HS8 ?_
     refine Xa2 (i:=11) (v:=.int .i64 (er6:Int)) (by kernel_rfl) rfl rfl (Xap (x:=.tmp 64) rfl (by kernel_rfl)) HS8 ?_
     refine wpAnyH_done (by kernel_rfl) ?_ _
     have W8:=Hd W8
     clear HS HS8 c3' c4' ST7 f8 hw8 hc3 hc4
     go_simp
     refine‹∀(a:Act) (w_1:World),Code.wp _ _ _ a w_1→_› _ _ ?_
     go_wp2_with fail
     exact bodyPost_ret (Xas Tryz.results103 _ _ w.heap.size _ _ _ _ rfl W8.out Tryz.underlying152 rfl (by rw[ZCL.out.1];exact Xa1)) rfl ⟨zs,a6,by rw[←LAW6.out];rfl,ZCL.out,B8.out⟩
  ·have hno:∀k<5,x≠kN k:=fun k hk5 e=>hk ⟨k,hk5,e⟩
   have LK:=Ye0 hm x (fun p hp=>by
    obtain⟨j,hj,rfl⟩:=(hlm p).1 hp
    exact Ybc (hno j hj))
   have F1:Hid (Xd4 (bs s)=11):=Hd (by rw[F0.out,Xy2 hno])
   obtain⟨ST,W3,f3⟩:=M2.out.storeAll ZCL.out
   have ST:=Hd ST;have W3:=Hd W3
   have B3:=Hd (B2.out.trans (f3.below B2.out.size (Nat.le_refl _)))
   clear hm hlm hk hno F0 f3
   go_upto_region 6 with fail
   clear LK
   refine wp_region_list ?_
   simp only[]
   refine Xae 152 rfl rfl ⟨_,BK.out _,?_⟩
   go_wp2_with ((with_reducible refine Xab 152 rfl _ _ rfl ?_);refine⟨_,_,_,rfl,rfl,ST.out,?_⟩)
   exact bodyPost_ret (Xas Tryz.results103 _ _ w.heap.size _ _ _ _ rfl W3.out Tryz.underlying152 rfl (by rw[ZCL.out.1];exact Xa1)) rfl ⟨zs,0,by rw[F1.out];rfl,ZCL.out,B3.out⟩
end Go.Proofs.YtohmdledkhgdaaaGreatDoor
/- canonical.keyText; a content in a block. -/
namespace Go.Proofs.YtohmdledkhgdaaaGreatDoor
open Go.RowKit
set_option linter.unusedVariables false
set_option maxRecDepth 100000
def CB (w:World) (b:Nat) (c:Cn) (gv rv:Value) (T:TypeId):Prop:=w.heap[b]?=some (.cells (c.cells gv rv) T (0,0))
theorem CB.on {w w':World} {b:Nat} {c:Cn} {gv rv:Value} {T:TypeId} (h:CB w b c gv rv T) (hb:Below w.heap.size w w'):CB w' b c gv rv T:=(hb.block b (lt_of_block h)).trans h
theorem CB.new (w:World) (c:Cn) (gv rv:Value) (T:TypeId):CB (w.alloc (.cells (c.cells gv rv) T)) w.heap.size c gv rv T:=heap_alloc_last w _
theorem CB.lt {w:World} {b:Nat} {c:Cn} {gv rv:Value} {T:TypeId} (h:CB w b c gv rv T):b<w.heap.size:=lt_of_block h
section
variable {w:World} {b:Nat} {c:Cn} {gv rv:Value} {T:TypeId} (h:CB w b c gv rv T)
include h
theorem CB.at {j:Nat} {u:Value} (hu:(c.cells gv rv)[j]?=some u):w.cell? ⟨b,j,none⟩=some u:=by rw[cell_of_row w b j _ _ _ h];exact hu
theorem CB.part (off:Nat) {ids:Array Value} (hp:∀j u,ids[j]?=some u→(c.cells gv rv)[off+j]?=some u):∀j u,ids[j]?=some u→w.cell? ⟨b,off+j,none⟩=some u:=fun j u hu=>by rw[cell_of_row w b (off+j) _ _ _ h];exact hp j u hu
theorem CB.pk (hc:c.Ok):(loadVar 35 ⟨b,56,none⟩).run Tryz.prog w=.ok (.agg (pkC c.height c.root)) w:=Xqb w b 56 hc.root.len (h.part 56 (Xyz hc gv rv))
theorem CB.sup (hc:c.Ok):(loadVar 26 ⟨b,21,none⟩).run Tryz.prog w=.ok (.agg (idA c.sup)) w:=Xai w b 21 26 _ _ Tryz.underlying26 rfl (by rw[Xag,hc.sup.len];exact Xbf) (h.part 21 (Yij hc gv rv))
theorem CB.author (hc:c.Ok):(loadVar 33 ⟨b,1,none⟩).run Tryz.prog w=.ok (.agg (idA c.author)) w:=Xai w b 1 33 _ _ Tryz.underlying33 rfl (by rw[Xag,hc.author.len];exact Xjg) (h.part 1 (Xo8 c gv rv))
end
theorem Xb3:(Tryz.prog.info? 37).map (·.size)=some 75:=by kernel_rfl
theorem CB.all {w:World} {b:Nat} {c:Cn} {gv rv:Value} {T:TypeId} (h:CB w b c gv rv T) (hc:c.Ok):(loadVar 37 ⟨b,0,none⟩).run Tryz.prog w=.ok (.agg (c.cells gv rv)) w:=
 Xai w b 0 37 _ _ Tryz.underlying37 rfl (by rw[Xb1 hc];exact Xb3) (Xfy w b T _ _ h)
theorem Xg7 {n:Int} (h:(Lit.int .i64 n).wf=true):-9223372036854775808≤n∧n≤9223372036854775807:=by
 simp[Lit.wf,IntKind.min,IntKind.max,IntKind.signed,IntKind.bits] at h
 omega
def Yiz (c:Cn) (w:World) (e:Ending) (w':World):Prop:=
 ∃t:ByteArray,e=.returned (.tuple #[.string t,.int .i64 (eIf (!Xau c.height) 2:Nat)])∧(Xau c.height=true→bs t=Xj4 c.p)∧t.size≤2000∧Below w.heap.size w w'
theorem Xgf (a b:ByteArray):bs (a++b)=bs a++bs b:=by
 simp[bs,ByteArray.data_append]
set_option maxHeartbeats 1000000 in
theorem Xxn (w:World) (c:Cn) (hc:c.Ok) (gv rv:Value) (hE:Env w):
    Calls Tryz.prog 54 #[.agg (c.cells gv rv)] w (Yiz c w):=by
 have C0:=CB.new w c gv rv 37
 have B0:Hid (Below w.heap.size w (w.alloc (.cells (c.cells gv rv) 37))):=Hd ((Below.refl _ _).alloc (Nat.le_refl _) _)
 have LD:=Hd (C0.pk hc)
 have PT:=Hd (Xww (w.alloc (.cells (c.cells gv rv) 37)) c.height hc.root (hE.on B0.out))
 have NUM:Hid (∀w',Below (w.alloc (.cells (c.cells gv rv) 37)).heap.size (w.alloc (.cells (c.cells gv rv) 37)) w'→w'.cell? ⟨w.heap.size,55,none⟩=some (.int .i64 c.number)):=Hd (fun w' hb=>(C0.on hb).at (Xdy hc gv rv))
 have DG:Hid (∀w',Env w'→Calls Tryz.prog 56 #[.int .i64 c.number] w' (Xzo c.number w')):=Hd (fun w' he=>Xkl c.number (Xg7 hc.number).1 (Xg7 hc.number).2 w' he)
 have HE:=Hd hE
 have KF:Hid (Xj4 c.p=Xd1 c.number++32::Xe5 ((c.height%256).toNat::c.root)):=Hd rfl
 obtain⟨cs,hcs⟩:∃cs,cs=c.cells gv rv:=⟨_,rfl⟩
 rw[←hcs] at B0 LD PT NUM⊢
 obtain⟨pk,hpk⟩:∃pk,pk=pkC c.height c.root:=⟨_,rfl⟩
 rw[←hpk] at LD PT
 clear hcs hpk C0 hE hc
 go_enter Tryz.func54,Tryz.ntmps54
 go_wp2_with ((with_reducible refine Xac 35 rfl _ rfl ?_);refine⟨_,_,rfl,LD.out,?_⟩)
 refine PT.out.mono ?_
 rintro e w1 ⟨t,rfl,ht,hts,hb1⟩
 have B1:=Hd (B0.out.trans (hb1.mono B0.out.size))
 have num:=NUM.out w1 hb1
 have D1:=Hd (DG.out w1 (HE.out.on B1.out))
 have HT:=Hd ht
 clear hb1 PT LD NUM DG ht
 go_wp2_with fail
 refine D1.out.mono ?_
 rintro e w2 ⟨d,rfl,hd,hds,hb2⟩
 have B2:=Hd (B1.out.trans (hb2.mono B1.out.size))
 have HD:=Hd hd
 have z1:(d++(⟨#[32]⟩:ByteArray)).size≤22:=by rw[ByteArray.size_append];show d.size+1≤22;omega
 have z2:(d++(⟨#[32]⟩:ByteArray)++t).size≤2000:=by rw[ByteArray.size_append];omega
 have Z2:=Hd z2
 clear hb2 D1 num hd z2
 go_wp2_with fail
 go_ret2
 exact⟨_,rfl,(fun h=>by rw[Xgf,Xgf,HD.out,HT.out h,KF.out];simp[bs]),Z2.out,B2.out⟩
end Go.Proofs.YtohmdledkhgdaaaGreatDoor
/- canonical: checker.control. -/
namespace Go.Proofs.YtohmdledkhgdaaaGreatDoor
open Go.RowKit
set_option linter.unusedVariables false
set_option maxRecDepth 100000
theorem Fr1.env {b:Nat} {w w':World} (h:Fr1 b w w') (hE:Env w) (h9:9≤b):Env w':=Xbr hE h9 h
theorem CB.fr {w w':World} {b p:Nat} {c:Cn} {gv rv:Value} {T:TypeId} (h:CB w p c gv rv T) (hf:Fr1 b w w') (hne:p≠b):CB w' p c gv rv T:=(hf.other p (lt_of_block h) hne).trans h
theorem Fr1.on {b:Nat} {w0 w w':World} (h:Below w0.heap.size w0 w) (h':Fr1 b w w'):Fr1 b w0 w':=(Fr1.of_below h).trans h'
set_option maxHeartbeats 2000000 in
theorem Yci (w:World) (b n:Nat) (h:Ck w b n) (c:Cn) (hc:c.Ok) (gv rv:Value) (hs:c.ctl.size≤1000000) (hE:Env w) (h9:9≤b):
    Calls Tryz.prog 61 #[.pointer (some ⟨b,0,none⟩),.agg (c.cells gv rv)] w (Xb5 w b (fe n (Xvk c.p))):=by
 have hbw:=h.lt
 have B0:Below w.heap.size w (w.alloc (.cells (c.cells gv rv) 37)):=(Below.refl _ _).alloc (Nat.le_refl _) _
 have C0:=CB.new w c gv rv 37
 obtain⟨w0,hw0⟩:∃w0,w0=w.alloc (.cells (c.cells gv rv) 37):=⟨_,rfl⟩
 rw[←hw0] at B0 C0
 have H0:=Hd (h.below B0)
 have E0:=Hd (hE.on B0)
 have F0:Hid (Fr1 b w w0):=Hd (Fr1.of_below B0)
 have HC0:=Hd C0
 have HCO:=Hd hc
 have CTL:Hid (∀w',CB w' w.heap.size c gv rv 37→w'.cell? ⟨w.heap.size,53,none⟩=some (.string c.ctl)):=Hd (fun w' h=>h.at (Xc8 hc gv rv))
 have LAW:Hid (Xvk c.p=if bs c.ctl=[] then 0 else fe (eIf (!sqz (bs c.ctl)) 3) (fe (Xd4 (bs c.ctl)) (eIf (!decide (c.sup=zero32)) 11))):=Hd rfl
 have hne:w.heap.size≠b:=by omega
 have HNE:=Hd hne
 have hct:=CTL.out w0 C0
 obtain⟨t,ht⟩:∃t,t=c.ctl:=⟨_,rfl⟩
 rw[←ht] at CTL LAW hct hs
 obtain⟨cs,hcs⟩:∃cs,cs=c.cells gv rv:=⟨_,rfl⟩
 rw[←hcs] at hw0⊢
 have HW:=Hd hw0
 clear ht hcs h B0 C0 hE hc hne hw0
 by_cases h0:t.size=0
 ·obtain rfl:=Xea h0
  have L:Hid (fe n (Xvk c.p)=n):=Hd (by rw[LAW.out,if_pos (show bs ⟨#[]⟩=[] from rfl),Xow])
  clear LAW h0
  go_enter Tryz.func61,Tryz.ntmps61
  go_upto_region 1 with fail
  rw[←HW.out]
  go_wp2_with fail
  go_end0
  exact⟨⟨_,rfl⟩,by rw[L.out];exact H0.out,F0.out⟩
 ·have n0:=Xdr h0
  have L:Hid (fe n (Xvk c.p)=fe (fe (fe n (eIf (!sqz (bs t)) 3)) (Xd4 (bs t))) (eIf (!decide (c.sup=zero32)) 11)):=Hd (by
   rw[LAW.out,if_neg (fun e=>h0 (by rw[←Xaa,e];rfl)),Xi0,Xi0])
  have Q:=Hd (Xv4 t w0 hs E0.out)
  have W1:=Hd (Xbn w0 b n H0.out (!sqz (bs t)) 3)
  obtain⟨q,hq⟩:∃q,q=sqz (bs t):=⟨_,rfl⟩
  rw[←hq] at Q W1 L
  clear hq LAW h0
  go_enter Tryz.func61,Tryz.ntmps61
  go_upto_region 1 with fail
  rw[←HW.out]
  clear HW
  go_wp2_with (go_at_call 101;refine Q.out.mono ?_;rintro e w' ⟨rfl,rfl⟩)
  refine W1.out.mono ?_
  rintro e w1 ⟨⟨v,rfl⟩,h1,f1⟩
  have H1:=Hd h1;have F1:=Hd (F0.out.trans f1)
  have C1:=Hd (HC0.out.fr f1 HNE.out)
  have E1:=Hd (f1.env E0.out h9)
  clear Q W1 h1 f1 H0 F0 HC0 E0 hct n0
  have hct:=CTL.out w1 C1.out
  have P:=Hd (Xu2 t w1 hs E1.out)
  obtain⟨m,hm⟩:∃m,m=Xd4 (bs t):=⟨_,rfl⟩
  unfold Ydx at P
  rw[←hm] at P L
  clear hm
  go_wp2_with fail
  refine P.out.mono ?_
  rintro e w2 ⟨ds,a,rfl,hcl,hb2⟩
  have CL:=Hd hcl
  have STN:Hid (∀zz:Array Value,zz.size=56→(storeVar 152 ⟨w2.heap.size,0,none⟩ (.agg ds)).run Tryz.prog (w2.alloc (.cells zz 152))=.ok () (w2.alloc (.cells ds 152))):=Hd (fun zz hz=>
   run_storeVar_new w2 152 zz ds (by rw[CL.out.1];exact Xa1) (by rw[hz,CL.out.1]) CL.out.2)
  have b3:Below w1.heap.size w1 (w2.alloc (.cells ds 152)):=hb2.alloc hb2.size _
  obtain⟨w3,hw3⟩:∃w3,w3=w2.alloc (.cells ds 152):=⟨_,rfl⟩
  rw[←hw3] at b3 STN
  have H3:=H1.out.below b3
  have F3:=Hd (F1.out.trans (Fr1.of_below b3))
  have C3:=Hd (C1.out.on b3)
  have E3:=Hd (E1.out.on b3)
  have TK:=Hd (Xdk w3 b _ H3 m)
  clear hcl hb2 b3 hw3 P H1 F1 C1 E1 hct H3
  go_wp2_with ((with_reducible refine Xab 152 rfl _ _ rfl ?_);refine⟨_,_,_,rfl,rfl,STN.out _ rfl,?_⟩)
  refine TK.out.mono ?_
  rintro e w4 ⟨⟨v,rfl⟩,h4,f4⟩
  have H4:=Hd h4;have F4:=Hd (F3.out.trans f4)
  have c4:=C3.out.fr f4 HNE.out
  have LD:=Hd (c4.sup HCO.out)
  have Z:=Hd (Xfs w4 HCO.out.sup)
  obtain⟨z,hz⟩:∃z,z=decide (c.sup=zero32):=⟨_,rfl⟩
  rw[←hz] at Z L
  clear hz TK h4 f4 STN CL c4
  go_upto_region 5 with fail
  go_wp2_with ((with_reducible refine Xac 26 rfl _ rfl ?_);refine⟨_,_,rfl,LD.out,?_⟩)
  refine Z.out.mono ?_
  rintro e w5 ⟨rfl,hb5⟩
  have W5:=Hd (Xbn w5 b _ (H4.out.below hb5) (!z) 11)
  have F5:=Hd (F4.out.trans (Fr1.of_below hb5))
  clear hb5 Z LD
  go_wp2_with fail
  refine W5.out.mono ?_
  rintro e w6 ⟨⟨v,rfl⟩,h6,f6⟩
  have H6:=Hd h6;have F6:=Hd (F5.out.trans f6)
  clear h6 f6 W5
  go_wp2_with fail
  go_end0
  exact⟨⟨_,rfl⟩,by rw[L.out];exact H6.out,F6.out⟩
end Go.Proofs.YtohmdledkhgdaaaGreatDoor
/- article.badByte. -/
namespace Go.Proofs.YtohmdledkhgdaaaGreatDoor
open Go.RowKit Go.Shelf
attribute [local go_sem] Oper.semAt_some
set_option linter.unusedVariables false
set_option maxRecDepth 100000
theorem Ycy (w:World) (n:Nat):Calls Tryz.prog 148 #[.int .i32 (n:Int)] w fun e w'=>e=.returned (.bool (Xs6 n))∧w=w':=by
 obtain⟨b,hb⟩:∃b,b=Xs6 n:=⟨_,rfl⟩
 rw[←hb]
 have HB:=Hd hb
 clear hb
 rcases(by omega:n<32∨(32≤n∧n<127)∨(127≤n∧n≤159)∨(n=8232)∨(n=8233)∨(159<n∧n≠8232∧n≠8233)) with h|⟨h,h2⟩|⟨h,h2⟩|rfl|rfl|⟨h,h2,h3⟩
 all_goals
  try have q1:((n:Int)==8232)=false:=Xak (by omega)
  try have q2:((n:Int)==8233)=false:=Xak (by omega)
  go_enter Tryz.func148,Tryz.ntmps148
  go_wp2_with fail
  go_ret
  exact⟨Xa3 (by rw[HB.out,Bool.eq_iff_iff];simp[Xs6];try omega),rfl⟩
def NBox (W:World) (p:Nat):Prop:=∃n:Nat,Boxed W p 3 (.int .i64 (n:Int))
theorem NBox.own (p B:Nat):OwnFrom B (fun(_:List (Nat×Nat)) W=>NBox W p):=fun s X Y row hs hg hrow=>by
 obtain⟨n,h⟩:=hs
 exact⟨n,(Own.from (boxed_own p 3 (fun _:Unit=>.int .i64 (n:Int))) B) () X Y row h hg hrow⟩
def BbI (w:World) (p:Nat) (s:ByteArray) (pre:List (Nat×Nat)) (W:World):Prop:=
 Boxed W p 3 (.int .i64 0)∧(Boxed W (p+1) 9 (.string s)∧(Hid (pre.all (fun x=>gd true x.2)=true)∧Below p w W))
def BbX (w:World) (p:Nat) (s:ByteArray) (c:Code) (pre:List (Nat×Nat)) (W:World):Prop:=
 NBox W p∧(Hid (c=.ret∧pre.all (fun x=>gd true x.2)=false)∧Below p w W)
theorem BbI.own (w:World) (p:Nat) (s:ByteArray) (hp:p≤w.heap.size) (B:Nat) (hB:p≤B):OwnFrom B (BbI w p s):=
 OwnFrom.and (Own.from (boxed_own p 3 (fun _=>.int .i64 0)) _) (OwnFrom.and (Own.from (boxed_own (p+1) 9 (fun _=>.string s)) _) (OwnFrom.and (Xc6 B _) (ownFrom_below hp hB)))
theorem BbX.own (w:World) (p:Nat) (s:ByteArray) (c:Code) (hp:p≤w.heap.size) (B:Nat) (hB:p≤B):OwnFrom B (BbX w p s c):=
 OwnFrom.and (NBox.own p B) (OwnFrom.and (Xc6 B _) (ownFrom_below hp hB))
def Yi3 (l:List Nat) (w:World) (e:Ending) (w':World):Prop:=
 ∃n:Int,e=.returned (.int .i64 n)∧(Xhg true l=true→n<0)∧(Xhg true l=false→0≤n)∧Below w.heap.size w w'
set_option maxHeartbeats 4000000 in
theorem Ycq (s:ByteArray) (w:World) (hs:s.size≤maxLen):
    Calls Tryz.prog 108 #[.string s] w (Yi3 (bs s) w):=by
 have HS:=Hd hs
 have CK:=Hd (fun w=>Xlf s w hs)
 clear hs
 refine(callsIn_wide (n:=5)).1 ?_
 refine callsIn_of_wp_marks Tryz.func108 rfl trivial ?_ rfl
 simp only[Tryz.ntmps108,List.size_toArray,List.length_cons,List.length_nil,Nat.reduceAdd,Nat.reduceSub,Array.replicate_succ,Array.replicate_zero,List.push_toArray,List.append_toArray,List.nil_append,List.cons_append]
 gi_wp2_with fail
 refine⟨trivial,?_⟩
 gi_at_call 142
 refine(Ydb Fence.wide _ trivial rfl _ _).mono ?_
 rintro e w' ⟨rfl,rfl⟩
 gi_wp2
 obtain⟨p,hp⟩:∃p,p=w.heap.size:=⟨_,rfl⟩
 obtain⟨W0,hW0⟩:∃W0,((w.alloc (.cells #[.int .i64 0] 3)).alloc (.cells #[.string s] 9))=W0:=⟨_,rfl⟩
 have z0:W0.heap.size=p+2:=by rw[←hW0,hp];simp
 have i0':BbI w p s [] W0:=by
  rw[←hW0,hp]
  refine⟨?_,?_,Hd rfl,?_⟩
  ·exact Xcq (Boxed.new w 3 (.int .i64 0)) ((Below.refl _ _).alloc (Nat.le_refl _) _)
  ·have:=Boxed.new (w.alloc (.cells #[.int .i64 0] 3)) 9 (.string s)
   simpa using this
  ·exact((Below.refl _ w).alloc (Nat.le_refl _) _).alloc (by simp) _
 rw[hW0,←hp]
 have hc0:W0.cell? ⟨p+1,0,none⟩=some (.string s):=i0'.2.1.cell
 have HP:=Hd hp
 clear hW0 hp
 refine wpIn_rangeFunc_ownF (F:=Fence.wide) (n:=5) rfl (by omega) (gf:=180) (lb:=#[.pointer (some ⟨p+1,0,none⟩)]) rfl trivial (enters_of Tryz.func180 (by kernel_rfl) rfl)
  (Xn4 4 (by omega) (p+1) s HS.out W0 (by omega) hc0) (fun h k=>Eq.trans k h) ?keep (Below.refl _ _) (fun _=>rfl)
  (BbI w p s) (BbX w p s) (BbI.own w p s (by rw[HP.out];exact Nat.le_refl _) _ (by omega)) (fun c=>BbX.own w p s c (by rw[HP.out];exact Nat.le_refl _) _ (by omega)) i0'
  (fun x=>{tmps:=#[.string s,undef,.pointer (some ⟨p,0,none⟩),.int .i64 (x.1:Int),.int .i32 (x.2:Int),undef,undef,.string s,.func (.func 180) #[] #[.pointer (some ⟨p+1,0,none⟩)],.int .i64 (x.1:Int),.int .i32 (x.2:Int),undef,undef,undef,undef,undef,undef,undef,undef,undef,undef,undef,undef,undef,undef,undef],defers:=[]})
  ?assign ?body ?done ?stop
 case keep=>
  intro W l o o' hl _ _ _
  show(W.putObj l o').heap[p+1]?=W.heap[p+1]?
  exact(grownBy_putObj' W l o').block _ (by have:=lt_of_block ‹_›;omega) (fun e=>by cases e;omega)
 case assign=>
  rintro l x W K hK
  unfold rnV
  gi_wp2
  exact hK
 case body=>
  rintro l pre x W hI hlt
  have hb:=hI.1.cell
  have hf:=hI.1.frozen
  have HI:=Hd hI
  have UC:=Hd (fun w=>Ycy w x.2)
  have z:∃b,b=Xs6 x.2:=⟨_,rfl⟩
  obtain⟨b,hbx⟩:=z
  rw[←hbx] at UC
  have HB:=Hd hbx
  clear hbx hI
  by_cases h9:x.2=9
  ·have q9:((x.2:Int) !=9)=false:=Xat (by omega)
   have H9:=Hd h9
   clear h9
   gi_wp2
   refine⟨trivial,?_⟩
   gi_wp2
   refine⟨KeepsOthers.refl _,rfl,HI.out.1,HI.out.2.1,Hd ?_,HI.out.2.2.2⟩
   rw[List.all_append,HI.out.2.2.1.out]
   simp[gd,H9.out]
  ·have q9:((x.2:Int) !=9)=true:=Xam (by omega)
   have H9:=Hd h9
   clear h9
   cases b
   ·gi_wp2_with (refine⟨trivial,?_⟩;gi_at_call 148;refine(CallsIn.inRound l (callsIn_wide.2 (UC.out _))).mono ?_;rintro e w1 ⟨rfl,rfl⟩)
    refine⟨KeepsOthers.refl _,rfl,HI.out.1,HI.out.2.1,Hd ?_,HI.out.2.2.2⟩
    rw[List.all_append,HI.out.2.2.1.out]
    simp[gd,←HB.out]
   ·gi_wp2_with (refine⟨trivial,?_⟩;gi_at_call 148;refine(CallsIn.inRound l (callsIn_wide.2 (UC.out _))).mono ?_;rintro e w1 ⟨rfl,rfl⟩)
    refine⟨KeepsOthers.setCell _ _ _,⟨⟨x.1,Xd0 HI.out.1 0 _⟩,Hd ⟨rfl,?_⟩,HI.out.2.2.2.setCell (p:=⟨p,0,none⟩) (Nat.le_refl _) _⟩⟩
    rw[List.all_append,Bool.and_eq_false_iff]
    exact .inr (by simp[gd,←HB.out,H9.out])
 case done=>
  rintro D ys W hD rfl hI hK
  have hb:=hI.1.cell
  have hf:=hI.1.frozen
  have HI:=Hd hI
  have G:Hid (Xhg true (bs s)=vld (bs s)):=Hd (by unfold Xhg;rw[hI.2.2.1.out,Bool.and_true])
  have CW:=Hd (CK.out W)
  have HK:=Hd hK
  clear hI hK
  gi_wp2_with fail
  refine⟨trivial,?_⟩
  gi_at_call 149
  refine(callsIn_wide.2 CW.out).mono ?_
  rintro e w1 ⟨n,er,rfl,h1,h2,⟨q,rfl⟩⟩
  cases hv:vld (bs s)
  ·have q1:(er !=0)=true:=Xam (h2 hv)
   have HV:=Hd hv
   clear h1 h2 hv
   gi_wp2
   have hK':=(KeepsOthers.setCell (W.drewN q) ⟨p,0,none⟩ (.int .i64 (n:Int))).same D _ HK.out rfl
   refine⟨by simp,.inl ⟨_,_,rfl,run_takeDeferred hK',?_⟩⟩
   have hc5:=cell_kept (World.cell?_setCell_same' (W.drewN q) ⟨p,0,none⟩ (.int .i64 (n:Int)) (by show(W.cell? _).isSome=true;rw[hb];rfl)) (grownBy_putObj' _ D (.deferred none)) (fun r e=>by cases e;exact⟨_,hK',rfl⟩)
   refine⟨.int .i64 (n:Int),?_,(n:Int),rfl,(fun h=>by rw[G.out,HV.out] at h;cases h),(fun _=>by omega),?_⟩
   ·simp[results,Tryz.f108,go_sem,hc5]
   ·exact(((HI.out.2.2.2.mono (Nat.le_of_eq HP.out.symm)).trans ((Dr.below ⟨q,rfl⟩).mono (by have:=HI.out.2.1.lt;have:=HP.out;omega))).setCell (p:=⟨p,0,none⟩) (Nat.le_of_eq HP.out.symm) _).trans (belowK_b (w:=w) (Nat.le_refl _) _ D _ _ (by have:=HP.out;omega) hK' rfl rfl)
  ·obtain rfl:=h1 hv
   have HV:=Hd hv
   clear h1 h2 hv
   gi_wp2
   have hK':=(KeepsOthers.setCell (W.drewN q) ⟨p,0,none⟩ (.int .i64 (-1))).same D _ HK.out rfl
   refine⟨by simp,.inl ⟨_,_,rfl,run_takeDeferred hK',?_⟩⟩
   have hc5:=cell_kept (World.cell?_setCell_same' (W.drewN q) ⟨p,0,none⟩ (.int .i64 (-1)) (by show(W.cell? _).isSome=true;rw[hb];rfl)) (grownBy_putObj' _ D (.deferred none)) (fun r e=>by cases e;exact⟨_,hK',rfl⟩)
   refine⟨.int .i64 (-1),?_,-1,rfl,(fun _=>by omega),(fun h=>by rw[G.out,HV.out] at h;cases h),?_⟩
   ·simp[results,Tryz.f108,go_sem,hc5]
   ·exact(((HI.out.2.2.2.mono (Nat.le_of_eq HP.out.symm)).trans ((Dr.below ⟨q,rfl⟩).mono (by have:=HI.out.2.1.lt;have:=HP.out;omega))).setCell (p:=⟨p,0,none⟩) (Nat.le_of_eq HP.out.symm) _).trans (belowK_b (w:=w) (Nat.le_refl _) _ D _ _ (by have:=HP.out;omega) hK' rfl rfl)
 case stop=>
  rintro D c pre W hD ⟨q,hq⟩ hI hK
  obtain⟨⟨n,h1⟩,h2,h3⟩:=hI
  obtain⟨rfl,h4⟩:=h2.out
  have h5:=h1.cell
  have GF:Hid (Xhg true (bs s)=false):=Hd (by unfold Xhg;rw[←hq,List.all_append,h4];simp)
  clear hq h4
  gi_wp2
  refine⟨by simp,.inl ⟨_,_,rfl,run_takeDeferred hK,?_⟩⟩
  have hc5:=cell_kept h5 (grownBy_putObj' _ D (.deferred none)) (fun r e=>by cases e;exact⟨_,hK,rfl⟩)
  refine⟨.int .i64 (n:Int),?_,(n:Int),rfl,(fun h=>by rw[GF.out] at h;cases h),(fun _=>by omega),(h3.mono (Nat.le_of_eq HP.out.symm)).trans (belowK_b (w:=w) (Nat.le_refl _) _ D _ _ (by have:=HP.out;omega) hK rfl rfl)⟩
  simp[results,Tryz.f108,go_sem,hc5]
end Go.Proofs.YtohmdledkhgdaaaGreatDoor
/- Plain: the lines of a body and their errors. -/
namespace Go.Proofs.YtohmdledkhgdaaaGreatDoor
set_option linter.unusedVariables false
def Xil (n a:Nat) (ln:List Nat):Nat:=if a+ln.length=n then 4 else if 998<ln.length then 5 else if Xhg true ln=false then 6 else 0
def Xcb (n:Nat):Nat→List (List Nat)→Nat
 |_,[]=>0
 |a,ln::r=>if Xil n a ln≠0 then Xil n a ln else Xcb n (a+ln.length+1) r
def Xnl (ls:List (List Nat)):Nat:=(ls.map fun l=>l.length+1).sum
def Xzs:Nat→List Nat→List (List Nat)
 |0,_=>[]
 |k+1,l=>if l=[] then[] else Xe2 l::Xzs k (l.drop ((Xe2 l).length+1))
def lns (l:List Nat):List (List Nat):=Xzs l.length l
theorem Xqf (l:List Nat):(Xe2 l).length≤l.length:=by
 unfold Xe2;exact(List.takeWhile_sublist _).length_le
theorem Xsn (n:Nat):∀(k a:Nat) (l:List Nat),a+l.length=n→Xcb n a (Xzs k l)=Xnc k l
 |0,_,_,_=>rfl
 |k+1,a,l,h=>by
  by_cases h0:l=[]
  ·subst h0;simp[Xzs,Xnc,Xcb]
  ·have hl:=Xqf l
   simp only[Xzs,Xnc,if_neg h0,Xcb]
   have e:Xil n a (Xe2 l)=if(Xe2 l).length=l.length then 4 else if 998<(Xe2 l).length then 5 else if Xhg true (Xe2 l)=false then 6 else 0:=by
    unfold Xil
    by_cases h1:(Xe2 l).length=l.length
    ·rw[if_pos (by omega),if_pos h1]
    ·rw[if_neg (by omega),if_neg h1]
   rw[e]
   by_cases h1:(Xe2 l).length=l.length
   ·simp[h1]
   ·by_cases h2:998<(Xe2 l).length
    ·simp[h1,h2]
    ·by_cases h3:Xhg true (Xe2 l)=false
     ·simp[h1,h2,h3]
     ·have ih:=Xsn n k (a+(Xe2 l).length+1) (l.drop ((Xe2 l).length+1)) (by rw[List.length_drop];omega)
      simp[h1,h2,h3,ih]
theorem Ye3 (l:List Nat):Xcb l.length 0 (lns l)=Xfk l:=Xsn l.length l.length 0 l (by omega)
theorem Xhr (n:Nat):∀(p q:List (List Nat)) (a:Nat),Xcb n a (p++q)=if Xcb n a p≠0 then Xcb n a p else Xcb n (a+Xnl p) q
 |[],q,a=>by simp[Xcb,Xnl]
 |x::p,q,a=>by
  simp only[List.cons_append,Xcb]
  rw[Xhr n p q]
  by_cases h:Xil n a x=0
  ·simp[h,Xnl,Nat.add_assoc]
  ·simp[h]
theorem Xjz (n:Nat) (p:List (List Nat)) (x:List Nat) (h:Xcb n 0 p=0):Xcb n 0 (p++[x])=Xil n (Xnl p) x:=by
 rw[Xhr,h];simp[Xcb];intro e;exact e.symm
theorem Xzc (p:List (List Nat)) (x:List Nat):Xnl (p++[x])=Xnl p+x.length+1:=by simp[Xnl];omega
theorem Ygd (p:List (List Nat)) (m:Nat) (h:∀x∈p,x.length≤m):Xnl p≤p.length*(m+1):=by
 induction p with
 |nil=>simp[Xnl]
 |cons x p ih=>
  have h1:=h x (by simp)
  have h2:=ih (fun y hy=>h y (by simp[hy]))
  simp only[Xnl,List.map_cons,List.sum_cons,List.length_cons] at h2⊢
  rw[Nat.succ_mul];omega
theorem Ye4:∀(n:Nat) (l:List Nat) (k:Nat),l.length≤n→l.length≤k→Xzs k l=Xzs l.length l:=by
 intro n
 induction n with
 |zero=>
  intro l k hl hk
  have:l=[]:=List.length_eq_zero_iff.1 (by omega)
  subst this
  cases k<;>rfl
 |succ n ih=>
  intro l k hl hk
  cases l with
  |nil=>cases k<;>rfl
  |cons x l=>
   cases k with
   |zero=>simp at hk
   |succ k=>
    rw[List.length_cons]
    simp only[Xzs]
    have hl':l.length≤n:=by simpa using hl
    have hk':l.length≤k:=by simpa using hk
    rw[ih _ k (by simp;omega) (by simp;omega),ih _ l.length (by simp;omega) (by simp)]
theorem Ybk {l:List Nat} (h:l≠[]):lns l=Xe2 l::lns (l.drop ((Xe2 l).length+1)):=by
 cases l with
 |nil=>exact absurd rfl h
 |cons x l=>
  unfold lns
  rw[List.length_cons]
  simp only[Xzs]
  rw[if_neg (by simp),Ye4 l.length _ l.length (by simp) (by simp)]
end Go.Proofs.YtohmdledkhgdaaaGreatDoor
