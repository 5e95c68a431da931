/- bulletinref17.word: the words of the sorts version, number, mode. -/
import Derived.Test.YtohmdledkhgdaaaGreatDoorPa35
namespace Go.Proofs.YtohmdledkhgdaaaGreatDoor
open Go.RowKit
set_option linter.unusedVariables false
set_option maxRecDepth 100000
set_option maxHeartbeats 4000000 in
theorem Xmj (w:World) (cs:Array Value) (k:Nat) (m:Bool) (x:ByteArray) (hs:x.size≤100000) (h:RC cs k m true):
    Calls Tryz.prog 133 #[.agg cs,.string ⟨#[118,101,114,115,105,111,110]⟩,.string x] w (Xbk k 2 m (bs x) w):=by
 obtain⟨w0,hw0⟩:∃w0,w0=(w.alloc (.cells cs 140)).alloc (.cells z17 140):=⟨_,rfl⟩
 obtain⟨r0,q0,b0,s0⟩:=Xep w cs h w0 hw0
 obtain⟨Z,hZ⟩:∃Z,Z=Ydf (bs x):=⟨_,rfl⟩
 have NM:=Hd (fun w=>Xlj x w (by unfold maxLen;omega))
 rw[←hZ] at NM
 have HZ:=Hd hZ
 have R0:=Hd r0;have Q0:=Hd q0;have B0:=Hd b0
 have HW:=Hd hw0
 clear hw0 h r0 q0 b0 s0 hZ
 go_enter Tryz.func133,Tryz.ntmps133
 go_upto_region 1 with fail
 have W':=HW.out
 unfold z17 at W'
 rw[←W']
 clear W' HW
 go_wp2_with fail
 refine(NM.out w0).mono ?_
 rintro e w1 ⟨rfl,hd⟩
 have r0:RB w1 w.heap.size k m true:=R0.out.on (Dr.below hd)
 have q0:w1.heap[w.heap.size+1]?=some (.cells z17 140 (0,0)):=((Dr.below hd:Below w0.heap.size w0 w1).block _ (lt_of_block Q0.out)).trans Q0.out
 have b0:Below w.heap.size w w1:=B0.out.trans ((Dr.below hd:Below w0.heap.size w0 w1).mono B0.out.size)
 obtain⟨u,cu,fu⟩:=r0.cell (show 34<56 by omega)
 obtain⟨r1,c1⟩:=r0.set 34 (u:=.int .i64 Z) rfl (by omega) (by omega) (by omega) (by omega)
 obtain⟨q1,b1⟩:=Xn0 r0 q0 b0 34 (.int .i64 Z)
 have R1:=Hd r1;have C1:=Hd c1;have Q1:=Hd q1;have B1:=Hd b1
 clear hd r0 q0 b0 r1 q1 b1 c1 NM R0 Q0 B0
 go_upto_region 15 with fail
 obtain⟨w2,hw2⟩:∃w2,w2=w1.setCell ⟨w.heap.size,34,none⟩ (.int .i64 Z):=⟨_,rfl⟩
 rw[←hw2] at R1 C1 Q1 B1⊢
 clear hw2 cu fu
 have c1:=C1.out
 obtain⟨cs',rc,ld,st,rs,bb⟩:=Xeb w w2 (R1.out) (Q1.out) (B1.out)
 have RCX:=Hd rc;have LD:=Hd ld;have ST:=Hd st;have RES:=Hd rs;have BB:=Hd bb
 clear rc ld st rs bb
 have POST:Hid (∀er:Nat,er=Xe1 0 1000000 (bs x)→Xbk k 2 m (bs x) w (.returned (.tuple #[.agg cs',.int .i64 (er:Int)])) (w2.setRow (w.heap.size+1) cs')):=Hd (fun er he=>⟨cs',by rw[he];rfl,RCX.out,BB.out⟩)
 clear C1 R1 Q1 B1
 have NF:(Z=-1∧Xe1 0 1000000 (bs x)=3)∨(∃n:Nat,Z=(n:Int)∧Xe1 0 1000000 (bs x)=if n<0∨1000000<n then 2 else 0):=by
  have hz:=HZ.out
  unfold Ydf at hz;unfold Xe1
  cases hp:Xkx (bs x) with
  |none=>rw[hp] at hz;exact .inl ⟨hz,rfl⟩
  |some n=>rw[hp] at hz;exact .inr ⟨n,hz,rfl⟩
 rcases NF with⟨rfl,hf⟩|⟨n,rfl,hf⟩
 ·have A0:Hid (Xbk k 2 m (bs x) w (.returned (.tuple #[.agg cs',.int .i64 3])) (w2.setRow (w.heap.size+1) cs')):=Hd (POST.out 3 hf.symm)
  clear hf POST HZ
  go_wp2_with (first
   |((with_reducible refine Xac 140 rfl _ rfl ?_);refine⟨_,_,rfl,LD.out,?_⟩)
   |((with_reducible refine Xab 140 rfl _ _ rfl ?_);refine⟨_,_,_,rfl,rfl,ST.out,?_⟩))
  exact bodyPost_ret (RES.out _ rfl) rfl A0.out
 ·by_cases h1:1000000<n
  ·have A0:Hid (Xbk k 2 m (bs x) w (.returned (.tuple #[.agg cs',.int .i64 2])) (w2.setRow (w.heap.size+1) cs')):=Hd (POST.out 2 (by rw[hf,if_pos (.inr h1)]))
   clear hf POST HZ
   go_wp2_with (first
    |((with_reducible refine Xac 140 rfl _ rfl ?_);refine⟨_,_,rfl,LD.out,?_⟩)
    |((with_reducible refine Xab 140 rfl _ _ rfl ?_);refine⟨_,_,_,rfl,rfl,ST.out,?_⟩))
   exact bodyPost_ret (RES.out _ rfl) rfl A0.out
  ·have A0:Hid (Xbk k 2 m (bs x) w (.returned (.tuple #[.agg cs',.int .i64 0])) (w2.setRow (w.heap.size+1) cs')):=Hd (POST.out 0 (by rw[hf,if_neg (by omega)]))
   clear hf POST HZ
   go_wp2_with (first
    |((with_reducible refine Xac 140 rfl _ rfl ?_);refine⟨_,_,rfl,LD.out,?_⟩)
    |((with_reducible refine Xab 140 rfl _ _ rfl ?_);refine⟨_,_,_,rfl,rfl,ST.out,?_⟩))
   exact bodyPost_ret (RES.out _ rfl) rfl A0.out
set_option maxHeartbeats 4000000 in
theorem Xnz (w:World) (cs:Array Value) (k:Nat) (m:Bool) (x:ByteArray) (hs:x.size≤100000) (h:RC cs k m true):
    Calls Tryz.prog 133 #[.agg cs,.string ⟨#[110,117,109,98,101,114]⟩,.string x] w (Xbk k 5 m (bs x) w):=by
 obtain⟨w0,hw0⟩:∃w0,w0=(w.alloc (.cells cs 140)).alloc (.cells z17 140):=⟨_,rfl⟩
 obtain⟨r0,q0,b0,s0⟩:=Xep w cs h w0 hw0
 obtain⟨Z,hZ⟩:∃Z,Z=Ydf (bs x):=⟨_,rfl⟩
 have NM:=Hd (fun w=>Xlj x w (by unfold maxLen;omega))
 rw[←hZ] at NM
 have HZ:=Hd hZ
 have R0:=Hd r0;have Q0:=Hd q0;have B0:=Hd b0
 have HW:=Hd hw0
 clear hw0 h r0 q0 b0 s0 hZ
 go_enter Tryz.func133,Tryz.ntmps133
 go_upto_region 1 with fail
 have W':=HW.out
 unfold z17 at W'
 rw[←W']
 clear W' HW
 go_wp2_with fail
 refine(NM.out w0).mono ?_
 rintro e w1 ⟨rfl,hd⟩
 have r0:RB w1 w.heap.size k m true:=R0.out.on (Dr.below hd)
 have q0:w1.heap[w.heap.size+1]?=some (.cells z17 140 (0,0)):=((Dr.below hd:Below w0.heap.size w0 w1).block _ (lt_of_block Q0.out)).trans Q0.out
 have b0:Below w.heap.size w w1:=B0.out.trans ((Dr.below hd:Below w0.heap.size w0 w1).mono B0.out.size)
 obtain⟨u,cu,fu⟩:=r0.cell (show 38<56 by omega)
 obtain⟨r1,c1⟩:=r0.set 38 (u:=.int .i64 Z) rfl (by omega) (by omega) (by omega) (by omega)
 obtain⟨q1,b1⟩:=Xn0 r0 q0 b0 38 (.int .i64 Z)
 have R1:=Hd r1;have C1:=Hd c1;have Q1:=Hd q1;have B1:=Hd b1
 clear hd r0 q0 b0 r1 q1 b1 c1 NM R0 Q0 B0
 go_upto_region 21 with fail
 obtain⟨w2,hw2⟩:∃w2,w2=w1.setCell ⟨w.heap.size,38,none⟩ (.int .i64 Z):=⟨_,rfl⟩
 rw[←hw2] at R1 C1 Q1 B1⊢
 clear hw2 cu fu
 have c1:=C1.out
 obtain⟨cs',rc,ld,st,rs,bb⟩:=Xeb w w2 (R1.out) (Q1.out) (B1.out)
 have RCX:=Hd rc;have LD:=Hd ld;have ST:=Hd st;have RES:=Hd rs;have BB:=Hd bb
 clear rc ld st rs bb
 have POST:Hid (∀er:Nat,er=Xe1 1 1000 (bs x)→Xbk k 5 m (bs x) w (.returned (.tuple #[.agg cs',.int .i64 (er:Int)])) (w2.setRow (w.heap.size+1) cs')):=Hd (fun er he=>⟨cs',by rw[he];rfl,RCX.out,BB.out⟩)
 clear C1 R1 Q1 B1
 have NF:(Z=-1∧Xe1 1 1000 (bs x)=3)∨(∃n:Nat,Z=(n:Int)∧Xe1 1 1000 (bs x)=if n<1∨1000<n then 2 else 0):=by
  have hz:=HZ.out
  unfold Ydf at hz;unfold Xe1
  cases hp:Xkx (bs x) with
  |none=>rw[hp] at hz;exact .inl ⟨hz,rfl⟩
  |some n=>rw[hp] at hz;exact .inr ⟨n,hz,rfl⟩
 rcases NF with⟨rfl,hf⟩|⟨n,rfl,hf⟩
 ·have A0:Hid (Xbk k 5 m (bs x) w (.returned (.tuple #[.agg cs',.int .i64 3])) (w2.setRow (w.heap.size+1) cs')):=Hd (POST.out 3 hf.symm)
  clear hf POST HZ
  go_wp2_with (first
   |((with_reducible refine Xac 140 rfl _ rfl ?_);refine⟨_,_,rfl,LD.out,?_⟩)
   |((with_reducible refine Xab 140 rfl _ _ rfl ?_);refine⟨_,_,_,rfl,rfl,ST.out,?_⟩))
  exact bodyPost_ret (RES.out _ rfl) rfl A0.out
 ·by_cases h1:1000<n
  ·have A0:Hid (Xbk k 5 m (bs x) w (.returned (.tuple #[.agg cs',.int .i64 2])) (w2.setRow (w.heap.size+1) cs')):=Hd (POST.out 2 (by rw[hf,if_pos (.inr h1)]))
   clear hf POST HZ
   go_wp2_with (first
    |((with_reducible refine Xac 140 rfl _ rfl ?_);refine⟨_,_,rfl,LD.out,?_⟩)
    |((with_reducible refine Xab 140 rfl _ _ rfl ?_);refine⟨_,_,_,rfl,rfl,ST.out,?_⟩))
   exact bodyPost_ret (RES.out _ rfl) rfl A0.out
  ·by_cases h2:n<1
   ·have A0:Hid (Xbk k 5 m (bs x) w (.returned (.tuple #[.agg cs',.int .i64 2])) (w2.setRow (w.heap.size+1) cs')):=Hd (POST.out 2 (by rw[hf,if_pos (.inl h2)]))
    clear hf POST HZ
    go_wp2_with (first
     |((with_reducible refine Xac 140 rfl _ rfl ?_);refine⟨_,_,rfl,LD.out,?_⟩)
     |((with_reducible refine Xab 140 rfl _ _ rfl ?_);refine⟨_,_,_,rfl,rfl,ST.out,?_⟩))
    exact bodyPost_ret (RES.out _ rfl) rfl A0.out
   ·have A0:Hid (Xbk k 5 m (bs x) w (.returned (.tuple #[.agg cs',.int .i64 0])) (w2.setRow (w.heap.size+1) cs')):=Hd (POST.out 0 (by rw[hf,if_neg (by omega)]))
    clear hf POST HZ
    go_wp2_with (first
     |((with_reducible refine Xac 140 rfl _ rfl ?_);refine⟨_,_,rfl,LD.out,?_⟩)
     |((with_reducible refine Xab 140 rfl _ _ rfl ?_);refine⟨_,_,_,rfl,rfl,ST.out,?_⟩))
    exact bodyPost_ret (RES.out _ rfl) rfl A0.out
set_option maxHeartbeats 4000000 in
theorem Xtr (w:World) (cs:Array Value) (k:Nat) (m:Bool) (x:ByteArray) (hs:x.size≤100000) (h:RC cs k m true):
    Calls Tryz.prog 133 #[.agg cs,.string ⟨#[109,111,100,101]⟩,.string x] w (Xbk k 3 m (bs x) w):=by
 obtain⟨w0,hw0⟩:∃w0,w0=(w.alloc (.cells cs 140)).alloc (.cells z17 140):=⟨_,rfl⟩
 obtain⟨r0,q0,b0,s0⟩:=Xep w cs h w0 hw0
 obtain⟨u,cu,fu⟩:=r0.cell (show 35<56 by omega)
 obtain⟨b,hb⟩:∃b,b=decide (bs x=Xh4):=⟨_,rfl⟩
 obtain⟨r1,c1⟩:=r0.setM b
 obtain⟨q1,b1⟩:=Xn0 r0 q0 b0 35 (.bool b)
 have R1:=Hd r1;have C1:=Hd c1;have Q1:=Hd q1;have B1:=Hd b1
 have POST:Hid (∀w2 cs',RC cs' k b true→Below w.heap.size w w2→∀er:Nat,er=(if bs x=Xgj∨bs x=Xh4 then 0 else 3)→Xbk k 3 m (bs x) w (.returned (.tuple #[.agg cs',.int .i64 (er:Int)])) w2):=Hd (fun w2 cs' h1 h2 er he=>⟨cs',by rw[he];rfl,by rw[if_pos rfl,←hb];exact h1,h2⟩)
 have HW:=Hd hw0
 clear hw0 h r0 q0 b0 s0 r1 c1 q1 b1
 go_enter Tryz.func133,Tryz.ntmps133
 go_upto_region 1 with fail
 have W':=HW.out
 unfold z17 at W'
 rw[←W']
 clear W' HW
 by_cases hm:x=(⟨#[109,111,100,101,114,97,116,101,100]⟩:ByteArray)
 ·have hb1:b=true:=by rw[hb,hm];rfl
  have LAW:Hid (bs x=Xh4):=Hd (by rw[hm];rfl)
  have PO:=Hd hm
  clear hb
  subst hb1
  subst hm
  go_upto_region 27 with fail
  obtain⟨w2,hw2⟩:∃w2,w2=w0.setCell ⟨w.heap.size,35,none⟩ (.bool true):=⟨_,rfl⟩
  rw[←hw2] at R1 C1 Q1 B1⊢
  clear hw2 cu fu
  have c1:=C1.out
  obtain⟨cs',rc,ld,st,rs,bb⟩:=Xeb w w2 (R1.out) (Q1.out) (B1.out)
  have RCX:=Hd rc;have LD:=Hd ld;have ST:=Hd st;have RES:=Hd rs;have BB:=Hd bb
  clear rc ld st rs bb
  have A0:Hid (Xbk k 3 m (bs (⟨#[109,111,100,101,114,97,116,101,100]⟩:ByteArray)) w (.returned (.tuple #[.agg cs',.int .i64 0])) (w2.setRow (w.heap.size+1) cs')):=Hd (POST.out _ cs' RCX.out BB.out 0 (by rw[if_pos (.inr LAW.out)]))
  clear POST C1 R1 Q1 B1
  go_wp2_with (first
   |((with_reducible refine Xac 140 rfl _ rfl ?_);refine⟨_,_,rfl,LD.out,?_⟩)
   |((with_reducible refine Xab 140 rfl _ _ rfl ?_);refine⟨_,_,_,rfl,rfl,ST.out,?_⟩))
  exact bodyPost_ret (RES.out _ rfl) rfl A0.out
 ·have hnm:bs x≠Xh4:=fun e=>hm (Xgm (e.trans (by rfl)))
  have q2:(x.toList==[109,111,100,101,114,97,116,101,100])=false:=by
   rw[beq_eq_false_iff_ne];intro e;apply hm;apply ByteArray.ext;apply Array.toList_inj.1;rw[←ByteArray.toList_eq];exact e
  have hb1:b=false:=by rw[hb,decide_eq_false hnm]
  have HNM:=Hd hnm
  clear hb hnm hm
  subst hb1
  by_cases ho:x=⟨#[111,112,101,110]⟩
  ·have LAW:Hid (bs x=Xgj):=Hd (by rw[ho];rfl)
   subst ho
   clear q2
   go_upto_region 27 with fail
   obtain⟨w2,hw2⟩:∃w2,w2=w0.setCell ⟨w.heap.size,35,none⟩ (.bool false):=⟨_,rfl⟩
   rw[←hw2] at R1 C1 Q1 B1⊢
   clear hw2 cu fu
   have c1:=C1.out
   obtain⟨cs',rc,ld,st,rs,bb⟩:=Xeb w w2 (R1.out) (Q1.out) (B1.out)
   have RCX:=Hd rc;have LD:=Hd ld;have ST:=Hd st;have RES:=Hd rs;have BB:=Hd bb
   clear rc ld st rs bb
   have A0:Hid (Xbk k 3 m (bs (⟨#[111,112,101,110]⟩:ByteArray)) w (.returned (.tuple #[.agg cs',.int .i64 0])) (w2.setRow (w.heap.size+1) cs')):=Hd (POST.out _ cs' RCX.out BB.out 0 (by rw[if_pos (.inl LAW.out)]))
   clear POST C1 R1 Q1 B1
   go_wp2_with (first
    |((with_reducible refine Xac 140 rfl _ rfl ?_);refine⟨_,_,rfl,LD.out,?_⟩)
    |((with_reducible refine Xab 140 rfl _ _ rfl ?_);refine⟨_,_,_,rfl,rfl,ST.out,?_⟩))
   exact bodyPost_ret (RES.out _ rfl) rfl A0.out
  ·have hno:bs x≠Xgj:=fun e=>ho (Xgm (e.trans (by rfl)))
   have q1:(x.toList==[111,112,101,110])=false:=by
    rw[beq_eq_false_iff_ne];intro e;apply ho;apply ByteArray.ext;apply Array.toList_inj.1;rw[←ByteArray.toList_eq];exact e
   have HNO:=Hd hno
   clear ho hno
   go_upto_region 27 with fail
   obtain⟨w2,hw2⟩:∃w2,w2=w0.setCell ⟨w.heap.size,35,none⟩ (.bool false):=⟨_,rfl⟩
   rw[←hw2] at R1 C1 Q1 B1⊢
   clear hw2 cu fu
   have c1:=C1.out
   obtain⟨cs',rc,ld,st,rs,bb⟩:=Xeb w w2 (R1.out) (Q1.out) (B1.out)
   have RCX:=Hd rc;have LD:=Hd ld;have ST:=Hd st;have RES:=Hd rs;have BB:=Hd bb
   clear rc ld st rs bb
   have A0:Hid (Xbk k 3 m (bs x) w (.returned (.tuple #[.agg cs',.int .i64 3])) (w2.setRow (w.heap.size+1) cs')):=Hd (POST.out _ cs' RCX.out BB.out 3 (by rw[if_neg (fun h=>h.elim HNO.out HNM.out)]))
   clear POST C1 R1 Q1 B1
   go_wp2_with (first
    |((with_reducible refine Xac 140 rfl _ rfl ?_);refine⟨_,_,rfl,LD.out,?_⟩)
    |((with_reducible refine Xab 140 rfl _ _ rfl ?_);refine⟨_,_,_,rfl,rfl,ST.out,?_⟩))
   exact bodyPost_ret (RES.out _ rfl) rfl A0.out
theorem Xrz:(Tryz.prog.info? 124).map (·.size)=some 32:=by kernel_rfl
theorem Xr2:(Tryz.prog.info? 25).map (·.size)=some 32:=by kernel_rfl
theorem Xor:Tryz.prog.eqGuardType Tryz.prog.depth 25=false:=by kernel_rfl
set_option maxHeartbeats 4000000 in
theorem Xnx (w:World) (cs:Array Value) (k:Nat) (m:Bool) (x:ByteArray) (hs:x.size≤100000) (h:RC cs k m true):
    Calls Tryz.prog 133 #[.agg cs,.string ⟨#[116,97,114,103,101,116]⟩,.string x] w (Xbk k 0 m (bs x) w):=by
 obtain⟨w0,hw0⟩:∃w0,w0=(w.alloc (.cells cs 140)).alloc (.cells z17 140):=⟨_,rfl⟩
 obtain⟨r0,q0,b0,s0⟩:=Xep w cs h w0 hw0
 obtain⟨zs,hzs⟩:∃zs,zs=idA zero32:=⟨_,rfl⟩
 have BZ:Hid (∀w,(Instr.build 25 #[]).run Tryz.prog w=.ok (.agg zs) w):=Hd (fun w=>by rw[hzs];kernel_rfl)
 have MP:=Hd (Xtx x w0 (by omega))
 have R0:=Hd r0;have Q0:=Hd q0;have B0:=Hd b0
 have HW:=Hd hw0;have HZS:=Hd hzs
 clear hw0 h r0 q0 b0 s0 hzs
 go_enter Tryz.func133,Tryz.ntmps133
 go_upto_region 1 with fail
 have W':=HW.out
 unfold z17 at W'
 rw[←W']
 clear W' HW
 go_wp2_with fail
 refine MP.out.mono ?_
 rintro e w1 ⟨ao,er,hmid,hb1⟩
 have hpost:∃(ids:List Nat) (er':Int),e=.returned (.tuple #[.agg (idA ids),.int .i64 ao,.int .i64 er'])∧IdOk ids∧((Xe4 (bs x)=none∧er'≠0)∨(Xe4 (bs x)=some ids∧er'=0)):=by
  cases hp:Xe4 (bs x) with
  |none=>rw[hp] at hmid;exact⟨zero32,er,hmid.1,zero_ok,.inl ⟨rfl,hmid.2⟩⟩
  |some i=>rw[hp] at hmid;exact⟨i,0,hmid,Xln hp,.inr ⟨rfl,rfl⟩⟩
 clear hmid MP
 obtain⟨ids,er',rfl,hok,hlaw⟩:=hpost
 obtain⟨ic,hic⟩:∃ic,ic=idA ids:=⟨_,rfl⟩
 have ICL:Hid (Cl 32 ic):=Hd (by rw[hic];exact Ycg hok)
 have EQ:Hid (∀w,(Op.equal 25 (.agg ic) (.agg zs)).run Tryz.prog w=.ok (decide (ids=zero32)) w):=Hd (fun w=>by
  rw[hic,HZS.out];exact Xoy Tryz.underlying25 (by kernel_rfl) (by kernel_rfl) w hok.len hok.lt zero_ok.len zero_ok.lt)
 rw[←hic]
 have STN:Hid (∀zz:Array Value,zz.size=32→(storeVar 124 ⟨w1.heap.size,0,none⟩ (.agg ic)).run Tryz.prog (w1.alloc (.cells zz 124))=.ok () (w1.alloc (.cells ic 124))):=Hd (fun zz hz=>run_storeVar_new w1 124 zz ic (by rw[ICL.out.1];exact Xrz) (by rw[hz,ICL.out.1]) ICL.out.2)
 have hb3:Below w0.heap.size w0 (w1.alloc (.cells ic 124)):=hb1.alloc hb1.size _
 have R3:=Hd (R0.out.on hb3)
 have Q3:=Hd ((hb3.block _ (lt_of_block Q0.out)).trans Q0.out)
 have B3:=Hd (B0.out.trans (hb3.mono B0.out.size))
 have I3:=Hd (heap_alloc_new w1 (.cells ic 124))
 have GW:Hid (w.heap.size<w1.heap.size):=Hd (by have:=R0.out.lt;have:=hb1.size;omega)
 clear hic hb1 hb3 R0 Q0 B0
 have HLAW:=Hd hlaw;have HOK:=Hd hok
 clear hok hlaw
 go_upto_region 4 with((with_reducible refine Xab 124 rfl _ _ rfl ?_);refine⟨_,_,_,rfl,rfl,STN.out _ rfl,?_⟩)
 obtain⟨w3,hw3⟩:∃w3,w3=w1.alloc (.cells ic 124):=⟨_,rfl⟩
 obtain⟨g,hg⟩:∃g,g=w1.heap.size:=⟨_,rfl⟩
 rw[←hw3] at R3 Q3 B3 I3⊢
 rw[←hg] at I3 GW⊢
 clear hw3 hg STN
 rcases HLAW.out with⟨hn,he⟩|⟨hn,rfl⟩
 ·have q1:(er' !=0)=true:=by simpa using he
  obtain⟨cs',rc,ld,st,rs,bb⟩:=Xeb w w3 (R3.out) (Q3.out) (B3.out)
  have RCX:=Hd rc;have LD:=Hd ld;have ST:=Hd st;have RES:=Hd rs;have BB:=Hd bb
  clear rc ld st rs bb
  have A0:Hid (Xbk k 0 m (bs x) w (.returned (.tuple #[.agg cs',.int .i64 3])) (w3.setRow (w.heap.size+1) cs')):=Hd ⟨cs',by show _=Ending.returned (.tuple #[_,.int .i64 ((Xhe (bs x):Nat):Int)]);unfold Xhe;rw[hn];rfl,RCX.out,BB.out⟩
  clear he hn HLAW R3 Q3 B3 I3 EQ
  go_wp2_with (first
   |((with_reducible refine Xac 140 rfl _ rfl ?_);refine⟨_,_,rfl,LD.out,?_⟩)
   |((with_reducible refine Xab 140 rfl _ _ rfl ?_);refine⟨_,_,_,rfl,rfl,ST.out,?_⟩))
  exact bodyPost_ret (RES.out _ rfl) rfl A0.out
 ·have LDI:=Hd (Xal w3 g 32 _ _ ic _ _ I3.out rfl Tryz.underlying124 Xrz ICL.out.1)
  obtain⟨st1,r4,f4,c4⟩:=R3.out.store 1 32 (by omega) 25 ICL.out Xr2
  have ST1:=Hd st1
  have R4:=Hd r4;have C4:=Hd c4
  have Q4:=Hd ((f4.other _ (lt_of_block Q3.out) (by omega)).trans Q3.out)
  have B4:=Hd (B3.out.trans (f4.below B3.out.size (Nat.le_refl _)))
  have TG:Hid (Xhe (bs x)=if ids=zero32 then 1 else 0):=Hd (by unfold Xhe;rw[hn])
  clear st1 r4 f4 c4 R3 Q3 B3 HLAW hn
  go_upto_region 7 with(first
   |((with_reducible refine Xac 124 rfl _ rfl ?_);refine⟨_,_,rfl,LDI.out,?_⟩)
   |((with_reducible refine Xab 25 rfl _ _ rfl ?_);refine⟨_,_,_,rfl,rfl,ST1.out,?_⟩))
  obtain⟨w4,hw4⟩:∃w4,w4=w3.setCells w.heap.size 1 ic.toList:=⟨_,rfl⟩
  rw[←hw4] at R4 Q4 B4 C4⊢
  clear hw4 ST1 LDI I3
  have LD1:=Hd (Xai w4 w.heap.size 1 25 ic _ Tryz.underlying25 rfl (by rw[ICL.out.1];exact Xr2) C4.out)
  obtain⟨cs',rc,ld,st,rs,bb⟩:=Xeb w w4 (R4.out) (Q4.out) (B4.out)
  have RCX:=Hd rc;have LD:=Hd ld;have ST:=Hd st;have RES:=Hd rs;have BB:=Hd bb
  clear rc ld st rs bb
  obtain⟨b,hb⟩:∃b,b=decide (ids=zero32):=⟨_,rfl⟩
  rw[←hb] at EQ
  clear R4 Q4 B4 C4
  cases b
  ·have A0:Hid (Xbk k 0 m (bs x) w (.returned (.tuple #[.agg cs',.int .i64 0])) (w4.setRow (w.heap.size+1) cs')):=Hd ⟨cs',by show _=Ending.returned (.tuple #[_,.int .i64 ((Xhe (bs x):Nat):Int)]);rw[TG.out,if_neg (by simpa using hb)];rfl,RCX.out,BB.out⟩
   clear hb TG
   go_wp2_with (first
    |((with_reducible refine Xac 140 rfl _ rfl ?_);refine⟨_,_,rfl,LD.out,?_⟩)
    |((with_reducible refine Xac 25 rfl _ rfl ?_);refine⟨_,_,rfl,LD1.out,?_⟩)
    |((with_reducible refine Xae 25 rfl rfl ?_);refine⟨_,BZ.out _,?_⟩)
    |((with_reducible refine Xc4 25 rfl _ _ rfl Xor ?_);refine⟨_,_,_,rfl,rfl,EQ.out _,?_⟩)
    |((with_reducible refine Xab 140 rfl _ _ rfl ?_);refine⟨_,_,_,rfl,rfl,ST.out,?_⟩))
   exact bodyPost_ret (RES.out _ rfl) rfl A0.out
  ·have A0:Hid (Xbk k 0 m (bs x) w (.returned (.tuple #[.agg cs',.int .i64 1])) (w4.setRow (w.heap.size+1) cs')):=Hd ⟨cs',by show _=Ending.returned (.tuple #[_,.int .i64 ((Xhe (bs x):Nat):Int)]);rw[TG.out,if_pos (by simpa using hb)];rfl,RCX.out,BB.out⟩
   clear hb TG
   go_wp2_with (first
    |((with_reducible refine Xac 140 rfl _ rfl ?_);refine⟨_,_,rfl,LD.out,?_⟩)
    |((with_reducible refine Xac 25 rfl _ rfl ?_);refine⟨_,_,rfl,LD1.out,?_⟩)
    |((with_reducible refine Xae 25 rfl rfl ?_);refine⟨_,BZ.out _,?_⟩)
    |((with_reducible refine Xc4 25 rfl _ _ rfl Xor ?_);refine⟨_,_,_,rfl,rfl,EQ.out _,?_⟩)
    |((with_reducible refine Xab 140 rfl _ _ rfl ?_);refine⟨_,_,_,rfl,rfl,ST.out,?_⟩))
   exact bodyPost_ret (RES.out _ rfl) rfl A0.out
set_option maxHeartbeats 4000000 in
theorem Xny (w:World) (cs:Array Value) (k:Nat) (m:Bool) (x:ByteArray) (hs:x.size≤100000) (h:RC cs k m true):
    Calls Tryz.prog 133 #[.agg cs,.string ⟨#[112,117,98,108,105,99]⟩,.string x] w (Xbk k 6 m (bs x) w):=by
 obtain⟨w0,hw0⟩:∃w0,w0=(w.alloc (.cells cs 140)).alloc (.cells z17 140):=⟨_,rfl⟩
 obtain⟨r0,q0,b0,s0⟩:=Xep w cs h w0 hw0
 obtain⟨P,hP⟩:∃P,P=Xf5 (bs x):=⟨_,rfl⟩
 have PP:=Hd (Xwh x w0 (by omega))
 have POST:Hid (∀cs' w',RC cs' k m true→Below w.heap.size w w'→Xbk k 6 m (bs x) w (.returned (.tuple #[.agg cs',.int .i64 (P:Int)])) w'):=Hd (fun cs' w' h1 h2=>⟨cs',by rw[hP];rfl,h1,h2⟩)
 have R0:=Hd r0;have Q0:=Hd q0;have B0:=Hd b0
 have HW:=Hd hw0
 have HP:=Hd hP
 clear hw0 h r0 q0 b0 s0 hP
 go_enter Tryz.func133,Tryz.ntmps133
 go_upto_region 1 with fail
 have W':=HW.out
 unfold z17 at W'
 rw[←W']
 clear W' HW
 go_wp2_with fail
 refine PP.out.mono ?_
 rintro e w1 ⟨hh,rs,rfl,hcl,hb1⟩
 rw[←HP.out]
 have RCL:=Hd hcl
 have STN:Hid (∀zz:Array Value,zz.size=16→(storeVar 22 ⟨w1.heap.size,0,none⟩ (.agg rs)).run Tryz.prog (w1.alloc (.cells zz 22))=.ok () (w1.alloc (.cells rs 22))):=Hd (fun zz hz=>run_storeVar_new w1 22 zz rs (by rw[RCL.out.1];exact Xcf) (by rw[hz,RCL.out.1]) RCL.out.2)
 have hb3:Below w0.heap.size w0 (w1.alloc (.cells rs 22)):=hb1.alloc hb1.size _
 have R3:=Hd (R0.out.on hb3)
 have Q3:=Hd ((hb3.block _ (lt_of_block Q0.out)).trans Q0.out)
 have B3:=Hd (B0.out.trans (hb3.mono B0.out.size))
 have I3:=Hd (heap_alloc_new w1 (.cells rs 22))
 have GW:Hid (w.heap.size<w1.heap.size):=Hd (by have:=R0.out.lt;have:=hb1.size;omega)
 clear hcl hb1 hb3 R0 Q0 B0 PP
 go_upto_region 41 with((with_reducible refine Xab 22 rfl _ _ rfl ?_);refine⟨_,_,_,rfl,rfl,STN.out _ rfl,?_⟩)
 obtain⟨wd,hwd⟩:∃wd,wd=(w1.alloc (.cells rs 22)).drew:=⟨_,rfl⟩
 obtain⟨g,hg⟩:∃g,g=w1.heap.size:=⟨_,rfl⟩
 have rd:RB wd w.heap.size k m true:=by rw[hwd];exact R3.out.drew
 have qd:wd.heap[w.heap.size+1]?=some (.cells z17 140 (0,0)):=by rw[hwd];exact Q3.out
 have bd:Below w.heap.size w wd:=by rw[hwd];exact B3.out.drew
 have HS:(fun wx:World=>wx.heap[g]?=some (.cells rs 22 (0,0))) wd:=by rw[hwd,hg];exact I3.out
 refine wp_region_held (S:=fun wx:World=>wx.heap[g]?=some (.cells rs 22 (0,0))) (by kernel_rfl) ?_
 change wpAnyH _ _ _ _ _ _ _ _ (w1.alloc (.cells rs 22)).drew
 rw[←hwd]
 rw[←hg] at GW⊢
 clear hwd hg STN R3 Q3 B3 I3
 obtain⟨u,cu,fu⟩:=rd.cell (show 39<56 by omega)
 obtain⟨r1,c1⟩:=rd.set 39 (u:=.int .i64 hh) rfl (by omega) (by omega) (by omega) (by omega)
 obtain⟨q1,b1⟩:=Xn0 rd qd bd 39 (.int .i64 hh)
 obtain⟨wf,hwf⟩:∃wf,wf=wd.setCell ⟨w.heap.size,39,none⟩ (.int .i64 hh):=⟨_,rfl⟩
 have HS1:(fun wx:World=>wx.heap[g]?=some (.cells rs 22 (0,0))) wf:=by
  rw[hwf];show(wd.setCell _ _).heap[g]?=_
  rw[Below.heap_setCell _ _ _ _ (show g≠w.heap.size by have:=GW.out;omega)];exact HS
 rw[←hwf] at r1 q1 b1
 obtain⟨st1,r4,f4,c4⟩:=r1.store 40 16 (by omega) 22 RCL.out Xcf
 have HS2:(fun wx:World=>wx.heap[g]?=some (.cells rs 22 (0,0))) (wf.setCells w.heap.size 40 rs.toList):=(f4.other g (lt_of_block HS1) (by have:=GW.out;omega)).trans HS1
 have q4:=(f4.other _ (lt_of_block q1) (by omega)).trans q1
 have b4:=b1.trans (f4.below b1.size (Nat.le_refl _))
 have LZ:Hid (∀wx:World,wx.heap[g]?=some (.cells rs 22 (0,0))→(loadVar 22 ⟨g,0,none⟩).run Tryz.prog wx=.ok (.agg rs) wx):=Hd (fun wx h=>Xal wx g 16 _ _ rs _ _ h rfl Tryz.underlying22 Xcf RCL.out.1)
 clear rd qd bd r1 q1 b1 c1 f4 c4
 refine Xad 0 (.int .i64 hh) rfl (fun _ _=>by go_simp) HS ?_
 refine Xad 1 (.agg rs) rfl (fun w' hw'=>Xaw (ty:=22) (x:=.tmp 17) (ad:=⟨g,0,none⟩) rfl (by kernel_rfl) (LZ.out w' hw')) HS ?_
 refine Xad 2 (.pointer (some ⟨w.heap.size,39,none⟩)) rfl (fun _ _=>by go_simp) HS ?_
 refine Xba (i:=3) (w':=wf) (by kernel_rfl) rfl rfl (by rw[hwf];go_simp) HS1 ?_
 refine Xad 4 (.pointer (some ⟨w.heap.size,40,none⟩)) rfl (fun _ _=>by go_simp) HS1 ?_
 refine Xba (i:=5) (by kernel_rfl) rfl rfl (Xax (t:=22) (ad:=⟨w.heap.size,40,none⟩) (u:=.agg rs) rfl (by kernel_rfl) (by kernel_rfl) st1) HS2 ?_
 refine wpAnyH_done (by kernel_rfl) ?_ _
 clear HS HS1 HS2 hwf cu fu st1
 obtain⟨cs',rc,ld,st,rs,bb⟩:=Xeb w (wf.setCells w.heap.size 40 rs.toList) (r4) (q4) (b4)
 have RCX:=Hd rc;have LD:=Hd ld;have ST:=Hd st;have RES:=Hd rs;have BB:=Hd bb
 clear rc ld st rs bb
 have A0:Hid (Xbk k 6 m (bs x) w (.returned (.tuple #[.agg cs',.int .i64 (P:Int)])) ((wf.setCells w.heap.size 40 rs.toList).setRow (w.heap.size+1) cs')):=Hd (POST.out cs' _ RCX.out BB.out)
 obtain⟨w5,hw5⟩:∃w5,w5=wf.setCells w.heap.size 40 rs.toList:=⟨_,rfl⟩
 rw[←hw5] at LD ST RES A0⊢
 clear r4 q4 b4 hw5 POST
 go_simp
 refine‹∀(a:Act) (w_1:World),_→_› _ _ ?_
 go_wp2_with (first
  |((with_reducible refine Xac 140 rfl _ rfl ?_);refine⟨_,_,rfl,LD.out,?_⟩)
  |((with_reducible refine Xab 140 rfl _ _ rfl ?_);refine⟨_,_,_,rfl,rfl,ST.out,?_⟩))
 exact bodyPost_ret (RES.out _ rfl) rfl A0.out
theorem Yir:∀(l:List Value),l.length=16→Tryz.prog.builtSlice 22 1 [((0:Nat),Value.agg l.toArray)]=some l.toArray
 |[v0,v1,v2,v3,v4,v5,v6,v7,v8,v9,v10,v11,v12,v13,v14,v15],_=>by kernel_rfl
theorem Yhy:(Tryz.prog.info? 22).map (fun i=>(i.zero,i.size,i.bytes))=some (some (.agg (idA Xdc)),16,16):=by kernel_rfl
theorem Xt6 {w:World} {base n sz:Nat} {T:TypeId} {v:Value} {xs:List Value} (h:w.ownsRow base T sz v n xs):∃(va:Option Addr) (vc:Nat),v=.slice va n vc:=by
 rcases h.2 with⟨rfl,h0⟩|⟨g,cap,cur,rfl,r⟩
 ·exact⟨none,0,by rw[h0]⟩
 ·exact⟨_,cap,rfl⟩
theorem Ya3 {T:TypeId} {w:World} {base n:Nat} {v:Value} {gs:List ByteArray} (hn:n=gs.length) (h:w.ownsRow base T 16 v n (Xce gs)):∃(va:Option Addr) (vc:Nat),v=.slice va n vc∧Ygo w va (gs.map auZ):=by
 rcases h.2 with⟨rfl,h0⟩|⟨g,cap,cur,rfl,hg,hgb,hc,_,hs,ht⟩
 ·refine⟨none,0,by rw[h0],fun hne=>absurd ?_ hne⟩
  rw[h0] at hn
  rw[List.map_eq_nil_iff];exact List.length_eq_zero_iff.1 hn.symm
 ·refine⟨_,cap,rfl,fun _=>⟨g,0,rfl,fun q hq k u hu=>?_⟩⟩
  have hq':q<gs.length:=by simpa using hq
  have hk:k<16:=by
   have:=(Array.getElem?_eq_some_iff.1 hu).1
   rw[Xag,List.getElem_map,(Xhb _).len] at this;exact this
  rw[Nat.zero_add,cell_of_row w g _ _ _ _ hgb]
  have e1:(cur.toList.take (n*16))[q*16+k]?=some u:=by
   rw[ht,Xh1 gs q k hq' hk]
   rw[List.getElem_map] at hu
   unfold idA at hu
   rw[List.getElem?_toArray] at hu
   exact hu
  rw[List.getElem?_take] at e1
  split at e1
  ·simpa using e1
  ·cases e1
set_option maxHeartbeats 4000000 in
theorem Xmk (w:World) (cs:Array Value) (k0:Nat) (m:Bool) (x:ByteArray) (hs:x.size≤100000) (h:RC cs k0 m true):
    Calls Tryz.prog 133 #[.agg cs,.string ⟨#[97,117,116,104,111,114,115]⟩,.string x] w (Xbk k0 4 m (bs x) w):=by
 obtain⟨w0,hw0⟩:∃w0,w0=(w.alloc (.cells cs 140)).alloc (.cells z17 140):=⟨_,rfl⟩
 obtain⟨r0,q0,b0,s0⟩:=Xep w cs h w0 hw0
 have SP:=Hd (Xli x 44 w0 (by omega) (by omega))
 have R0:=Hd r0;have Q0:=Hd q0;have B0:=Hd b0;have S0:=Hd s0
 have HW:=Hd hw0
 obtain⟨i0,hi0,hz0,hz1,hz2⟩:=info_parts Yhy
 clear hw0 h r0 q0 b0 s0
 go_enter Tryz.func133,Tryz.ntmps133
 go_upto_region 1 with fail
 have W':=HW.out
 unfold z17 at W'
 rw[←W']
 clear W' HW
 go_wp2_with fail
 refine SP.out.mono ?_
 rintro e w3 ⟨v,gs,rfl,hgs,⟨sa,scap,rfl,hscap,hrow⟩,hgz,hgn,hown,hb3⟩
 have HGS:=Hd hgs
 have R3:=Hd (R0.out.on hb3)
 have Q3:=Hd ((hb3.block _ (lt_of_block Q0.out)).trans Q0.out)
 have B3:=Hd (B0.out.trans (hb3.mono B0.out.size))
 have ROW:Hid (gs≠[]→∃b' off,sa=some ⟨b',off,none⟩∧b'<w3.heap.size∧b'≠w.heap.size∧∀j (h:j<gs.length),w3.cell? ⟨b',off+j,none⟩=some (.string gs[j])):=Hd (fun hne=>by
  obtain⟨b',off,h1,h2,h3⟩:=hrow hne
  refine⟨b',off,h1,h2,?_,h3⟩
  have:=(hown.lt b' (by rw[h1];rfl)).1
  have:=S0.out
  omega)
 have GZ:=Hd hgz
 have NE:Hid (0<gs.length):=Hd (by rw[←List.length_map (f:=bs),hgs];exact List.length_pos_iff.2 (Xje 44 _))
 obtain⟨n,hn⟩:∃n,n=gs.length:=⟨_,rfl⟩
 have HN:=Hd hn
 rw[←hn] at hgn hscap⊢
 have hb3s:=hb3.size
 have hw03:w.heap.size+2≤w3.heap.size:=by have:=S0.out;omega
 clear SP hgs hrow hgz hown hb3 hn R0 Q0 B0 S0 hb3s
 go_wp2_with fail
 go_loopg [12,13,14,15] n (fun k i s13 s14 s15 wr=>∃(j:Nat) (v:Value),j≤n∧k=n-j∧i=.int .i64 (j:Int)∧Hid (Xdo (gs.take j)=0)∧Hid (RB wr w.heap.size k0 m (decide (j=0)))∧Hid (wr.cell? ⟨w.heap.size,36,none⟩=some v∧v.oneCell'=true)∧Hid (wr.heap[w.heap.size+1]?=some (.cells z17 140 (0,0)))∧Hid (wr.ownsRow w3.heap.size 22 16 v j (Xce (gs.take j)))∧Hid (Fr1 w.heap.size w3 wr))
 case atStart=>exact⟨0,.slice none 0 0,by omega,rfl,rfl,Hd rfl,R3,Hd ⟨R3.out.modsc,rfl⟩,Q3,Hd (World.ownsRow_nil _ _ _ _),Hd (Fr1.refl _ _)⟩
 case round=>
  obtain⟨j,v,hj,rfl,rfl,hbad,hrb,hc36,hq,ho,hfr⟩:=hrel
  have hpw:=hrb.out.lt
  have hw3r:w3.heap.size≤wr.heap.size:=hfr.out.size
  by_cases hjn:j<n
  ·have hjl:j<gs.length:=by rw[←HN.out];exact hjn
   obtain⟨b',off,rfl,hbl,hbb,hcl⟩:=ROW.out (by intro e;rw[e] at hjl;simp at hjl)
   obtain⟨g,hg⟩:∃g,g=gs[j]:=⟨_,rfl⟩
   have hcg:wr.cell? ⟨b',off+j,none⟩=some (.string g):=by
    have h5:=hcl j hjl
    rw[←hg] at h5
    have:=hfr.out.other b' hbl hbb
    unfold World.cell? at h5⊢
    simp only[this]
    exact h5
   have hgs1:g.size≤1000000:=by have:=GZ.out g (by rw[hg];exact List.getElem_mem hjl);omega
   have TKE:gs.take (j+1)=gs.take j++[g]:=by rw[List.take_succ_eq_append_getElem hjl,hg]
   have PA:=Hd (Xwj g wr (by omega))
   have TB:=Hd (show Xdo (gs.take (j+1))=fe (Xdo (gs.take j)) (if(Xeo (bs g)).isNone=true then 3 else 0) by rw[TKE,Xl6])
   have BADL:Hid ((Xeo (bs g)).isNone=true→Xcy (bs x)=3):=Hd (fun h=>by
    unfold Xcy
    rw[←HGS.out,Xit,if_pos]
    exact List.any_eq_true.2 ⟨g,by rw[hg];exact List.getElem_mem hjl,h⟩)
   obtain⟨cs,hcs⟩:∃cs,cs=idA (auZ g):=⟨_,rfl⟩
   have CL:Hid (Cl 16 cs):=Hd (by rw[hcs];exact Xq7 (Xhb g))
   have TS:Hid (Xce (gs.take (j+1))=Xce (gs.take j)++cs.toList):=Hd (by rw[TKE,Xie,hcs];rfl)
   have PA2:Hid (Calls Tryz.prog 169 #[.string g] wr fun e w'=>∃(aa er:Int),e=.returned (.tuple #[.agg cs,.int .i64 aa,.int .i64 er])∧((Xeo (bs g)).isNone=true↔er≠0)∧Below wr.heap.size wr w'):=Hd (PA.out.mono (by
    rintro e w' ⟨aa,er,h1,h2⟩
    rw[hcs]
    unfold auZ
    cases hq:Xeo (bs g) with
    |none=>rw[hq] at h1;obtain⟨rfl,h3⟩:=h1;exact⟨aa,er,rfl,by simp[h3],h2⟩
    |some id=>rw[hq] at h1;subst h1;exact⟨aa,0,rfl,by simp,h2⟩))
   have CSZ:Hid (cs.size=16):=Hd CL.out.1
   have ONE:=Hd (Xpb CL.out)
   have BS:Hid (Tryz.prog.builtSlice 22 1 [((0:Nat),Value.agg cs)]=some cs):=Hd (by have:=Yir cs.toList (by simpa using CSZ.out);simpa using this)
   have FO:Hid (Array.foldl (fun(cs:Array Value) (x:Value×Nat)=>cs.setIfInBounds x.snd x.fst) #[Value.int .u8 0,Value.int .u8 0,Value.int .u8 0,Value.int .u8 0,Value.int .u8 0,Value.int .u8 0,Value.int .u8 0,Value.int .u8 0,Value.int .u8 0,Value.int .u8 0,Value.int .u8 0,Value.int .u8 0,Value.int .u8 0,Value.int .u8 0,Value.int .u8 0,Value.int .u8 0] cs.zipIdx 0 cs.size=cs):=Hd (by have:=Xyc cs.toList (by simpa using CSZ.out);simpa using this)
   have FO2:Hid (Array.foldl (fun(cs:Array Value) (x:Value×Nat)=>cs.setIfInBounds x.snd x.fst) #[Value.int .u8 0,Value.int .u8 0,Value.int .u8 0,Value.int .u8 0,Value.int .u8 0,Value.int .u8 0,Value.int .u8 0,Value.int .u8 0,Value.int .u8 0,Value.int .u8 0,Value.int .u8 0,Value.int .u8 0,Value.int .u8 0,Value.int .u8 0,Value.int .u8 0,Value.int .u8 0] cs.zipIdx 0 16=cs):=Hd (by have:=FO.out;rw[CSZ.out] at this;exact this)
   clear hcl hcs hg PA TKE
   go_wp2_with fail
   refine PA2.out.mono ?_
   rintro e w4 ⟨aa,er4,rfl,hiff,hb4⟩
   have STN:Hid (∀zz:Array Value,zz.size=16→(storeVar 22 ⟨w4.heap.size,0,none⟩ (.agg cs)).run Tryz.prog (w4.alloc (.cells zz 22))=.ok () (w4.alloc (.cells cs 22))):=Hd (fun zz hz=>run_storeVar_new w4 22 zz cs (by rw[CL.out.1];exact Xcf) (by rw[hz,CL.out.1]) CL.out.2)
   have hb5:Below wr.heap.size wr (w4.alloc (.cells cs 22)):=hb4.alloc hb4.size _
   have P5:=Hd (heap_alloc_new w4 (.cells cs 22))
   have R5:=Hd (hrb.out.on hb5)
   have Q5:=Hd ((hb5.block _ (lt_of_block hq.out)).trans hq.out)
   have O5:=Hd (Xdp ho.out hb5)
   have F5:=Hd (hfr.out.trans (Fr1.of_below hb5))
   have C5:Hid ((w4.alloc (.cells cs 22)).cell? ⟨w.heap.size,36,none⟩=some v∧v.oneCell'=true):=Hd ⟨(hb5.cell (p:=⟨w.heap.size,36,none⟩) hpw).trans hc36.out.1,hc36.out.2⟩
   have hw4:wr.heap.size≤w4.heap.size:=hb4.size
   have HIFF:=Hd hiff
   clear hb4 hb5 PA2 hiff hrb hq ho hfr hc36 hcg
   by_cases her:er4=0
   ·subst her
    have TB2:Hid (Xdo (gs.take (j+1))=0):=Hd (by rw[TB.out,if_neg (fun h=>HIFF.out.1 h rfl),Xow];exact hbad.out)
    go_upto_region 37 with((with_reducible refine Xab 22 rfl _ _ rfl ?_);refine⟨_,_,_,rfl,rfl,STN.out _ rfl,?_⟩)
    obtain⟨w6,hw6⟩:∃w6,w6=w4.alloc (.cells cs 22):=⟨_,rfl⟩
    rw[←hw6] at R5 Q5 O5 F5 C5 P5⊢
    have LD:=Hd (Xal w6 w4.heap.size 16 _ _ cs _ _ P5.out rfl Tryz.underlying22 Xcf CL.out.1)
    have hw36:w3.heap.size≤w6.heap.size:=by rw[hw6];simp;omega
    have GROW:Hid (∀(o:Obj) (w8:World),(w6.alloc o).grownBy w8 v.ownBlock→RB w8 w.heap.size k0 m (decide (j=0))∧w8.heap[w.heap.size+1]?=some (.cells z17 140 (0,0))∧Fr1 w.heap.size w3 w8):=Hd (fun o w8 hg=>by
     have B1:Below w3.heap.size w6 (w6.alloc o):=(Below.refl _ _).alloc hw36 _
     have B:=Below.grown B1 hg (by simp;omega) (fun k hk=>(O5.out.lt k hk).1)
     obtain⟨ds,hd1,hd2⟩:=R5.out
     exact⟨⟨ds,(B.block _ (by omega)).trans hd1,hd2⟩,(B.block _ (by omega)).trans Q5.out,⟨B.os.trans F5.out.os,B.tape.trans F5.out.tape,B.output.trans F5.out.output,Nat.le_trans hw36 B.size,fun k hk hne=>(B.block k hk).trans (F5.out.other k hk hne)⟩⟩)
    have hcz:cs.size=16:=CSZ.out
    have c36:=C5.out.1
    clear hw6 STN HIFF TB hbad R5 Q5 F5
    go_wp2_with (first
     |((with_reducible refine Xac 22 rfl _ rfl ?_);refine⟨_,_,rfl,LD.out,?_⟩)
     |((with_reducible refine wpList_buildSliceTo rfl 138 22 1 _ rfl w6.heap.size rfl _ rfl Tryz.underlying138 cs BS.out ?_))
     |(at_builtin;refine wpList_append_own _ rfl _ _ 138 rfl w3.heap.size 22 i0 (.agg (idA Xdc)) 16 16 Tryz.underlying138 hi0 hz0 hz1 hz2 rfl (by decide) _ _ _ rfl (O5.out.alloc _) ⟨w6.heap.size,0,none⟩ 1 1 cs.toList rfl (by simpa using CSZ.out) (World.news_of_block (cs:=cs) (t:=22) (fr:=(0,0)) (by(first|rw[FO2.out]|rw[FO.out]);exact heap_alloc_new w6 _)) ONE.out (by unfold maxLen;omega) (by omega) (by simp;omega) ?_;intro v' w8 hown' hgrow _;obtain⟨sa',sc',rfl⟩:=Xt6 hown';obtain⟨r8,q8,f8⟩:=GROW.out _ w8 hgrow;clear hgrow GROW;obtain⟨u,cu,fu⟩:=r8.cell (show 36<56 by omega)))
    have O8:Hid (w8.ownsRow w3.heap.size 22 16 (.slice sa' (j+1) sc') (j+1) (Xce (gs.take (j+1)))):=Hd (by rw[TS.out];exact hown')
    obtain⟨r9,c9⟩:=r8.setL (u:=.slice sa' (j+1) sc') rfl
    have f9:Fr1 w.heap.size w3 (w8.setCell ⟨w.heap.size,36,none⟩ (.slice sa' (j+1) sc')):=f8.trans (Fr1.setC _)
    have q9:(w8.setCell ⟨w.heap.size,36,none⟩ (.slice sa' (j+1) sc')).heap[w.heap.size+1]?=some (.cells z17 140 (0,0)):=by
     rw[Below.heap_setCell _ _ _ _ (show w.heap.size+1≠w.heap.size by omega)];exact q8
    have O9:=Hd (Xjq O8.out (Fr1.setC (w:=w8) (b:=w.heap.size) (j:=36) (.slice sa' (j+1) sc')) (by omega))
    have R9:Hid (RB (w8.setCell ⟨w.heap.size,36,none⟩ (.slice sa' (j+1) sc')) w.heap.size k0 m (decide (j+1=0))):=Hd r9
    have C9:=Hd c9;have F9:=Hd f9;have Q9:=Hd q9
    clear hown' r9 c9 f9 q9 r8 q8 f8 O8 LD BS FO FO2 c36 C5 O5 P5 ONE
    go_wp2_with fail
    go_roundg (n-(j+1))
    case measure=>omega
    case rel=>exact⟨j+1,_,by omega,rfl,by go_num,TB2,R9,Hd ⟨C9.out,rfl⟩,Q9,O9,F9⟩
   ·have q0:(er4 !=0)=true:=Xam her
    have MF:=Hd (BADL.out (HIFF.out.2 her))
    have B5:=Hd (B3.out.trans (F5.out.below B3.out.size (Nat.le_refl _)))
    obtain⟨cs',rc,ld,st,rs,bb⟩:=Xeb w (w4.alloc (.cells cs 22)) (R5.out) (Q5.out) (B5.out)
    have RCX:=Hd rc;have LD:=Hd ld;have ST:=Hd st;have RES:=Hd rs;have BB:=Hd bb
    clear rc ld st rs bb
    have A0:Hid (Xbk k0 4 m (bs x) w (.returned (.tuple #[.agg cs',.int .i64 3])) ((w4.alloc (.cells cs 22)).setRow (w.heap.size+1) cs')):=Hd ⟨cs',by show _=Ending.returned (.tuple #[_,.int .i64 ((Xcy (bs x):Nat):Int)]);rw[MF.out];rfl,RCX.out.weak,BB.out⟩
    clear her C5 O5 F5 R5 Q5 P5 B5 BS FO FO2 ONE
    go_wp2_with (first
     |((with_reducible refine Xac 140 rfl _ rfl ?_);refine⟨_,_,rfl,LD.out,?_⟩)
     |((with_reducible refine Xab 22 rfl _ _ rfl ?_);refine⟨_,_,_,rfl,rfl,STN.out _ rfl,?_⟩)
     |((with_reducible refine Xab 140 rfl _ _ rfl ?_);refine⟨_,_,_,rfl,rfl,ST.out,?_⟩))
    exact bodyPost_ret (RES.out _ rfl) rfl A0.out
  ·obtain rfl:j=n:=by omega
   have hall:gs.take j=gs:=List.take_of_length_le (by rw[HN.out];exact Nat.le_refl _)
   rw[hall] at hbad ho
   have MOK:Hid (Xcy (bs x)=if 8<j then 9 else if Xlw (gs.map auZ)=false then 30 else 0):=Hd (by
    have h0:gs.any (fun g=>(Xeo (bs g)).isNone)=false:=by
     have:=hbad.out;unfold Xdo at this
     cases h:gs.any (fun g=>(Xeo (bs g)).isNone)
     ·rfl
     ·rw[if_pos h] at this;cases this
    unfold Xcy
    rw[←HGS.out,Xit,h0,HN.out]
    simp)
   obtain⟨va,vc,rfl,har⟩:=Ya3 HN.out ho.out
   obtain⟨ds,hd1,hd2⟩:=hrb.out
   have hd36:ds[36]?=some (.slice va j vc):=by have h:=hc36.out.1;rw[cell_of_row wr w.heap.size 36 _ _ _ hd1] at h;exact h
   have DCL:=Hd hd2
   have LNM:(gs.map auZ).length=j:=by rw[List.length_map,HN.out]
   obtain⟨M,hM⟩:∃M,M=Xcy (bs x):=⟨_,rfl⟩
   have POST:Hid (∀w',Below w.heap.size w w'→Xbk k0 4 m (bs x) w (.returned (.tuple #[.agg ds,.int .i64 (M:Int)])) w'):=Hd (fun w' h2=>⟨ds,by rw[hM];rfl,hd2.weak,h2⟩)
   have MD:=Xwm wr.drew va vc (gs.map auZ) (by rw[LNM];have:=NE.out;have:=HN.out;omega) (by rw[LNM];omega) har (fun y hy=>by obtain⟨g,_,rfl⟩:=List.mem_map.1 hy;exact Xhb g)
   rw[LNM,←MOK.out,←hM] at MD
   have MD:=Hd MD
   have BR:=B3.out.trans (hfr.out.below B3.out.size (Nat.le_refl _))
   have HBR:Hid (Below w.heap.size w wr.drew):=Hd BR.drew
   have HQ:=Hd (show wr.drew.heap[w.heap.size+1]?=some (.cells z17 140 (0,0)) from hq.out)
   have LZ:Hid (∀wx:World,wx.heap[w.heap.size]?=some (.cells ds 140 (0,0))→(loadVar 140 ⟨w.heap.size,0,none⟩).run Tryz.prog wx=.ok (.agg ds) wx):=Hd (fun wx h=>Xal wx w.heap.size 56 _ _ ds _ _ h rfl Tryz.underlying140 Xbo DCL.out.cl.1)
   have C36:Hid (∀wx:World,wx.heap[w.heap.size]?=some (.cells ds 140 (0,0))→wx.cell? ⟨w.heap.size,36,none⟩=some (.slice va j vc)):=Hd (fun wx h=>by rw[cell_of_row wx w.heap.size 36 _ _ _ h];exact hd36)
   have STX:Hid (∀wx:World,wx.heap[w.heap.size+1]?=some (.cells z17 140 (0,0))→Below w.heap.size w wx→(storeVar 140 ⟨w.heap.size+1,0,none⟩ (.agg ds)).run Tryz.prog wx=.ok () (wx.setRow (w.heap.size+1) ds)∧
       (∀tmps:Array Value,tmps.getD 6 undef=.pointer (some ⟨w.heap.size+1,0,none⟩)→(results Tryz.f133 tmps).run Tryz.prog (wx.setRow (w.heap.size+1) ds)=.ok (.tuple #[.agg ds,tmps.getD 7 undef]) (wx.setRow (w.heap.size+1) ds))∧Below w.heap.size w (wx.setRow (w.heap.size+1) ds)):=Hd (fun wx hx hbx=>
    ⟨run_storeVar_row (P:=Tryz.prog) wx (w.heap.size+1) _ 140 z17 ds hx (by rw[DCL.out.cl.1];exact Xbo) (by rw[DCL.out.cl.1,cl_z17.1]) DCL.out.cl.2,
     fun tmps ht=>Xa5 Tryz.results133 tmps _ (w.heap.size+1) _ _ _ _ ht (setRow_heap wx (w.heap.size+1) z17 ds _ _ hx) Tryz.underlying140 rfl (by rw[DCL.out.cl.1];exact Xbo),
     below_setRow hbx (Nat.le_succ _) ds⟩)
   clear hM MOK har hc36 hbad hrb hq ho hfr BR hd36 hd2 ROW GZ LNM
   go_upto_region 38 with fail
   have HS:(fun wx:World=>wx.heap[w.heap.size]?=some (.cells ds 140 (0,0))) wr.drew:=hd1
   refine wp_region_held (S:=fun wx:World=>wx.heap[w.heap.size]?=some (.cells ds 140 (0,0))) (by kernel_rfl) ?_
   change wpAnyH _ _ _ _ _ _ _ _ wr.drew
   obtain⟨wd,hwd⟩:∃wd,wd=wr.drew:=⟨_,rfl⟩
   rw[←hwd] at HS MD HBR HQ⊢
   clear hwd hd1
   refine Xad 0 (.agg ds) rfl (fun w' hw'=>Xaw (ty:=140) (x:=.tmp 3) (ad:=⟨w.heap.size,0,none⟩) rfl (by kernel_rfl) (LZ.out w' hw')) HS ?_
   refine Xad 1 (.pointer (some ⟨w.heap.size,36,none⟩)) rfl (fun _ _=>by go_simp) HS ?_
   refine Xad 2 (.slice va j vc) rfl (fun w' hw'=>by have c36:=C36.out w' hw';go_simp) HS ?_
   refine Xav (i:=3) (by kernel_rfl) ?_
   refine Xao (f:=170) (args:=#[.slice va j vc]) rfl rfl (by go_simp) ?_
   refine MD.out.mono ?_
   rintro e w7 ⟨rfl,hd7⟩
   have b7:Below wd.heap.size wd w7:=Dr.below hd7
   have HS7:(fun wx:World=>wx.heap[w.heap.size]?=some (.cells ds 140 (0,0))) w7:=(b7.block _ (lt_of_block HS)).trans HS
   obtain⟨st7,rs7,bb7⟩:=STX.out w7 ((b7.block _ (lt_of_block HQ.out)).trans HQ.out) (HBR.out.trans (b7.mono HBR.out.size))
   have HS8:(fun wx:World=>wx.heap[w.heap.size]?=some (.cells ds 140 (0,0))) (w7.setRow (w.heap.size+1) ds):=(setRow_other w7 (w.heap.size+1) w.heap.size ds (by omega)).trans HS7
   have RES:=Hd rs7;have BB:=Hd bb7
   refine⟨_,rfl,HS7,?_⟩
   refine Xba (i:=4) (by kernel_rfl) rfl rfl (Xax (t:=140) (ad:=⟨w.heap.size+1,0,none⟩) (u:=.agg ds) rfl (by kernel_rfl) (by kernel_rfl) st7) HS8 ?_
   refine Xa2 (i:=5) (v:=.int .i64 (M:Int)) (by kernel_rfl) rfl rfl (Xap rfl (by kernel_rfl)) HS8 ?_
   refine wpAnyH_done (by kernel_rfl) ?_ _
   clear HS HS7 HS8 st7 rs7 bb7 b7 hd7 MD HBR HQ LZ C36 STX
   go_simp
   refine‹∀(a:Act) (w_1:World),_→_› _ _ ?_
   go_wp2_with fail
   exact bodyPost_ret (RES.out _ rfl) rfl (POST.out _ BB.out)
end Go.Proofs.YtohmdledkhgdaaaGreatDoor
