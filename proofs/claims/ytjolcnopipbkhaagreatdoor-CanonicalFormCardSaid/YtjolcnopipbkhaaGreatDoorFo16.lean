/- bulletinref17.word: a command of the reference in a block; the words of the sorts group, version, number, mode. -/
import Derived.Test.YtjolcnopipbkhaaGreatDoorFo15
namespace Go.Proofs.YtjolcnopipbkhaaGreatDoor
open Go.Proofs.Tryz
open Go.RowKit Go.Maps
set_option linter.unusedVariables false
set_option maxHeartbeats 100000000
set_option maxRecDepth 100000
theorem Xbr:(prog.info? 121).map (·.size)=some 56:=by kernel_rfl
structure RC (cs:Array Value) (k:Nat) (m mo:Bool):Prop where
 cl:Cl 56 cs
 kind:cs[0]?=some (.int .i64 (k:Int))
 mod:cs[35]?=some (.bool m)
 mods:mo=true→cs[36]?=some (.slice none 0 0)
theorem RC.set {cs:Array Value}{k:Nat}{m mo:Bool}(h:RC cs k m mo)(j:Nat){u:Value}(hu:u.oneCell'=true)(h0:j≠0)(h1:j≠35)(h2:j≠36):RC (cs.setIfInBounds j u) k m mo:=
 ⟨Xqp h.cl j hu,by rw[Array.getElem?_setIfInBounds_ne h0];exact h.kind,by rw[Array.getElem?_setIfInBounds_ne h1];exact h.mod,fun e=>by rw[Array.getElem?_setIfInBounds_ne h2];exact h.mods e⟩
theorem RC.setM {cs:Array Value}{k:Nat}{m mo:Bool}(h:RC cs k m mo)(b:Bool):RC (cs.setIfInBounds 35 (.bool b)) k b mo:=
 ⟨Xqp h.cl 35 rfl,by rw[Array.getElem?_setIfInBounds_ne (by omega)];exact h.kind,by rw[Array.getElem?_setIfInBounds_self_of_lt (by rw[h.cl.1];omega)],fun e=>by rw[Array.getElem?_setIfInBounds_ne (by omega)];exact h.mods e⟩
theorem RC.setL {cs:Array Value}{k:Nat}{m mo:Bool}(h:RC cs k m mo){u:Value}(hu:u.oneCell'=true):RC (cs.setIfInBounds 36 u) k m false:=
 ⟨Xqp h.cl 36 hu,by rw[Array.getElem?_setIfInBounds_ne (by omega)];exact h.kind,by rw[Array.getElem?_setIfInBounds_ne (by omega)];exact h.mod,fun e=>by cases e⟩
theorem RC.weak {cs:Array Value}{k:Nat}{m mo:Bool}(h:RC cs k m mo):RC cs k m false:=⟨h.cl,h.kind,h.mod,fun e=>by cases e⟩
def RB (w:World)(p k:Nat)(m mo:Bool):Prop:=∃cs,w.heap[p]?=some (.cells cs 121 (0,0))∧RC cs k m mo
theorem RB.lt {w:World}{p k:Nat}{m mo:Bool}(h:RB w p k m mo):p<w.heap.size:=by obtain⟨cs,h,_⟩:=h;exact zY h
theorem RB.on {w w':World}{p k:Nat}{m mo:Bool}(h:RB w p k m mo)(hb:Bw w w'):RB w' p k m mo:=by
 obtain⟨cs,h1,h2⟩:=h;exact⟨cs,(hb.block p (zY h1)).trans h1,h2⟩
theorem RB.drew {w:World}{p k:Nat}{m mo:Bool}(h:RB w p k m mo):RB w.drew p k m mo:=h
theorem RB.cell {w:World}{p k:Nat}{m mo:Bool}(h:RB w p k m mo){j:Nat}(hj:j<56):∃u,w.cell? ⟨p,j,none⟩=some u∧w.frozen? ⟨p,j,none⟩=false:=by
 obtain⟨cs,h1,h2⟩:=h
 exact⟨cs[j]'(by rw[h2.cl.1];omega),by rw[cell_of_row w p j _ _ _ h1];simp[h2.cl.1,hj],by simp[World.frozen?,h1]⟩
theorem RB.kind {w:World}{p k:Nat}{m mo:Bool}(h:RB w p k m mo):w.cell? ⟨p,0,none⟩=some (.int .i64 (k:Int)):=by
 obtain⟨cs,h1,h2⟩:=h;rw[cell_of_row w p 0 _ _ _ h1];exact h2.kind
theorem RB.modc {w:World}{p k:Nat}{m mo:Bool}(h:RB w p k m mo):w.cell? ⟨p,35,none⟩=some (.bool m):=by
 obtain⟨cs,h1,h2⟩:=h;rw[cell_of_row w p 35 _ _ _ h1];exact h2.mod
theorem RB.modsc {w:World}{p k:Nat}{m:Bool}(h:RB w p k m true):w.cell? ⟨p,36,none⟩=some (.slice none 0 0):=by
 obtain⟨cs,h1,h2⟩:=h;rw[cell_of_row w p 36 _ _ _ h1];exact h2.mods rfl
theorem RB.set {w:World}{p k:Nat}{m mo:Bool}(h:RB w p k m mo)(j:Nat){u:Value}(hu:u.oneCell'=true)(h0:j≠0)(h1:j≠35)(h2:j≠36)(hj:j<56):RB (w.setCell ⟨p,j,none⟩ u) p k m mo∧(w.setCell ⟨p,j,none⟩ u).cell? ⟨p,j,none⟩=some u:=by
 obtain⟨cs,h3,h4⟩:=h
 have hb:=Xd8 h3 j u
 exact⟨⟨_,hb,h4.set j hu h0 h1 h2⟩,by rw[cell_of_row _ p j _ _ _ hb];exact Array.getElem?_setIfInBounds_self_of_lt (by rw[h4.cl.1];omega)⟩
theorem RB.setM {w:World}{p k:Nat}{m mo:Bool}(h:RB w p k m mo)(b:Bool):RB (w.setCell ⟨p,35,none⟩ (.bool b)) p k b mo∧(w.setCell ⟨p,35,none⟩ (.bool b)).cell? ⟨p,35,none⟩=some (.bool b):=by
 obtain⟨cs,h3,h4⟩:=h
 have hb:=Xd8 h3 35 (.bool b)
 exact⟨⟨_,hb,h4.setM b⟩,by rw[cell_of_row _ p 35 _ _ _ hb];exact Array.getElem?_setIfInBounds_self_of_lt (by rw[h4.cl.1];omega)⟩
theorem RB.setL {w:World}{p k:Nat}{m mo:Bool}(h:RB w p k m mo){u:Value}(hu:u.oneCell'=true):RB (w.setCell ⟨p,36,none⟩ u) p k m false∧(w.setCell ⟨p,36,none⟩ u).cell? ⟨p,36,none⟩=some u:=by
 obtain⟨cs,h3,h4⟩:=h
 have hb:=Xd8 h3 36 u
 exact⟨⟨_,hb,h4.setL hu⟩,by rw[cell_of_row _ p 36 _ _ _ hb];exact Array.getElem?_setIfInBounds_self_of_lt (by rw[h4.cl.1];omega)⟩
theorem RB.setCells {p k:Nat}{m mo:Bool}:∀(vs:List Value) (o:Nat) (w:World),RB w p k m mo→(∀v∈vs,v.oneCell'=true)→(1≤o∧o+vs.length≤35∨37≤o∧o+vs.length≤56)→RB (w.setCells p o vs) p k m mo∧Fr1 p w (w.setCells p o vs)
 |[],o,w,h,_,_=>⟨h,Fr1.refl _ _⟩
 |v::r,o,w,h,hv,ho=>by
  have hl:(v::r).length=r.length+1:=rfl
  obtain⟨h1,h2⟩:=RB.setCells r (o+1) _ (h.set o (hv v (List.mem_cons_self ..)) (by omega) (by omega) (by omega) (by omega)).1 (fun x hx=>hv x (List.mem_cons_of_mem _ hx)) (by omega)
  exact⟨h1,(Fr1.setC v).trans h2⟩
theorem RB.store {w:World}{p k:Nat}{m mo:Bool}(h:RB w p k m mo)(o n:Nat)(hn:1≤o∧o+n≤35∨37≤o∧o+n≤56)(ty:TypeId){cs:Array Value}(hc:Cl n cs)(hi:(prog.info? ty).map (·.size)=some n):
    (storeVar ty ⟨p,o,none⟩ (.agg cs)).run prog w=.ok () (w.setCells p o cs.toList)∧RB (w.setCells p o cs.toList) p k m mo∧Fr1 p w (w.setCells p o cs.toList)∧(∀j u,cs[j]?=some u→(w.setCells p o cs.toList).cell? ⟨p,o+j,none⟩=some u):=by
 have ht:w.there p o cs.size:=fun j hj=>by
  obtain⟨u,h1,h2⟩:=h.cell (j:=o+j) (by rw[hc.1] at hj;omega)
  exact⟨by rw[h1];rfl,h2⟩
 obtain⟨h1,h2⟩:=RB.setCells cs.toList o w h (Xqq hc) (by rw[Array.length_toList,hc.1];omega)
 exact⟨run_storeVar_mid w p o ty cs ht (by rw[hc.1];exact hi) hc.2,h1,h2,fun j u hu=>
  World.rangeAt_setCells_same w p o cs.toList (by simpa using ht) j u (by simpa using hu)⟩
def Xbn (k a:Nat)(m:Bool)(x:List Nat)(w:World)(e:Ending)(w':World):Prop:=
 ∃cs',e=.returned (.tuple #[.agg cs',.int .i64 ((Ycd a x:Nat):Int)])∧RC cs' k (if a=3 then decide (x=Xi1) else m) (decide (a≠4))∧Bw w w'
def z17:Array Value:=#[.int .i64 0,.int .u8 0,.int .u8 0,.int .u8 0,.int .u8 0,.int .u8 0,.int .u8 0,.int .u8 0,.int .u8 0,.int .u8 0,.int .u8 0,.int .u8 0,.int .u8 0,.int .u8 0,.int .u8 0,.int .u8 0,.int .u8 0,.int .u8 0,.int .u8 0,.int .u8 0,.int .u8 0,.int .u8 0,.int .u8 0,.int .u8 0,.int .u8 0,.int .u8 0,.int .u8 0,.int .u8 0,.int .u8 0,.int .u8 0,.int .u8 0,.int .u8 0,.int .u8 0,.string ⟨#[]⟩,.int .i64 0,.bool false,.slice none 0 0,.string ⟨#[]⟩,.int .i64 0,.int .i64 0,.int .u8 0,.int .u8 0,.int .u8 0,.int .u8 0,.int .u8 0,.int .u8 0,.int .u8 0,.int .u8 0,.int .u8 0,.int .u8 0,.int .u8 0,.int .u8 0,.int .u8 0,.int .u8 0,.int .u8 0,.int .u8 0]
theorem cl_z17:Cl 56 z17:=⟨by kernel_rfl,by kernel_rfl⟩
theorem Yj5:RC z17 0 false true:=⟨cl_z17,by kernel_rfl,by kernel_rfl,fun _=>by kernel_rfl⟩
theorem Xe7 (w:World)(cs:Array Value){k:Nat}{m mo:Bool}(h:RC cs k m mo)(w0:World)(hw:w0=(w.alloc (.cells cs 121)).alloc (.cells z17 121)):
    RB w0 w.heap.size k m mo∧w0.heap[w.heap.size+1]?=some (.cells z17 121 (0,0))∧Bw w w0∧w0.heap.size=w.heap.size+2:=by
 subst hw
 refine⟨⟨cs,Xae (heap_alloc_last w _),h⟩,?_,((zR _ _).alloc (zL _) _).alloc (by simp) _,by simp⟩
 have:=heap_alloc_last (w.alloc (.cells cs 121)) (.cells z17 121);rw[World.size_alloc] at this;exact this
theorem Xei (w wx:World){k:Nat}{m mo:Bool}(h:RB wx w.heap.size k m mo)(hq:wx.heap[w.heap.size+1]?=some (.cells z17 121 (0,0)))(hb:Bw w wx):
    ∃cs',RC cs' k m mo∧Ld 121 ⟨w.heap.size,0,none⟩ wx (.agg cs')∧Sv 121 ⟨w.heap.size+1,0,none⟩ (.agg cs') wx (wx.setRow (w.heap.size+1) cs')∧
     (∀tmps:Array Value,tmps.getD 6 undef=.pointer (some ⟨w.heap.size+1,0,none⟩)→(results Tryz.f122 tmps).run prog (wx.setRow (w.heap.size+1) cs')=.ok (.tuple #[.agg cs',tmps.getD 7 undef]) (wx.setRow (w.heap.size+1) cs'))∧Bw w (wx.setRow (w.heap.size+1) cs'):=by
 obtain⟨cs',h1,h2⟩:=h
 exact⟨cs',h2,Xal wx w.heap.size 56 _ _ cs' _ _ h1 rfl underlying121 Xbr h2.cl.1,
  run_storeVar_row (P:=prog) wx (w.heap.size+1) _ 121 z17 cs' hq (by rw[h2.cl.1];exact Xbr) (by rw[h2.cl.1,cl_z17.1]) h2.cl.2,
  fun tmps ht=>Xa1 results122 tmps _ (w.heap.size+1) _ _ _ _ ht (setRow_heap wx (w.heap.size+1) z17 cs' _ _ hq) underlying121 rfl (by rw[h2.cl.1];exact Xbr),
  below_setRow hb (Nat.le_succ _) cs'⟩
theorem Xpc {w wx:World}{k:Nat}{m mo:Bool}(h:RB wx w.heap.size k m mo)(hq:wx.heap[w.heap.size+1]?=some (.cells z17 121 (0,0)))(hb:Bw w wx)(j:Nat)(u:Value):
    (wx.setCell ⟨w.heap.size,j,none⟩ u).heap[w.heap.size+1]?=some (.cells z17 121 (0,0))∧Bw w (wx.setCell ⟨w.heap.size,j,none⟩ u):=
 ⟨by rw[Below.heap_setCell _ _ _ _ (show w.heap.size+1≠w.heap.size by omega)];exact hq,hb.setCell (p:=⟨w.heap.size,j,none⟩) (zL _) _⟩
theorem Xrb (w:World)(cs:Array Value)(k:Nat)(m:Bool)(x:ByteArray)(hs:x.size≤10000000)(h:RC cs k m true):
    Calls prog 122 #[.agg cs,.string ⟨#[103,114,111,117,112]⟩,.string x] w (Xbn k 1 m (bs x) w):=by
 obtain⟨w0,hw0⟩:=xq ((w.alloc (.cells cs 121)).alloc (.cells z17 121))
 obtain⟨r0,q0,b0,s0⟩:=Xe7 w cs h w0 hw0
 obtain⟨u,cu,fu⟩:=r0.cell (show 33<56 by omega)
 obtain⟨r1,_⟩:=r0.set 33 (u:=.string x) rfl (by omega) (by omega) (by omega) (by omega)
 obtain⟨q1,b1⟩:=Xpc r0 q0 b0 33 (.string x)
 obtain⟨T,hT⟩:=xq (Xbf (bs x))
 have CK:=Hd (fun w=>Xkm x w hs)
 rw[←hT] at CK
 have R1:=Hd r1;have Q1:=Hd q1;have B1:=Hd b1
 have HW:=Hd hw0
 have POST:Hid (∀cs' w',RC cs' k m true→Bw w w'→Xbn k 1 m (bs x) w (.returned (.tuple #[.agg cs',.int .i64 ((if T=0 then 0 else 12:Nat):Int)])) w'):=Hd (fun cs' w' h1 h2=>⟨cs',by rw[hT];rfl,h1,h2⟩)
 clear hw0 h r0 q0 b0 s0 r1 q1 b1 hT
 go_enter func122,ntmps122
 go_upto_region 1 with fail
 have W':=HW.o
 unfold z17 at W'
 rw[←W']
 clear W' HW
 go_wp2_with fail
 obtain⟨w1,hw1⟩:=xq (w0.setCell ⟨w.heap.size,33,none⟩ (.string x))
 rw[←hw1] at R1 Q1 B1⊢
 clear hw1 cu fu
 refine(CK.o w1).mono ?_
 rintro e w2 ⟨rfl,hb2⟩
 obtain⟨cs',rc,ld,st,rs,bb⟩:=Xei w w2 (R1.o.on hb2) ((hb2.block _ (zY Q1.o)).trans Q1.o) (bg B1.o hb2)
 have RCX:=Hd rc;have LD:=Hd ld;have ST:=Hd st;have RES:=Hd rs;have BB:=Hd bb
 clear rc ld st rs bb hb2 CK R1 Q1 B1
 by_cases h0:T=0
 ·have q1:((T:Int) !=0)=false:=Xau (by omega)
  have A0:Hid (Xbn k 1 m (bs x) w (.returned (.tuple #[.agg cs',.int .i64 0])) (w2.setRow (w.heap.size+1) cs')):=Hd (by have:=POST.o cs' _ RCX.o BB.o;rw[qP h0] at this;exact this)
  clear h0 POST
  go_wp2_with (first
   |((with_reducible refine Xac 121 rfl _ rfl ?_);refine⟨_,_,rfl,LD.o,?_⟩)
   |((with_reducible refine Xab 121 rfl _ _ rfl ?_);refine⟨_,_,_,rfl,rfl,ST.o,?_⟩))
  exact zP (RES.o _ rfl) rfl A0.o
 ·have q1:((T:Int) !=0)=true:=Xam (by omega)
  have A0:Hid (Xbn k 1 m (bs x) w (.returned (.tuple #[.agg cs',.int .i64 12])) (w2.setRow (w.heap.size+1) cs')):=Hd (by have:=POST.o cs' _ RCX.o BB.o;rw[qN h0] at this;exact this)
  clear h0 POST
  go_wp2_with (first
   |((with_reducible refine Xac 121 rfl _ rfl ?_);refine⟨_,_,rfl,LD.o,?_⟩)
   |((with_reducible refine Xab 121 rfl _ _ rfl ?_);refine⟨_,_,_,rfl,rfl,ST.o,?_⟩))
  exact zP (RES.o _ rfl) rfl A0.o
theorem Xnp (w:World)(cs:Array Value)(k:Nat)(m:Bool)(x:ByteArray)(hs:x.size≤100000)(h:RC cs k m true):
    Calls prog 122 #[.agg cs,.string ⟨#[118,101,114,115,105,111,110]⟩,.string x] w (Xbn k 2 m (bs x) w):=by
 obtain⟨w0,hw0⟩:=xq ((w.alloc (.cells cs 121)).alloc (.cells z17 121))
 obtain⟨r0,q0,b0,s0⟩:=Xe7 w cs h w0 hw0
 obtain⟨Z,hZ⟩:=xq (Yf6 (bs x))
 have NM:=Hd (fun w=>Xml x w (by unfold maxLen;omega))
 rw[←hZ] at NM
 have HZ:=Hd hZ
 have R0:=Hd r0;have Q0:=Hd q0;have B0:=Hd b0
 have HW:=Hd hw0
 clear hw0 h r0 q0 b0 s0 hZ
 go_enter func122,ntmps122
 go_upto_region 1 with fail
 have W':=HW.o
 unfold z17 at W'
 rw[←W']
 clear W' HW
 go_wp2_with fail
 refine(NM.o w0).mono ?_
 rintro e w1 ⟨rfl,hd⟩
 have r0:RB w1 w.heap.size k m true:=R0.o.on (Dr.below hd)
 have q0:w1.heap[w.heap.size+1]?=some (.cells z17 121 (0,0)):=((Dr.below hd:Bw w0 w1).block _ (zY Q0.o)).trans Q0.o
 have b0:Bw w w1:=B0.o.trans ((Dr.below hd:Bw w0 w1).mono B0.o.size)
 obtain⟨u,cu,fu⟩:=r0.cell (show 34<56 by omega)
 obtain⟨r1,c1⟩:=r0.set 34 (u:=.int .i64 Z) rfl (by omega) (by omega) (by omega) (by omega)
 obtain⟨q1,b1⟩:=Xpc r0 q0 b0 34 (.int .i64 Z)
 have R1:=Hd r1;have C1:=Hd c1;have Q1:=Hd q1;have B1:=Hd b1
 clear hd r0 q0 b0 r1 q1 b1 c1 NM R0 Q0 B0
 go_upto_region 15 with fail
 obtain⟨w2,hw2⟩:=xq (w1.setCell ⟨w.heap.size,34,none⟩ (.int .i64 Z))
 rw[←hw2] at R1 C1 Q1 B1⊢
 clear hw2 cu fu
 have c1:=C1.o
 obtain⟨cs',rc,ld,st,rs,bb⟩:=Xei w w2 (R1.o) (Q1.o) (B1.o)
 have RCX:=Hd rc;have LD:=Hd ld;have ST:=Hd st;have RES:=Hd rs;have BB:=Hd bb
 clear rc ld st rs bb
 have POST:Hid (∀er:Nat,er=Xfi 0 1000000 (bs x)→Xbn k 2 m (bs x) w (.returned (.tuple #[.agg cs',.int .i64 (er:Int)])) (w2.setRow (w.heap.size+1) cs')):=Hd (fun er he=>⟨cs',by rw[he];rfl,RCX.o,BB.o⟩)
 clear C1 R1 Q1 B1
 have NF:(Z=-1∧Xfi 0 1000000 (bs x)=3)∨(∃n:Nat,Z=(n:Int)∧Xfi 0 1000000 (bs x)=if n<0∨1000000<n then 2 else 0):=by
  have hz:=HZ.o
  unfold Yf6 at hz;unfold Xfi
  cases hp:Xlx (bs x) with
  |none=>rw[hp] at hz;exact .inl ⟨hz,rfl⟩
  |some n=>rw[hp] at hz;exact .inr ⟨n,hz,rfl⟩
 rcases NF with⟨rfl,hf⟩|⟨n,rfl,hf⟩
 ·have A0:Hid (Xbn k 2 m (bs x) w (.returned (.tuple #[.agg cs',.int .i64 3])) (w2.setRow (w.heap.size+1) cs')):=Hd (POST.o 3 hf.symm)
  clear hf POST HZ
  go_wp2_with (first
   |((with_reducible refine Xac 121 rfl _ rfl ?_);refine⟨_,_,rfl,LD.o,?_⟩)
   |((with_reducible refine Xab 121 rfl _ _ rfl ?_);refine⟨_,_,_,rfl,rfl,ST.o,?_⟩))
  exact zP (RES.o _ rfl) rfl A0.o
 ·by_cases h1:1000000<n
  ·have A0:Hid (Xbn k 2 m (bs x) w (.returned (.tuple #[.agg cs',.int .i64 2])) (w2.setRow (w.heap.size+1) cs')):=Hd (POST.o 2 (by rw[hf,qP (.inr h1)]))
   clear hf POST HZ
   go_wp2_with (first
    |((with_reducible refine Xac 121 rfl _ rfl ?_);refine⟨_,_,rfl,LD.o,?_⟩)
    |((with_reducible refine Xab 121 rfl _ _ rfl ?_);refine⟨_,_,_,rfl,rfl,ST.o,?_⟩))
   exact zP (RES.o _ rfl) rfl A0.o
  ·have A0:Hid (Xbn k 2 m (bs x) w (.returned (.tuple #[.agg cs',.int .i64 0])) (w2.setRow (w.heap.size+1) cs')):=Hd (POST.o 0 (by rw[hf,qN (by omega)]))
   clear hf POST HZ
   go_wp2_with (first
    |((with_reducible refine Xac 121 rfl _ rfl ?_);refine⟨_,_,rfl,LD.o,?_⟩)
    |((with_reducible refine Xab 121 rfl _ _ rfl ?_);refine⟨_,_,_,rfl,rfl,ST.o,?_⟩))
   exact zP (RES.o _ rfl) rfl A0.o
theorem Xpb (w:World)(cs:Array Value)(k:Nat)(m:Bool)(x:ByteArray)(hs:x.size≤100000)(h:RC cs k m true):
    Calls prog 122 #[.agg cs,.string ⟨#[110,117,109,98,101,114]⟩,.string x] w (Xbn k 5 m (bs x) w):=by
 obtain⟨w0,hw0⟩:=xq ((w.alloc (.cells cs 121)).alloc (.cells z17 121))
 obtain⟨r0,q0,b0,s0⟩:=Xe7 w cs h w0 hw0
 obtain⟨Z,hZ⟩:=xq (Yf6 (bs x))
 have NM:=Hd (fun w=>Xml x w (by unfold maxLen;omega))
 rw[←hZ] at NM
 have HZ:=Hd hZ
 have R0:=Hd r0;have Q0:=Hd q0;have B0:=Hd b0
 have HW:=Hd hw0
 clear hw0 h r0 q0 b0 s0 hZ
 go_enter func122,ntmps122
 go_upto_region 1 with fail
 have W':=HW.o
 unfold z17 at W'
 rw[←W']
 clear W' HW
 go_wp2_with fail
 refine(NM.o w0).mono ?_
 rintro e w1 ⟨rfl,hd⟩
 have r0:RB w1 w.heap.size k m true:=R0.o.on (Dr.below hd)
 have q0:w1.heap[w.heap.size+1]?=some (.cells z17 121 (0,0)):=((Dr.below hd:Bw w0 w1).block _ (zY Q0.o)).trans Q0.o
 have b0:Bw w w1:=B0.o.trans ((Dr.below hd:Bw w0 w1).mono B0.o.size)
 obtain⟨u,cu,fu⟩:=r0.cell (show 38<56 by omega)
 obtain⟨r1,c1⟩:=r0.set 38 (u:=.int .i64 Z) rfl (by omega) (by omega) (by omega) (by omega)
 obtain⟨q1,b1⟩:=Xpc r0 q0 b0 38 (.int .i64 Z)
 have R1:=Hd r1;have C1:=Hd c1;have Q1:=Hd q1;have B1:=Hd b1
 clear hd r0 q0 b0 r1 q1 b1 c1 NM R0 Q0 B0
 go_upto_region 21 with fail
 obtain⟨w2,hw2⟩:=xq (w1.setCell ⟨w.heap.size,38,none⟩ (.int .i64 Z))
 rw[←hw2] at R1 C1 Q1 B1⊢
 clear hw2 cu fu
 have c1:=C1.o
 obtain⟨cs',rc,ld,st,rs,bb⟩:=Xei w w2 (R1.o) (Q1.o) (B1.o)
 have RCX:=Hd rc;have LD:=Hd ld;have ST:=Hd st;have RES:=Hd rs;have BB:=Hd bb
 clear rc ld st rs bb
 have POST:Hid (∀er:Nat,er=Xfi 1 1000 (bs x)→Xbn k 5 m (bs x) w (.returned (.tuple #[.agg cs',.int .i64 (er:Int)])) (w2.setRow (w.heap.size+1) cs')):=Hd (fun er he=>⟨cs',by rw[he];rfl,RCX.o,BB.o⟩)
 clear C1 R1 Q1 B1
 have NF:(Z=-1∧Xfi 1 1000 (bs x)=3)∨(∃n:Nat,Z=(n:Int)∧Xfi 1 1000 (bs x)=if n<1∨1000<n then 2 else 0):=by
  have hz:=HZ.o
  unfold Yf6 at hz;unfold Xfi
  cases hp:Xlx (bs x) with
  |none=>rw[hp] at hz;exact .inl ⟨hz,rfl⟩
  |some n=>rw[hp] at hz;exact .inr ⟨n,hz,rfl⟩
 rcases NF with⟨rfl,hf⟩|⟨n,rfl,hf⟩
 ·have A0:Hid (Xbn k 5 m (bs x) w (.returned (.tuple #[.agg cs',.int .i64 3])) (w2.setRow (w.heap.size+1) cs')):=Hd (POST.o 3 hf.symm)
  clear hf POST HZ
  go_wp2_with (first
   |((with_reducible refine Xac 121 rfl _ rfl ?_);refine⟨_,_,rfl,LD.o,?_⟩)
   |((with_reducible refine Xab 121 rfl _ _ rfl ?_);refine⟨_,_,_,rfl,rfl,ST.o,?_⟩))
  exact zP (RES.o _ rfl) rfl A0.o
 ·by_cases h1:1000<n
  ·have A0:Hid (Xbn k 5 m (bs x) w (.returned (.tuple #[.agg cs',.int .i64 2])) (w2.setRow (w.heap.size+1) cs')):=Hd (POST.o 2 (by rw[hf,qP (.inr h1)]))
   clear hf POST HZ
   go_wp2_with (first
    |((with_reducible refine Xac 121 rfl _ rfl ?_);refine⟨_,_,rfl,LD.o,?_⟩)
    |((with_reducible refine Xab 121 rfl _ _ rfl ?_);refine⟨_,_,_,rfl,rfl,ST.o,?_⟩))
   exact zP (RES.o _ rfl) rfl A0.o
  ·by_cases h2:n<1
   ·have A0:Hid (Xbn k 5 m (bs x) w (.returned (.tuple #[.agg cs',.int .i64 2])) (w2.setRow (w.heap.size+1) cs')):=Hd (POST.o 2 (by rw[hf,qP (.inl h2)]))
    clear hf POST HZ
    go_wp2_with (first
     |((with_reducible refine Xac 121 rfl _ rfl ?_);refine⟨_,_,rfl,LD.o,?_⟩)
     |((with_reducible refine Xab 121 rfl _ _ rfl ?_);refine⟨_,_,_,rfl,rfl,ST.o,?_⟩))
    exact zP (RES.o _ rfl) rfl A0.o
   ·have A0:Hid (Xbn k 5 m (bs x) w (.returned (.tuple #[.agg cs',.int .i64 0])) (w2.setRow (w.heap.size+1) cs')):=Hd (POST.o 0 (by rw[hf,qN (by omega)]))
    clear hf POST HZ
    go_wp2_with (first
     |((with_reducible refine Xac 121 rfl _ rfl ?_);refine⟨_,_,rfl,LD.o,?_⟩)
     |((with_reducible refine Xab 121 rfl _ _ rfl ?_);refine⟨_,_,_,rfl,rfl,ST.o,?_⟩))
    exact zP (RES.o _ rfl) rfl A0.o
theorem Xvk (w:World)(cs:Array Value)(k:Nat)(m:Bool)(x:ByteArray)(hs:x.size≤100000)(h:RC cs k m true):
    Calls prog 122 #[.agg cs,.string ⟨#[109,111,100,101]⟩,.string x] w (Xbn k 3 m (bs x) w):=by
 obtain⟨w0,hw0⟩:=xq ((w.alloc (.cells cs 121)).alloc (.cells z17 121))
 obtain⟨r0,q0,b0,s0⟩:=Xe7 w cs h w0 hw0
 obtain⟨u,cu,fu⟩:=r0.cell (show 35<56 by omega)
 obtain⟨b,hb⟩:=xq (decide (bs x=Xi1))
 obtain⟨r1,c1⟩:=r0.setM b
 obtain⟨q1,b1⟩:=Xpc r0 q0 b0 35 (.bool b)
 have R1:=Hd r1;have C1:=Hd c1;have Q1:=Hd q1;have B1:=Hd b1
 have POST:Hid (∀w2 cs',RC cs' k b true→Bw w w2→∀er:Nat,er=(if bs x=Xgz∨bs x=Xi1 then 0 else 3)→Xbn k 3 m (bs x) w (.returned (.tuple #[.agg cs',.int .i64 (er:Int)])) w2):=Hd (fun w2 cs' h1 h2 er he=>⟨cs',by rw[he];rfl,by rw[qP rfl,←hb];exact h1,h2⟩)
 have HW:=Hd hw0
 clear hw0 h r0 q0 b0 s0 r1 c1 q1 b1
 go_enter func122,ntmps122
 go_upto_region 1 with fail
 have W':=HW.o
 unfold z17 at W'
 rw[←W']
 clear W' HW
 by_cases hm:x=(⟨#[109,111,100,101,114,97,116,101,100]⟩:ByteArray)
 ·have hb1:b=true:=by rw[hb,hm];rfl
  have LAW:Hid (bs x=Xi1):=Hd (by rw[hm];rfl)
  have PO:=Hd hm
  clear hb
  subst hb1
  subst hm
  go_upto_region 27 with fail
  obtain⟨w2,hw2⟩:=xq (w0.setCell ⟨w.heap.size,35,none⟩ (.bool true))
  rw[←hw2] at R1 C1 Q1 B1⊢
  clear hw2 cu fu
  have c1:=C1.o
  obtain⟨cs',rc,ld,st,rs,bb⟩:=Xei w w2 (R1.o) (Q1.o) (B1.o)
  have RCX:=Hd rc;have LD:=Hd ld;have ST:=Hd st;have RES:=Hd rs;have BB:=Hd bb
  clear rc ld st rs bb
  have A0:Hid (Xbn k 3 m (bs (⟨#[109,111,100,101,114,97,116,101,100]⟩:ByteArray)) w (.returned (.tuple #[.agg cs',.int .i64 0])) (w2.setRow (w.heap.size+1) cs')):=Hd (POST.o _ cs' RCX.o BB.o 0 (by rw[qP (.inr LAW.o)]))
  clear POST C1 R1 Q1 B1
  go_wp2_with (first
   |((with_reducible refine Xac 121 rfl _ rfl ?_);refine⟨_,_,rfl,LD.o,?_⟩)
   |((with_reducible refine Xab 121 rfl _ _ rfl ?_);refine⟨_,_,_,rfl,rfl,ST.o,?_⟩))
  exact zP (RES.o _ rfl) rfl A0.o
 ·have hnm:bs x≠Xi1:=fun e=>hm (Xg2 (e.trans (by rfl)))
  have q2:(x.toList==[109,111,100,101,114,97,116,101,100])=false:=by
   rw[beq_eq_false_iff_ne];intro e;apply hm;apply ByteArray.ext;apply Array.toList_inj.1;rw[←ByteArray.toList_eq];exact e
  have hb1:b=false:=by rw[hb,zW hnm]
  have HNM:=Hd hnm
  clear hb hnm hm
  subst hb1
  by_cases ho:x=⟨#[111,112,101,110]⟩
  ·have LAW:Hid (bs x=Xgz):=Hd (by rw[ho];rfl)
   subst ho
   clear q2
   go_upto_region 27 with fail
   obtain⟨w2,hw2⟩:=xq (w0.setCell ⟨w.heap.size,35,none⟩ (.bool false))
   rw[←hw2] at R1 C1 Q1 B1⊢
   clear hw2 cu fu
   have c1:=C1.o
   obtain⟨cs',rc,ld,st,rs,bb⟩:=Xei w w2 (R1.o) (Q1.o) (B1.o)
   have RCX:=Hd rc;have LD:=Hd ld;have ST:=Hd st;have RES:=Hd rs;have BB:=Hd bb
   clear rc ld st rs bb
   have A0:Hid (Xbn k 3 m (bs (⟨#[111,112,101,110]⟩:ByteArray)) w (.returned (.tuple #[.agg cs',.int .i64 0])) (w2.setRow (w.heap.size+1) cs')):=Hd (POST.o _ cs' RCX.o BB.o 0 (by rw[qP (.inl LAW.o)]))
   clear POST C1 R1 Q1 B1
   go_wp2_with (first
    |((with_reducible refine Xac 121 rfl _ rfl ?_);refine⟨_,_,rfl,LD.o,?_⟩)
    |((with_reducible refine Xab 121 rfl _ _ rfl ?_);refine⟨_,_,_,rfl,rfl,ST.o,?_⟩))
   exact zP (RES.o _ rfl) rfl A0.o
  ·have hno:bs x≠Xgz:=fun e=>ho (Xg2 (e.trans (by rfl)))
   have q1:(x.toList==[111,112,101,110])=false:=by
    rw[beq_eq_false_iff_ne];intro e;apply ho;apply ByteArray.ext;apply Array.toList_inj.1;rw[←ByteArray.toList_eq];exact e
   have HNO:=Hd hno
   clear ho hno
   go_upto_region 27 with fail
   obtain⟨w2,hw2⟩:=xq (w0.setCell ⟨w.heap.size,35,none⟩ (.bool false))
   rw[←hw2] at R1 C1 Q1 B1⊢
   clear hw2 cu fu
   have c1:=C1.o
   obtain⟨cs',rc,ld,st,rs,bb⟩:=Xei w w2 (R1.o) (Q1.o) (B1.o)
   have RCX:=Hd rc;have LD:=Hd ld;have ST:=Hd st;have RES:=Hd rs;have BB:=Hd bb
   clear rc ld st rs bb
   have A0:Hid (Xbn k 3 m (bs x) w (.returned (.tuple #[.agg cs',.int .i64 3])) (w2.setRow (w.heap.size+1) cs')):=Hd (POST.o _ cs' RCX.o BB.o 3 (by rw[qN (fun h=>h.elim HNO.o HNM.o)]))
   clear POST C1 R1 Q1 B1
   go_wp2_with (first
    |((with_reducible refine Xac 121 rfl _ rfl ?_);refine⟨_,_,rfl,LD.o,?_⟩)
    |((with_reducible refine Xab 121 rfl _ _ rfl ?_);refine⟨_,_,_,rfl,rfl,ST.o,?_⟩))
   exact zP (RES.o _ rfl) rfl A0.o
theorem Xto:(prog.info? 160).map (·.size)=some 32:=by kernel_rfl
theorem Xtr:(prog.info? 25).map (·.size)=some 32:=by kernel_rfl
theorem Xp7:prog.eqGuardType prog.depth 25=false:=by kernel_rfl
theorem Xo9 (w:World)(cs:Array Value)(k:Nat)(m:Bool)(x:ByteArray)(hs:x.size≤100000)(h:RC cs k m true):
    Calls prog 122 #[.agg cs,.string ⟨#[116,97,114,103,101,116]⟩,.string x] w (Xbn k 0 m (bs x) w):=by
 obtain⟨w0,hw0⟩:=xq ((w.alloc (.cells cs 121)).alloc (.cells z17 121))
 obtain⟨r0,q0,b0,s0⟩:=Xe7 w cs h w0 hw0
 obtain⟨zs,hzs⟩:=xq (idA zero32)
 have BZ:Hid (∀w,(Instr.build 25 #[]).run prog w=.ok (.agg zs) w):=Hd (fun w=>by rw[hzs];kernel_rfl)
 have MP:=Hd (Xvs x w0 (by omega))
 have R0:=Hd r0;have Q0:=Hd q0;have B0:=Hd b0
 have HW:=Hd hw0;have HZS:=Hd hzs
 clear hw0 h r0 q0 b0 s0 hzs
 go_enter func122,ntmps122
 go_upto_region 1 with fail
 have W':=HW.o
 unfold z17 at W'
 rw[←W']
 clear W' HW
 go_wp2_with fail
 refine MP.o.mono ?_
 rintro e w1 ⟨ao,er,hmid,hb1⟩
 have hpost:∃(ids:List Nat) (er':Int),e=.returned (.tuple #[.agg (idA ids),.int .i64 ao,.int .i64 er'])∧IdOk ids∧((Xfl (bs x)=none∧er'≠0)∨(Xfl (bs x)=some ids∧er'=0)):=by
  cases hp:Xfl (bs x) with
  |none=>rw[hp] at hmid;exact⟨zero32,er,hmid.1,zero_ok,.inl ⟨rfl,hmid.2⟩⟩
  |some i=>rw[hp] at hmid;exact⟨i,0,hmid,Xmp hp,.inr ⟨rfl,rfl⟩⟩
 clear hmid MP
 obtain⟨ids,er',rfl,hok,hlaw⟩:=hpost
 obtain⟨ic,hic⟩:=xq (idA ids)
 have ICL:Hid (Cl 32 ic):=Hd (by rw[hic];exact Ye5 hok)
 have EQ:Hid (∀w,(Op.equal 25 (.agg ic) (.agg zs)).run prog w=.ok (decide (ids=zero32)) w):=Hd (fun w=>by
  rw[hic,HZS.o];exact Xh3 underlying25 (by kernel_rfl) (by kernel_rfl) w hok.len hok.lt zero_ok.len zero_ok.lt)
 rw[←hic]
 have STN:Hid (∀zz:Array Value,zz.size=32→Sv 160 ⟨w1.heap.size,0,none⟩ (.agg ic) (w1.alloc (.cells zz 160)) (w1.alloc (.cells ic 160))):=Hd (fun zz hz=>run_storeVar_new w1 160 zz ic (by rw[ICL.o.1];exact Xto) (by rw[hz,ICL.o.1]) ICL.o.2)
 have hb3:Bw w0 (w1.alloc (.cells ic 160)):=hb1.alloc hb1.size _
 have R3:=Hd (R0.o.on hb3)
 have Q3:=Hd ((hb3.block _ (zY Q0.o)).trans Q0.o)
 have B3:=bh B0 hb3
 have I3:=Hd (zN w1 (.cells ic 160))
 have GW:Hid (w.heap.size<w1.heap.size):=Hd (by have:=R0.o.lt;have:=hb1.size;omega)
 clear hic hb1 hb3 R0 Q0 B0
 have HLAW:=Hd hlaw;have HOK:=Hd hok
 clear hok hlaw
 go_upto_region 4 with((with_reducible refine Xab 160 rfl _ _ rfl ?_);refine⟨_,_,_,rfl,rfl,STN.o _ rfl,?_⟩)
 obtain⟨w3,hw3⟩:=xq (w1.alloc (.cells ic 160))
 obtain⟨g,hg⟩:=xq w1.heap.size
 rw[←hw3] at R3 Q3 B3 I3⊢
 rw[←hg] at I3 GW⊢
 clear hw3 hg STN
 rcases HLAW.o with⟨hn,he⟩|⟨hn,rfl⟩
 ·have q1:(er' !=0)=true:=by simpa using he
  obtain⟨cs',rc,ld,st,rs,bb⟩:=Xei w w3 (R3.o) (Q3.o) (B3.o)
  have RCX:=Hd rc;have LD:=Hd ld;have ST:=Hd st;have RES:=Hd rs;have BB:=Hd bb
  clear rc ld st rs bb
  have A0:Hid (Xbn k 0 m (bs x) w (.returned (.tuple #[.agg cs',.int .i64 3])) (w3.setRow (w.heap.size+1) cs')):=Hd ⟨cs',by show _=Ending.returned (.tuple #[_,.int .i64 ((Xid (bs x):Nat):Int)]);unfold Xid;rw[hn];rfl,RCX.o,BB.o⟩
  clear he hn HLAW R3 Q3 B3 I3 EQ
  go_wp2_with (first
   |((with_reducible refine Xac 121 rfl _ rfl ?_);refine⟨_,_,rfl,LD.o,?_⟩)
   |((with_reducible refine Xab 121 rfl _ _ rfl ?_);refine⟨_,_,_,rfl,rfl,ST.o,?_⟩))
  exact zP (RES.o _ rfl) rfl A0.o
 ·have LDI:=Hd (Xal w3 g 32 _ _ ic _ _ I3.o rfl underlying160 Xto ICL.o.1)
  obtain⟨st1,r4,f4,c4⟩:=R3.o.store 1 32 (by omega) 25 ICL.o Xtr
  have ST1:=Hd st1
  have R4:=Hd r4;have C4:=Hd c4
  have Q4:=Hd ((f4.other _ (zY Q3.o) (by omega)).trans Q3.o)
  have B4:=Hd (B3.o.trans (f4.below B3.o.size (zL _)))
  have TG:Hid (Xid (bs x)=if ids=zero32 then 1 else 0):=Hd (by unfold Xid;rw[hn])
  clear st1 r4 f4 c4 R3 Q3 B3 HLAW hn
  go_upto_region 7 with(first
   |((with_reducible refine Xac 160 rfl _ rfl ?_);refine⟨_,_,rfl,LDI.o,?_⟩)
   |((with_reducible refine Xab 25 rfl _ _ rfl ?_);refine⟨_,_,_,rfl,rfl,ST1.o,?_⟩))
  obtain⟨w4,hw4⟩:=xq (w3.setCells w.heap.size 1 ic.toList)
  rw[←hw4] at R4 Q4 B4 C4⊢
  clear hw4 ST1 LDI I3
  have LD1:=Hd (Xah w4 w.heap.size 1 25 ic _ underlying25 rfl (by rw[ICL.o.1];exact Xtr) C4.o)
  obtain⟨cs',rc,ld,st,rs,bb⟩:=Xei w w4 (R4.o) (Q4.o) (B4.o)
  have RCX:=Hd rc;have LD:=Hd ld;have ST:=Hd st;have RES:=Hd rs;have BB:=Hd bb
  clear rc ld st rs bb
  obtain⟨b,hb⟩:=xq (decide (ids=zero32))
  rw[←hb] at EQ
  clear R4 Q4 B4 C4
  cases b
  ·have A0:Hid (Xbn k 0 m (bs x) w (.returned (.tuple #[.agg cs',.int .i64 0])) (w4.setRow (w.heap.size+1) cs')):=Hd ⟨cs',by show _=Ending.returned (.tuple #[_,.int .i64 ((Xid (bs x):Nat):Int)]);rw[TG.o,qN (by simpa using hb)];rfl,RCX.o,BB.o⟩
   clear hb TG
   go_wp2_with (first
    |((with_reducible refine Xac 121 rfl _ rfl ?_);refine⟨_,_,rfl,LD.o,?_⟩)
    |((with_reducible refine Xac 25 rfl _ rfl ?_);refine⟨_,_,rfl,LD1.o,?_⟩)
    |((with_reducible refine Xaf 25 rfl rfl ?_);refine⟨_,BZ.o _,?_⟩)
    |((with_reducible refine Xdb 25 rfl _ _ rfl Xp7 ?_);refine⟨_,_,_,rfl,rfl,EQ.o _,?_⟩)
    |((with_reducible refine Xab 121 rfl _ _ rfl ?_);refine⟨_,_,_,rfl,rfl,ST.o,?_⟩))
   exact zP (RES.o _ rfl) rfl A0.o
  ·have A0:Hid (Xbn k 0 m (bs x) w (.returned (.tuple #[.agg cs',.int .i64 1])) (w4.setRow (w.heap.size+1) cs')):=Hd ⟨cs',by show _=Ending.returned (.tuple #[_,.int .i64 ((Xid (bs x):Nat):Int)]);rw[TG.o,qP (by simpa using hb)];rfl,RCX.o,BB.o⟩
   clear hb TG
   go_wp2_with (first
    |((with_reducible refine Xac 121 rfl _ rfl ?_);refine⟨_,_,rfl,LD.o,?_⟩)
    |((with_reducible refine Xac 25 rfl _ rfl ?_);refine⟨_,_,rfl,LD1.o,?_⟩)
    |((with_reducible refine Xaf 25 rfl rfl ?_);refine⟨_,BZ.o _,?_⟩)
    |((with_reducible refine Xdb 25 rfl _ _ rfl Xp7 ?_);refine⟨_,_,_,rfl,rfl,EQ.o _,?_⟩)
    |((with_reducible refine Xab 121 rfl _ _ rfl ?_);refine⟨_,_,_,rfl,rfl,ST.o,?_⟩))
   exact zP (RES.o _ rfl) rfl A0.o
theorem Xpa (w:World)(cs:Array Value)(k:Nat)(m:Bool)(x:ByteArray)(hs:x.size≤100000)(h:RC cs k m true):
    Calls prog 122 #[.agg cs,.string ⟨#[112,117,98,108,105,99]⟩,.string x] w (Xbn k 6 m (bs x) w):=by
 obtain⟨w0,hw0⟩:=xq ((w.alloc (.cells cs 121)).alloc (.cells z17 121))
 obtain⟨r0,q0,b0,s0⟩:=Xe7 w cs h w0 hw0
 obtain⟨P,hP⟩:=xq (Xgl (bs x))
 have PP:=Hd (Xyf x w0 (by omega))
 have POST:Hid (∀cs' w',RC cs' k m true→Bw w w'→Xbn k 6 m (bs x) w (.returned (.tuple #[.agg cs',.int .i64 (P:Int)])) w'):=Hd (fun cs' w' h1 h2=>⟨cs',by rw[hP];rfl,h1,h2⟩)
 have R0:=Hd r0;have Q0:=Hd q0;have B0:=Hd b0
 have HW:=Hd hw0
 have HP:=Hd hP
 clear hw0 h r0 q0 b0 s0 hP
 go_enter func122,ntmps122
 go_upto_region 1 with fail
 have W':=HW.o
 unfold z17 at W'
 rw[←W']
 clear W' HW
 go_wp2_with fail
 refine PP.o.mono ?_
 rintro e w1 ⟨hh,rs,rfl,hcl,hb1⟩
 rw[←HP.o]
 have RCL:=Hd hcl
 have STN:Hid (∀zz:Array Value,zz.size=16→Sv 22 ⟨w1.heap.size,0,none⟩ (.agg rs) (w1.alloc (.cells zz 22)) (w1.alloc (.cells rs 22))):=Hd (fun zz hz=>run_storeVar_new w1 22 zz rs (by rw[RCL.o.1];exact Xcm) (by rw[hz,RCL.o.1]) RCL.o.2)
 have hb3:Bw w0 (w1.alloc (.cells rs 22)):=hb1.alloc hb1.size _
 have R3:=Hd (R0.o.on hb3)
 have Q3:=Hd ((hb3.block _ (zY Q0.o)).trans Q0.o)
 have B3:=bh B0 hb3
 have I3:=Hd (zN w1 (.cells rs 22))
 have GW:Hid (w.heap.size<w1.heap.size):=Hd (by have:=R0.o.lt;have:=hb1.size;omega)
 clear hcl hb1 hb3 R0 Q0 B0 PP
 go_upto_region 41 with((with_reducible refine Xab 22 rfl _ _ rfl ?_);refine⟨_,_,_,rfl,rfl,STN.o _ rfl,?_⟩)
 obtain⟨wd,hwd⟩:=xq ((w1.alloc (.cells rs 22)).drew)
 obtain⟨g,hg⟩:=xq w1.heap.size
 have rd:RB wd w.heap.size k m true:=by rw[hwd];exact R3.o.drew
 have qd:wd.heap[w.heap.size+1]?=some (.cells z17 121 (0,0)):=by rw[hwd];exact Q3.o
 have bd:Bw w wd:=by rw[hwd];exact B3.o.drew
 have HS:(fun wx:World=>wx.heap[g]?=some (.cells rs 22 (0,0))) wd:=by rw[hwd,hg];exact I3.o
 refine wp_region_held (S:=fun wx:World=>wx.heap[g]?=some (.cells rs 22 (0,0))) (by kernel_rfl) ?_
 change wpAnyH _ _ _ _ _ _ _ _ (w1.alloc (.cells rs 22)).drew
 rw[←hwd]
 rw[←hg] at GW⊢
 clear hwd hg STN R3 Q3 B3 I3
 obtain⟨u,cu,fu⟩:=rd.cell (show 39<56 by omega)
 obtain⟨r1,c1⟩:=rd.set 39 (u:=.int .i64 hh) rfl (by omega) (by omega) (by omega) (by omega)
 obtain⟨q1,b1⟩:=Xpc rd qd bd 39 (.int .i64 hh)
 obtain⟨wf,hwf⟩:=xq (wd.setCell ⟨w.heap.size,39,none⟩ (.int .i64 hh))
 have HS1:(fun wx:World=>wx.heap[g]?=some (.cells rs 22 (0,0))) wf:=by
  rw[hwf];show(wd.setCell _ _).heap[g]?=_
  rw[Below.heap_setCell _ _ _ _ (show g≠w.heap.size by have:=GW.o;omega)];exact HS
 rw[←hwf] at r1 q1 b1
 obtain⟨st1,r4,f4,c4⟩:=r1.store 40 16 (by omega) 22 RCL.o Xcm
 have HS2:(fun wx:World=>wx.heap[g]?=some (.cells rs 22 (0,0))) (wf.setCells w.heap.size 40 rs.toList):=(f4.other g (zY HS1) (by have:=GW.o;omega)).trans HS1
 have q4:=(f4.other _ (zY q1) (by omega)).trans q1
 have b4:=b1.trans (f4.below b1.size (zL _))
 have LZ:Hid (∀wx:World,wx.heap[g]?=some (.cells rs 22 (0,0))→Ld 22 ⟨g,0,none⟩ wx (.agg rs)):=Hd (fun wx h=>Xal wx g 16 _ _ rs _ _ h rfl underlying22 Xcm RCL.o.1)
 clear rd qd bd r1 q1 b1 c1 f4 c4
 refine Xad 0 (.int .i64 hh) rfl (fun _ _=>by go_simp) HS ?_
 refine Xad 1 (.agg rs) rfl (fun w' hw'=>Xai (ty:=22) (x:=.tmp 17) (ad:=⟨g,0,none⟩) rfl (by kernel_rfl) (LZ.o w' hw')) HS ?_
 refine Xad 2 (.pointer (some ⟨w.heap.size,39,none⟩)) rfl (fun _ _=>by go_simp) HS ?_
 refine Xa6 (i:=3) (w':=wf) (by kernel_rfl) rfl rfl (by rw[hwf];go_simp) HS1 ?_
 refine Xad 4 (.pointer (some ⟨w.heap.size,40,none⟩)) rfl (fun _ _=>by go_simp) HS1 ?_
 refine Xa6 (i:=5) (by kernel_rfl) rfl rfl (Xar (t:=22) (ad:=⟨w.heap.size,40,none⟩) (u:=.agg rs) rfl (by kernel_rfl) (by kernel_rfl) st1) HS2 ?_
 refine wpAnyH_done (by kernel_rfl) ?_ _
 clear HS HS1 HS2 hwf cu fu st1
 obtain⟨cs',rc,ld,st,rs,bb⟩:=Xei w (wf.setCells w.heap.size 40 rs.toList) (r4) (q4) (b4)
 have RCX:=Hd rc;have LD:=Hd ld;have ST:=Hd st;have RES:=Hd rs;have BB:=Hd bb
 clear rc ld st rs bb
 have A0:Hid (Xbn k 6 m (bs x) w (.returned (.tuple #[.agg cs',.int .i64 (P:Int)])) ((wf.setCells w.heap.size 40 rs.toList).setRow (w.heap.size+1) cs')):=Hd (POST.o cs' _ RCX.o BB.o)
 obtain⟨w5,hw5⟩:=xq (wf.setCells w.heap.size 40 rs.toList)
 rw[←hw5] at LD ST RES A0⊢
 clear r4 q4 b4 hw5 POST
 go_simp
 refine‹∀(a:Act) (w_1:World),_→_› _ _ ?_
 go_wp2_with (first
  |((with_reducible refine Xac 121 rfl _ rfl ?_);refine⟨_,_,rfl,LD.o,?_⟩)
  |((with_reducible refine Xab 121 rfl _ _ rfl ?_);refine⟨_,_,_,rfl,rfl,ST.o,?_⟩))
 exact zP (RES.o _ rfl) rfl A0.o
theorem Ylp:∀(l:List Value),l.length=16→prog.builtSlice 22 1 [((0:Nat),Value.agg l.toArray)]=some l.toArray
 |[v0,v1,v2,v3,v4,v5,v6,v7,v8,v9,v10,v11,v12,v13,v14,v15],_=>by kernel_rfl
theorem Ykv:(prog.info? 22).map (fun i=>(i.zero,i.size,i.bytes))=some (some (.agg (idA Xdm)),16,16):=by kernel_rfl
theorem Xv2 {w:World}{base n sz:Nat}{T:TypeId}{v:Value}{xs:List Value}(h:w.ownsRow base T sz v n xs):∃(va:Option Addr) (vc:Nat),v=.slice va n vc:=by
 rcases h.2 with⟨rfl,h0⟩|⟨g,cap,cur,rfl,r⟩
 ·exact⟨none,0,by rw[h0]⟩
 ·exact⟨_,cap,rfl⟩
theorem Ydo {T:TypeId}{w:World}{base n:Nat}{v:Value}{gs:List ByteArray}(hn:n=gs.length)(h:w.ownsRow base T 16 v n (Xcj gs)):∃(va:Option Addr) (vc:Nat),v=.slice va n vc∧Yjl w va (gs.map auZ):=by
 rcases h.2 with⟨rfl,h0⟩|⟨g,cap,cur,rfl,hg,hgb,hc,_,hs,ht⟩
 ·refine⟨none,0,by rw[h0],fun hne=>absurd ?_ hne⟩
  rw[h0] at hn
  rw[List.map_eq_nil_iff];exact List.length_eq_zero_iff.1 hn.symm
 ·refine⟨_,cap,rfl,fun _=>⟨g,0,rfl,fun q hq k u hu=>?_⟩⟩
  have hq':q<gs.length:=by simpa using hq
  have hk:k<16:=by
   have:=(Array.getElem?_eq_some_iff.1 hu).1
   rw[Xag,List.getElem_map,(Xia _).len] at this;exact this
  rw[Nat.zero_add,cell_of_row w g _ _ _ _ hgb]
  have e1:(cur.toList.take (n*16))[q*16+k]?=some u:=by
   rw[ht,Xiy gs q k hq' hk]
   rw[List.getElem_map] at hu
   unfold idA at hu
   rw[List.getElem?_toArray] at hu
   exact hu
  rw[List.getElem?_take] at e1
  split at e1
  ·simpa using e1
  ·cases e1
theorem Xnq (w:World)(cs:Array Value)(k0:Nat)(m:Bool)(x:ByteArray)(hs:x.size≤100000)(h:RC cs k0 m true):
    Calls prog 122 #[.agg cs,.string ⟨#[97,117,116,104,111,114,115]⟩,.string x] w (Xbn k0 4 m (bs x) w):=by
 obtain⟨w0,hw0⟩:=xq ((w.alloc (.cells cs 121)).alloc (.cells z17 121))
 obtain⟨r0,q0,b0,s0⟩:=Xe7 w cs h w0 hw0
 have SP:=Hd (Xmk x 44 w0 (by omega) (by omega))
 have R0:=Hd r0;have Q0:=Hd q0;have B0:=Hd b0;have S0:=Hd s0
 have HW:=Hd hw0
 obtain⟨i0,hi0,hz0,hz1,hz2⟩:=info_parts Ykv
 clear hw0 h r0 q0 b0 s0
 go_enter func122,ntmps122
 go_upto_region 1 with fail
 have W':=HW.o
 unfold z17 at W'
 rw[←W']
 clear W' HW
 go_wp2_with fail
 refine SP.o.mono ?_
 rintro e w3 ⟨v,gs,rfl,hgs,⟨sa,scap,rfl,hscap,hrow⟩,hgz,hgn,hown,hb3⟩
 have HGS:=Hd hgs
 have R3:=Hd (R0.o.on hb3)
 have Q3:=Hd ((hb3.block _ (zY Q0.o)).trans Q0.o)
 have B3:=bh B0 hb3
 have ROW:Hid (gs≠[]→∃b' off,sa=some ⟨b',off,none⟩∧b'<w3.heap.size∧b'≠w.heap.size∧∀j (h:j<gs.length),w3.cell? ⟨b',off+j,none⟩=some (.string gs[j])):=Hd (fun hne=>by
  obtain⟨b',off,h1,h2,h3⟩:=hrow hne
  refine⟨b',off,h1,h2,?_,h3⟩
  have:=(hown.lt b' (by rw[h1];rfl)).1
  have:=S0.o
  omega)
 have GZ:=Hd hgz
 have NE:Hid (0<gs.length):=Hd (by rw[←List.length_map (f:=bs),hgs];exact List.length_pos_iff.2 (Xkc 44 _))
 obtain⟨n,hn⟩:=xq gs.length
 have HN:=Hd hn
 rw[←hn] at hgn hscap⊢
 have hb3s:=hb3.size
 have hw03:w.heap.size+2≤w3.heap.size:=by have:=S0.o;omega
 clear SP hgs hrow hgz hown hb3 hn R0 Q0 B0 S0 hb3s
 go_wp2_with fail
 go_loopg [12,13,14,15] n (fun k i s13 s14 s15 wr=>∃(j:Nat) (v:Value),j≤n∧k=n-j∧i=.int .i64 (j:Int)∧Hid (Xd0 (gs.take j)=0)∧Hid (RB wr w.heap.size k0 m (decide (j=0)))∧Hid (wr.cell? ⟨w.heap.size,36,none⟩=some v∧v.oneCell'=true)∧Hid (wr.heap[w.heap.size+1]?=some (.cells z17 121 (0,0)))∧Hid (wr.ownsRow w3.heap.size 22 16 v j (Xcj (gs.take j)))∧Hid (Fr1 w.heap.size w3 wr))
 case atStart=>exact⟨0,.slice none 0 0,by omega,rfl,rfl,Hd rfl,R3,Hd ⟨R3.o.modsc,rfl⟩,Q3,Hd (World.ownsRow_nil _ _ _ _),Hd (Fr1.refl _ _)⟩
 case round=>
  obtain⟨j,v,hj,rfl,rfl,hbad,hrb,hc36,hq,ho,hfr⟩:=hrel
  have hpw:=hrb.o.lt
  have hw3r:w3.heap.size≤wr.heap.size:=hfr.o.size
  by_cases hjn:j<n
  ·have hjl:j<gs.length:=by rw[←HN.o];exact hjn
   obtain⟨b',off,rfl,hbl,hbb,hcl⟩:=ROW.o (by intro e;rw[e] at hjl;simp at hjl)
   obtain⟨g,hg⟩:=xq (gs[j])
   have hcg:wr.cell? ⟨b',off+j,none⟩=some (.string g):=by
    have h5:=hcl j hjl
    rw[←hg] at h5
    have:=hfr.o.other b' hbl hbb
    unfold World.cell? at h5⊢
    simp only[this]
    exact h5
   have hgs1:g.size≤1000000:=by have:=GZ.o g (by rw[hg];exact zG hjl);omega
   have TKE:gs.take (j+1)=gs.take j++[g]:=by rw[List.take_succ_eq_append_getElem hjl,hg]
   have PA:=Hd (Xyh g wr (by omega))
   have TB:=Hd (show Xd0 (gs.take (j+1))=fe (Xd0 (gs.take j)) (if(Xe2 (bs g)).isNone=true then 3 else 0) by rw[TKE,Xm9])
   have BADL:Hid ((Xe2 (bs g)).isNone=true→Xc8 (bs x)=3):=Hd (fun h=>by
    unfold Xc8
    rw[←HGS.o,Xjr,qP]
    exact List.any_eq_true.2 ⟨g,by rw[hg];exact zG hjl,h⟩)
   obtain⟨cs,hcs⟩:=xq (idA (auZ g))
   have CL:Hid (Cl 16 cs):=Hd (by rw[hcs];exact Xsu (Xia g))
   have TS:Hid (Xcj (gs.take (j+1))=Xcj (gs.take j)++cs.toList):=Hd (by rw[TKE,Xjb,hcs];rfl)
   have PA2:Hid (Calls prog 170 #[.string g] wr fun e w'=>∃(aa er:Int),e=.returned (.tuple #[.agg cs,.int .i64 aa,.int .i64 er])∧((Xe2 (bs g)).isNone=true↔er≠0)∧Bw wr w'):=Hd (PA.o.mono (by
    rintro e w' ⟨aa,er,h1,h2⟩
    rw[hcs]
    unfold auZ
    cases hq:Xe2 (bs g) with
    |none=>rw[hq] at h1;obtain⟨rfl,h3⟩:=h1;exact⟨aa,er,rfl,by simp[h3],h2⟩
    |some id=>rw[hq] at h1;subst h1;exact⟨aa,0,rfl,by simp,h2⟩))
   have CSZ:Hid (cs.size=16):=Hd CL.o.1
   have ONE:=Hd (Xqq CL.o)
   have BS:Hid (prog.builtSlice 22 1 [((0:Nat),Value.agg cs)]=some cs):=Hd (by have:=Ylp cs.toList (by simpa using CSZ.o);simpa using this)
   have FO:Hid (Array.foldl (fun(cs:Array Value) (x:Value×Nat)=>cs.setIfInBounds x.snd x.fst) #[Value.int .u8 0,.int .u8 0,.int .u8 0,.int .u8 0,.int .u8 0,.int .u8 0,.int .u8 0,.int .u8 0,.int .u8 0,.int .u8 0,.int .u8 0,.int .u8 0,.int .u8 0,.int .u8 0,.int .u8 0,.int .u8 0] cs.zipIdx 0 cs.size=cs):=Hd (by have:=Yai cs.toList (by simpa using CSZ.o);simpa using this)
   have FO2:Hid (Array.foldl (fun(cs:Array Value) (x:Value×Nat)=>cs.setIfInBounds x.snd x.fst) #[Value.int .u8 0,.int .u8 0,.int .u8 0,.int .u8 0,.int .u8 0,.int .u8 0,.int .u8 0,.int .u8 0,.int .u8 0,.int .u8 0,.int .u8 0,.int .u8 0,.int .u8 0,.int .u8 0,.int .u8 0,.int .u8 0] cs.zipIdx 0 16=cs):=Hd (by have:=FO.o;rw[CSZ.o] at this;exact this)
   clear hcl hcs hg PA TKE
   go_wp2_with fail
   refine PA2.o.mono ?_
   rintro e w4 ⟨aa,er4,rfl,hiff,hb4⟩
   have STN:Hid (∀zz:Array Value,zz.size=16→Sv 22 ⟨w4.heap.size,0,none⟩ (.agg cs) (w4.alloc (.cells zz 22)) (w4.alloc (.cells cs 22))):=Hd (fun zz hz=>run_storeVar_new w4 22 zz cs (by rw[CL.o.1];exact Xcm) (by rw[hz,CL.o.1]) CL.o.2)
   have hb5:Bw wr (w4.alloc (.cells cs 22)):=hb4.alloc hb4.size _
   have P5:=Hd (zN w4 (.cells cs 22))
   have R5:=Hd (hrb.o.on hb5)
   have Q5:=Hd ((hb5.block _ (zY hq.o)).trans hq.o)
   have O5:=Hd (Xd1 ho.o hb5)
   have F5:=Hd (hfr.o.trans (Fr1.of_below hb5))
   have C5:Hid ((w4.alloc (.cells cs 22)).cell? ⟨w.heap.size,36,none⟩=some v∧v.oneCell'=true):=Hd ⟨(hb5.cell (p:=⟨w.heap.size,36,none⟩) hpw).trans hc36.o.1,hc36.o.2⟩
   have hw4:wr.heap.size≤w4.heap.size:=hb4.size
   have HIFF:=Hd hiff
   clear hb4 hb5 PA2 hiff hrb hq ho hfr hc36 hcg
   by_cases her:er4=0
   ·subst her
    have TB2:Hid (Xd0 (gs.take (j+1))=0):=Hd (by rw[TB.o,qN (fun h=>HIFF.o.1 h rfl),Xqb];exact hbad.o)
    go_upto_region 37 with((with_reducible refine Xab 22 rfl _ _ rfl ?_);refine⟨_,_,_,rfl,rfl,STN.o _ rfl,?_⟩)
    obtain⟨w6,hw6⟩:=xq (w4.alloc (.cells cs 22))
    rw[←hw6] at R5 Q5 O5 F5 C5 P5⊢
    have LD:=Hd (Xal w6 w4.heap.size 16 _ _ cs _ _ P5.o rfl underlying22 Xcm CL.o.1)
    have hw36:w3.heap.size≤w6.heap.size:=by rw[hw6];simp;omega
    have GROW:Hid (∀(o:Obj) (w8:World),(w6.alloc o).grownBy w8 v.ownBlock→RB w8 w.heap.size k0 m (decide (j=0))∧w8.heap[w.heap.size+1]?=some (.cells z17 121 (0,0))∧Fr1 w.heap.size w3 w8):=Hd (fun o w8 hg=>by
     have B1:Below w3.heap.size w6 (w6.alloc o):=(zR _ _).alloc hw36 _
     have B:=Below.grown B1 hg (by simp;omega) (fun k hk=>(O5.o.lt k hk).1)
     obtain⟨ds,hd1,hd2⟩:=R5.o
     exact⟨⟨ds,(B.block _ (by omega)).trans hd1,hd2⟩,(B.block _ (by omega)).trans Q5.o,⟨B.os.trans F5.o.os,B.tape.trans F5.o.tape,B.output.trans F5.o.output,Nat.le_trans hw36 B.size,fun k hk hne=>(B.block k hk).trans (F5.o.other k hk hne)⟩⟩)
    have hcz:cs.size=16:=CSZ.o
    have c36:=C5.o.1
    clear hw6 STN HIFF TB hbad R5 Q5 F5
    go_wp2_with (first
     |((with_reducible refine Xac 22 rfl _ rfl ?_);refine⟨_,_,rfl,LD.o,?_⟩)
     |((with_reducible refine wpList_buildSliceTo rfl 53 22 1 _ rfl w6.heap.size rfl _ rfl underlying53 cs BS.o ?_))
     |(at_builtin;refine wpList_append_own _ rfl _ _ 53 rfl w3.heap.size 22 i0 (.agg (idA Xdm)) 16 16 underlying53 hi0 hz0 hz1 hz2 rfl (by decide) _ _ _ rfl (O5.o.alloc _) ⟨w6.heap.size,0,none⟩ 1 1 cs.toList rfl (by simpa using CSZ.o) (World.news_of_block (cs:=cs) (t:=22) (fr:=(0,0)) (by(first|rw[FO2.o]|rw[FO.o]);exact zN w6 _)) ONE.o (by unfold maxLen;omega) (by omega) (by simp;omega) ?_;intro v' w8 hown' hgrow _;obtain⟨sa',sc',rfl⟩:=Xv2 hown';obtain⟨r8,q8,f8⟩:=GROW.o _ w8 hgrow;clear hgrow GROW;obtain⟨u,cu,fu⟩:=r8.cell (show 36<56 by omega)))
    have O8:Hid (w8.ownsRow w3.heap.size 22 16 (.slice sa' (j+1) sc') (j+1) (Xcj (gs.take (j+1)))):=Hd (by rw[TS.o];exact hown')
    obtain⟨r9,c9⟩:=r8.setL (u:=.slice sa' (j+1) sc') rfl
    have f9:Fr1 w.heap.size w3 (w8.setCell ⟨w.heap.size,36,none⟩ (.slice sa' (j+1) sc')):=f8.trans (Fr1.setC _)
    have q9:(w8.setCell ⟨w.heap.size,36,none⟩ (.slice sa' (j+1) sc')).heap[w.heap.size+1]?=some (.cells z17 121 (0,0)):=by
     rw[Below.heap_setCell _ _ _ _ (show w.heap.size+1≠w.heap.size by omega)];exact q8
    have O9:=Hd (Xkq O8.o (Fr1.setC (w:=w8) (b:=w.heap.size) (j:=36) (.slice sa' (j+1) sc')) (by omega))
    have R9:Hid (RB (w8.setCell ⟨w.heap.size,36,none⟩ (.slice sa' (j+1) sc')) w.heap.size k0 m (decide (j+1=0))):=Hd r9
    have C9:=Hd c9;have F9:=Hd f9;have Q9:=Hd q9
    clear hown' r9 c9 f9 q9 r8 q8 f8 O8 LD BS FO FO2 c36 C5 O5 P5 ONE
    go_wp2_with fail
    go_roundg (n-(j+1))
    case measure=>omega
    case rel=>exact⟨j+1,_,by omega,rfl,by go_num,TB2,R9,Hd ⟨C9.o,rfl⟩,Q9,O9,F9⟩
   ·have q0:(er4 !=0)=true:=Xam her
    have MF:=Hd (BADL.o (HIFF.o.2 her))
    have B5:=Hd (B3.o.trans (F5.o.below B3.o.size (zL _)))
    obtain⟨cs',rc,ld,st,rs,bb⟩:=Xei w (w4.alloc (.cells cs 22)) (R5.o) (Q5.o) (B5.o)
    have RCX:=Hd rc;have LD:=Hd ld;have ST:=Hd st;have RES:=Hd rs;have BB:=Hd bb
    clear rc ld st rs bb
    have A0:Hid (Xbn k0 4 m (bs x) w (.returned (.tuple #[.agg cs',.int .i64 3])) ((w4.alloc (.cells cs 22)).setRow (w.heap.size+1) cs')):=Hd ⟨cs',by show _=Ending.returned (.tuple #[_,.int .i64 ((Xc8 (bs x):Nat):Int)]);rw[MF.o];rfl,RCX.o.weak,BB.o⟩
    clear her C5 O5 F5 R5 Q5 P5 B5 BS FO FO2 ONE
    go_wp2_with (first
     |((with_reducible refine Xac 121 rfl _ rfl ?_);refine⟨_,_,rfl,LD.o,?_⟩)
     |((with_reducible refine Xab 22 rfl _ _ rfl ?_);refine⟨_,_,_,rfl,rfl,STN.o _ rfl,?_⟩)
     |((with_reducible refine Xab 121 rfl _ _ rfl ?_);refine⟨_,_,_,rfl,rfl,ST.o,?_⟩))
    exact zP (RES.o _ rfl) rfl A0.o
  ·obtain rfl:j=n:=by omega
   have hall:gs.take j=gs:=List.take_of_length_le (by rw[HN.o];exact zL _)
   rw[hall] at hbad ho
   have MOK:Hid (Xc8 (bs x)=if 8<j then 9 else if Xmy (gs.map auZ)=false then 30 else 0):=Hd (by
    have h0:gs.any (fun g=>(Xe2 (bs g)).isNone)=false:=by
     have:=hbad.o;unfold Xd0 at this
     cases h:gs.any (fun g=>(Xe2 (bs g)).isNone)
     ·rfl
     ·rw[qP h] at this;cases this
    unfold Xc8
    rw[←HGS.o,Xjr,h0,HN.o]
    simp)
   obtain⟨va,vc,rfl,har⟩:=Ydo HN.o ho.o
   obtain⟨ds,hd1,hd2⟩:=hrb.o
   have hd36:ds[36]?=some (.slice va j vc):=by have h:=hc36.o.1;rw[cell_of_row wr w.heap.size 36 _ _ _ hd1] at h;exact h
   have DCL:=Hd hd2
   have LNM:(gs.map auZ).length=j:=by rw[List.length_map,HN.o]
   obtain⟨M,hM⟩:=xq (Xc8 (bs x))
   have POST:Hid (∀w',Bw w w'→Xbn k0 4 m (bs x) w (.returned (.tuple #[.agg ds,.int .i64 (M:Int)])) w'):=Hd (fun w' h2=>⟨ds,by rw[hM];rfl,hd2.weak,h2⟩)
   have MD:=Xyl wr.drew va vc (gs.map auZ) (by rw[LNM];have:=NE.o;have:=HN.o;omega) (by rw[LNM];omega) har (fun y hy=>by obtain⟨g,_,rfl⟩:=List.mem_map.1 hy;exact Xia g)
   rw[LNM,←MOK.o,←hM] at MD
   have MD:=Hd MD
   have BR:=B3.o.trans (hfr.o.below B3.o.size (zL _))
   have HBR:Hid (Bw w wr.drew):=Hd BR.drew
   have HQ:=Hd (show wr.drew.heap[w.heap.size+1]?=some (.cells z17 121 (0,0)) from hq.o)
   have LZ:Hid (∀wx:World,wx.heap[w.heap.size]?=some (.cells ds 121 (0,0))→Ld 121 ⟨w.heap.size,0,none⟩ wx (.agg ds)):=Hd (fun wx h=>Xal wx w.heap.size 56 _ _ ds _ _ h rfl underlying121 Xbr DCL.o.cl.1)
   have C36:Hid (∀wx:World,wx.heap[w.heap.size]?=some (.cells ds 121 (0,0))→wx.cell? ⟨w.heap.size,36,none⟩=some (.slice va j vc)):=Hd (fun wx h=>by rw[cell_of_row wx w.heap.size 36 _ _ _ h];exact hd36)
   have STX:Hid (∀wx:World,wx.heap[w.heap.size+1]?=some (.cells z17 121 (0,0))→Bw w wx→Sv 121 ⟨w.heap.size+1,0,none⟩ (.agg ds) wx (wx.setRow (w.heap.size+1) ds)∧
       (∀tmps:Array Value,tmps.getD 6 undef=.pointer (some ⟨w.heap.size+1,0,none⟩)→(results Tryz.f122 tmps).run prog (wx.setRow (w.heap.size+1) ds)=.ok (.tuple #[.agg ds,tmps.getD 7 undef]) (wx.setRow (w.heap.size+1) ds))∧Bw w (wx.setRow (w.heap.size+1) ds)):=Hd (fun wx hx hbx=>
    ⟨run_storeVar_row (P:=prog) wx (w.heap.size+1) _ 121 z17 ds hx (by rw[DCL.o.cl.1];exact Xbr) (by rw[DCL.o.cl.1,cl_z17.1]) DCL.o.cl.2,
     fun tmps ht=>Xa1 results122 tmps _ (w.heap.size+1) _ _ _ _ ht (setRow_heap wx (w.heap.size+1) z17 ds _ _ hx) underlying121 rfl (by rw[DCL.o.cl.1];exact Xbr),
     below_setRow hbx (Nat.le_succ _) ds⟩)
   clear hM MOK har hc36 hbad hrb hq ho hfr BR hd36 hd2 ROW GZ LNM
   go_upto_region 38 with fail
   have HS:(fun wx:World=>wx.heap[w.heap.size]?=some (.cells ds 121 (0,0))) wr.drew:=hd1
   refine wp_region_held (S:=fun wx:World=>wx.heap[w.heap.size]?=some (.cells ds 121 (0,0))) (by kernel_rfl) ?_
   change wpAnyH _ _ _ _ _ _ _ _ wr.drew
   obtain⟨wd,hwd⟩:=xq wr.drew
   rw[←hwd] at HS MD HBR HQ⊢
   clear hwd hd1
   refine Xad 0 (.agg ds) rfl (fun w' hw'=>Xai (ty:=121) (x:=.tmp 3) (ad:=⟨w.heap.size,0,none⟩) rfl (by kernel_rfl) (LZ.o w' hw')) HS ?_
   refine Xad 1 (.pointer (some ⟨w.heap.size,36,none⟩)) rfl (fun _ _=>by go_simp) HS ?_
   refine Xad 2 (.slice va j vc) rfl (fun w' hw'=>by have c36:=C36.o w' hw';go_simp) HS ?_
   refine Xak (i:=3) (by kernel_rfl) ?_
   refine Xao (f:=171) (args:=#[.slice va j vc]) rfl rfl (by go_simp) ?_
   refine MD.o.mono ?_
   rintro e w7 ⟨rfl,hd7⟩
   have b7:Bw wd w7:=Dr.below hd7
   have HS7:(fun wx:World=>wx.heap[w.heap.size]?=some (.cells ds 121 (0,0))) w7:=(b7.block _ (zY HS)).trans HS
   obtain⟨st7,rs7,bb7⟩:=STX.o w7 ((b7.block _ (zY HQ.o)).trans HQ.o) (bg HBR.o b7)
   have HS8:(fun wx:World=>wx.heap[w.heap.size]?=some (.cells ds 121 (0,0))) (w7.setRow (w.heap.size+1) ds):=(setRow_other w7 (w.heap.size+1) w.heap.size ds (by omega)).trans HS7
   have RES:=Hd rs7;have BB:=Hd bb7
   refine⟨_,rfl,HS7,?_⟩
   refine Xa6 (i:=4) (by kernel_rfl) rfl rfl (Xar (t:=121) (ad:=⟨w.heap.size+1,0,none⟩) (u:=.agg ds) rfl (by kernel_rfl) (by kernel_rfl) st7) HS8 ?_
   refine Xay (i:=5) (v:=.int .i64 (M:Int)) (by kernel_rfl) rfl rfl (Xap rfl (by kernel_rfl)) HS8 ?_
   refine wpAnyH_done (by kernel_rfl) ?_ _
   clear HS HS7 HS8 st7 rs7 bb7 b7 hd7 MD HBR HQ LZ C36 STX
   go_simp
   refine‹∀(a:Act) (w_1:World),_→_› _ _ ?_
   go_wp2_with fail
   exact zP (RES.o _ rfl) rfl (POST.o _ BB.o)
def Xgj (a:Nat):ByteArray:=if a=0 then⟨#[116,97,114,103,101,116]⟩ else if a=1 then⟨#[103,114,111,117,112]⟩ else if a=2 then⟨#[118,101,114,115,105,111,110]⟩ else if a=3 then⟨#[109,111,100,101]⟩ else if a=4 then⟨#[97,117,116,104,111,114,115]⟩ else if a=5 then⟨#[110,117,109,98,101,114]⟩ else⟨#[112,117,98,108,105,99]⟩
theorem Xyb (w:World)(cs:Array Value)(k a:Nat)(m:Bool)(x:ByteArray)(ha:a≤6)(hs:x.size≤100000)(h:RC cs k m true):
    Calls prog 122 #[.agg cs,.string (Xgj a),.string x] w (Xbn k a m (bs x) w):=by
 rcases(by omega:a=0∨a=1∨a=2∨a=3∨a=4∨a=5∨a=6) with rfl|rfl|rfl|rfl|rfl|rfl|rfl
 ·exact Xo9 w cs k m x hs h
 ·exact Xrb w cs k m x (by omega) h
 ·exact Xnp w cs k m x hs h
 ·exact Xvk w cs k m x hs h
 ·exact Xnq w cs k m x hs h
 ·exact Xpb w cs k m x hs h
 ·exact Xpa w cs k m x hs h
theorem Ymd {a:Nat}(h:a≤6)(h4:a≠4):((Xgj a).toList==[97,117,116,104,111,114,115])=false:=by
 rcases(by omega:a=0∨a=1∨a=2∨a=3∨a=5∨a=6) with rfl|rfl|rfl|rfl|rfl|rfl<;>kernel_rfl
theorem Xzt {x:List Nat}{k:Nat}(h:Xha x=k)(hk:k≠0):bs (Xjk k)=x:=by
 unfold Xha at h
 split at h
 ·subst h;rename_i e;rw[e];decide
 split at h
 ·subst h;rename_i e;rw[e];decide
 split at h
 ·subst h;rename_i e;rw[e];decide
 split at h
 ·subst h;rename_i e;rw[e];decide
 split at h
 ·subst h;rename_i e;rw[e];decide
 ·exact absurd h.symm hk
theorem Xr0 {k:Nat}(h1:1≤k)(h5:k≤5):Xha (bs (Xjk k))=k:=by
 rcases(by omega:k=1∨k=2∨k=3∨k=4∨k=5) with rfl|rfl|rfl|rfl|rfl<;>decide
theorem Yeb (x:List Nat):Xha x≤5:=by
 unfold Xha
 split
 ·omega
 split
 ·omega
 split
 ·omega
 split
 ·omega
 split<;>omega
theorem Xzs {k:Nat}{x:ByteArray}(h1:1≤k)(h5:k≤5):((Xjk k).toList==x.toList)=decide (Xha (bs x)=k):=by
 by_cases e:Xha (bs x)=k
 ·rw[zT e,Xg2 (Xzt e (by omega))];exact beq_self_eq_true _
 ·rw[zW e,beq_eq_false_iff_ne,ByteArray.toList_eq,ByteArray.toList_eq]
  intro h
  have h2:Xjk k=x:=ByteArray.ext (Array.toList_inj.1 h)
  exact e (by rw[←h2];exact Xr0 h1 h5)
theorem Xvn (w:World)(k:Nat)(h1:1≤k)(h5:k≤5):
    Calls prog 121 #[.int .i64 (k:Int)] w fun e w'=>∃v,e=.returned v∧SRow w' v ((Xcu k).map Xgj)∧Bw w w'∧(∀a,v.ownBlock=some a→w.heap.size≤a):=by
 have AT:∀(l:List ByteArray),SRow (w.alloc (.cells (l.map Value.string).toArray 9)) (.slice (some ⟨w.heap.size,0,none⟩) l.length l.length) l:=fun l=>
  ⟨_,_,rfl,zL _,fun _=>⟨_,0,rfl,by simp,fun j h=>by
    rw[Nat.zero_add,cell_of_row _ w.heap.size j _ _ _ (heap_alloc_last w _)]
    simp[h]⟩⟩
 have OWN:∀(n:Nat) a,(Value.slice (some ⟨w.heap.size,0,none⟩) n n).ownBlock=some a→w.heap.size≤a:=fun n a h=>by
  have:some w.heap.size=some a:=h
  cases this;exact zL _
 have BB:=fun(o:Obj)=>(zR w.heap.size w).alloc (zL _) o
 rcases(by omega:k=1∨k=2∨k=3∨k=4∨k=5) with rfl|rfl|rfl|rfl|rfl
 ·have A:=Hd (AT [Xgj 0]);have O:=Hd (OWN 1);have B:=Hd BB
  clear AT OWN BB
  go_enter func121,ntmps121
  go_wp2_with fail
  go_ret
  exact⟨_,rfl,A.o,B.o _,O.o⟩
 ·have A:=Hd (AT [Xgj 0,Xgj 1]);have O:=Hd (OWN 2);have B:=Hd BB
  clear AT OWN BB
  go_enter func121,ntmps121
  go_wp2_with fail
  go_ret
  exact⟨_,rfl,A.o,B.o _,O.o⟩
 ·have A:=Hd (AT [Xgj 1,Xgj 2,Xgj 3,Xgj 4]);have O:=Hd (OWN 4);have B:=Hd BB
  clear AT OWN BB
  go_enter func121,ntmps121
  go_wp2_with fail
  go_ret
  exact⟨_,rfl,A.o,B.o _,O.o⟩
 ·have A:=Hd (AT [Xgj 1,Xgj 2]);have O:=Hd (OWN 2);have B:=Hd BB
  clear AT OWN BB
  go_enter func121,ntmps121
  go_wp2_with fail
  go_ret
  exact⟨_,rfl,A.o,B.o _,O.o⟩
 ·have A:=Hd (AT [Xgj 5,Xgj 6]);have O:=Hd (OWN 2);have B:=Hd BB
  clear AT OWN BB
  go_enter func121,ntmps121
  go_wp2_with fail
  go_ret
  exact⟨_,rfl,A.o,B.o _,O.o⟩
theorem Xja {o:Oper}{a:Act}(w:World)(ho:o.op=.alloc 121):(execOp a.eval o).run prog w=.ok (.value (.pointer (some ⟨w.heap.size,0,none⟩))) (w.alloc (.cells z17 121)):=by
 unfold execOp
 rw[ho]
 rfl
theorem Xdo (w:World):(Instr.build 121 #[]).run prog w=.ok (.agg z17) w:=by kernel_rfl
end Go.Proofs.YtjolcnopipbkhaaGreatDoor
