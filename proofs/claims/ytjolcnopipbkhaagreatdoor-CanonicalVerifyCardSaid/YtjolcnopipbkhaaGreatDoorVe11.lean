/- bulletinref05.schedule (printed by gen_sched.py). -/
import Derived.Test.YtjolcnopipbkhaaGreatDoorVe10
namespace Go.Proofs.YtjolcnopipbkhaaGreatDoor
open Go.Proofs.Tryz
open Go.RowKit Go.Maps
set_option linter.unusedVariables false
set_option maxHeartbeats 100000000
set_option maxRecDepth 100000
theorem Xf1:(prog.info? 165).map (·.size)=some 64:=by kernel_rfl
structure L64 (ws:List Nat):Prop where
 len:ws.length=64
 lt:∀x∈ws,x<4294967296
theorem L64.at {ws:List Nat}(h:L64 ws)(q:Nat):ws.getD q 0<4294967296:=by
 by_cases hq:q<ws.length;·rw[List.getD_eq_getElem?_getD,List.getElem?_eq_getElem hq,Option.getD_some];exact h.lt _ (zG hq)
 rw[List.getD_eq_getElem?_getD,List.getElem?_eq_none (by omega)];decide
theorem L64.set {ws:List Nat}(h:L64 ws)(q:Nat){x:Nat}(hx:x<4294967296):L64 (ws.set q x):=⟨by simp[h.len],fun y a=>by
 rcases List.mem_or_eq_of_mem_set a with a|rfl;·exact h.lt _ a
 exact hx⟩
theorem Xz0 {a b:Nat}(h:a<4294967296)(h2:b<4294967296):a|||b<4294967296:=Nat.or_lt_two_pow (n:=32) h h2
theorem Ym3 {a b c d:Nat}(hd:d<256):be4 a b c d<4294967296:=by unfold be4 Xdq;exact Xz0 (Xz0 (Xz0 (Nat.mod_lt _ (by omega)) (Nat.mod_lt _ (by omega))) (Nat.mod_lt _ (by omega))) (by omega)
theorem Xla {b:List Nat}(hb:∀x∈b,x<256)(q:Nat):b.getD q 0<256:=by
 by_cases hq:q<b.length;·rw[List.getD_eq_getElem?_getD,List.getElem?_eq_getElem hq,Option.getD_some];exact hb _ (zG hq)
 rw[List.getD_eq_getElem?_getD,List.getElem?_eq_none (by omega)];decide
theorem Yil {b:List Nat}(hb:∀x∈b,x<256)(ws:List Nat)(t:Nat):Xt1 b ws t<4294967296:=by
 unfold Xt1;split;·unfold beW;exact Ym3 (Xla hb _)
 exact Xc2 _ _
theorem Xt2 {b:List Nat}(hb:∀x∈b,x<256)(n:Nat):L64 (Xcr b n):=by
 induction n with
 |zero=>exact⟨by simp[Xcr],fun x hx=>by simp[Xcr] at hx;omega⟩
 |succ n ih=>rw[Xen];exact ih.set _ (Yil hb _ _)
theorem WB.load64 {w:World}{b:Nat}{ws:List Nat}(h:WB w b 165 ws)(hl:ws.length=64):Ld 165 ⟨b,0,none⟩ w (.agg (wA ws)):=
 run_loadVar_row w b _ 165 _ _ _ h underlying165 rfl (by rw[Xb4,hl];exact Xf1)
def zz64:List Value:=.int .u32 0::.int .u32 0::.int .u32 0::.int .u32 0::.int .u32 0::.int .u32 0::.int .u32 0::.int .u32 0::.int .u32 0::.int .u32 0::.int .u32 0::.int .u32 0::.int .u32 0::.int .u32 0::.int .u32 0::.int .u32 0::.int .u32 0::.int .u32 0::.int .u32 0::.int .u32 0::.int .u32 0::.int .u32 0::.int .u32 0::.int .u32 0::.int .u32 0::.int .u32 0::.int .u32 0::.int .u32 0::.int .u32 0::.int .u32 0::.int .u32 0::.int .u32 0::.int .u32 0::.int .u32 0::.int .u32 0::.int .u32 0::.int .u32 0::.int .u32 0::.int .u32 0::.int .u32 0::.int .u32 0::.int .u32 0::.int .u32 0::.int .u32 0::.int .u32 0::.int .u32 0::.int .u32 0::.int .u32 0::.int .u32 0::.int .u32 0::.int .u32 0::.int .u32 0::.int .u32 0::.int .u32 0::.int .u32 0::.int .u32 0::.int .u32 0::.int .u32 0::.int .u32 0::.int .u32 0::.int .u32 0::.int .u32 0::.int .u32 0::.int .u32 0::[]
theorem Xq5:zz64.toArray=wA (List.replicate 64 0):=rfl
theorem Xd5 (n:Int):IntKind.u32.wrap n=n%4294967296:=by simp[IntKind.wrap,IntKind.signed,IntKind.bits]
theorem Xti {x:Nat}(h:x<4294967296):IntKind.u32.wrap ((x:Nat):Int)=(x:Int):=by rw[Xd5];omega
theorem Xv1 (w:World)(a:Option Addr)(cap:Nat){b:List Nat}(hr:Rd w a b)(hl:b.length=64):zJ 111 #[.slice a 64 cap] w (.agg (wA (Xnj b))):=by
 obtain⟨w0,D⟩:=xq ((w.alloc (.cells zz64.toArray 165)).alloc (.cells zz64.toArray 165));have B0:Hid (Bw w w0):=Hd (by rw[D];exact((zR _ _).alloc (zL _) _).alloc (by simp) _);have I0:Hid (WB w0 w.heap.size 165 (List.replicate 64 0)):=Hd (by unfold WB;rw[D,←Xq5];exact Xad (heap_alloc_last w _));have I1:Hid (WB w0 (w.heap.size+1) 165 (Xcr b 0)):=Hd (by unfold WB;rw[D,show Xcr b 0=List.replicate 64 0 from rfl,←Xq5];have:=heap_alloc_last (w.alloc (.cells zz64.toArray 165)) (.cells zz64.toArray 165);rw[World.size_alloc] at this;exact this);unfold zz64 at D;have HW:=Hd D;have aF:=hr.lt;obtain⟨g,off,ha,bJ,aO⟩:=hr.at_ (by omega);have O:Hid (∀wx,Bw w wx→∀q,q<64→wx.cell? ⟨g,off+q,none⟩=some (.int .u8 ((b.getD q 0:Nat):Int))):=Hd (fun wx hx q hq=>by rw[hx.cell (p:=⟨g,off+q,none⟩) bJ,aO q (by omega),List.getD_eq_getElem?_getD,List.getElem?_eq_getElem (by omega),Option.getD_some];rfl);have HB:=Hd aF;subst ha;clear D hr aO hl aF;go_enter func111,ntmps111;go_upto_region 2 with fail;rw[←HW.o];clear HW;go_wp2_with fail;go_loopg [4,5,6] 64 (fun k i v5 v6 wr=>∃j:Nat,j≤64∧k=64-j∧i=.int .i64 (j:Int)∧Hid (WB wr w.heap.size 165 (List.replicate 64 0))∧Hid (WB wr (w.heap.size+1) 165 (Xcr b j))∧Hid (Bw w wr));exact⟨0,by omega,rfl,rfl,I0,I1,B0⟩;clear I0 I1 B0;obtain⟨j,hj,rfl,rfl,i0,i1,Q⟩:=hrel;have E:=Hd (Xt2 HB.o j);by_cases h:j<64
 ·have NX:Hid (∀y,y=Xt1 b (Xcr b j) j→Xcr b (j+1)=(Xcr b j).set j y):=Hd (fun y H=>by rw[H,Xen];rfl);have M:Hid (∀wx,Dr wr wx→∀y,y=Xt1 b (Xcr b j) j→WB (wx.setCell ⟨w.heap.size+1,j,none⟩ (.int .u32 ((y:Nat):Int))) w.heap.size 165 (List.replicate 64 0)∧WB (wx.setCell ⟨w.heap.size+1,j,none⟩ (.int .u32 ((y:Nat):Int))) (w.heap.size+1) 165 (Xcr b (j+1))∧Bw w (wx.setCell ⟨w.heap.size+1,j,none⟩ (.int .u32 ((y:Nat):Int)))):=Hd (fun wx m y H=>by have d:Bw wr wx:=Dr.below m;refine⟨?_,by rw[NX.o y H];exact(i1.o.below d).set j y,(bg Q.o d).setCell (p:=⟨w.heap.size+1,j,none⟩) (Nat.le_succ _) _⟩;have:=i0.o.below d;unfold WB at this⊢;rw[Xet _ _ _ _ _ (by omega)];exact this);have FR:Hid (∀wx,Dr wr wx→wx.frozen? ⟨w.heap.size+1,j,none⟩=false∧∃u,wx.cell? ⟨w.heap.size+1,j,none⟩=some u):=Hd (fun wx m=>by have d:Bw wr wx:=Dr.below m;exact⟨Xby (i1.o.below d) j,_,(i1.o.below d).cell (by rw[E.o.len];exact h)⟩);have RW:Hid (∀wx,Dr wr wx→∀q,q<64→wx.cell? ⟨w.heap.size+1,q,none⟩=some (.int .u32 (((Xcr b j).getD q 0:Nat):Int))):=Hd (fun wx m q hq=>by have d:Bw wr wx:=Dr.below m;exact(i1.o.below d).cell (by rw[E.o.len];exact hq));have bN:(j:Int)<64:=by omega
  have cA:(0:Int)≤(j:Int):=by omega
  by_cases h16:j<16
  ·have aN:(j:Int)<16:=by omega
   obtain⟨m0,aP⟩:=xq (4*j+0);have cH:(m0:Int)<64:=by omega
   have cL:(0:Int)≤(m0:Int):=by omega
   obtain⟨x0,aC⟩:=xq (b.getD m0 0);have cD:x0<256:=by rw[aC];exact Xla HB.o _
   have c0:wr.cell? ⟨g,off+m0,none⟩=some (.int .u8 ((x0:Nat):Int)):=by rw[aC];exact O.o wr Q.o _ (by omega)
   obtain⟨m1,aQ⟩:=xq (4*j+1);have cI:(m1:Int)<64:=by omega
   have cM:(0:Int)≤(m1:Int):=by omega
   obtain⟨x1,aD⟩:=xq (b.getD m1 0);have cE:x1<256:=by rw[aD];exact Xla HB.o _
   have c1:wr.cell? ⟨g,off+m1,none⟩=some (.int .u8 ((x1:Nat):Int)):=by rw[aD];exact O.o wr Q.o _ (by omega)
   obtain⟨K,F⟩:=xq (4*j+2);have bK:(K:Int)<64:=by omega
   have bL:(0:Int)≤(K:Int):=by omega
   obtain⟨r,x⟩:=xq (b.getD K 0);have I:r<256:=by rw[x];exact Xla HB.o _
   have c2:wr.cell? ⟨g,off+K,none⟩=some (.int .u8 ((r:Nat):Int)):=by rw[x];exact O.o wr Q.o _ (by omega)
   obtain⟨m3,aR⟩:=xq (4*j+3);have cJ:(m3:Int)<64:=by omega
   have cN:(0:Int)≤(m3:Int):=by omega
   obtain⟨x3,aE⟩:=xq (b.getD m3 0);have cF:x3<256:=by rw[aE];exact Xla HB.o _
   have c3:wr.cell? ⟨g,off+m3,none⟩=some (.int .u8 ((x3:Nat):Int)):=by rw[aE];exact O.o wr Q.o _ (by omega)
   have v0:IntKind.i64.wrap (4*(j:Int))=(m0:Int):=by rw[IntWalk.i64_in _ (by omega)];omega
   have v1:IntKind.i64.wrap ((m0:Int)+1)=(m1:Int):=by rw[IntWalk.i64_in _ (by omega)];omega
   have v2:IntKind.i64.wrap ((m0:Int)+2)=(K:Int):=by rw[IntWalk.i64_in _ (by omega)];omega
   have v3:IntKind.i64.wrap ((m0:Int)+3)=(m3:Int):=by rw[IntWalk.i64_in _ (by omega)];omega
   obtain⟨y,H⟩:=xq (be4 x0 x1 r x3);have YE:Hid (y=Xt1 b (Xcr b j) j):=Hd (by rw[H];unfold Xt1 beW;rw[qP h16,aC,aD,x,aE,aP,aQ,F,aR];rfl);have u0:IntKind.u32.wrap ((x0:Nat):Int)=(x0:Int):=Xti (by omega);have u1:IntKind.u32.wrap ((x1:Nat):Int)=(x1:Int):=Xti (by omega);have u2:IntKind.u32.wrap ((r:Nat):Int)=(r:Int):=Xti (by omega);have u3:IntKind.u32.wrap ((x3:Nat):Int)=(x3:Int):=Xti (by omega);obtain⟨s0,hs0⟩:=xq (Xdq x0 24);have e0:IntKind.u32.wrap ((x0:Int)*16777216)=(s0:Int):=by rw[hs0,Xd5];unfold Xdq;omega
   have bD:s0<4294967296:=by rw[hs0];exact Nat.mod_lt _ (by omega)
   obtain⟨s1,t⟩:=xq (Xdq x1 16);have e1:IntKind.u32.wrap ((x1:Int)*65536)=(s1:Int):=by rw[t,Xd5];unfold Xdq;omega
   have bE:s1<4294967296:=by rw[t];exact Nat.mod_lt _ (by omega)
   obtain⟨s2,v⟩:=xq (Xdq r 8);have e2:IntKind.u32.wrap ((r:Int)*256)=(s2:Int):=by rw[v,Xd5];unfold Xdq;omega
   have bF:s2<4294967296:=by rw[v];exact Nat.mod_lt _ (by omega)
   obtain⟨t1,aA⟩:=xq (s0|||s1);have o1:bits .or .u32 (s0:Int) (s1:Int)=(t1:Int):=by rw[u32_or_nat _ _ bD bE,aA]
   have bG:t1<4294967296:=by rw[aA];exact Xz0 bD bE
   obtain⟨t2,aB⟩:=xq (t1|||s2);have o2:bits .or .u32 (t1:Int) (s2:Int)=(t2:Int):=by rw[u32_or_nat _ _ bG bF,aB]
   have bM:t2<4294967296:=by rw[aB];exact Xz0 bG bF
   have o3:bits .or .u32 (t2:Int) (x3:Int)=(y:Int):=by rw[u32_or_nat _ _ bM (by omega),aB,aA,hs0,t,v,H];rfl
   have N:=M.o wr.drew ⟨1,rfl⟩ y YE.o;have F1:=Hd N.1;have F2:=Hd N.2.1;have F3:=Hd N.2.2;have fr:wr.frozen? ⟨w.heap.size+1,j,none⟩=false:=(FR.o wr (Dr.refl _)).1;obtain⟨u,cu⟩:∃u,wr.cell? ⟨w.heap.size+1,j,none⟩=some u:=(FR.o wr (Dr.refl _)).2;clear aC aD x aE aP aQ F aR M RW FR i0 i1 Q H hs0 t v aA aB N YE NX E;go_upto_region 6 with fail;refine wp_region_still_tail 34 (by kernel_rfl) (by kernel_rfl) ?_;simp only[List.take_succ_cons,List.take_zero,List.drop_succ_cons,List.drop_zero];repeat still_step
   refine wpStill_nil ?_;go_wp2_with fail;go_roundg (64-(j+1));exact⟨j+1,by omega,rfl,by go_num,F1,F2,F3⟩;omega
  have aN:¬(j:Int)<16:=by omega
  obtain⟨K,F⟩:=xq (j-2);have bK:(K:Int)<64:=by omega
  have bL:(0:Int)≤(K:Int):=by omega
  have v2:IntKind.i64.wrap ((j:Int)-2)=(K:Int):=by rw[IntWalk.i64_in _ (by omega)];omega
  obtain⟨r,x⟩:=xq ((Xcr b j).getD K 0);have I:r<4294967296:=by rw[x];exact E.o.at _
  have C2:Hid (∀wx,Dr wr wx→wx.cell? ⟨w.heap.size+1,K,none⟩=some (.int .u32 ((r:Nat):Int))):=Hd (fun wx m=>by rw[x];exact RW.o wx m _ (by omega));obtain⟨L,aS⟩:=xq (j-7);have cK:(L:Int)<64:=by omega
  have cO:(0:Int)≤(L:Int):=by omega
  have v7:IntKind.i64.wrap ((j:Int)-7)=(L:Int):=by rw[IntWalk.i64_in _ (by omega)];omega
  obtain⟨x7,G⟩:=xq ((Xcr b j).getD L 0);have cG:x7<4294967296:=by rw[G];exact E.o.at _
  have C7:Hid (∀wx,Dr wr wx→wx.cell? ⟨w.heap.size+1,L,none⟩=some (.int .u32 ((x7:Nat):Int))):=Hd (fun wx m=>by rw[G];exact RW.o wx m _ (by omega));obtain⟨J,aG⟩:=xq (j-15);have bP:(J:Int)<64:=by omega
  have bR:(0:Int)≤(J:Int):=by omega
  have cP:IntKind.i64.wrap ((j:Int)-15)=(J:Int):=by rw[IntWalk.i64_in _ (by omega)];omega
  obtain⟨l,B⟩:=xq ((Xcr b j).getD J 0);have C:l<4294967296:=by rw[B];exact E.o.at _
  have aL:Hid (∀wx,Dr wr wx→wx.cell? ⟨w.heap.size+1,J,none⟩=some (.int .u32 ((l:Nat):Int))):=Hd (fun wx m=>by rw[B];exact RW.o wx m _ (by omega));obtain⟨s,aH⟩:=xq (j-16);have bQ:(s:Int)<64:=by omega
  have bS:(0:Int)≤(s:Int):=by omega
  have cQ:IntKind.i64.wrap ((j:Int)-16)=(s:Int):=by rw[IntWalk.i64_in _ (by omega)];omega
  obtain⟨A,z⟩:=xq ((Xcr b j).getD s 0);have bO:A<4294967296:=by rw[z];exact E.o.at _
  have aM:Hid (∀wx,Dr wr wx→wx.cell? ⟨w.heap.size+1,s,none⟩=some (.int .u32 ((A:Nat):Int))):=Hd (fun wx m=>by rw[z];exact RW.o wx m _ (by omega));obtain⟨y,H⟩:=xq (Xba (Xba (Xba (sg1 r) x7) (sg0 l)) A);have YE:Hid (y=Xt1 b (Xcr b j) j):=Hd (by rw[H];unfold Xt1;rw[qN h16,x,G,B,z,F,aS,aG,aH]);obtain⟨ra,R⟩:=xq (rot r 17);have aZ:ra<4294967296:=by rw[R];exact Xa7 I
  have Ra:Hid (∀wx,Calls prog 112 #[.int .u32 (r:Int),.int .i64 17] wx fun e w'=>e=.returned (.int .u32 (ra:Int))∧∃n,w'=wx.drewN n):=Hd (fun wx=>by rw[R];exact Xdg wx r I 17 (by omega) (by omega) 17 rfl);obtain⟨rb,T⟩:=xq (rot r 19);have bA:rb<4294967296:=by rw[T];exact Xa7 I
  have Rb:Hid (∀wx,Calls prog 112 #[.int .u32 (r:Int),.int .i64 19] wx fun e w'=>e=.returned (.int .u32 (rb:Int))∧∃n,w'=wx.drewN n):=Hd (fun wx=>by rw[T];exact Xdg wx r I 19 (by omega) (by omega) 19 rfl);obtain⟨rc,U⟩:=xq (rot l 7);have bB:rc<4294967296:=by rw[U];exact Xa7 C
  have Rc:Hid (∀wx,Calls prog 112 #[.int .u32 (l:Int),.int .i64 7] wx fun e w'=>e=.returned (.int .u32 (rc:Int))∧∃n,w'=wx.drewN n):=Hd (fun wx=>by rw[U];exact Xdg wx l C 7 (by omega) (by omega) 7 rfl);obtain⟨rd,V⟩:=xq (rot l 18);have bC:rd<4294967296:=by rw[V];exact Xa7 C
  have Rd:Hid (∀wx,Calls prog 112 #[.int .u32 (l:Int),.int .i64 18] wx fun e w'=>e=.returned (.int .u32 (rd:Int))∧∃n,w'=wx.drewN n):=Hd (fun wx=>by rw[V];exact Xdg wx l C 18 (by omega) (by omega) 18 rfl);obtain⟨q1,aT⟩:=xq (r/2^10);obtain⟨q2,aU⟩:=xq (l/2^3);have d1:(r:Int)/1024=(q1:Int):=by omega
  have d2:(l:Int)/8=(q2:Int):=by omega
  have aX:q1<4294967296:=by omega
  have aY:q2<4294967296:=by omega
  obtain⟨s1,t⟩:=xq (ra^^^rb);have aV:s1<4294967296:=by rw[t];exact Xc7 aZ bA
  have bW:bits .xor .u32 (ra:Int) (rb:Int)=(s1:Int):=by rw[u32_xor_nat _ _ aZ bA,t]
  obtain⟨s2,v⟩:=xq (s1^^^q1);have cB:s2<4294967296:=by rw[v];exact Xc7 aV aX
  have bX:bits .xor .u32 (s1:Int) (q1:Int)=(s2:Int):=by rw[u32_xor_nat _ _ aV aX,v]
  obtain⟨s3,X⟩:=xq (rc^^^rd);have aW:s3<4294967296:=by rw[X];exact Xc7 bB bC
  have bY:bits .xor .u32 (rc:Int) (rd:Int)=(s3:Int):=by rw[u32_xor_nat _ _ bB bC,X]
  obtain⟨s4,Y⟩:=xq (s3^^^q2);have cC:s4<4294967296:=by rw[Y];exact Xc7 aW aY
  have bZ:bits .xor .u32 (s3:Int) (q2:Int)=(s4:Int):=by rw[u32_xor_nat _ _ aW aY,Y]
  obtain⟨a1,aI⟩:=xq (Xba s2 x7);have bU:IntKind.u32.wrap ((s2:Int)+(x7:Int))=(a1:Int):=by rw[Xd5,aI];unfold Xba;omega
  obtain⟨a2,aJ⟩:=xq (Xba a1 s4);have bV:IntKind.u32.wrap ((a1:Int)+(s4:Int))=(a2:Int):=by rw[Xd5,aJ];unfold Xba;omega
  have ey:IntKind.u32.wrap ((a2:Int)+(A:Int))=(y:Int):=by rw[Xd5,H,aJ,aI,Y,X,v,t,aT,aU,R,T,U,V];unfold Xba sg0 sg1;omega
  have LE:Hid (∀wx,WB wx (w.heap.size+1) 165 (Xcr b (j+1))→∀q,q<64→q≠j→wx.cell? ⟨w.heap.size+1,q,none⟩=some (.int .u32 (((Xcr b j).getD q 0:Nat):Int))):=Hd (fun wx hw q hq hne=>by rw[hw.cell (by rw[Xhe];exact hq),NX.o y YE.o,Xhl (by rw[E.o.len];exact h),qN hne]);have HX:Hid (∀wx,WB wx (w.heap.size+1) 165 (Xcr b (j+1))→(fun wx:World=>wx.cell? ⟨w.heap.size+1,L,none⟩=some (.int .u32 ((x7:Nat):Int))∧wx.cell? ⟨w.heap.size+1,s,none⟩=some (.int .u32 ((A:Nat):Int))) wx):=Hd (fun wx hw=>⟨by rw[G];exact LE.o wx hw L (by omega) (by omega),by rw[z];exact LE.o wx hw s (by omega) (by omega)⟩);have c2:=C2.o wr (Dr.refl _);have bI:=aL.o wr (Dr.refl _);clear x G B z F aS aG aH RW i0 i1 Q H t v X Y aI aJ aT aU R T U V NX E LE;go_upto_region 7 with fail;go_quiet (fail);go_upto_region 8 with fail;have HS:Hid (∀wx,Dr wr wx→(fun wx:World=>wx.cell? ⟨w.heap.size+1,L,none⟩=some (.int .u32 ((x7:Nat):Int))∧wx.cell? ⟨w.heap.size+1,s,none⟩=some (.int .u32 ((A:Nat):Int))) wx):=Hd (fun wx m=>⟨C7.o wx m,aM.o wx m⟩);refine wp_region_held (S:=fun wx:World=>wx.cell? ⟨w.heap.size+1,L,none⟩=some (.int .u32 ((x7:Nat):Int))∧wx.cell? ⟨w.heap.size+1,s,none⟩=some (.int .u32 ((A:Nat):Int))) (by kernel_rfl) ?_;change wpAnyH _ _ _ _ _ _ _ _ (wr.drewN (nq+1));obtain⟨wd,aK⟩:=xq (wr.drewN (nq+1));rw[←aK];have E0:Hid (Dr wr wd):=Hd ⟨nq+1,aK⟩;clear aK c2 bI C2 aL C7 aM;have c:=HS.o wd E0.o;refine Xae 0 (.int .i64 (j:Int)) rfl (fun w' hw'=>by go_simp) c ?_;refine Xae 1 (.int .u32 (r:Int)) rfl (fun w' hw'=>by go_simp) c ?_;refine Xae 3 (.int .u32 (r:Int)) rfl (fun w' hw'=>by go_simp) c ?_;refine Xae 6 (.int .u32 (r:Int)) rfl (fun w' hw'=>by go_simp) c ?_;refine Xae 7 (.int .u32 (q1:Int)) rfl (fun w' hw'=>by go_simp) c ?_;refine Xae 9 (.int .i64 (j:Int)) rfl (fun w' hw'=>by go_simp) c ?_;refine Xae 10 (.int .i64 (L:Int)) rfl (fun w' hw'=>by go_simp) c ?_;refine Xae 11 (.pointer (some ⟨w.heap.size+1,L,none⟩)) rfl (fun w' hw'=>by go_simp) c ?_;refine Xae 12 (.int .u32 (x7:Int)) rfl (fun w' hw'=>by have c7:=hw'.1;go_simp) c ?_;refine Xae 14 (.int .u32 (l:Int)) rfl (fun w' hw'=>by go_simp) c ?_;refine Xae 16 (.int .u32 (l:Int)) rfl (fun w' hw'=>by go_simp) c ?_;refine Xae 19 (.int .u32 (l:Int)) rfl (fun w' hw'=>by go_simp) c ?_;refine Xae 20 (.int .u32 (q2:Int)) rfl (fun w' hw'=>by go_simp) c ?_;refine Xae 23 (.int .i64 (j:Int)) rfl (fun w' hw'=>by go_simp) c ?_;refine Xae 24 (.int .i64 (s:Int)) rfl (fun w' hw'=>by go_simp) c ?_;refine Xae 25 (.pointer (some ⟨w.heap.size+1,s,none⟩)) rfl (fun w' hw'=>by go_simp) c ?_;refine Xae 26 (.int .u32 (A:Int)) rfl (fun w' hw'=>by have bT:=hw'.2;go_simp) c ?_;refine Xas (i:=2) (f:=112) (args:=#[.int .u32 (r:Int),.int .i64 17]) (by kernel_rfl) rfl (by kernel_rfl) (by kernel_rfl) ?_;refine(Ra.o wd).mono ?_;rintro e y1 ⟨rfl,m⟩;have E1:Hid (Dr wr y1):=Hd (E0.o.trans m);clear m;replace c:=HS.o y1 E1.o;refine⟨_,rfl,c,?_⟩;refine Xas (i:=4) (f:=112) (args:=#[.int .u32 (r:Int),.int .i64 19]) (by kernel_rfl) rfl (by kernel_rfl) (by kernel_rfl) ?_;refine(Rb.o y1).mono ?_;rintro e y2 ⟨rfl,m⟩;have E2:Hid (Dr wr y2):=Hd (E1.o.trans m);clear m;replace c:=HS.o y2 E2.o;refine⟨_,rfl,c,?_⟩;refine Xae 5 (.int .u32 (s1:Int)) rfl (fun w' hw'=>by go_simp) c ?_;refine Xae 8 (.int .u32 (s2:Int)) rfl (fun w' hw'=>by go_simp) c ?_;refine Xae 13 (.int .u32 (a1:Int)) rfl (fun w' hw'=>by go_simp) c ?_;refine Xas (i:=15) (f:=112) (args:=#[.int .u32 (l:Int),.int .i64 7]) (by kernel_rfl) rfl (by kernel_rfl) (by kernel_rfl) ?_;refine(Rc.o y2).mono ?_;rintro e y3 ⟨rfl,m⟩;have E3:Hid (Dr wr y3):=Hd (E2.o.trans m);clear m;replace c:=HS.o y3 E3.o;refine⟨_,rfl,c,?_⟩;refine Xas (i:=17) (f:=112) (args:=#[.int .u32 (l:Int),.int .i64 18]) (by kernel_rfl) rfl (by kernel_rfl) (by kernel_rfl) ?_;refine(Rd.o y3).mono ?_;rintro e y4 ⟨rfl,m⟩;have E4:Hid (Dr wr y4):=Hd (E3.o.trans m);clear m;replace c:=HS.o y4 E4.o;refine⟨_,rfl,c,?_⟩;refine Xae 18 (.int .u32 (s3:Int)) rfl (fun w' hw'=>by go_simp) c ?_;refine Xae 21 (.int .u32 (s4:Int)) rfl (fun w' hw'=>by go_simp) c ?_;refine Xae 22 (.int .u32 (a2:Int)) rfl (fun w' hw'=>by go_simp) c ?_;refine Xae 27 (.int .u32 (y:Int)) rfl (fun w' hw'=>by go_simp) c ?_;refine Xae 28 (.pointer (some ⟨w.heap.size+1,j,none⟩)) rfl (fun w' hw'=>by go_simp) c ?_;have fr:y4.frozen? ⟨w.heap.size+1,j,none⟩=false:=(FR.o y4 E4.o).1;obtain⟨u,cu⟩:∃u,y4.cell? ⟨w.heap.size+1,j,none⟩=some u:=(FR.o y4 E4.o).2;have N:=M.o y4 E4.o y YE.o;have F1:=Hd N.1;have F2:=Hd N.2.1;have F3:=Hd N.2.2;refine Xbe (i:=29) (w':=y4.setCell ⟨w.heap.size+1,j,none⟩ (.int .u32 ((y:Nat):Int))) (by kernel_rfl) rfl rfl (by go_simp) (HX.o _ F2.o) ?_;refine wpAnyH_done (by kernel_rfl) ?_ _;clear c HS M FR N HX Ra Rb Rc Rd E0 E1 E2 E3 E4 fr cu;go_simp;refine‹∀(a:Act) (w_1:World),_→_› _ _ ?_;go_wp2_with fail;go_roundg (64-(j+1));exact⟨j+1,by omega,rfl,by go_num,F1,F2,F3⟩;omega
 obtain rfl:j=64:=by omega
 have L2:=Hd (i1.o.load64 E.o.len);have e1:wA (Xcr b 64)=wA (Xnj b):=rfl;have Z:(wA (Xnj b)).size=64:=by rw[Xb4];exact Xhe b 64
 have ST:=Hd (run_storeVar_row (P:=prog) wr w.heap.size _ 165 (wA (List.replicate 64 0)) (wA (Xnj b)) i0.o (by rw[Z];exact Xf1) (by rw[Z,Xb4];simp) (Xox _));have W2:=Hd (setRow_heap wr w.heap.size _ (wA (Xnj b)) _ _ i0.o);have SZ:Hid ((prog.info? 165).map (·.size)=some (wA (Xnj b)).size):=Hd (by rw[Z];exact Xf1);have BE:=Hd (below_setRow Q.o (zL _) (wA (Xnj b)));obtain⟨rs,W⟩:=xq (wA (Xnj b));rw[e1,←W] at L2;rw[←W] at ST W2 SZ BE;have bH:=Hd W;clear W e1 Z h i0 i1 Q E;go_wp2_with (first
  |((with_reducible refine Xab 165 rfl _ rfl ?_);refine⟨_,_,rfl,L2.o,?_⟩)
  |((with_reducible refine Xaa 165 rfl _ _ rfl ?_);refine⟨_,_,_,rfl,rfl,ST.o,?_⟩))
 exact zP (results_cell_row results111 _ _ w.heap.size _ _ _ _ rfl W2.o underlying165 rfl SZ.o) rfl ⟨by rw[bH.o],BE.o⟩
theorem Xre:(prog.info? 164).map (·.size)=some 8:=by kernel_rfl
theorem Xj3:(prog.info? 25).map (·.size)=some 32:=by kernel_rfl
theorem WB.loadT {w:World}{b:Nat}{T e:TypeId}{n:Nat}{ws:List Nat}(h:WB w b T ws)(hu:prog.underlying T=some (.array n e))(hs:(prog.info? T).map (·.size)=some ws.length):(loadVar T ⟨b,0,none⟩).run prog w=.ok (.agg (wA ws)) w:=
 run_loadVar_row w b _ T _ _ _ h hu rfl (by rw[Xb4];exact hs)
theorem WB.storeT {w:World}{b:Nat}{T:TypeId}{ws:List Nat}(h:WB w b T ws)(vs:List Nat)(hl:vs.length=ws.length)(hs:(prog.info? T).map (·.size)=some ws.length):(storeVar T ⟨b,0,none⟩ (.agg (wA vs))).run prog w=.ok () (w.setRow b (wA vs))∧WB (w.setRow b (wA vs)) b T vs:=
 ⟨run_storeVar_row w b _ T _ _ h (by rw[Xb4,hl];exact hs) (by rw[Xb4,Xb4,hl]) (Xox _),setRow_heap w _ _ _ _ _ h⟩
theorem WB.fr {w w':World}{b k:Nat}{T:TypeId}{ws:List Nat}(h:WB w k T ws)(f:Fr1 b w w')(hne:k≠b):WB w' k T ws:=(f.other k h.lt hne).trans h
theorem Xng:shK.length=64:=by decide
def c64V:List (Nat×Value):=(0,.int .u32 1116352408)::(1,.int .u32 1899447441)::(2,.int .u32 3049323471)::(3,.int .u32 3921009573)::(4,.int .u32 961987163)::(5,.int .u32 1508970993)::(6,.int .u32 2453635748)::(7,.int .u32 2870763221)::(8,.int .u32 3624381080)::(9,.int .u32 310598401)::(10,.int .u32 607225278)::(11,.int .u32 1426881987)::(12,.int .u32 1925078388)::(13,.int .u32 2162078206)::(14,.int .u32 2614888103)::(15,.int .u32 3248222580)::(16,.int .u32 3835390401)::(17,.int .u32 4022224774)::(18,.int .u32 264347078)::(19,.int .u32 604807628)::(20,.int .u32 770255983)::(21,.int .u32 1249150122)::(22,.int .u32 1555081692)::(23,.int .u32 1996064986)::(24,.int .u32 2554220882)::(25,.int .u32 2821834349)::(26,.int .u32 2952996808)::(27,.int .u32 3210313671)::(28,.int .u32 3336571891)::(29,.int .u32 3584528711)::(30,.int .u32 113926993)::(31,.int .u32 338241895)::(32,.int .u32 666307205)::(33,.int .u32 773529912)::(34,.int .u32 1294757372)::(35,.int .u32 1396182291)::(36,.int .u32 1695183700)::(37,.int .u32 1986661051)::(38,.int .u32 2177026350)::(39,.int .u32 2456956037)::(40,.int .u32 2730485921)::(41,.int .u32 2820302411)::(42,.int .u32 3259730800)::(43,.int .u32 3345764771)::(44,.int .u32 3516065817)::(45,.int .u32 3600352804)::(46,.int .u32 4094571909)::(47,.int .u32 275423344)::(48,.int .u32 430227734)::(49,.int .u32 506948616)::(50,.int .u32 659060556)::(51,.int .u32 883997877)::(52,.int .u32 958139571)::(53,.int .u32 1322822218)::(54,.int .u32 1537002063)::(55,.int .u32 1747873779)::(56,.int .u32 1955562222)::(57,.int .u32 2024104815)::(58,.int .u32 2227730452)::(59,.int .u32 2361852424)::(60,.int .u32 2428436474)::(61,.int .u32 2756734187)::(62,.int .u32 3204031479)::(63,.int .u32 3329325298)::[]
theorem Xxg (w:World):(Instr.build 165 c64V.toArray).run prog w=.ok (.agg (wA shK)) w:=by kernel_rfl
theorem Xzo (w:World):zJ 109 #[] w (.agg (wA shK)):=by
 obtain⟨w0,a⟩:=xq (w.alloc (.cells zz64.toArray 165));have d:Bw w w0:=by rw[a];exact(zR _ _).alloc (zL _) _
 have g:WB w0 w.heap.size 165 (List.replicate 64 0):=by unfold WB;rw[a,←Xq5];exact heap_alloc_last w _
 unfold zz64 at a;have f:=Hd a;obtain⟨s1,s2⟩:=g.storeT shK (by rw[Xng];simp) (by rw[List.length_replicate];exact Xf1);have e:=Hd (below_setRow d (zL _) (wA shK));have b:=Hd Xxg;have h:Hid ((prog.info? 165).map (·.size)=some (wA shK).size):=Hd (by rw[Xb4,Xng];exact Xf1);obtain⟨k,c⟩:=xq (wA shK);unfold WB at s2;rw[←c] at s1 s2 e b h⊢;have j:=Hd s1;have i:=Hd s2;clear a d g s1 s2 c;go_enter func109,ntmps109;go_upto_region 1 with fail;rw[←f.o];clear f;refine wp_region_list ?_;simp only[];refine Xaz rfl (Xch (vs:=c64V.toArray) rfl (by kernel_rfl) (b.o _)) ?_;go_wp2_with ((with_reducible refine Xaa 165 rfl _ _ rfl ?_);refine⟨_,_,_,rfl,rfl,j.o,?_⟩)
 exact zP (results_cell_row results109 _ _ w.heap.size _ _ _ _ rfl i.o underlying165 rfl h.o) rfl ⟨rfl,e.o⟩
theorem Xd8 {a b n:Nat}(h:n=Xba a b):IntKind.u32.wrap ((a:Int)+(b:Int))=(n:Int):=by rw[Xd5,h];unfold Xba;omega
theorem Ycx {a b n:Nat}(h:n=Xba a b):((a:Int)+(b:Int))%4294967296=(n:Int):=by rw[h];unfold Xba;omega
def Xx5 (x y:List Nat)(i:Nat):List Nat:=(List.range i).foldl (fun l q=>l.set q (Xba (x.getD q 0) (y.getD q 0))) x
theorem Xlg (x y:List Nat)(i:Nat):Xx5 x y (i+1)=(Xx5 x y i).set i (Xba (x.getD i 0) (y.getD i 0)):=by simp[Xx5,List.range_succ]
theorem Ygq (x y:List Nat)(i:Nat):(Xx5 x y i).length=x.length:=by
 induction i with
 |zero=>rfl
 |succ i ih=>rw[Xlg,List.length_set,ih]
theorem Ykq (x y:List Nat)(i q:Nat)(hq:i≤q):(Xx5 x y i).getD q 0=x.getD q 0:=by
 induction i with
 |zero=>rfl
 |succ i ih=>
  rw[Xlg];by_cases hl:i<(Xx5 x y i).length;·rw[Xhl hl,qN (by omega)];exact ih (by omega)
  rw[List.set_eq_of_length_le (by omega)];exact ih (by omega)
theorem Ym6 (x y:W8):Xx5 (wL x) (wL y) 8=wL (Xgz x y):=rfl
theorem Xzb {h:W8}(hh:h.Ok)(ws:List Nat)(n:Nat):(Xv5 ws h n).Ok:=by
 induction n with
 |zero=>exact hh
 |succ n ih=>rw[Xj7];exact Yg7 ih _ _
theorem Ycj {h:W8}(hh:h.Ok)(n:Nat):∀l,(Xlk h n l).Ok:=by
 induction n with
 |zero=>intro l;exact hh
 |succ n ih=>intro l;rw[Xlc];exact Xzw _ _
theorem Ydo (l:List Nat)(hl:∀x∈l,x<256)(j:Nat)(hj:64*j+64≤l.length)(b:List Nat)(hb:b=(l.drop (64*j)).take 64):wL (Xlk sh0 (j+1) l)=Xx5 (wL (Xlk sh0 j l)) (wL (Xv5 (Xnj b) (Xlk sh0 j l) 64)) 8:=by
 have a:b.length=64:=by rw[hb,List.length_take,List.length_drop];omega
 have c:∀x∈b,x<256:=fun x hx=>by rw[hb] at hx;exact hl x (List.mem_of_mem_drop (List.mem_of_mem_take hx))
 rw[Ym6,Xlc,←hb,Yiu a c]
theorem Yob (v:W8)(i:Nat)(hi:i<32):(dgF v).getD i 0=(wL v).getD (i/4) 0/2^(24-8*(i%4))%256:=by have:=Yhp v (i/4) (i%4) (by omega) (by omega);rw[show 4*(i/4)+i%4=i by omega] at this;rw[List.getD_eq_getElem?_getD,this,Option.getD_some]
theorem Ymv (w:World)(a b c d e f g i:Nat):(Instr.build 164 #[(0,.int .u32 (a:Int)),(1,.int .u32 (b:Int)),(2,.int .u32 (c:Int)),(3,.int .u32 (d:Int)),(4,.int .u32 (e:Int)),(5,.int .u32 (f:Int)),(6,.int .u32 (g:Int)),(7,.int .u32 (i:Int))]).run prog w=.ok (.agg (wA [a,b,c,d,e,f,g,i])) w:=by kernel_rfl
def c8V:Array (Nat×Value):=#[(0,.int .u32 1779033703),(1,.int .u32 3144134277),(2,.int .u32 1013904242),(3,.int .u32 2773480762),(4,.int .u32 1359893119),(5,.int .u32 2600822924),(6,.int .u32 528734635),(7,.int .u32 1541459225)]
theorem Yop (w:World)(v:W8):∃w',Sv 164 ⟨w.heap.size,0,none⟩ (.agg (wA (wL v))) (w.alloc (.cells #[.int .u32 0,.int .u32 0,.int .u32 0,.int .u32 0,.int .u32 0,.int .u32 0,.int .u32 0,.int .u32 0] 164)) w'∧WB w' w.heap.size 164 (wL v)∧Bw w w':=
 ⟨w.alloc (.cells (wA (wL v)) 164),run_storeVar_new w 164 _ _ (by rw[Xb4];exact Xre) (by rw[Xb4];rfl) (Xox _),heap_alloc_last w _,(zR _ _).alloc (zL _) _⟩
theorem Ylw (w:World){ws:List Nat}(h:ws.length=64):∃w',Sv 165 ⟨w.heap.size,0,none⟩ (.agg (wA ws)) (w.alloc (.cells zz64.toArray 165)) w'∧WB w' w.heap.size 165 ws∧Bw w w':=
 ⟨w.alloc (.cells (wA ws) 165),run_storeVar_new w 165 _ _ (by rw[Xb4,h];exact Xf1) (by rw[Xb4,h];rfl) (Xox _),heap_alloc_last w _,(zR _ _).alloc (zL _) _⟩
theorem Ylh {w:World}{b off n m:Nat}{l:List Nat}(h:Rd w (some ⟨b,off,none⟩) l)(hl:n+m≤l.length):Rd w (some ⟨b,off+n,none⟩) ((l.drop n).take m):=by
 have c:=h.drop (n:=n);refine⟨fun x hx=>c.lt x (List.mem_of_mem_take hx),fun h0=>?_⟩;have a:0<(l.drop n).length:=by rw[List.length_take] at h0;omega
 obtain⟨j,d,e,f,g⟩:=c.at_ a;cases e;refine⟨_,_,rfl,f,fun i hi=>?_⟩;rw[List.getElem_take];exact g i (by rw[List.length_take] at hi;omega)
theorem Xnn (w:World)(a:Option Addr)(cap:Nat)(l:List Nat)(hr:Rd w a l)(hl:l.length≤10000000):zJ 60 #[.slice a l.length cap] w (.agg (idA (Xfn l))):=by
 obtain⟨bV,aB⟩:=xq (w.alloc (.cells #[.int .u8 0,.int .u8 0,.int .u8 0,.int .u8 0,.int .u8 0,.int .u8 0,.int .u8 0,.int .u8 0,.int .u8 0,.int .u8 0,.int .u8 0,.int .u8 0,.int .u8 0,.int .u8 0,.int .u8 0,.int .u8 0,.int .u8 0,.int .u8 0,.int .u8 0,.int .u8 0,.int .u8 0,.int .u8 0,.int .u8 0,.int .u8 0,.int .u8 0,.int .u8 0,.int .u8 0,.int .u8 0,.int .u8 0,.int .u8 0,.int .u8 0,.int .u8 0] 25));have BA:Bw w bV:=by rw[aB];exact(zR _ _).alloc (zL _) _
 have RA:IB bV w.heap.size 25 (List.replicate 32 0):=by unfold IB;rw[aB];exact heap_alloc_last w _
 have SA:bV.heap.size=w.heap.size+1:=by rw[aB];simp
 obtain⟨w1,cO,h1,b1⟩:=Yop bV sh0;rw[SA] at cO h1;have cA:=bg BA b1;have cY:=Hd aB;have cG:=Hd cO;have H1:=Hd h1;have B1:=Hd cA;have R1:=Hd (RA.below b1);have dD:=Hd SA;have S1:Hid (w.heap.size+2≤w1.heap.size):=Hd (by have:=h1.lt;omega);have CO:=Hd (Xzo w1);obtain⟨n,hn⟩:=xq l.length;have PD:Hid (∀wx,Bw w1 wx→Calls prog 110 #[.slice a n cap] wx fun e w'=>∃v,e=.returned v∧OW wx.heap.size (pdF l) v w'∧Bw wx w'):=Hd (fun wx hb=>by rw[hn];exact Ydx wx a cap l ((hr.onB cA).onB hb) hl);have LT:=Hd hr.lt;have ML:Hid ((pdF l).length≤10000100):=Hd (by unfold pdF;rw[List.length_append];have:=Xua l.length;omega);have PL:Hid ((pdF l).length=64*((pdF l).length/64)):=Hd (Yix l);have aI:Hid (∀x∈pdF l,x<256):=Hd (fun x L=>by
  unfold pdF at L;rcases List.mem_append.1 L with L|L;·exact hr.lt x L
  exact Xru _ x L)
 have T:Hid (Xfn l=dgF (Xlk sh0 ((pdF l).length/64) (pdF l))):=Hd (Yih l);rw[←hn];obtain⟨p,hp⟩:=xq (pdF l);have eG:Hid (1≤p.length):=Hd (by rw[hp];unfold pdF;rw[List.length_append,Xpw];omega);rw[←hp] at PD ML PL aI T;obtain⟨sl,dK⟩:=xq (Xfn l);rw[←dK] at T⊢;obtain⟨nb,dI⟩:=xq (p.length/64);rw[←dI] at PL T;have eH:1≤p.length:=eG.o;have dG:∀w,(Instr.build 164 c8V).run prog w=.ok (.agg (wA (wL sh0))) w:=fun w=>by kernel_rfl
 have cB:=Hd dG;obtain⟨aA,bX⟩:=xq (wA (wL sh0));rw[←bX] at cB cG;clear aB BA RA SA cO h1 b1 cA hr hl hn hp dK dI dG bX;go_enter func60,ntmps60;go_upto_region 1 with fail;rw[←cY.o];have CV:=dD.o;refine wp_region_list ?_;simp only[];refine Xaz rfl (Xch (vs:=c8V) rfl (by kernel_rfl) (cB.o _)) ?_;go_upto_region 2 with((with_reducible refine Xaa 164 rfl _ _ rfl ?_);refine⟨_,_,_,rfl,rfl,cG.o,?_⟩)
 clear cY CV cB cG;go_wp2_with fail;refine CO.o.mono ?_;rintro e w2 ⟨rfl,cM⟩;obtain⟨w3,cP,h3,b3⟩:=Ylw w2 Xng;unfold zz64 at cP;have cH:=Hd cP;obtain⟨gk,aO⟩:=xq w2.heap.size;have U:=bg cM b3;have H3:=Hd (H1.o.below U);have R3:=Hd (R1.o.below U);have B3:=bh B1 U;have cR:=Hd U;have K3:Hid (WB w3 gk 165 shK):=Hd (by rw[aO];exact h3);have GK:Hid (w.heap.size+2≤gk):=Hd (by rw[aO];have:=S1.o;have:=cM.size;omega);obtain⟨ks,dH⟩:=xq (wA shK);rw[←dH] at cH⊢;clear cM cP h3 b3 U H1 R1 B1 CO dH dD;go_upto_region 3 with((with_reducible refine Xaa 165 rfl _ _ rfl ?_);refine⟨_,_,_,rfl,rfl,cH.o,?_⟩)
 rw[←aO];clear cH aO;have P3:=Hd (PD.o w3 cR.o);clear PD cR;go_wp2_with fail;refine P3.o.mono ?_;rintro e w4 ⟨v,rfl,Z,Q⟩;obtain⟨m,hm⟩:=xq p.length;obtain⟨g,cp,rfl,eN,eM,eL,eO⟩:=Z.slice (by omega);unfold maxLen at eM;have eJ:Hid (Rd w4 (some ⟨g,0,none⟩) p):=Hd (Yec (n:=p.length) (cap:=cp) Z aI.o);rw[←hm] at eN PL ML⊢;have H4:=Hd (H3.o.below Q);have R4:=Hd (R3.o.below Q);have K4:=Hd (K3.o.below Q);have B4:=bh B3 Q;have G4:Hid (w.heap.size+2≤g∧gk<w4.heap.size∧w.heap.size+2≤w4.heap.size):=Hd (by have:=K3.o.lt;have:=Q.size;have:=GK.o;exact⟨by omega,by omega,by omega⟩);have ml:m≤10000100:=ML.o;have HM:=Hd hm;have dA:=Hd PL.o;clear Z Q H3 R3 K3 B3 P3 eL eO hm ML PL eH;go_wp2_with fail;go_loopg [6,7,8,9,10,11,12] nb (fun k v6 v7 v8 v9 v10 v11 v12 wr=>∃j s:Nat,j≤nb∧k=nb-j∧v6=.int .i64 (s:Int)∧Hid (s=64*j)∧Hid (WB wr (w.heap.size+1) 164 (wL (Xlk sh0 j p)))∧Hid (Fr1 (w.heap.size+1) w4 wr));exact⟨0,0,by omega,rfl,rfl,Hd rfl,H4,Hd (Fr1.refl _ _)⟩;clear H4;obtain⟨j,s,hj,rfl,rfl,hs,W,hf⟩:=hrel;by_cases h:j<nb
 ·have dL:s+64≤m:=by have:=dA.o;have:=hs.o;omega
  have fR:s<m:=by omega
  have fT:s<cp:=by omega
  have eT:s+64≤cp:=by omega
  obtain⟨blk,J⟩:=xq ((p.drop s).take 64);have bl:blk.length=64:=by rw[J,List.length_take,List.length_drop,←HM.o];omega
  obtain⟨I,aA⟩:=xq (Xlk sh0 j p);have V0:Hid I.Ok:=Hd (by rw[aA];exact Ycj Xty _ _);obtain⟨ws,bR⟩:=xq (Xnj blk);have WS:Hid (L64 ws):=Hd (by rw[bR];exact Xt2 (fun x L=>by rw[J] at L;exact aI.o x (List.mem_of_mem_drop (List.mem_of_mem_take L))) 64);have bW:Hid (wL (Xlk sh0 (j+1) p)=Xx5 (wL I) (wL (Xv5 ws I 64)) 8):=Hd (by rw[aA,bR];exact Ydo p aI.o j (by have:=hs.o;have:=HM.o;omega) blk (by rw[J,hs.o]));have dB:Rd wr (some ⟨g,s,none⟩) blk:=by have r4:=eJ.o.fr1 hf.o (fun ad e _=>by cases e;have:=G4.o.1;show g≠_;omega);have:=Ylh (n:=s) (m:=64) r4 (by rw[←HM.o];omega);rw[Nat.zero_add,←J] at this;exact this
  have dF:Hid (∀n cap,n=64→zJ 111 #[.slice (some ⟨g,s,none⟩) n cap] wr (.agg (wA ws))):=Hd (fun n cap hn=>by subst hn;rw[bR];exact Xv1 wr _ cap dB bl);have HH:=Hd (by have:=W.o;rw[←aA] at this;exact this);have dE:=Hd (dF.o 64 (cp-s) rfl);clear J bl aA bR dB W dF;go_wp2_with fail;refine dE.o.mono ?_;rintro e w5 ⟨rfl,aM⟩;clear dE;obtain⟨w6,cQ,h6,b6⟩:=Ylw w5 WS.o.len;obtain⟨w7,eB,h7,b7⟩:=Yop w6 I;obtain⟨gw,V⟩:=xq w5.heap.size;obtain⟨z,cN⟩:=xq w6.heap.size;have cE:=(HH.o.below aM).below b6;have cF:=Hd (cE.loadT underlying164 Xre);have cX:=Hd (cE.below b7);have W7:Hid (WB w7 gw 165 ws):=Hd (by rw[V];exact h6.below b7);have V7:Hid (WB w7 z 164 (wL I)):=Hd (by rw[cN];exact h7);have cD:Hid (Fr1 (w.heap.size+1) w4 w7):=Hd (((hf.o.trans (Fr1.of_below aM)).trans (Fr1.of_below b6)).trans (Fr1.of_below b7));have K7:Hid (WB w7 gk 165 shK):=Hd (K4.o.fr cD.o (by have:=GK.o;omega));have G7:Hid (w4.heap.size≤z∧w4.heap.size≤gw∧gw<z∧z<w7.heap.size):=Hd (by have:=hf.o.size;have:=aM.size;have:=h6.lt;have:=b6.size;have:=h7.lt;exact⟨by omega,by omega,by omega,by omega⟩);unfold zz64 at cQ;have cI:=Hd cQ;have cJ:=Hd eB;obtain⟨gJ,bZ⟩:=xq (wA ws);obtain⟨gI,bY⟩:=xq (wA (wL I));rw[←bZ] at cI⊢;rw[←bY] at cJ cF;clear cQ eB h6 h7 b6 b7 aM cE bZ bY HH hf;go_upto_region 8 with((with_reducible refine Xaa 165 rfl _ _ rfl ?_);refine⟨_,_,_,rfl,rfl,cI.o,?_⟩)
  rw[←V];clear cI V;go_upto_region 9 with(first
   |((with_reducible refine Xab 164 rfl _ rfl ?_);refine⟨_,_,rfl,cF.o,?_⟩)
   |((with_reducible refine Xaa 164 rfl _ _ rfl ?_);refine⟨_,_,_,rfl,rfl,cJ.o,?_⟩))
  rw[←cN];clear cJ cF cN;go_wp2_with fail;go_loopg [9,10,11] 64 (fun k v9 v10 v11 wq=>∃t:Nat,t≤64∧k=64-t∧v9=.int .i64 (t:Int)∧Hid (WB wq z 164 (wL (Xv5 ws I t)))∧Hid (Fr1 z w7 wq));exact⟨0,by omega,rfl,rfl,V7,Hd (Fr1.refl _ _)⟩;clear V7;obtain⟨t,ht,rfl,rfl,hv,M⟩:=hrel;by_cases ht64:t<64
  ·obtain⟨v,bP⟩:=xq (Xv5 ws I t);have VO:v.Ok:=by rw[bP];exact Xzb V0.o _ _
   have F:Hid (WB wr z 164 (wL v)):=Hd (by rw[bP];exact hv.o);have NX:Hid (Xv5 ws I (t+1)=rnd v (shK.getD t 0) (ws.getD t 0)):=Hd (by rw[bP];exact Xj7 ws I t);obtain⟨kk,aQ⟩:=xq (shK.getD t 0);obtain⟨ww,bS⟩:=xq (ws.getD t 0);have kl:kk<4294967296:=by rw[aQ];exact Xyz t
   have wl:ww<4294967296:=by rw[bS];exact WS.o.at t
   have cK:wr.cell? ⟨gk,t,none⟩=some (.int .u32 (kk:Int)):=by rw[aQ];exact(K7.o.fr M.o (by have:=G7.o.1;have:=K4.o.lt;omega)).cell (by rw[Xng];exact ht64)
   have cW:wr.cell? ⟨gw,t,none⟩=some (.int .u32 (ww:Int)):=by rw[bS];exact(W7.o.fr M.o (by have:=G7.o.2.2.1;omega)).cell (by rw[WS.o.len];exact ht64)
   obtain⟨D,aC⟩:=xq v.a;have la:D<4294967296:=by rw[aC];exact VO.a
   have ca:wr.cell? ⟨z,0,none⟩=some (.int .u32 (D:Int)):=by rw[aC];exact F.o.cell (q:=0) (show 0<8 by decide)
   obtain⟨O,aD⟩:=xq v.b;have lb:O<4294967296:=by rw[aD];exact VO.b
   have cb:wr.cell? ⟨z,1,none⟩=some (.int .u32 (O:Int)):=by rw[aD];exact F.o.cell (q:=1) (show 1<8 by decide)
   obtain⟨P,aE⟩:=xq v.c;have lc:P<4294967296:=by rw[aE];exact VO.c
   have cc:wr.cell? ⟨z,2,none⟩=some (.int .u32 (P:Int)):=by rw[aE];exact F.o.cell (q:=2) (show 2<8 by decide)
   obtain⟨xd,bT⟩:=xq v.d;have ld:xd<4294967296:=by rw[bT];exact VO.d
   have cd:wr.cell? ⟨z,3,none⟩=some (.int .u32 (xd:Int)):=by rw[bT];exact F.o.cell (q:=3) (show 3<8 by decide)
   obtain⟨E,aF⟩:=xq v.e;have le:E<4294967296:=by rw[aF];exact VO.e
   have ce:wr.cell? ⟨z,4,none⟩=some (.int .u32 (E:Int)):=by rw[aF];exact F.o.cell (q:=4) (show 4<8 by decide)
   obtain⟨R,aG⟩:=xq v.f;have lf:R<4294967296:=by rw[aG];exact VO.f
   have cf:wr.cell? ⟨z,5,none⟩=some (.int .u32 (R:Int)):=by rw[aG];exact F.o.cell (q:=5) (show 5<8 by decide)
   obtain⟨S,aH⟩:=xq v.g;have lg:S<4294967296:=by rw[aH];exact VO.g
   have cg:wr.cell? ⟨z,6,none⟩=some (.int .u32 (S:Int)):=by rw[aH];exact F.o.cell (q:=6) (show 6<8 by decide)
   obtain⟨xi,bU⟩:=xq v.i;have li:xi<4294967296:=by rw[bU];exact VO.i
   have ci:wr.cell? ⟨z,7,none⟩=some (.int .u32 (xi:Int)):=by rw[bU];exact F.o.cell (q:=7) (show 7<8 by decide)
   obtain⟨ra,aZ⟩:=xq (rot E 6);have dV:ra<4294967296:=by rw[aZ];exact Xa7 le
   have Ra:Hid (∀wx,Calls prog 112 #[.int .u32 (E:Int),.int .i64 6] wx fun e w'=>e=.returned (.int .u32 (ra:Int))∧∃n,w'=wx.drewN n):=Hd (fun wx=>by rw[aZ];exact Xdg wx E le 6 (by decide) (by decide) 6 rfl);obtain⟨rb,bA⟩:=xq (rot E 11);have dW:rb<4294967296:=by rw[bA];exact Xa7 le
   have Rb:Hid (∀wx,Calls prog 112 #[.int .u32 (E:Int),.int .i64 11] wx fun e w'=>e=.returned (.int .u32 (rb:Int))∧∃n,w'=wx.drewN n):=Hd (fun wx=>by rw[bA];exact Xdg wx E le 11 (by decide) (by decide) 11 rfl);obtain⟨rc,bB⟩:=xq (rot E 25);have dX:rc<4294967296:=by rw[bB];exact Xa7 le
   have Rc:Hid (∀wx,Calls prog 112 #[.int .u32 (E:Int),.int .i64 25] wx fun e w'=>e=.returned (.int .u32 (rc:Int))∧∃n,w'=wx.drewN n):=Hd (fun wx=>by rw[bB];exact Xdg wx E le 25 (by decide) (by decide) 25 rfl);obtain⟨rd,bC⟩:=xq (rot D 2);have dY:rd<4294967296:=by rw[bC];exact Xa7 la
   have Rd:Hid (∀wx,Calls prog 112 #[.int .u32 (D:Int),.int .i64 2] wx fun e w'=>e=.returned (.int .u32 (rd:Int))∧∃n,w'=wx.drewN n):=Hd (fun wx=>by rw[bC];exact Xdg wx D la 2 (by decide) (by decide) 2 rfl);obtain⟨re,bD⟩:=xq (rot D 13);have dZ:re<4294967296:=by rw[bD];exact Xa7 la
   have Re:Hid (∀wx,Calls prog 112 #[.int .u32 (D:Int),.int .i64 13] wx fun e w'=>e=.returned (.int .u32 (re:Int))∧∃n,w'=wx.drewN n):=Hd (fun wx=>by rw[bD];exact Xdg wx D la 13 (by decide) (by decide) 13 rfl);obtain⟨rf,bF⟩:=xq (rot D 22);have eA:rf<4294967296:=by rw[bF];exact Xa7 la
   have Rf:Hid (∀wx,Calls prog 112 #[.int .u32 (D:Int),.int .i64 22] wx fun e w'=>e=.returned (.int .u32 (rf:Int))∧∃n,w'=wx.drewN n):=Hd (fun wx=>by rw[bF];exact Xdg wx D la 22 (by decide) (by decide) 22 rfl);obtain⟨s1,bG⟩:=xq (ra^^^rb);have dT:s1<4294967296:=by rw[bG];exact Xc7 dV dW
   have fI:bits .xor .u32 (ra:Int) (rb:Int)=(s1:Int):=by rw[u32_xor_nat _ _ dV dW,bG]
   obtain⟨s2,bH⟩:=xq (s1^^^rc);have gC:s2<4294967296:=by rw[bH];exact Xc7 dT dX
   have fJ:bits .xor .u32 (s1:Int) (rc:Int)=(s2:Int):=by rw[u32_xor_nat _ _ dT dX,bH]
   obtain⟨a1,aJ⟩:=xq (Xba xi s2);have fV:a1<4294967296:=by rw[aJ];exact Xc2 _ _
   have eU:IntKind.u32.wrap ((xi:Int)+(s2:Int))=(a1:Int):=Xd8 aJ;obtain⟨n1,aW⟩:=xq (E&&&R);have dQ:n1<4294967296:=by rw[aW];exact Xfd le
   have fC:bits .and .u32 (E:Int) (R:Int)=(n1:Int):=by rw[u32_and_nat _ _ le lf,aW]
   obtain⟨ne,aY⟩:=xq (Xr0 E);have dS:ne<4294967296:=by rw[aY];exact not_lt _
   have fG:bits .xor .u32 (if IntKind.u32.signed=true then -1 else IntKind.u32.max) (E:Int)=(ne:Int):=by rw[Xyj _ le,aY]
   obtain⟨n2,K⟩:=xq (ne&&&S);have dR:n2<4294967296:=by rw[K];exact Xfd dS
   have fD:bits .and .u32 (ne:Int) (S:Int)=(n2:Int):=by rw[u32_and_nat _ _ dS lg,K]
   obtain⟨n3,aX⟩:=xq (n1^^^n2);have fZ:n3<4294967296:=by rw[aX];exact Xc7 dQ dR
   have fE:bits .xor .u32 (n1:Int) (n2:Int)=(n3:Int):=by rw[u32_xor_nat _ _ dQ dR,aX]
   obtain⟨a2,aK⟩:=xq (Xba a1 n3);have fW:a2<4294967296:=by rw[aK];exact Xc2 _ _
   have eV:IntKind.u32.wrap ((a1:Int)+(n3:Int))=(a2:Int):=Xd8 aK;obtain⟨a3,aL⟩:=xq (Xba a2 kk);have fX:a3<4294967296:=by rw[aL];exact Xc2 _ _
   have eW:IntKind.u32.wrap ((a2:Int)+(kk:Int))=(a3:Int):=Xd8 aL;obtain⟨tt,bK⟩:=xq (Xba a3 ww);have gE:tt<4294967296:=by rw[bK];exact Xc2 _ _
   have fM:IntKind.u32.wrap ((a3:Int)+(ww:Int))=(tt:Int):=Xd8 bK;obtain⟨s3,bI⟩:=xq (rd^^^re);have dU:s3<4294967296:=by rw[bI];exact Xc7 dY dZ
   have fK:bits .xor .u32 (rd:Int) (re:Int)=(s3:Int):=by rw[u32_xor_nat _ _ dY dZ,bI]
   obtain⟨s4,bJ⟩:=xq (s3^^^rf);have gD:s4<4294967296:=by rw[bJ];exact Xc7 dU eA
   have fL:bits .xor .u32 (s3:Int) (rf:Int)=(s4:Int):=by rw[u32_xor_nat _ _ dU eA,bJ]
   obtain⟨m1,aR⟩:=xq (D&&&O);have dM:m1<4294967296:=by rw[aR];exact Xfd la
   have eX:bits .and .u32 (D:Int) (O:Int)=(m1:Int):=by rw[u32_and_nat _ _ la lb,aR]
   obtain⟨m2,aS⟩:=xq (D&&&P);have dN:m2<4294967296:=by rw[aS];exact Xfd la
   have eY:bits .and .u32 (D:Int) (P:Int)=(m2:Int):=by rw[u32_and_nat _ _ la lc,aS]
   obtain⟨m3,aT⟩:=xq (m1^^^m2);have dO:m3<4294967296:=by rw[aT];exact Xc7 dM dN
   have eZ:bits .xor .u32 (m1:Int) (m2:Int)=(m3:Int):=by rw[u32_xor_nat _ _ dM dN,aT]
   obtain⟨m4,aU⟩:=xq (O&&&P);have dP:m4<4294967296:=by rw[aU];exact Xfd lb
   have fA:bits .and .u32 (O:Int) (P:Int)=(m4:Int):=by rw[u32_and_nat _ _ lb lc,aU]
   obtain⟨m5,aV⟩:=xq (m3^^^m4);have fY:m5<4294967296:=by rw[aV];exact Xc7 dO dP
   have fB:bits .xor .u32 (m3:Int) (m4:Int)=(m5:Int):=by rw[u32_xor_nat _ _ dO dP,aV]
   obtain⟨uu,bL⟩:=xq (Xba s4 m5);have gF:uu<4294967296:=by rw[bL];exact Xc2 _ _
   have fO:IntKind.u32.wrap ((s4:Int)+(m5:Int))=(uu:Int):=Xd8 bL;obtain⟨na,X⟩:=xq (Xba tt uu);have gA:na<4294967296:=by rw[X];exact Xc2 _ _
   have fF:IntKind.u32.wrap ((tt:Int)+(uu:Int))=(na:Int):=Xd8 X;have fP:((tt:Int)+(uu:Int))%4294967296=(na:Int):=Ycx X;obtain⟨nz,Y⟩:=xq (Xba xd tt);have gB:nz<4294967296:=by rw[Y];exact Xc2 _ _
   have fH:IntKind.u32.wrap ((xd:Int)+(tt:Int))=(nz:Int):=Xd8 Y;have fQ:((xd:Int)+(tt:Int))%4294967296=(nz:Int):=Ycx Y;have RN:Hid (wL (rnd v kk ww)=[na,D,O,P,nz,E,R,S]):=Hd (by
    have e1:Yd0 v kk ww=tt:=by unfold Yd0;rw[←bU,←aF,←aG,←aH,bK,aL,aK,aJ,bH,bG,aZ,bA,bB,aX,aW,K,aY]
    have e2:Yg8 v=uu:=by unfold Yg8;rw[←aC,←aD,←aE,bL,bJ,bI,bC,bD,bF,aV,aT,aR,aS,aU]
    unfold rnd wL;rw[e1,e2,←X,←aC,←aD,←aE,←bT,←Y,←aF,←aG,←aH])
   have cC:Hid (∀wx,Dr wr wx→∃wy,Sv 164 ⟨z,0,none⟩ (.agg (wA [na,D,O,P,nz,E,R,S])) wx wy∧WB wy z 164 (wL (Xv5 ws I (t+1)))∧Fr1 z w7 wy):=Hd (fun wx hd=>by have vb:=F.o.below (Dr.below hd);obtain⟨s1,s2⟩:=vb.storeT [na,D,O,P,nz,E,R,S] rfl Xre;refine⟨_,s1,?_,(M.o.trans (Fr1.of_below (Dr.below hd))).trans (Xfu _ _ _)⟩;rw[NX.o,←aQ,←bS,RN.o];exact s2);have cS:=Hd (fun w=>Ymv w na D O P nz E R S);obtain⟨nw,dJ⟩:=xq (wA [na,D,O,P,nz,E,R,S]);rw[←dJ] at cC cS;clear aC aD aE bT aF aG aH bU aZ bA bB bC bD bF bG bH bI bJ aJ aK aL bK bL X Y aW K aX aY aR aS aT aU aV aQ bS bP dJ F VO NX RN hv M;have eQ:(t:Int)<64:=by omega
   have fU:(0:Int)≤(t:Int):=by omega
   go_upto_region 12 with fail;go_quiet ((go_at_call 112;first|with_reducible exact Calls.quiet_of (Ra.o _)|with_reducible exact Calls.quiet_of (Rb.o _)|with_reducible exact Calls.quiet_of (Rc.o _)));obtain⟨G,A⟩:=xq (wr.drewN nq);rw[←A];have cT:Hid (Dr wr G):=Hd ⟨nq,A⟩;replace ca:G.cell? ⟨z,0,none⟩=some (.int .u32 (D:Int)):=by rw[A];exact ca
   replace cb:G.cell? ⟨z,1,none⟩=some (.int .u32 (O:Int)):=by rw[A];exact cb
   replace cc:G.cell? ⟨z,2,none⟩=some (.int .u32 (P:Int)):=by rw[A];exact cc
   replace cd:G.cell? ⟨z,3,none⟩=some (.int .u32 (xd:Int)):=by rw[A];exact cd
   replace ce:G.cell? ⟨z,4,none⟩=some (.int .u32 (E:Int)):=by rw[A];exact ce
   replace cf:G.cell? ⟨z,5,none⟩=some (.int .u32 (R:Int)):=by rw[A];exact cf
   replace cg:G.cell? ⟨z,6,none⟩=some (.int .u32 (S:Int)):=by rw[A];exact cg
   clear A cK cW ci Ra Rb Rc;go_upto_region 13 with fail;go_quiet ((go_at_call 112;first|with_reducible exact Calls.quiet_of (Rd.o _)|with_reducible exact Calls.quiet_of (Re.o _)|with_reducible exact Calls.quiet_of (Rf.o _)));obtain⟨H,B⟩:=xq (G.drewN nq);rw[←B];have cU:Hid (Dr wr H):=Hd (cT.o.trans ⟨_,B⟩);replace ca:H.cell? ⟨z,0,none⟩=some (.int .u32 (D:Int)):=by rw[B];exact ca
   replace cb:H.cell? ⟨z,1,none⟩=some (.int .u32 (O:Int)):=by rw[B];exact cb
   replace cc:H.cell? ⟨z,2,none⟩=some (.int .u32 (P:Int)):=by rw[B];exact cc
   replace cd:H.cell? ⟨z,3,none⟩=some (.int .u32 (xd:Int)):=by rw[B];exact cd
   replace ce:H.cell? ⟨z,4,none⟩=some (.int .u32 (E:Int)):=by rw[B];exact ce
   replace cf:H.cell? ⟨z,5,none⟩=some (.int .u32 (R:Int)):=by rw[B];exact cf
   replace cg:H.cell? ⟨z,6,none⟩=some (.int .u32 (S:Int)):=by rw[B];exact cg
   obtain⟨wy,st,h1,h2⟩:=cC.o H cU.o;have ST:=Hd st;have H1:=Hd h1;have H2:=Hd h2;clear B Rd Re Rf cT cU st h1 h2 cC;go_wp2_with (first
    |(with_reducible refine Xaz rfl (Xch (t:=164) (vs:=#[(0,.int .u32 (na:Int)),(1,.int .u32 (D:Int)),(2,.int .u32 (O:Int)),(3,.int .u32 (P:Int)),(4,.int .u32 (nz:Int)),(5,.int .u32 (E:Int)),(6,.int .u32 (R:Int)),(7,.int .u32 (S:Int))]) rfl (by kernel_rfl) (cS.o _)) ?_)
    |((with_reducible refine Xaa 164 rfl _ _ rfl ?_);refine⟨_,_,_,rfl,rfl,ST.o,?_⟩))
   go_roundg (64-(t+1));exact⟨t+1,by omega,rfl,by go_num,H1,H2⟩;omega
  obtain rfl:t=64:=by omega
  obtain⟨vf,bN⟩:=xq (Xv5 ws I 64);have VF:Hid vf.Ok:=Hd (by rw[bN];exact Xzb V0.o _ _);have cL:Hid (wL (Xlk sh0 (j+1) p)=Xx5 (wL I) (wL vf) 8):=Hd (by rw[bN];exact bW.o);have VE:Hid (WB wr z 164 (wL vf)):=Hd (by rw[bN];exact hv.o);have HE:Hid (WB wr (w.heap.size+1) 164 (wL I)):=Hd (cX.o.fr M.o (by have:=G7.o.1;have:=G4.o.2.2;omega));have eC:Hid (Fr1 (w.heap.size+1) w4 wr):=Hd (cD.o.new M.o G7.o.1);have eE:Hid (z≠w.heap.size+1):=Hd (by have:=G7.o.1;have:=G4.o.2.2;omega);clear bN hv M bW cX cD K7 W7 WS ht ht64;go_wp2_with fail;go_loopg [12] 8 (fun k v12 wz=>∃i:Nat,i≤8∧k=8-i∧v12=.int .i64 (i:Int)∧Hid (WB wz (w.heap.size+1) 164 (Xx5 (wL I) (wL vf) i))∧Hid (Fr1 (w.heap.size+1) wr wz));exact⟨0,by omega,rfl,rfl,HE,Hd (Fr1.refl _ _)⟩;clear HE;obtain⟨i,hi,rfl,rfl,W,C⟩:=hrel;by_cases hi8:i<8
  ·obtain⟨x,L⟩:=xq ((wL I).getD i 0);obtain⟨y,hy⟩:=xq ((wL vf).getD i 0);have cx:wr.cell? ⟨w.heap.size+1,i,none⟩=some (.int .u32 (x:Int)):=by rw[L,←Ykq (wL I) (wL vf) i i (zL _)];exact W.o.cell (by rw[Ygq];exact hi8)
   have cy:wr.cell? ⟨z,i,none⟩=some (.int .u32 (y:Int)):=by rw[hy];exact(VE.o.fr C.o eE.o).cell hi8
   obtain⟨n2,K⟩:=xq (Xba x y);have en:IntKind.u32.wrap ((x:Int)+(y:Int))=(n2:Int):=Xd8 K;have fr:wr.frozen? ⟨w.heap.size+1,i,none⟩=false:=Xby W.o i;have N1:Hid (WB (wr.drew.setCell ⟨w.heap.size+1,i,none⟩ (.int .u32 ((n2:Nat):Int))) (w.heap.size+1) 164 (Xx5 (wL I) (wL vf) (i+1))):=Hd (by rw[Xlg,←L,←hy,←K];exact(W.o.below (Dr.below ⟨1,rfl⟩)).set i n2);have N2:=Hd ((C.o.trans (Fr1.of_below (Dr.below (w':=wr.drew) ⟨1,rfl⟩))).trans (Fr1.setC (j:=i) (.int .u32 ((n2:Nat):Int))));have eS:(i:Int)<8:=by omega
   have eP:(0:Int)≤(i:Int):=by omega
   clear L hy K W C;go_upto_region 18 with fail;refine wp_region_still_tail 8 (by kernel_rfl) (by kernel_rfl) ?_;simp only[List.take_succ_cons,List.take_zero,List.drop_succ_cons,List.drop_zero];repeat still_step
   refine wpStill_nil ?_;go_wp2_with fail;go_roundg (8-(i+1));exact⟨i+1,by omega,rfl,by go_num,N1,N2⟩;omega
  obtain rfl:i=8:=by omega
  have eI:Hid (WB wr (w.heap.size+1) 164 (wL (Xlk sh0 (j+1) p))):=Hd (by rw[cL.o];exact W.o);have eD:=Hd (eC.o.trans C.o);have eK:Hid (s+64=64*(j+1)):=Hd (by have:=hs.o;omega);clear W C hi hi8;go_wp2_with fail;go_roundg (nb-(j+1));exact⟨j+1,s+64,by omega,rfl,by go_num,eK,eI,eD⟩;omega
 obtain rfl:j=nb:=by omega
 have dL:s=m:=by have:=dA.o;have:=hs.o;omega
 have fS:¬s<m:=by omega
 obtain⟨N,bM⟩:=xq (Xlk sh0 j p);have VN:Hid N.Ok:=Hd (by rw[bM];exact Ycj Xty _ _);have dC:Hid (sl=dgF N):=Hd (by rw[bM];exact T.o);obtain⟨wO,bQ⟩:=xq (wr.alloc (.cells #[.int .u8 0,.int .u8 0,.int .u8 0,.int .u8 0,.int .u8 0,.int .u8 0,.int .u8 0,.int .u8 0,.int .u8 0,.int .u8 0,.int .u8 0,.int .u8 0,.int .u8 0,.int .u8 0,.int .u8 0,.int .u8 0,.int .u8 0,.int .u8 0,.int .u8 0,.int .u8 0,.int .u8 0,.int .u8 0,.int .u8 0,.int .u8 0,.int .u8 0,.int .u8 0,.int .u8 0,.int .u8 0,.int .u8 0,.int .u8 0,.int .u8 0,.int .u8 0] 25));have bO:Bw wr wO:=by rw[bQ];exact(zR _ _).alloc (zL _) _
 have HO:Hid (WB wO (w.heap.size+1) 164 (wL N)):=Hd (by rw[bM];exact W.o.below bO);have FO:Hid (Fr1 (w.heap.size+1) w4 wO):=Hd (hf.o.trans (Fr1.of_below bO));obtain⟨go,aP⟩:=xq wr.heap.size;have OO:Hid (IB wO go 25 ((dgF N).take 0++List.replicate (32-0) 0)):=Hd (by unfold IB;rw[aP,bQ];exact heap_alloc_last wr _);have GO:Hid (w.heap.size+2≤go):=Hd (by rw[aP];have:=hf.o.size;have:=G4.o.2.2;omega);have cZ:=Hd bQ;have cV:=Hd aP;clear bM bQ aP bO W hf T h dL;go_upto_region 20 with fail;rw[←cZ.o,←cV.o];clear cZ cV;go_wp2_with fail;go_loopg [14] 32 (fun k v14 wz=>∃i:Nat,i≤32∧k=32-i∧v14=.int .i64 (i:Int)∧Hid (IB wz go 25 ((dgF N).take i++List.replicate (32-i) 0))∧Hid (Fr1 go wO wz));exact⟨0,by omega,rfl,rfl,OO,Hd (Fr1.refl _ _)⟩;clear OO;obtain⟨i,hi,rfl,rfl,ho,C⟩:=hrel;by_cases h32:i<32
 ·obtain⟨q,hq⟩:=xq (i/4);obtain⟨r,hr⟩:=xq (24-8*(i%4));obtain⟨x,L⟩:=xq ((wL N).getD q 0);obtain⟨y,hy⟩:=xq ((dgF N).getD i 0);have YI:(x:Int)/2^r%256=(y:Int):=by rw[hy,Yob N i h32,←hq,←hr,←L,Int.natCast_emod,Int.natCast_ediv,Int.natCast_pow];rfl
  have q8:q<8:=by omega
  have cx:wr.cell? ⟨w.heap.size+1,q,none⟩=some (.int .u32 (x:Int)):=by rw[L];exact(HO.o.fr C.o (by have:=GO.o;omega)).cell q8
  have jq:(i:Int)/4=(q:Int):=by omega
  have er:(24:Int)-8*((i:Int)%4)=(r:Int):=by omega
  have gH:r<32:=by omega
  have fr:wr.frozen? ⟨go,i,none⟩=false:=Xby ho.o i;obtain⟨u,cu⟩:∃u,wr.cell? ⟨go,i,none⟩=some u:=⟨_,ho.o.cell (by rw[List.length_append,List.length_take,List.length_replicate,Xbm];omega)⟩
  have N1:Hid (IB (wr.setCell ⟨go,i,none⟩ (.int .u8 ((y:Nat):Int))) go 25 ((dgF N).take (i+1)++List.replicate (32-(i+1)) 0)):=Hd (by rw[←take_set (dgF N) 32 i h32 (by rw[Xbm];exact zL _) y hy];exact ho.o.set i y);have N2:=Hd (C.o.trans (Fr1.setC (b:=go) (j:=i) (w:=wr) (.int .u8 ((y:Nat):Int))));have eR:(i:Int)<32:=by omega
  have eP:(0:Int)≤(i:Int):=by omega
  have gG:(q:Int)<8:=by omega
  clear hq hr L hy ho C q8;go_wp2_with fail;go_roundg (32-(i+1));exact⟨i+1,by omega,rfl,by go_num,N1,N2⟩;omega
 obtain rfl:i=32:=by omega
 have e1:(dgF N).take 32++List.replicate (32-32) 0=dgF N:=by rw[List.take_of_length_le (by rw[Xbm];exact zL _)];simp
 have i3:=ho.o;rw[e1] at i3;have LD:=Hd (i3.load underlying25 (by rw[Xbm];exact Xj3));have R1:IB wO w.heap.size 25 (List.replicate 32 0):=(FO.o.other w.heap.size (zY R4.o) (by omega)).trans R4.o;have R2:IB wr w.heap.size 25 (List.replicate 32 0):=(C.o.other w.heap.size (zY R1) (by have:=GO.o;omega)).trans R1;obtain⟨st,i4⟩:=R2.store (dgF N) (by rw[Xbm];simp) (by rw[List.length_replicate];exact Xj3);have bE:Bw w wr:=(B4.o.trans (FO.o.below (by have:=G4.o.2.2;omega) (Nat.le_succ _))).trans (C.o.below (by have:=FO.o.size;have:=G4.o.2.2;omega) (by have:=GO.o;omega));have BF:=Hd (below_setRow bE (zL _) (idA (dgF N)));obtain⟨ds,aN⟩:=xq (idA (dgF N));have SZ:Hid ((prog.info? 25).map (·.size)=some ds.size):=Hd (by rw[aN,Xaf,Xbm];exact Xj3);unfold IB at i4;rw[←aN] at LD st i4 BF;have eF:=Hd aN;have ST:=Hd st;have I4:=Hd i4;clear aN st i4 i3 e1 bE R1 R2 ho C;go_wp2_with (first
  |((with_reducible refine Xab 25 rfl _ rfl ?_);refine⟨_,_,rfl,LD.o,?_⟩)
  |((with_reducible refine Xaa 25 rfl _ _ rfl ?_);refine⟨_,_,_,rfl,rfl,ST.o,?_⟩))
 exact zP (results_cell_row results60 _ _ w.heap.size _ _ _ _ rfl I4.o underlying25 rfl SZ.o) rfl ⟨by rw[dC.o,eF.o],BF.o⟩
theorem Xtt:(prog.info? 25).map (·.size)=some 32:=by kernel_rfl
theorem Xdu:(prog.info? 170).map (·.size)=some 16:=by kernel_rfl
theorem Xmc (w:World)(a:Option Addr)(cap:Nat)(l:List Nat)(hr:Rd w a l)(hl:l.length≤10000000):zJ 160 #[.slice a l.length cap] w (.agg (idA (Xfg l))):=by
 obtain⟨w0,d⟩:=xq (w.alloc (.cells zz16.toArray 170));have C:Bw w w0:=by rw[d];exact(zR _ _).alloc (zL _) _
 have P:IB w0 w.heap.size 170 (List.replicate 16 0):=by rw[d];exact Xbk w _
 have L:=Hd (Xnn w0 a cap l (hr.onB C) hl);obtain⟨D,F⟩:=xq (Xfn l);have K:D.length=32:=by rw[F];exact Xe4 l
 have r:Hid (B16 (D.take 16)):=Hd (by rw[F];exact Xbf l);obtain⟨ds,m⟩:=xq (idA D);obtain⟨rs,q⟩:=xq (idA (D.take 16));have HF:Hid (idA (Xfg l)=rs):=Hd (by rw[q,F];rfl);have g:Hid (∀w1,Bw w0 w1→∃b,Sv 25 ⟨w1.heap.size,0,none⟩ (.agg ds) (w1.alloc (.cells Xm7 25)) b∧∃B,B=b.alloc (.cells zz16.toArray 170)∧IB B w.heap.size 170 (List.replicate 16 0)∧IB B w1.heap.size 25 D∧IB B b.heap.size 170 (D.take 0++List.replicate (16-0) 0)∧Bw w B∧w.heap.size<w1.heap.size∧w1.heap.size<b.heap.size):=Hd (fun w1 hb=>by
  obtain⟨b,y⟩:=xq (w1.alloc (.cells ds 25));have T:Bw w1 b:=by rw[y];exact(zR _ _).alloc (zL _) _
  have c:IB b w1.heap.size 25 D:=by unfold IB;rw[y,m];exact heap_alloc_last w1 _
  have U:Bw b (b.alloc (.cells zz16.toArray 170)):=(zR _ _).alloc (zL _) _;refine⟨b,by rw[y,m];exact Xib w1 25 D Xm7 (by rw[K];rfl) (by rw[K];exact Xtt),_,rfl,((P.below hb).below T).below U,c.below U,Xbk b _,((bg C hb).trans (T.mono (bg C hb).size)).trans (U.mono ?_),(P.below hb).lt,c.lt⟩;have:=(bg C hb).size;have:=T.size;omega)
 have SZ:Hid ((prog.info? 170).map (·.size)=some rs.size):=Hd (by rw[q,Xaf,r.o.len];exact Xdu);rw[←F,←m] at L;rw[HF.o];obtain⟨n,hn⟩:=xq l.length;rw[←hn] at L⊢;have s:=Hd K;have O:=Hd q;unfold zz16 at d g;unfold Xm7 at g;have HW:=Hd d;clear d F m q hn C P hr hl K HF;go_enter func160,ntmps160;go_upto_region 1 with fail;rw[←HW.o];clear HW;go_wp2_with fail;refine L.o.mono ?_;rintro e w1 ⟨rfl,G⟩;obtain⟨b,st,B,J,z,A,c,v,l1,l2⟩:=g.o w1 G;have M:=Hd st;have E:=Hd J;have J0:=Hd z;have Q:=Hd A;have R:=Hd c;have JB:=Hd v;have JL:=Hd l1;have t:=Hd l2;clear st J z A c v l1 l2 G L g;go_upto_region 3 with((with_reducible refine Xaa 25 rfl _ _ rfl ?_);refine⟨_,_,_,rfl,rfl,M.o,?_⟩)
 rw[←E.o];obtain⟨V,H⟩:=xq w1.heap.size;obtain⟨f,I⟩:=xq b.heap.size;rw[←H] at Q JL t⊢;rw[←I] at R t⊢;clear H I E M;go_wp2_with fail;go_loopg [5] 16 (fun k i wr=>∃j:Nat,j≤16∧k=16-j∧i=.int .i64 (j:Int)∧Hid (IB wr w.heap.size 170 (List.replicate 16 0))∧Hid (IB wr V 25 D)∧Hid (IB wr f 170 (D.take j++List.replicate (16-j) 0))∧Hid (Bw w wr));exact⟨0,by omega,rfl,rfl,J0,Q,R,JB⟩;clear J0 Q R JB;obtain⟨j,hj,rfl,rfl,z,A,c,v⟩:=hrel;by_cases h:j<16
 ·obtain⟨x,W⟩:=xq (D.getD j 0);have cx:wr.cell? ⟨V,j,none⟩=some (.int .u8 ((x:Nat):Int)):=by rw[W];exact A.o.cell (by rw[s.o];omega)
  have fr:wr.frozen? ⟨f,j,none⟩=false:=Xby c.o j;have hc:∃u,wr.cell? ⟨f,j,none⟩=some u:=⟨_,c.o.cell (by rw[List.length_append,List.length_take,List.length_replicate,s.o];omega)⟩
  obtain⟨u,cu⟩:=hc;have jl:=JL.o;have Y:=t.o;have N0:Hid (IB (wr.setCell ⟨f,j,none⟩ (.int .u8 ((x:Nat):Int))) w.heap.size 170 (List.replicate 16 0)):=Hd (z.o.setC j _ (by omega));have N1:Hid (IB (wr.setCell ⟨f,j,none⟩ (.int .u8 ((x:Nat):Int))) V 25 D):=Hd (A.o.setC j _ (by omega));have N2:Hid (IB (wr.setCell ⟨f,j,none⟩ (.int .u8 ((x:Nat):Int))) f 170 (D.take (j+1)++List.replicate (16-(j+1)) 0)):=Hd (by rw[←take_set D 16 j h (by rw[s.o];omega) x W];exact c.o.set j x);have S:Hid (Bw w (wr.setCell ⟨f,j,none⟩ (.int .u8 ((x:Nat):Int)))):=Hd (v.o.setCell (p:=⟨f,j,none⟩) (show w.heap.size≤f by omega) _);clear z A c v W jl Y;go_wp2_with fail;go_roundg (16-(j+1));exact⟨j+1,by omega,rfl,by go_num,N0,N1,N2,S⟩;omega
 obtain rfl:j=16:=by omega
 have e:D.take 16++List.replicate (16-16) 0=D.take 16:=by simp
 have X:=c.o;rw[e] at X;have LD:=Hd (X.load underlying170 (by rw[r.o.len];exact Xdu));obtain⟨st,N⟩:=z.o.store (D.take 16) (by rw[r.o.len];simp) (by rw[List.length_replicate];exact Xdu);have Z:=Hd (below_setRow v.o (zL _) (idA (D.take 16)));unfold IB at N;rw[←O.o] at LD st N Z;have M:=Hd st;have I4:=Hd N;clear st N X e z A c v;go_wp2_with (first
  |((with_reducible refine Xab 170 rfl _ rfl ?_);refine⟨_,_,rfl,LD.o,?_⟩)
  |((with_reducible refine Xaa 170 rfl _ _ rfl ?_);refine⟨_,_,_,rfl,rfl,M.o,?_⟩))
 exact zP (results_cell_row results160 _ _ w.heap.size _ _ _ _ rfl I4.o underlying170 rfl SZ.o) rfl ⟨rfl,Z.o⟩
theorem Xcx:(prog.info? 221).map (·.size)=some 16:=by kernel_rfl
theorem Xmb (w:World)(a:Option Addr)(cap:Nat)(l:List Nat)(hr:Rd w a l)(hl:l.length≤10000000):zJ 211 #[.slice a l.length cap] w (.agg (idA (Xfg l))):=by
 obtain⟨w0,d⟩:=xq (w.alloc (.cells zz16.toArray 221));have C:Bw w w0:=by rw[d];exact(zR _ _).alloc (zL _) _
 have P:IB w0 w.heap.size 221 (List.replicate 16 0):=by rw[d];exact Xbk w _
 have L:=Hd (Xnn w0 a cap l (hr.onB C) hl);obtain⟨D,F⟩:=xq (Xfn l);have K:D.length=32:=by rw[F];exact Xe4 l
 have r:Hid (B16 (D.take 16)):=Hd (by rw[F];exact Xbf l);obtain⟨ds,m⟩:=xq (idA D);obtain⟨rs,q⟩:=xq (idA (D.take 16));have HF:Hid (idA (Xfg l)=rs):=Hd (by rw[q,F];rfl);have g:Hid (∀w1,Bw w0 w1→∃b,Sv 25 ⟨w1.heap.size,0,none⟩ (.agg ds) (w1.alloc (.cells Xm7 25)) b∧∃B,B=b.alloc (.cells zz16.toArray 221)∧IB B w.heap.size 221 (List.replicate 16 0)∧IB B w1.heap.size 25 D∧IB B b.heap.size 221 (D.take 0++List.replicate (16-0) 0)∧Bw w B∧w.heap.size<w1.heap.size∧w1.heap.size<b.heap.size):=Hd (fun w1 hb=>by
  obtain⟨b,y⟩:=xq (w1.alloc (.cells ds 25));have T:Bw w1 b:=by rw[y];exact(zR _ _).alloc (zL _) _
  have c:IB b w1.heap.size 25 D:=by unfold IB;rw[y,m];exact heap_alloc_last w1 _
  have U:Bw b (b.alloc (.cells zz16.toArray 221)):=(zR _ _).alloc (zL _) _;refine⟨b,by rw[y,m];exact Xib w1 25 D Xm7 (by rw[K];rfl) (by rw[K];exact Xtt),_,rfl,((P.below hb).below T).below U,c.below U,Xbk b _,((bg C hb).trans (T.mono (bg C hb).size)).trans (U.mono ?_),(P.below hb).lt,c.lt⟩;have:=(bg C hb).size;have:=T.size;omega)
 have SZ:Hid ((prog.info? 221).map (·.size)=some rs.size):=Hd (by rw[q,Xaf,r.o.len];exact Xcx);rw[←F,←m] at L;rw[HF.o];obtain⟨n,hn⟩:=xq l.length;rw[←hn] at L⊢;have s:=Hd K;have O:=Hd q;unfold zz16 at d g;unfold Xm7 at g;have HW:=Hd d;clear d F m q hn C P hr hl K HF;go_enter func211,ntmps211;go_upto_region 1 with fail;rw[←HW.o];clear HW;go_wp2_with fail;refine L.o.mono ?_;rintro e w1 ⟨rfl,G⟩;obtain⟨b,st,B,J,z,A,c,v,l1,l2⟩:=g.o w1 G;have M:=Hd st;have E:=Hd J;have J0:=Hd z;have Q:=Hd A;have R:=Hd c;have JB:=Hd v;have JL:=Hd l1;have t:=Hd l2;clear st J z A c v l1 l2 G L g;go_upto_region 3 with((with_reducible refine Xaa 25 rfl _ _ rfl ?_);refine⟨_,_,_,rfl,rfl,M.o,?_⟩)
 rw[←E.o];obtain⟨V,H⟩:=xq w1.heap.size;obtain⟨f,I⟩:=xq b.heap.size;rw[←H] at Q JL t⊢;rw[←I] at R t⊢;clear H I E M;go_wp2_with fail;go_loopg [5] 16 (fun k i wr=>∃j:Nat,j≤16∧k=16-j∧i=.int .i64 (j:Int)∧Hid (IB wr w.heap.size 221 (List.replicate 16 0))∧Hid (IB wr V 25 D)∧Hid (IB wr f 221 (D.take j++List.replicate (16-j) 0))∧Hid (Bw w wr));exact⟨0,by omega,rfl,rfl,J0,Q,R,JB⟩;clear J0 Q R JB;obtain⟨j,hj,rfl,rfl,z,A,c,v⟩:=hrel;by_cases h:j<16
 ·obtain⟨x,W⟩:=xq (D.getD j 0);have cx:wr.cell? ⟨V,j,none⟩=some (.int .u8 ((x:Nat):Int)):=by rw[W];exact A.o.cell (by rw[s.o];omega)
  have fr:wr.frozen? ⟨f,j,none⟩=false:=Xby c.o j;have hc:∃u,wr.cell? ⟨f,j,none⟩=some u:=⟨_,c.o.cell (by rw[List.length_append,List.length_take,List.length_replicate,s.o];omega)⟩
  obtain⟨u,cu⟩:=hc;have jl:=JL.o;have Y:=t.o;have N0:Hid (IB (wr.setCell ⟨f,j,none⟩ (.int .u8 ((x:Nat):Int))) w.heap.size 221 (List.replicate 16 0)):=Hd (z.o.setC j _ (by omega));have N1:Hid (IB (wr.setCell ⟨f,j,none⟩ (.int .u8 ((x:Nat):Int))) V 25 D):=Hd (A.o.setC j _ (by omega));have N2:Hid (IB (wr.setCell ⟨f,j,none⟩ (.int .u8 ((x:Nat):Int))) f 221 (D.take (j+1)++List.replicate (16-(j+1)) 0)):=Hd (by rw[←take_set D 16 j h (by rw[s.o];omega) x W];exact c.o.set j x);have S:Hid (Bw w (wr.setCell ⟨f,j,none⟩ (.int .u8 ((x:Nat):Int)))):=Hd (v.o.setCell (p:=⟨f,j,none⟩) (show w.heap.size≤f by omega) _);clear z A c v W jl Y;go_wp2_with fail;go_roundg (16-(j+1));exact⟨j+1,by omega,rfl,by go_num,N0,N1,N2,S⟩;omega
 obtain rfl:j=16:=by omega
 have e:D.take 16++List.replicate (16-16) 0=D.take 16:=by simp
 have X:=c.o;rw[e] at X;have LD:=Hd (X.load underlying221 (by rw[r.o.len];exact Xcx));obtain⟨st,N⟩:=z.o.store (D.take 16) (by rw[r.o.len];simp) (by rw[List.length_replicate];exact Xcx);have Z:=Hd (below_setRow v.o (zL _) (idA (D.take 16)));unfold IB at N;rw[←O.o] at LD st N Z;have M:=Hd st;have I4:=Hd N;clear st N X e z A c v;go_wp2_with (first
  |((with_reducible refine Xab 221 rfl _ rfl ?_);refine⟨_,_,rfl,LD.o,?_⟩)
  |((with_reducible refine Xaa 221 rfl _ _ rfl ?_);refine⟨_,_,_,rfl,rfl,M.o,?_⟩))
 exact zP (results_cell_row results211 _ _ w.heap.size _ _ _ _ rfl I4.o underlying221 rfl SZ.o) rfl ⟨rfl,Z.o⟩
theorem Xmo (w:World)(n:Nat)(hn:n<256):Ry 252 #[.int .i64 (n:Int)] w (.bool true):=by have a:decide ((n:Int)≤65535)=true:=zT (by omega);have b:decide ((0:Int)≤(n:Int))=true:=zT (by omega);go_enter func252,ntmps252;go_wp2_with fail;go_ret;exact⟨rfl,rfl⟩
theorem Xh2:(prog.info? 52).map (·.size)=some 560:=by kernel_rfl
theorem Yi4 (s:List Nat)(j:Nat):(idA s).extract (j*16) (j*16+16)=idA (nth s j):=by unfold idA nth;apply Array.toList_inj.1;rw[Array.toList_extract,List.extract_eq_take_drop];simp[List.map_take,List.map_drop,Nat.mul_comm]
theorem Yfe (s:List Nat)(hs:s.length=560)(j:Nat)(hj:j<35)(w:World):(Instr.index 52 (.agg (idA s)) (.int .i64 (j:Int))).run prog w=.ok (.agg (idA (nth s j))) w:=by
 have hi:(0:Int)≤(j:Int)∧(j:Int)<35:=by omega
 have e:=Yi4 s j;simp[Instr.index,run_underlying underlying52,asIntOf,hi,go_sem];rw[qP hj,e]
theorem Xyq (s:List Nat)(j:Nat):s.take (16*(j+1))=s.take (16*j)++nth s j:=by unfold nth;rw[show 16*(j+1)=16*j+16 by omega,List.take_add]
theorem Xr1 (w:World)(T:TypeId)(hs:(prog.info? T).map (·.size)=some 16)(l:List Nat)(h:B16 l):∃wy,(storeVar T ⟨w.heap.size,0,none⟩ (.agg (idA l))).run prog (w.alloc (.cells zz16.toArray T))=.ok () wy∧wy=w.alloc (.cells (idA l) T)∧IB wy w.heap.size T l∧Bw w wy:=
 ⟨_,Xib w T l _ (by rw[h.len];rfl) (by rw[h.len];exact hs),rfl,heap_alloc_last w _,(zR _ _).alloc (zL _) _⟩
theorem Xqq (w:World)(leaf:Nat)(s:List Nat)(hs:s.length=560)(hx:∀x∈s,x<256)(h1:leaf<256)(hE:Env w):zJ 253 #[.int .i64 (leaf:Int),.agg (idA s)] w (.tuple #[.agg (idA (Yf8 leaf s)),.int .i64 0]):=by
 obtain⟨cs,d⟩:=xq (idA s);obtain⟨rs,f⟩:=xq (idA (Yf8 leaf s));have H:(Yf8 leaf s).length=16:=(Xbf _).len;obtain⟨w0,a⟩:=xq ((w.alloc (.cells cs 52)).alloc (.cells zz16.toArray 22));have E:Bw w w0:=by rw[a];exact((zR _ _).alloc (zL _) _).alloc (by simp) _
 have Q:IB w0 w.heap.size 52 s:=by unfold IB;rw[a,d];exact Xad (heap_alloc_last w _)
 have R:IB w0 (w.heap.size+1) 22 (List.replicate 16 0):=by have:=Xbk (w.alloc (.cells cs 52)) 22;rw[World.size_alloc] at this;rw[a];exact this
 unfold zz16 at a;have T:Hid (∀j:Nat,j<35→∀w,(Instr.index 52 (.agg cs) (.int .i64 (j:Int))).run prog w=.ok (.agg (idA (nth s j))) w):=Hd (fun j r w=>by rw[d];exact Yfe s hs j r w);have v:Hid (∀j:Nat,j<35→B16 (nth s j)):=Hd (fun j r=>Xme (n:=35) (by rw[hs]) hx r);have J:Hid (∀j:Nat,j≤35→(hdF 4 leaf++s.take (16*j)).length=5+16*j∧∀x∈hdF 4 leaf++s.take (16*j),x<256):=Hd (fun j r=>⟨by rw[List.length_append,List.length_take,hs];simp[hdF];omega,fun x h=>by
  rcases List.mem_append.1 h with h|h;·simp[hdF] at h;omega
  exact hx x (List.mem_of_mem_take h)⟩)
 have t:Hid (s.take (16*35)=s):=Hd (List.take_of_length_le (by omega));have V:Hid (∀D,Bw w0 D→Ld 52 ⟨w.heap.size,0,none⟩ D (.agg cs)):=Hd (fun D h=>by rw[d];exact(Q.below h).load underlying52 (by rw[hs];exact Xh2));have l:=Hd (Xh6 w w0 22 Xam E (w.heap.size+1) (Nat.le_succ _) R (Yf8 leaf s) H);have SZ:Hid ((prog.info? 22).map (·.size)=some rs.size):=Hd (by rw[f,Xaf,H];exact Xam);have BW:=Hd E;have HE:=Hd (hE.on E);rw[←d,←f];rw[←f] at l;have I:=Hd f;have P:=Hd a;have W:=Xmo w0 leaf h1;have u:=Hd W;clear a d f hs hx E Q R H hE W;go_enter func253,ntmps253;go_upto_region 1 with fail;rw[←P.o];clear P;go_wp2_with fail;refine u.o.mono ?_;rintro e D ⟨rfl,B⟩;rw[B];clear u B D;have S:=Hd (Xp5 w0 4 leaf h1);go_wp2_with fail;refine S.o.mono ?_;rintro e w1 ⟨v1,rfl,o1,m⟩;have U:=Hd (V.o w1 m);have N:=Hd m;have X:Hid (OW w0.heap.size (hdF 4 leaf++s.take (16*0)) v1 w1):=Hd (by rw[Nat.mul_zero,List.take_zero,List.append_nil];exact o1);clear m o1 S V;go_wp2_with ((with_reducible refine Xab 52 rfl _ rfl ?_);refine⟨_,_,rfl,U.o,?_⟩)
 go_loopg [6,8,16] 35 (fun k b p i wr=>∃j:Nat,j≤35∧k=35-j∧i=.int .i64 (j:Int)∧Hid (OW w0.heap.size (hdF 4 leaf++s.take (16*j)) b wr)∧Hid (Bw w0 wr));exact⟨0,by omega,rfl,rfl,X,N⟩;clear X N U;obtain⟨j,r,rfl,rfl,F,K⟩:=hrel;by_cases h:j<35
 ·have ix:=T.o j h;have c:=v.o j h;have g:=J.o j r;obtain⟨wy,st,C,iy,y⟩:=Xr1 wr 22 Xam (nth s j) c;have G:=bg K.o y;obtain⟨v2,w2,M,L,Y⟩:=Xhu (by rw[C];exact F.o.alloc _:OW w0.heap.size (hdF 4 leaf++s.take (16*j)) u6 wy) G.size (by rw[g.1];omega) (iy.rdAll c.lt) (by rw[c.len];omega) (.inl (by rw[c.len];omega)) 16 82;rw[c.len] at M;rw[List.append_assoc,←Xyq] at L;have O2:=Hd L;have B2:=Hd (Y _ G);obtain⟨es,A⟩:=xq (idA (nth s j));rw[←A] at ix st;unfold zz16 at st;have ST:=Hd st;have R2:=Hd M;clear st C iy y G M L Y A c g F;go_wp2_with (first
   |((with_reducible refine Xaa 22 rfl _ _ rfl ?_);refine⟨_,_,_,rfl,rfl,ST.o,?_⟩)
   |(at_builtin;refine Xav rfl _ _ _ _ rfl _ _ rfl rfl _ _ R2.o ?_))
  go_roundg (35-(j+1));exact⟨j+1,by omega,rfl,by go_num,O2,B2⟩;omega
 obtain rfl:j=35:=by omega
 have g:=J.o 35 (zL _);have q:=F.o;rw[t.o] at q g;have O:Hid (zJ 275 #[u6] wr (.agg rs)):=Hd (by have:=Xuu wr u6 _ _ q g.2 (by rw[g.1];omega) (by rw[g.1];omega) (HE.o.on K.o);rw[I.o];exact this);clear g q F T v J t;go_wp2_with fail;refine O.o.mono ?_;rintro e w5 ⟨rfl,z⟩;obtain⟨Z,f2,f3⟩:=l.o w5 (bg K.o z);have F1:=Hd Z;have F2:=Hd f2;have F3:=Hd f3;clear Z f2 f3 z O l;go_wp2_with ((with_reducible refine Xaa 22 rfl _ _ rfl ?_);refine⟨_,_,_,rfl,rfl,F1.o,?_⟩)
 exact zP (Xa4 results253 _ _ (w.heap.size+1) _ _ _ _ rfl F2.o underlying22 rfl SZ.o) rfl ⟨rfl,F3.o⟩
def nA (L:List Nat):Array Value:=(L.map fun n:Nat=>Value.int .i64 (n:Int)).toArray
theorem Xed (L:List Nat):(nA L).size=L.length:=by simp[nA]
theorem Ylx (L:List Nat)(q x:Nat):(nA L).setIfInBounds q (.int .i64 ((x:Nat):Int))=nA (L.set q x):=by simp[nA,List.map_set]
theorem Xz7 (L:List Nat):(nA L).all (·.oneCell')=true:=by rw[Array.all_eq_true'];intro x a;unfold nA at a;rw[List.mem_toArray] at a;obtain⟨y,_,rfl⟩:=List.mem_map.1 a;rfl
def NB (w:World)(b:Nat)(L:List Nat):Prop:=w.heap[b]?=some (.cells (nA L) 264 (0,0))
theorem NB.lt {w:World}{b:Nat}{L:List Nat}(h:NB w b L):b<w.heap.size:=zY h
theorem NB.below {w w':World}{b:Nat}{L:List Nat}(h:NB w b L)(hb:Bw w w'):NB w' b L:=(hb.block b h.lt).trans h
theorem NB.cell {w:World}{b:Nat}{L:List Nat}(h:NB w b L){q:Nat}(hq:q<L.length):w.cell? ⟨b,q,none⟩=some (.int .i64 ((L.getD q 0:Nat):Int)):=by rw[cell_of_row w b q _ _ _ h];simp[nA,List.getD,hq]
theorem NB.set {w:World}{b:Nat}{L:List Nat}(h:NB w b L)(q x:Nat):NB (w.setCell ⟨b,q,none⟩ (.int .i64 ((x:Nat):Int))) b (L.set q x):=by have:=Xez h q (.int .i64 ((x:Nat):Int));rw[Ylx] at this;exact this
theorem NB.setC {w:World}{b k:Nat}{L:List Nat}(h:NB w k L)(j:Nat)(u:Value)(hne:k≠b):NB (w.setCell ⟨b,j,none⟩ u) k L:=(Xet w b j k u hne).trans h
def CI (w:World)(b n:Nat):Prop:=w.heap[b]?=some (.cells #[.int .i64 (n:Int)] 3 (0,0))
theorem CI.lt {w:World}{b n:Nat}(h:CI w b n):b<w.heap.size:=zY h
theorem CI.cell {w:World}{b n:Nat}(h:CI w b n):w.cell? ⟨b,0,none⟩=some (.int .i64 (n:Int)):=by rw[cell_of_row w b 0 _ _ _ h];rfl
theorem CI.set {w:World}{b n:Nat}(h:CI w b n)(m:Nat):CI (w.setCell ⟨b,0,none⟩ (.int .i64 (m:Int))) b m:=one_setCell h
theorem CI.setC {w:World}{b k n:Nat}(h:CI w k n)(j:Nat)(u:Value)(hne:k≠b):CI (w.setCell ⟨b,j,none⟩ u) k n:=(Xet w b j k u hne).trans h
theorem Xl5 (w:World)(bD bN bS:Nat)(L:List Nat)(n s d:Nat)(hD:NB w bD L)(hL:L.length=35)(hn:n<35)(cN:CI w bN n)(cS:CI w bS s)(hd:d≤15)(hs:s≤1000)(h1:bD≠bN)(h2:bD≠bS)(h3:bN≠bS):Calls prog 282 #[.int .i64 (d:Int),.pointer (some ⟨bD,0,none⟩),.pointer (some ⟨bN,0,none⟩),.pointer (some ⟨bS,0,none⟩)] w fun e w'=>e=.returned (.tuple #[])∧NB w' bD (L.set n d)∧CI w' bN (n+1)∧CI w' bS (s+(15-d))∧(∀B w0,Below B w0 w→B≤bD→B≤bN→B≤bS→Below B w0 w')∧∀k,k≠bD→k≠bN→k≠bS→w'.heap[k]?=w.heap[k]?:=by
 obtain⟨w1,a⟩:=xq (w.setCell ⟨bD,n,none⟩ (.int .i64 (d:Int)));obtain⟨h,b⟩:=xq (w1.setCell ⟨bS,0,none⟩ (.int .i64 ((s+(15-d):Nat):Int)));obtain⟨j,c⟩:=xq (h.setCell ⟨bN,0,none⟩ (.int .i64 ((n+1:Nat):Int)));have r:NB w1 bD (L.set n d):=by rw[a];exact hD.set n d
 have y:CI w1 bN n:=by rw[a];exact cN.setC n _ h1.symm
 have m:CI w1 bS s:=by rw[a];exact cS.setC n _ h2.symm
 have t:NB h bD (L.set n d):=by rw[b];exact r.setC 0 _ h2
 have l:CI h bN n:=by rw[b];exact y.setC 0 _ h3
 have z:CI h bS (s+(15-d)):=by rw[b];exact m.set _
 have q:Hid (NB j bD (L.set n d)∧CI j bN (n+1)∧CI j bS (s+(15-d))∧(∀B w0,Below B w0 w→B≤bD→B≤bN→B≤bS→Below B w0 j)∧∀k,k≠bD→k≠bN→k≠bS→j.heap[k]?=w.heap[k]?):=Hd ⟨by rw[c];exact t.setC 0 _ h1,by rw[c];exact l.set _,by rw[c];exact z.setC 0 _ h3.symm,fun B w0 hb k1 k2 k3=>by
  rw[c,b,a];exact((hb.setCell (p:=⟨bD,n,none⟩) k1 _).setCell (p:=⟨bS,0,none⟩) k3 _).setCell (p:=⟨bN,0,none⟩) k2 _,fun k k1 k2 k3=>by
  rw[c,Xet _ _ _ _ _ k2,b,Xet _ _ _ _ _ k3,a,Xet _ _ _ _ _ k1]⟩
 have G:w.cell? ⟨bN,0,none⟩=some (.int .i64 (n:Int)):=cN.cell;have A:∃u,w.cell? ⟨bD,n,none⟩=some u:=⟨_,hD.cell (by rw[hL];exact hn)⟩
 obtain⟨u,A⟩:=A;have H:w.frozen? ⟨bD,n,none⟩=false:=Xby hD n;have I:w1.cell? ⟨bS,0,none⟩=some (.int .i64 (s:Int)):=m.cell;have J:w1.frozen? ⟨bS,0,none⟩=false:=Xby m 0;have K:h.cell? ⟨bN,0,none⟩=some (.int .i64 (n:Int)):=l.cell;have M:h.frozen? ⟨bN,0,none⟩=false:=Xby l 0;have D:IntKind.i64.wrap (15-(d:Int))=((15-d:Nat):Int):=by rw[IntWalk.i64_in _ (by omega)];omega
 have E:IntKind.i64.wrap ((s:Int)+((15-d:Nat):Int))=((s+(15-d):Nat):Int):=by rw[IntWalk.i64_in _ (by omega)];omega
 have F:IntKind.i64.wrap ((n:Int)+1)=((n+1:Nat):Int):=by rw[IntWalk.i64_in _ (by omega)];omega
 have C:=Hd a;have v:=Hd b;have x:=Hd c;obtain⟨P,g⟩:=xq (s+(15-d));obtain⟨N,f⟩:=xq (15-d);obtain⟨O,i⟩:=xq (n+1);rw[←i] at F x;rw[←g,←f] at E;rw[←g] at v;rw[←f] at D;clear a b c r y m t l z hD cN cS g f i;go_enter func282,ntmps282;go_upto_region 1 with fail;rw[←C.o];go_upto_region 2 with fail;rw[←v.o];go_wp2_with fail;rw[←x.o];go_end0;exact⟨rfl,q.o⟩
def Xjp:Array Value:=#[.int .i64 0,.int .i64 0,.int .i64 0,.int .i64 0,.int .i64 0,.int .i64 0,.int .i64 0,.int .i64 0,.int .i64 0,.int .i64 0,.int .i64 0,.int .i64 0,.int .i64 0,.int .i64 0,.int .i64 0,.int .i64 0,.int .i64 0,.int .i64 0,.int .i64 0,.int .i64 0,.int .i64 0,.int .i64 0,.int .i64 0,.int .i64 0,.int .i64 0,.int .i64 0,.int .i64 0,.int .i64 0,.int .i64 0,.int .i64 0,.int .i64 0,.int .i64 0,.int .i64 0,.int .i64 0,.int .i64 0]
theorem Xm6:Xjp=nA (List.replicate 35 0):=rfl
def Xlw (d:List Nat)(j:Nat):List Nat:=Xx3 (d.take j)++List.replicate (35-2*j) 0
theorem Xho {d:List Nat}(hd:d.length=16){j:Nat}(hj:j≤16):(Xlw d j).length=35:=by unfold Xlw;rw[List.length_append,Xhq,List.length_take,List.length_replicate];omega
theorem Yik (A R:List Nat)(u v x y n:Nat)(hn:A.length=n):((A++u::v::R).set n x).set (n+1) y=A++x::y::R:=by subst hn;rw[List.set_append_right _ _ (zL _),Nat.sub_self,List.set_append_right _ _ (by omega),show A.length+1-A.length=1 by omega];rfl
theorem Xqm {d:List Nat}(hd:d.length=16){j:Nat}(hj:j<16)(c:Nat)(hc:c=d.getD j 0):((Xlw d j).set (2*j) (c/16)).set (2*j+1) (c%16)=Xlw d (j+1):=by
 have e:d.take (j+1)=d.take j++[c]:=by rw[List.take_succ_eq_append_getElem (by omega),hc,List.getD_eq_getElem?_getD,List.getElem?_eq_getElem (by omega)];rfl
 obtain⟨m,a⟩:∃m,35-2*j=m+2:=⟨35-2*j-2,by omega⟩
 unfold Xlw;rw[e,Xu5,a,show 35-2*(j+1)=m by omega,List.replicate_succ,List.replicate_succ,Yik _ _ _ _ _ _ _ (by rw[Xhq,List.length_take];omega),List.append_assoc];rfl
theorem Xo4 {d:List Nat}{j:Nat}(hj:j<d.length)(c:Nat)(hc:c=d.getD j 0):Xhy (d.take (j+1))=Xhy (d.take j)+(15-c/16)+(15-c%16):=by rw[List.take_succ_eq_append_getElem hj,Xtm,hc,List.getD_eq_getElem?_getD,List.getElem?_eq_getElem hj];simp only[Option.getD_some];omega
theorem Xy2 (A:List Nat)(u v w x y z n:Nat)(hn:A.length=n):(((A++[u,v,w]).set n x).set (n+1) y).set (n+2) z=A++[x,y,z]:=by subst hn;rw[List.set_append_right _ _ (zL _),Nat.sub_self,List.set_append_right _ _ (by omega),show A.length+1-A.length=1 by omega,List.set_append_right _ _ (by omega),show A.length+2-A.length=2 by omega];rfl
theorem Xu4 {d:List Nat}(hd:d.length=16):(((Xlw d 16).set 32 (Xhy d/256)).set 33 (Xhy d/16%16)).set 34 (Xhy d%16)=Xdt d:=by unfold Xlw Xdt;rw[List.take_of_length_le (by omega),show 35-2*16=3 from rfl];exact Xy2 (Xx3 d) 0 0 0 _ _ _ 32 (by rw[Xhq,hd])
theorem Yjm (l:List Nat)(hl:l.length=16)(j:Nat)(hj:j<16)(c:Nat)(hc:c=l.getD j 0)(w:World):(Instr.index 22 (.agg (idA l)) (.int .i64 (j:Int))).run prog w=.ok (.int .u8 (c:Int)) w:=by
 have hi:(0:Int)≤(j:Int)∧(j:Int)<16:=by omega
 have a:j<l.length:=by omega
 have e:(idA l)[j]?=some (.int .u8 ((c:Nat):Int)):=by rw[hc];unfold idA;simp[List.getD,a];rfl
 simp[Instr.index,run_underlying underlying22,asIntOf,hi,go_sem];rw[qP hj,e];rfl
theorem Xf3:(prog.info? 264).map (·.size)=some 35:=by kernel_rfl
theorem NB.load {w:World}{b:Nat}{L:List Nat}(h:NB w b L)(hl:L.length=35):Ld 264 ⟨b,0,none⟩ w (.agg (nA L)):=
 run_loadVar_row w b _ 264 _ _ _ h underlying264 rfl (by rw[Xed,hl];exact Xf3)
theorem NB.store {w:World}{b:Nat}{L:List Nat}(h:NB w b L)(M:List Nat)(hm:M.length=35)(hl:L.length=35):Sv 264 ⟨b,0,none⟩ (.agg (nA M)) w (w.setRow b (nA M))∧NB (w.setRow b (nA M)) b M:=
 ⟨run_storeVar_row w b _ 264 _ _ h (by rw[Xed,hm];exact Xf3) (by rw[Xed,Xed,hm,hl]) (Xz7 _),setRow_heap w _ _ _ _ _ h⟩
theorem Yhs (q:Nat)(h:q<512):Go.bits .and .i64 (q:Int) 15=((q%16:Nat):Int):=by
 have:∀q:Fin 512,Go.bits .and .i64 ((q.val:Nat):Int) 15=((q.val%16:Nat):Int):=by decide+kernel
 exact this ⟨q,h⟩
theorem Yol (q:Nat)(h:q<256):Go.bits .and .i64 (q:Int) 1=((q%2:Nat):Int):=by
 have:∀q:Fin 256,Go.bits .and .i64 ((q.val:Nat):Int) 1=((q.val%2:Nat):Int):=by decide+kernel
 exact this ⟨q,h⟩
theorem Xwj (w:World)(d:List Nat)(hd:B16 d):zJ 276 #[.agg (idA d)] w (.agg (nA (Xdt d))):=by
 obtain⟨cs,f⟩:=xq (idA d);obtain⟨w0,a⟩:=xq (((((w.alloc (.cells cs 22)).alloc (.cells Xjp 264)).alloc (.cells Xjp 264)).alloc (.cells #[.int .i64 0] 3)).alloc (.cells #[.int .i64 0] 3));have X:Hid (Bw w w0):=Hd (by rw[a];exact(((((zR _ _).alloc (zL _) _).alloc (by simp) _).alloc (by simp;omega) _).alloc (by simp;omega) _).alloc (by simp;omega) _);have I0:Hid (IB w0 w.heap.size 22 d):=Hd (by unfold IB;rw[a,f];exact Xad (Xad (Xad (Xad (heap_alloc_last w _)))));have R0:Hid (NB w0 (w.heap.size+1) (List.replicate 35 0)):=Hd (by unfold NB;rw[a,←Xm6];have:=heap_alloc_last (w.alloc (.cells cs 22)) (.cells Xjp 264);rw[World.size_alloc] at this;exact Xad (Xad (Xad this)));have D0:Hid (NB w0 (w.heap.size+2) (Xlw d 0)):=Hd (by unfold NB;rw[a,show Xlw d 0=List.replicate 35 0 from rfl,←Xm6];have:=heap_alloc_last ((w.alloc (.cells cs 22)).alloc (.cells Xjp 264)) (.cells Xjp 264);rw[World.size_alloc,World.size_alloc] at this;exact Xad (Xad this));have N0:Hid (CI w0 (w.heap.size+3) (2*0)):=Hd (by unfold CI;rw[a];have:=heap_alloc_last (((w.alloc (.cells cs 22)).alloc (.cells Xjp 264)).alloc (.cells Xjp 264)) (.cells #[.int .i64 0] 3);rw[World.size_alloc,World.size_alloc,World.size_alloc] at this;exact Xad this);have S0:Hid (CI w0 (w.heap.size+4) (Xhy (d.take 0))):=Hd (by unfold CI;rw[a];have:=heap_alloc_last ((((w.alloc (.cells cs 22)).alloc (.cells Xjp 264)).alloc (.cells Xjp 264)).alloc (.cells #[.int .i64 0] 3)) (.cells #[.int .i64 0] 3);rw[World.size_alloc,World.size_alloc,World.size_alloc,World.size_alloc] at this;exact this);have s:Hid (Ld 22 ⟨w.heap.size,0,none⟩ w0 (.agg cs)):=Hd (by rw[f];exact I0.o.load underlying22 (by rw[hd.len];exact Xam));have N:Hid (∀j:Nat,j<16→∀w,(Instr.index 22 (.agg cs) (.int .i64 (j:Int))).run prog w=.ok (.int .u8 ((d.getD j 0:Nat):Int)) w):=Hd (fun j I w=>by rw[f];exact Yjm d hd.len j I _ rfl w);have b:=Hd hd;rw[←f];unfold Xjp at a;have HW:=Hd a;clear a f hd I0;go_enter func276,ntmps276;go_upto_region 4 with fail;rw[show w.heap.size+1+1+1+1=w.heap.size+4 from rfl,show w.heap.size+1+1+1=w.heap.size+3 from rfl,show w.heap.size+1+1=w.heap.size+2 from rfl,←HW.o];clear HW;refine wp_region_list ?_;simp only[];refine Xab 22 rfl _ rfl ⟨_,_,rfl,s.o,?_⟩;clear s;go_wp2_with fail;go_loopg [8,11] 16 (fun k c i wr=>∃j:Nat,j≤16∧k=16-j∧i=.int .i64 (j:Int)∧Hid (NB wr (w.heap.size+1) (List.replicate 35 0))∧Hid (NB wr (w.heap.size+2) (Xlw d j))∧Hid (CI wr (w.heap.size+3) (2*j))∧Hid (CI wr (w.heap.size+4) (Xhy (d.take j)))∧Hid (Bw w wr));exact⟨0,by omega,rfl,rfl,R0,D0,N0,S0,X⟩;clear R0 D0 N0 S0 X;obtain⟨j,I,rfl,rfl,U,l,T,s0,P⟩:=hrel;by_cases h:j<16
 ·have ix:=N.o j h;obtain⟨c,u⟩:=xq (d.getD j 0);rw[←u] at ix;have Q:c<256:=by rw[u,List.getD_eq_getElem?_getD,List.getElem?_eq_getElem (by rw[b.o.len];exact h)];exact b.o.lt _ (zG _)
  have sl:Xhy (d.take j)≤480:=by have:=Xh1 (d.take j);rw[List.length_take,b.o.len] at this;omega
  have t:=Hd (Xqm b.o.len h c u);have O:=Hd (Xo4 (by rw[b.o.len];exact h) c u);obtain⟨x,v⟩:=xq (c/16);obtain⟨y,n⟩:=xq (c%16);have s1:(c:Int)/16=(x:Int):=by omega
  have s2:Go.bits .and .u8 (c:Int) 15=(y:Int):=by rw[n];exact Xij c Q
  have A:x≤15:=by omega
  have B:y≤15:=by omega
  rw[←v,←n] at t O;have C1:=Hd (Xl5 wr (w.heap.size+2) (w.heap.size+3) (w.heap.size+4) _ (2*j) _ x l.o (Xho b.o.len I) (by omega) T.o s0.o A (by omega) (by omega) (by omega) (by omega));have L1:Hid (((Xlw d j).set (2*j) x).length=35):=Hd (by rw[List.length_set];exact Xho b.o.len I);clear u v n N;go_wp2_with fail;refine C1.o.mono ?_;rintro e w1 ⟨rfl,C,D,E,F,G⟩;have C2:=Hd (Xl5 w1 (w.heap.size+2) (w.heap.size+3) (w.heap.size+4) _ (2*j+1) _ y C L1.o (by omega) D E B (by omega) (by omega) (by omega) (by omega));have Y:=Hd (F _ _ P.o (by omega) (by omega) (by omega));have r1:Hid (NB w1 (w.heap.size+1) (List.replicate 35 0)):=Hd ((G _ (by omega) (by omega) (by omega)).trans U.o);clear C1 C D E F G P U l T s0;go_wp2_with fail;refine C2.o.mono ?_;rintro e K ⟨rfl,C,D,E,F,G⟩;have r2:Hid (NB K (w.heap.size+1) (List.replicate 35 0)):=Hd ((G _ (by omega) (by omega) (by omega)).trans r1.o);have d2:Hid (NB K (w.heap.size+2) (Xlw d (j+1))):=Hd (by rw[←t.o];exact C);have n2:Hid (CI K (w.heap.size+3) (2*(j+1))):=Hd D;have V:Hid (CI K (w.heap.size+4) (Xhy (d.take (j+1)))):=Hd (by rw[O.o];exact E);have B2:=Hd (F _ _ Y.o (by omega) (by omega) (by omega));clear C2 C D E F G Y r1 t O;go_wp2_with fail;go_roundg (16-(j+1));exact⟨j+1,by omega,rfl,by go_num,r2,d2,n2,V,B2⟩;omega
 obtain rfl:j=16:=by omega
 have tk:d.take 16=d:=List.take_of_length_le (by rw[b.o.len];exact zL _);rw[tk] at s0;have sl:Xhy d≤480:=by have:=Xh1 d;rw[b.o.len] at this;omega
 have r:=Hd (Xu4 b.o.len);obtain⟨S,hS⟩:=xq (Xhy d);rw[←hS] at s0 sl r;obtain⟨x,v⟩:=xq (S/256);obtain⟨y,n⟩:=xq (S/16%16);obtain⟨z,R⟩:=xq (S%16);obtain⟨q,hq⟩:=xq (S/16);have q1:(S:Int)/256=(x:Int):=by omega
 have q2:(S:Int)/16=(q:Int):=by omega
 have q3:Go.bits .and .i64 (q:Int) 15=(y:Int):=by rw[n,←hq];exact Yhs q (by omega)
 have q4:Go.bits .and .i64 (S:Int) 15=(z:Int):=by rw[R];exact Yhs S (by omega)
 rw[←v,←n,←R] at r;have cS:=s0.o.cell;have dl:=Xho b.o.len (zL 16);obtain⟨M,hM⟩:=xq (Xlw d 16);rw[←hM] at l r dl;have g1:=l.o.cell (q:=32) (by omega);have g2:=l.o.cell (q:=33) (by omega);have g3:=l.o.cell (q:=34) (by omega);have f1:wr.frozen? ⟨w.heap.size+2,32,none⟩=false:=Xby l.o 32;have f2:wr.frozen? ⟨w.heap.size+2,33,none⟩=false:=Xby l.o 33;have f3:wr.frozen? ⟨w.heap.size+2,34,none⟩=false:=Xby l.o 34;obtain⟨W,g⟩:∃x',x'=(((wr.setCell ⟨w.heap.size+2,32,none⟩ (.int .i64 (x:Int))).setCell ⟨w.heap.size+2,33,none⟩ (.int .i64 (y:Int))).setCell ⟨w.heap.size+2,34,none⟩ (.int .i64 (z:Int))).drew:=⟨_,rfl⟩
 have D9:NB W (w.heap.size+2) (Xdt d):=by rw[←r.o,g];exact((l.o.set 32 x).set 33 y).set 34 z
 have R9:NB W (w.heap.size+1) (List.replicate 35 0):=by rw[g];exact(((U.o.setC 32 _ (by omega)).setC 33 _ (by omega)).setC 34 _ (by omega):NB (((wr.setCell ⟨w.heap.size+2,32,none⟩ (.int .i64 (x:Int))).setCell ⟨w.heap.size+2,33,none⟩ (.int .i64 (y:Int))).setCell ⟨w.heap.size+2,34,none⟩ (.int .i64 (z:Int))) (w.heap.size+1) (List.replicate 35 0))
 have Z:Bw w W:=by rw[g];exact(((P.o.setCell (p:=⟨w.heap.size+2,32,none⟩) (Nat.le_add_right _ 2) _).setCell (p:=⟨w.heap.size+2,33,none⟩) (Nat.le_add_right _ 2) _).setCell (p:=⟨w.heap.size+2,34,none⟩) (Nat.le_add_right _ 2) _).drew
 have H:=Xjc b.o;have s:=Hd (D9.load H);obtain⟨st,J⟩:=R9.store (Xdt d) H (by simp);have BF:=Hd (below_setRow Z (Nat.le_succ _) (nA (Xdt d)));obtain⟨rs,m⟩:=xq (nA (Xdt d));have SZ:Hid ((prog.info? 264).map (·.size)=some rs.size):=Hd (by rw[m,Xed,H];exact Xf3);unfold NB at J;rw[←m] at s st J BF;have t:=Hd st;have I4:=Hd J;have H9:=Hd g;have L:=Hd m;clear tk hS v n R hq hM r dl s0 T N st J m g D9 R9 Z H;go_upto_region 10 with fail;go_region;rw[←H9.o];clear H9;go_wp2_with (first
  |((with_reducible refine Xab 264 rfl _ rfl ?_);refine⟨_,_,rfl,s.o,?_⟩)
  |((with_reducible refine Xaa 264 rfl _ _ rfl ?_);refine⟨_,_,_,rfl,rfl,t.o,?_⟩))
 exact zP (results_cell_row results276 _ _ (w.heap.size+1) _ _ _ _ rfl I4.o underlying264 rfl SZ.o) rfl ⟨by rw[L.o],BF.o⟩
end Go.Proofs.YtjolcnopipbkhaaGreatDoor
