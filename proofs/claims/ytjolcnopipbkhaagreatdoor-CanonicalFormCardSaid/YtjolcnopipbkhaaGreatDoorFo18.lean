/- bulletinref05.schedule (printed by gen_sched.py). -/
import Derived.Test.YtjolcnopipbkhaaGreatDoorFo17
namespace Go.Proofs.YtjolcnopipbkhaaGreatDoor
open Go.Proofs.Tryz
open Go.RowKit Go.Maps
set_option linter.unusedVariables false
set_option maxHeartbeats 100000000
set_option maxRecDepth 100000
theorem Xf4:(prog.info? 165).map (·.size)=some 64:=by kernel_rfl
structure L64 (ws:List Nat):Prop where
 len:ws.length=64
 lt:∀x∈ws,x<4294967296
theorem L64.at {ws:List Nat}(h:L64 ws)(q:Nat):ws.getD q 0<4294967296:=by
 by_cases hq:q<ws.length
 ·rw[List.getD_eq_getElem?_getD,List.getElem?_eq_getElem hq,Option.getD_some];exact h.lt _ (zG hq)
 ·rw[List.getD_eq_getElem?_getD,List.getElem?_eq_none (by omega)];decide
theorem L64.set {ws:List Nat}(h:L64 ws)(q:Nat){x:Nat}(hx:x<4294967296):L64 (ws.set q x):=⟨by simp[h.len],fun y hy=>by
 rcases List.mem_or_eq_of_mem_set hy with hy|rfl
 ·exact h.lt _ hy
 ·exact hx⟩
theorem Xy6 {a b:Nat}(h:a<4294967296)(h2:b<4294967296):a|||b<4294967296:=Nat.or_lt_two_pow (n:=32) h h2
theorem Ylr {a b c d:Nat}(hd:d<256):be4 a b c d<4294967296:=by
 unfold be4 Xdx
 exact Xy6 (Xy6 (Xy6 (Nat.mod_lt _ (by omega)) (Nat.mod_lt _ (by omega))) (Nat.mod_lt _ (by omega))) (by omega)
theorem Xlq {b:List Nat}(hb:∀x∈b,x<256)(q:Nat):b.getD q 0<256:=by
 by_cases hq:q<b.length
 ·rw[List.getD_eq_getElem?_getD,List.getElem?_eq_getElem hq,Option.getD_some];exact hb _ (zG hq)
 ·rw[List.getD_eq_getElem?_getD,List.getElem?_eq_none (by omega)];decide
theorem Yg6 {b:List Nat}(hb:∀x∈b,x<256)(ws:List Nat)(t:Nat):Xtv b ws t<4294967296:=by
 unfold Xtv
 split
 ·unfold beW;exact Ylr (Xlq hb _)
 ·exact Xc3 _ _
theorem Xtw {b:List Nat}(hb:∀x∈b,x<256)(n:Nat):L64 (Xcv b n):=by
 induction n with
 |zero=>exact⟨by simp[Xcv],fun x hx=>by simp[Xcv] at hx;omega⟩
 |succ n ih=>rw[Xeu];exact ih.set _ (Yg6 hb _ _)
theorem WB.load64 {w:World}{b:Nat}{ws:List Nat}(h:WB w b 165 ws)(hl:ws.length=64):Ld 165 ⟨b,0,none⟩ w (.agg (wA ws)):=
 run_loadVar_row w b _ 165 _ _ _ h underlying165 rfl (by rw[Xb4,hl];exact Xf4)
def zz64:List Value:=.int .u32 0::.int .u32 0::.int .u32 0::.int .u32 0::.int .u32 0::.int .u32 0::.int .u32 0::.int .u32 0::.int .u32 0::.int .u32 0::.int .u32 0::.int .u32 0::.int .u32 0::.int .u32 0::.int .u32 0::.int .u32 0::.int .u32 0::.int .u32 0::.int .u32 0::.int .u32 0::.int .u32 0::.int .u32 0::.int .u32 0::.int .u32 0::.int .u32 0::.int .u32 0::.int .u32 0::.int .u32 0::.int .u32 0::.int .u32 0::.int .u32 0::.int .u32 0::.int .u32 0::.int .u32 0::.int .u32 0::.int .u32 0::.int .u32 0::.int .u32 0::.int .u32 0::.int .u32 0::.int .u32 0::.int .u32 0::.int .u32 0::.int .u32 0::.int .u32 0::.int .u32 0::.int .u32 0::.int .u32 0::.int .u32 0::.int .u32 0::.int .u32 0::.int .u32 0::.int .u32 0::.int .u32 0::.int .u32 0::.int .u32 0::.int .u32 0::.int .u32 0::.int .u32 0::.int .u32 0::.int .u32 0::.int .u32 0::.int .u32 0::.int .u32 0::[]
theorem Xq0:zz64.toArray=wA (List.replicate 64 0):=rfl
theorem Xeb (n:Int):IntKind.u32.wrap n=n%4294967296:=by
 simp[IntKind.wrap,IntKind.signed,IntKind.bits]
theorem Xtd {x:Nat}(h:x<4294967296):IntKind.u32.wrap ((x:Nat):Int)=(x:Int):=by rw[Xeb];omega
theorem Xvo (w:World)(a:Option Addr)(cap:Nat){b:List Nat}(hr:Rd w a b)(hl:b.length=64):
    zJ 111 #[.slice a 64 cap] w (.agg (wA (Xno b))):=by
 obtain⟨w0,hw0⟩:=xq ((w.alloc (.cells zz64.toArray 165)).alloc (.cells zz64.toArray 165))
 have B0:Hid (Bw w w0):=Hd (by rw[hw0];exact((zR _ _).alloc (zL _) _).alloc (by simp) _)
 have I0:Hid (WB w0 w.heap.size 165 (List.replicate 64 0)):=Hd (by unfold WB;rw[hw0,←Xq0];exact Xae (heap_alloc_last w _))
 have I1:Hid (WB w0 (w.heap.size+1) 165 (Xcv b 0)):=Hd (by
  unfold WB;rw[hw0,show Xcv b 0=List.replicate 64 0 from rfl,←Xq0];have:=heap_alloc_last (w.alloc (.cells zz64.toArray 165)) (.cells zz64.toArray 165);rw[World.size_alloc] at this;exact this)
 unfold zz64 at hw0
 have HW:=Hd hw0
 have hblt:=hr.lt
 obtain⟨g,off,ha,hgw,hcl⟩:=hr.at_ (by omega)
 have RDB:Hid (∀wx,Bw w wx→∀q,q<64→wx.cell? ⟨g,off+q,none⟩=some (.int .u8 ((b.getD q 0:Nat):Int))):=Hd (fun wx hx q hq=>by
  rw[hx.cell (p:=⟨g,off+q,none⟩) hgw,hcl q (by omega),List.getD_eq_getElem?_getD,List.getElem?_eq_getElem (by omega),Option.getD_some];rfl)
 have HB:=Hd hblt
 subst ha
 clear hw0 hr hcl hl hblt
 go_enter func111,ntmps111
 go_upto_region 2 with fail
 rw[←HW.o]
 clear HW
 go_wp2_with fail
 go_loopg [4,5,6] 64 (fun k i v5 v6 wr=>∃j:Nat,j≤64∧k=64-j∧i=.int .i64 (j:Int)∧Hid (WB wr w.heap.size 165 (List.replicate 64 0))∧Hid (WB wr (w.heap.size+1) 165 (Xcv b j))∧Hid (Bw w wr))
 case atStart=>exact⟨0,by omega,rfl,rfl,I0,I1,B0⟩
 case round=>
  clear I0 I1 B0
  obtain⟨j,hj,rfl,rfl,i0,i1,bw⟩:=hrel
  have LO:=Hd (Xtw HB.o j)
  by_cases h:j<64
  ·have NX:Hid (∀y,y=Xtv b (Xcv b j) j→Xcv b (j+1)=(Xcv b j).set j y):=Hd (fun y hy=>by rw[hy,Xeu];rfl)
   have FIN:Hid (∀wx,Dr wr wx→∀y,y=Xtv b (Xcv b j) j→WB (wx.setCell ⟨w.heap.size+1,j,none⟩ (.int .u32 ((y:Nat):Int))) w.heap.size 165 (List.replicate 64 0)∧WB (wx.setCell ⟨w.heap.size+1,j,none⟩ (.int .u32 ((y:Nat):Int))) (w.heap.size+1) 165 (Xcv b (j+1))∧Bw w (wx.setCell ⟨w.heap.size+1,j,none⟩ (.int .u32 ((y:Nat):Int)))):=Hd (fun wx hd y hy=>by
    have d:Bw wr wx:=Dr.below hd
    refine⟨?_,by rw[NX.o y hy];exact(i1.o.below d).set j y,(bg bw.o d).setCell (p:=⟨w.heap.size+1,j,none⟩) (Nat.le_succ _) _⟩
    have:=i0.o.below d
    unfold WB at this⊢
    rw[Xkr _ _ _ _ _ (by omega)];exact this)
   have FR:Hid (∀wx,Dr wr wx→wx.frozen? ⟨w.heap.size+1,j,none⟩=false∧∃u,wx.cell? ⟨w.heap.size+1,j,none⟩=some u):=Hd (fun wx hd=>by
    have d:Bw wr wx:=Dr.below hd
    exact⟨Xdn (i1.o.below d) j,_,(i1.o.below d).cell (by rw[LO.o.len];exact h)⟩)
   have RW:Hid (∀wx,Dr wr wx→∀q,q<64→wx.cell? ⟨w.heap.size+1,q,none⟩=some (.int .u32 (((Xcv b j).getD q 0:Nat):Int))):=Hd (fun wx hd q hq=>by
    have d:Bw wr wx:=Dr.below hd
    exact(i1.o.below d).cell (by rw[LO.o.len];exact hq))
   have hj64:(j:Int)<64:=by omega
   have hj0:(0:Int)≤(j:Int):=by omega
   by_cases h16:j<16
   ·have h16i:(j:Int)<16:=by omega
    obtain⟨m0,hm0⟩:=xq (4*j+0)
    have mb0:(m0:Int)<64:=by omega
    have mz0:(0:Int)≤(m0:Int):=by omega
    obtain⟨x0,hx0⟩:=xq (b.getD m0 0)
    have lt0:x0<256:=by rw[hx0];exact Xlq HB.o _
    have c0:wr.cell? ⟨g,off+m0,none⟩=some (.int .u8 ((x0:Nat):Int)):=by rw[hx0];exact RDB.o wr bw.o _ (by omega)
    obtain⟨m1,hm1⟩:=xq (4*j+1)
    have mb1:(m1:Int)<64:=by omega
    have mz1:(0:Int)≤(m1:Int):=by omega
    obtain⟨x1,hx1⟩:=xq (b.getD m1 0)
    have lt1:x1<256:=by rw[hx1];exact Xlq HB.o _
    have c1:wr.cell? ⟨g,off+m1,none⟩=some (.int .u8 ((x1:Nat):Int)):=by rw[hx1];exact RDB.o wr bw.o _ (by omega)
    obtain⟨m2,hm2⟩:=xq (4*j+2)
    have mb2:(m2:Int)<64:=by omega
    have mz2:(0:Int)≤(m2:Int):=by omega
    obtain⟨x2,hx2⟩:=xq (b.getD m2 0)
    have lt2:x2<256:=by rw[hx2];exact Xlq HB.o _
    have c2:wr.cell? ⟨g,off+m2,none⟩=some (.int .u8 ((x2:Nat):Int)):=by rw[hx2];exact RDB.o wr bw.o _ (by omega)
    obtain⟨m3,hm3⟩:=xq (4*j+3)
    have mb3:(m3:Int)<64:=by omega
    have mz3:(0:Int)≤(m3:Int):=by omega
    obtain⟨x3,hx3⟩:=xq (b.getD m3 0)
    have lt3:x3<256:=by rw[hx3];exact Xlq HB.o _
    have c3:wr.cell? ⟨g,off+m3,none⟩=some (.int .u8 ((x3:Nat):Int)):=by rw[hx3];exact RDB.o wr bw.o _ (by omega)
    have v0:IntKind.i64.wrap (4*(j:Int))=(m0:Int):=by rw[IntWalk.i64_in _ (by omega)];omega
    have v1:IntKind.i64.wrap ((m0:Int)+1)=(m1:Int):=by rw[IntWalk.i64_in _ (by omega)];omega
    have v2:IntKind.i64.wrap ((m0:Int)+2)=(m2:Int):=by rw[IntWalk.i64_in _ (by omega)];omega
    have v3:IntKind.i64.wrap ((m0:Int)+3)=(m3:Int):=by rw[IntWalk.i64_in _ (by omega)];omega
    obtain⟨y,hy⟩:=xq (be4 x0 x1 x2 x3)
    have YE:Hid (y=Xtv b (Xcv b j) j):=Hd (by rw[hy];unfold Xtv beW;rw[qP h16,hx0,hx1,hx2,hx3,hm0,hm1,hm2,hm3];rfl)
    have u0:IntKind.u32.wrap ((x0:Nat):Int)=(x0:Int):=Xtd (by omega)
    have u1:IntKind.u32.wrap ((x1:Nat):Int)=(x1:Int):=Xtd (by omega)
    have u2:IntKind.u32.wrap ((x2:Nat):Int)=(x2:Int):=Xtd (by omega)
    have u3:IntKind.u32.wrap ((x3:Nat):Int)=(x3:Int):=Xtd (by omega)
    obtain⟨s0,hs0⟩:=xq (Xdx x0 24)
    have e0:IntKind.u32.wrap ((x0:Int)*16777216)=(s0:Int):=by rw[hs0,Xeb];unfold Xdx;omega
    have sl0:s0<4294967296:=by rw[hs0];exact Nat.mod_lt _ (by omega)
    obtain⟨s1,hs1⟩:=xq (Xdx x1 16)
    have e1:IntKind.u32.wrap ((x1:Int)*65536)=(s1:Int):=by rw[hs1,Xeb];unfold Xdx;omega
    have sl1:s1<4294967296:=by rw[hs1];exact Nat.mod_lt _ (by omega)
    obtain⟨s2,hs2⟩:=xq (Xdx x2 8)
    have e2:IntKind.u32.wrap ((x2:Int)*256)=(s2:Int):=by rw[hs2,Xeb];unfold Xdx;omega
    have sl2:s2<4294967296:=by rw[hs2];exact Nat.mod_lt _ (by omega)
    obtain⟨t1,ht1⟩:=xq (s0|||s1)
    have o1:bits .or .u32 (s0:Int) (s1:Int)=(t1:Int):=by rw[u32_or_nat _ _ sl0 sl1,ht1]
    have tl1:t1<4294967296:=by rw[ht1];exact Xy6 sl0 sl1
    obtain⟨t2,ht2⟩:=xq (t1|||s2)
    have o2:bits .or .u32 (t1:Int) (s2:Int)=(t2:Int):=by rw[u32_or_nat _ _ tl1 sl2,ht2]
    have tl2:t2<4294967296:=by rw[ht2];exact Xy6 tl1 sl2
    have o3:bits .or .u32 (t2:Int) (x3:Int)=(y:Int):=by rw[u32_or_nat _ _ tl2 (by omega),ht2,ht1,hs0,hs1,hs2,hy];rfl
    have HM:=FIN.o wr.drew ⟨1,rfl⟩ y YE.o
    have F1:=Hd HM.1;have F2:=Hd HM.2.1;have F3:=Hd HM.2.2
    have fr:wr.frozen? ⟨w.heap.size+1,j,none⟩=false:=(FR.o wr (Dr.refl _)).1
    obtain⟨u,cu⟩:∃u,wr.cell? ⟨w.heap.size+1,j,none⟩=some u:=(FR.o wr (Dr.refl _)).2
    clear hx0 hx1 hx2 hx3 hm0 hm1 hm2 hm3 FIN RW FR i0 i1 bw hy hs0 hs1 hs2 ht1 ht2 HM YE NX LO
    go_upto_region 6 with fail
    refine wp_region_still_tail 34 (by kernel_rfl) (by kernel_rfl) ?_
    simp only[List.take_succ_cons,List.take_zero,List.drop_succ_cons,List.drop_zero]
    repeat still_step
    refine wpStill_nil ?_
    go_wp2_with fail
    go_roundg (64-(j+1))
    case measure=>omega
    case rel=>exact⟨j+1,by omega,rfl,by go_num,F1,F2,F3⟩
   ·have h16i:¬(j:Int)<16:=by omega
    obtain⟨m2,hm2⟩:=xq (j-2)
    have mb2:(m2:Int)<64:=by omega
    have mz2:(0:Int)≤(m2:Int):=by omega
    have v2:IntKind.i64.wrap ((j:Int)-2)=(m2:Int):=by rw[IntWalk.i64_in _ (by omega)];omega
    obtain⟨x2,hx2⟩:=xq ((Xcv b j).getD m2 0)
    have lt2:x2<4294967296:=by rw[hx2];exact LO.o.at _
    have C2:Hid (∀wx,Dr wr wx→wx.cell? ⟨w.heap.size+1,m2,none⟩=some (.int .u32 ((x2:Nat):Int))):=Hd (fun wx hd=>by rw[hx2];exact RW.o wx hd _ (by omega))
    obtain⟨m7,hm7⟩:=xq (j-7)
    have mb7:(m7:Int)<64:=by omega
    have mz7:(0:Int)≤(m7:Int):=by omega
    have v7:IntKind.i64.wrap ((j:Int)-7)=(m7:Int):=by rw[IntWalk.i64_in _ (by omega)];omega
    obtain⟨x7,hx7⟩:=xq ((Xcv b j).getD m7 0)
    have lt7:x7<4294967296:=by rw[hx7];exact LO.o.at _
    have C7:Hid (∀wx,Dr wr wx→wx.cell? ⟨w.heap.size+1,m7,none⟩=some (.int .u32 ((x7:Nat):Int))):=Hd (fun wx hd=>by rw[hx7];exact RW.o wx hd _ (by omega))
    obtain⟨m15,hm15⟩:=xq (j-15)
    have mb15:(m15:Int)<64:=by omega
    have mz15:(0:Int)≤(m15:Int):=by omega
    have v15:IntKind.i64.wrap ((j:Int)-15)=(m15:Int):=by rw[IntWalk.i64_in _ (by omega)];omega
    obtain⟨x15,hx15⟩:=xq ((Xcv b j).getD m15 0)
    have lt15:x15<4294967296:=by rw[hx15];exact LO.o.at _
    have C15:Hid (∀wx,Dr wr wx→wx.cell? ⟨w.heap.size+1,m15,none⟩=some (.int .u32 ((x15:Nat):Int))):=Hd (fun wx hd=>by rw[hx15];exact RW.o wx hd _ (by omega))
    obtain⟨m16,hm16⟩:=xq (j-16)
    have mb16:(m16:Int)<64:=by omega
    have mz16:(0:Int)≤(m16:Int):=by omega
    have v16:IntKind.i64.wrap ((j:Int)-16)=(m16:Int):=by rw[IntWalk.i64_in _ (by omega)];omega
    obtain⟨x16,hx16⟩:=xq ((Xcv b j).getD m16 0)
    have lt16:x16<4294967296:=by rw[hx16];exact LO.o.at _
    have C16:Hid (∀wx,Dr wr wx→wx.cell? ⟨w.heap.size+1,m16,none⟩=some (.int .u32 ((x16:Nat):Int))):=Hd (fun wx hd=>by rw[hx16];exact RW.o wx hd _ (by omega))
    obtain⟨y,hy⟩:=xq (Xa9 (Xa9 (Xa9 (sg1 x2) x7) (sg0 x15)) x16)
    have YE:Hid (y=Xtv b (Xcv b j) j):=Hd (by rw[hy];unfold Xtv;rw[qN h16,hx2,hx7,hx15,hx16,hm2,hm7,hm15,hm16])
    obtain⟨ra,hra⟩:=xq (rot x2 17)
    have rla:ra<4294967296:=by rw[hra];exact Xa7 lt2
    have Ra:Hid (∀wx,Calls prog 112 #[.int .u32 (x2:Int),.int .i64 17] wx fun e w'=>e=.returned (.int .u32 (ra:Int))∧∃n,w'=wx.drewN n):=Hd (fun wx=>by rw[hra];exact Xdj wx x2 lt2 17 (by omega) (by omega) 17 rfl)
    obtain⟨rb,hrb⟩:=xq (rot x2 19)
    have rlb:rb<4294967296:=by rw[hrb];exact Xa7 lt2
    have Rb:Hid (∀wx,Calls prog 112 #[.int .u32 (x2:Int),.int .i64 19] wx fun e w'=>e=.returned (.int .u32 (rb:Int))∧∃n,w'=wx.drewN n):=Hd (fun wx=>by rw[hrb];exact Xdj wx x2 lt2 19 (by omega) (by omega) 19 rfl)
    obtain⟨rc,hrc⟩:=xq (rot x15 7)
    have rlc:rc<4294967296:=by rw[hrc];exact Xa7 lt15
    have Rc:Hid (∀wx,Calls prog 112 #[.int .u32 (x15:Int),.int .i64 7] wx fun e w'=>e=.returned (.int .u32 (rc:Int))∧∃n,w'=wx.drewN n):=Hd (fun wx=>by rw[hrc];exact Xdj wx x15 lt15 7 (by omega) (by omega) 7 rfl)
    obtain⟨rd,hrd⟩:=xq (rot x15 18)
    have rld:rd<4294967296:=by rw[hrd];exact Xa7 lt15
    have Rd:Hid (∀wx,Calls prog 112 #[.int .u32 (x15:Int),.int .i64 18] wx fun e w'=>e=.returned (.int .u32 (rd:Int))∧∃n,w'=wx.drewN n):=Hd (fun wx=>by rw[hrd];exact Xdj wx x15 lt15 18 (by omega) (by omega) 18 rfl)
    obtain⟨q1,hq1⟩:=xq (x2/2^10)
    obtain⟨q2,hq2⟩:=xq (x15/2^3)
    have d1:(x2:Int)/1024=(q1:Int):=by omega
    have d2:(x15:Int)/8=(q2:Int):=by omega
    have ql1:q1<4294967296:=by omega
    have ql2:q2<4294967296:=by omega
    obtain⟨s1,hs1⟩:=xq (ra^^^rb)
    have ls1:s1<4294967296:=by rw[hs1];exact Xda rla rlb
    have es1:bits .xor .u32 (ra:Int) (rb:Int)=(s1:Int):=by rw[u32_xor_nat _ _ rla rlb,hs1]
    obtain⟨s2,hs2⟩:=xq (s1^^^q1)
    have ls2:s2<4294967296:=by rw[hs2];exact Xda ls1 ql1
    have es2:bits .xor .u32 (s1:Int) (q1:Int)=(s2:Int):=by rw[u32_xor_nat _ _ ls1 ql1,hs2]
    obtain⟨s3,hs3⟩:=xq (rc^^^rd)
    have ls3:s3<4294967296:=by rw[hs3];exact Xda rlc rld
    have es3:bits .xor .u32 (rc:Int) (rd:Int)=(s3:Int):=by rw[u32_xor_nat _ _ rlc rld,hs3]
    obtain⟨s4,hs4⟩:=xq (s3^^^q2)
    have ls4:s4<4294967296:=by rw[hs4];exact Xda ls3 ql2
    have es4:bits .xor .u32 (s3:Int) (q2:Int)=(s4:Int):=by rw[u32_xor_nat _ _ ls3 ql2,hs4]
    obtain⟨a1,ha1⟩:=xq (Xa9 s2 x7)
    have ea1:IntKind.u32.wrap ((s2:Int)+(x7:Int))=(a1:Int):=by rw[Xeb,ha1];unfold Xa9;omega
    obtain⟨a2,ha2⟩:=xq (Xa9 a1 s4)
    have ea2:IntKind.u32.wrap ((a1:Int)+(s4:Int))=(a2:Int):=by rw[Xeb,ha2];unfold Xa9;omega
    have ey:IntKind.u32.wrap ((a2:Int)+(x16:Int))=(y:Int):=by rw[Xeb,hy,ha2,ha1,hs4,hs3,hs2,hs1,hq1,hq2,hra,hrb,hrc,hrd];unfold Xa9 sg0 sg1;omega
    have LE:Hid (∀wx,WB wx (w.heap.size+1) 165 (Xcv b (j+1))→∀q,q<64→q≠j→wx.cell? ⟨w.heap.size+1,q,none⟩=some (.int .u32 (((Xcv b j).getD q 0:Nat):Int))):=Hd (fun wx hw q hq hne=>by rw[hw.cell (by rw[Xhn];exact hq),NX.o y YE.o,Xhz (by rw[LO.o.len];exact h),qN hne])
    have HX:Hid (∀wx,WB wx (w.heap.size+1) 165 (Xcv b (j+1))→(fun wx:World=>wx.cell? ⟨w.heap.size+1,m7,none⟩=some (.int .u32 ((x7:Nat):Int))∧wx.cell? ⟨w.heap.size+1,m16,none⟩=some (.int .u32 ((x16:Nat):Int))) wx):=Hd (fun wx hw=>⟨by rw[hx7];exact LE.o wx hw m7 (by omega) (by omega),by rw[hx16];exact LE.o wx hw m16 (by omega) (by omega)⟩)
    have c2:=C2.o wr (Dr.refl _)
    have c15:=C15.o wr (Dr.refl _)
    clear hx2 hx7 hx15 hx16 hm2 hm7 hm15 hm16 RW i0 i1 bw hy hs1 hs2 hs3 hs4 ha1 ha2 hq1 hq2 hra hrb hrc hrd NX LO LE
    go_upto_region 7 with fail
    go_quiet (fail)
    go_upto_region 8 with fail
    have HS:Hid (∀wx,Dr wr wx→(fun wx:World=>wx.cell? ⟨w.heap.size+1,m7,none⟩=some (.int .u32 ((x7:Nat):Int))∧wx.cell? ⟨w.heap.size+1,m16,none⟩=some (.int .u32 ((x16:Nat):Int))) wx):=Hd (fun wx hd=>⟨C7.o wx hd,C16.o wx hd⟩)
    refine wp_region_held (S:=fun wx:World=>wx.cell? ⟨w.heap.size+1,m7,none⟩=some (.int .u32 ((x7:Nat):Int))∧wx.cell? ⟨w.heap.size+1,m16,none⟩=some (.int .u32 ((x16:Nat):Int))) (by kernel_rfl) ?_
    change wpAnyH _ _ _ _ _ _ _ _ (wr.drewN (nq+1))
    obtain⟨wd,hwd⟩:=xq (wr.drewN (nq+1))
    rw[←hwd]
    have E0:Hid (Dr wr wd):=Hd ⟨nq+1,hwd⟩
    clear hwd c2 c15 C2 C15 C7 C16
    have hB:=HS.o wd E0.o
    refine Xad 0 (.int .i64 (j:Int)) rfl (fun w' hw'=>by go_simp) hB ?_
    refine Xad 1 (.int .u32 (x2:Int)) rfl (fun w' hw'=>by go_simp) hB ?_
    refine Xad 3 (.int .u32 (x2:Int)) rfl (fun w' hw'=>by go_simp) hB ?_
    refine Xad 6 (.int .u32 (x2:Int)) rfl (fun w' hw'=>by go_simp) hB ?_
    refine Xad 7 (.int .u32 (q1:Int)) rfl (fun w' hw'=>by go_simp) hB ?_
    refine Xad 9 (.int .i64 (j:Int)) rfl (fun w' hw'=>by go_simp) hB ?_
    refine Xad 10 (.int .i64 (m7:Int)) rfl (fun w' hw'=>by go_simp) hB ?_
    refine Xad 11 (.pointer (some ⟨w.heap.size+1,m7,none⟩)) rfl (fun w' hw'=>by go_simp) hB ?_
    refine Xad 12 (.int .u32 (x7:Int)) rfl (fun w' hw'=>by have c7:=hw'.1;go_simp) hB ?_
    refine Xad 14 (.int .u32 (x15:Int)) rfl (fun w' hw'=>by go_simp) hB ?_
    refine Xad 16 (.int .u32 (x15:Int)) rfl (fun w' hw'=>by go_simp) hB ?_
    refine Xad 19 (.int .u32 (x15:Int)) rfl (fun w' hw'=>by go_simp) hB ?_
    refine Xad 20 (.int .u32 (q2:Int)) rfl (fun w' hw'=>by go_simp) hB ?_
    refine Xad 23 (.int .i64 (j:Int)) rfl (fun w' hw'=>by go_simp) hB ?_
    refine Xad 24 (.int .i64 (m16:Int)) rfl (fun w' hw'=>by go_simp) hB ?_
    refine Xad 25 (.pointer (some ⟨w.heap.size+1,m16,none⟩)) rfl (fun w' hw'=>by go_simp) hB ?_
    refine Xad 26 (.int .u32 (x16:Int)) rfl (fun w' hw'=>by have c16:=hw'.2;go_simp) hB ?_
    refine Xbm (i:=2) (f:=112) (args:=#[.int .u32 (x2:Int),.int .i64 17]) (by kernel_rfl) rfl (by kernel_rfl) (by kernel_rfl) ?_
    refine(Ra.o wd).mono ?_
    rintro e y1 ⟨rfl,hd⟩
    have E1:Hid (Dr wr y1):=Hd (E0.o.trans hd)
    clear hd
    replace hB:=HS.o y1 E1.o
    refine⟨_,rfl,hB,?_⟩
    refine Xbm (i:=4) (f:=112) (args:=#[.int .u32 (x2:Int),.int .i64 19]) (by kernel_rfl) rfl (by kernel_rfl) (by kernel_rfl) ?_
    refine(Rb.o y1).mono ?_
    rintro e y2 ⟨rfl,hd⟩
    have E2:Hid (Dr wr y2):=Hd (E1.o.trans hd)
    clear hd
    replace hB:=HS.o y2 E2.o
    refine⟨_,rfl,hB,?_⟩
    refine Xad 5 (.int .u32 (s1:Int)) rfl (fun w' hw'=>by go_simp) hB ?_
    refine Xad 8 (.int .u32 (s2:Int)) rfl (fun w' hw'=>by go_simp) hB ?_
    refine Xad 13 (.int .u32 (a1:Int)) rfl (fun w' hw'=>by go_simp) hB ?_
    refine Xbm (i:=15) (f:=112) (args:=#[.int .u32 (x15:Int),.int .i64 7]) (by kernel_rfl) rfl (by kernel_rfl) (by kernel_rfl) ?_
    refine(Rc.o y2).mono ?_
    rintro e y3 ⟨rfl,hd⟩
    have E3:Hid (Dr wr y3):=Hd (E2.o.trans hd)
    clear hd
    replace hB:=HS.o y3 E3.o
    refine⟨_,rfl,hB,?_⟩
    refine Xbm (i:=17) (f:=112) (args:=#[.int .u32 (x15:Int),.int .i64 18]) (by kernel_rfl) rfl (by kernel_rfl) (by kernel_rfl) ?_
    refine(Rd.o y3).mono ?_
    rintro e y4 ⟨rfl,hd⟩
    have E4:Hid (Dr wr y4):=Hd (E3.o.trans hd)
    clear hd
    replace hB:=HS.o y4 E4.o
    refine⟨_,rfl,hB,?_⟩
    refine Xad 18 (.int .u32 (s3:Int)) rfl (fun w' hw'=>by go_simp) hB ?_
    refine Xad 21 (.int .u32 (s4:Int)) rfl (fun w' hw'=>by go_simp) hB ?_
    refine Xad 22 (.int .u32 (a2:Int)) rfl (fun w' hw'=>by go_simp) hB ?_
    refine Xad 27 (.int .u32 (y:Int)) rfl (fun w' hw'=>by go_simp) hB ?_
    refine Xad 28 (.pointer (some ⟨w.heap.size+1,j,none⟩)) rfl (fun w' hw'=>by go_simp) hB ?_
    have fr:y4.frozen? ⟨w.heap.size+1,j,none⟩=false:=(FR.o y4 E4.o).1
    obtain⟨u,cu⟩:∃u,y4.cell? ⟨w.heap.size+1,j,none⟩=some u:=(FR.o y4 E4.o).2
    have HM:=FIN.o y4 E4.o y YE.o
    have F1:=Hd HM.1;have F2:=Hd HM.2.1;have F3:=Hd HM.2.2
    refine Xa6 (i:=29) (w':=y4.setCell ⟨w.heap.size+1,j,none⟩ (.int .u32 ((y:Nat):Int))) (by kernel_rfl) rfl rfl (by go_simp) (HX.o _ F2.o) ?_
    refine wpAnyH_done (by kernel_rfl) ?_ _
    clear hB HS FIN FR HM HX Ra Rb Rc Rd E0 E1 E2 E3 E4 fr cu
    go_simp
    refine‹∀(a:Act) (w_1:World),_→_› _ _ ?_
    go_wp2_with fail
    go_roundg (64-(j+1))
    case measure=>omega
    case rel=>exact⟨j+1,by omega,rfl,by go_num,F1,F2,F3⟩
  ·obtain rfl:j=64:=by omega
   have L2:=Hd (i1.o.load64 LO.o.len)
   have e1:wA (Xcv b 64)=wA (Xno b):=rfl
   have hsz:(wA (Xno b)).size=64:=by rw[Xb4];exact Xhn b 64
   have ST:=Hd (run_storeVar_row (P:=prog) wr w.heap.size _ 165 (wA (List.replicate 64 0)) (wA (Xno b)) i0.o (by rw[hsz];exact Xf4) (by rw[hsz,Xb4];simp) (Xo2 _))
   have W2:=Hd (setRow_heap wr w.heap.size _ (wA (Xno b)) _ _ i0.o)
   have SZ:Hid ((prog.info? 165).map (·.size)=some (wA (Xno b)).size):=Hd (by rw[hsz];exact Xf4)
   have BE:=Hd (below_setRow bw.o (zL _) (wA (Xno b)))
   obtain⟨rs,hrs⟩:=xq (wA (Xno b))
   rw[e1,←hrs] at L2
   rw[←hrs] at ST W2 SZ BE
   have HRS:=Hd hrs
   clear hrs e1 hsz h i0 i1 bw LO
   go_wp2_with (first
    |((with_reducible refine Xac 165 rfl _ rfl ?_);refine⟨_,_,rfl,L2.o,?_⟩)
    |((with_reducible refine Xab 165 rfl _ _ rfl ?_);refine⟨_,_,_,rfl,rfl,ST.o,?_⟩))
   exact zP (results_cell_row results111 _ _ w.heap.size _ _ _ _ rfl W2.o underlying165 rfl SZ.o) rfl ⟨by rw[HRS.o],BE.o⟩
theorem Xth (l:List Nat)(n j:Nat)(hj:j<n)(hl:n≤l.length)(x:Nat)(hx:x=l.getD j 0):(l.take j++List.replicate (n-j) 0).set j x=l.take (j+1)++List.replicate (n-(j+1)) 0:=by
 obtain⟨m,hm⟩:∃m,n-j=m+1:=⟨n-j-1,by omega⟩
 have e:(l.take j).length=j:=by rw[List.length_take];omega
 rw[hm,show n-(j+1)=m by omega,List.replicate_succ,List.set_append_right _ _ (by omega),e,Nat.sub_self,List.take_succ_eq_append_getElem (by omega),List.append_assoc,hx]
 rw[List.getD_eq_getElem?_getD,List.getElem?_eq_getElem (by omega)]
 rfl
theorem Xf6:(prog.info? 22).map (·.size)=some 16:=by kernel_rfl
theorem IB.load {w:World}{b:Nat}{T:TypeId}{l:List Nat}(h:IB w b T l){n:Nat}{e:TypeId}(hu:prog.underlying T=some (.array n e))(hs:(prog.info? T).map (·.size)=some l.length):(loadVar T ⟨b,0,none⟩).run prog w=.ok (.agg (idA l)) w:=
 run_loadVar_row w b _ T _ _ _ h hu rfl (by rw[Xag];exact hs)
theorem IB.loadTake {w:World}{b:Nat}{T:TypeId}{l:List Nat}(h:IB w b T l)(hl:16≤l.length):Ld 22 ⟨b,0,none⟩ w (.agg (idA (l.take 16))):=
 Xah w b 0 22 _ _ underlying22 rfl (by rw[Xag,List.length_take,Nat.min_eq_left hl];exact Xf6) (fun j u hu=>by
  rw[cell_of_row w b (0+j) _ _ _ h,Nat.zero_add]
  unfold idA at hu⊢
  rw[List.getElem?_toArray,List.getElem?_map,List.getElem?_take] at hu
  rw[List.getElem?_toArray,List.getElem?_map]
  split at hu
  ·exact hu
  ·cases hu)
theorem IB.store {w:World}{b:Nat}{T:TypeId}{l:List Nat}(h:IB w b T l)(m:List Nat)(hm:m.length=l.length)(hs:(prog.info? T).map (·.size)=some l.length):(storeVar T ⟨b,0,none⟩ (.agg (idA m))).run prog w=.ok () (w.setRow b (idA m))∧IB (w.setRow b (idA m)) b T m:=
 ⟨run_storeVar_row w b _ T _ _ h (by rw[Xag,hm];exact hs) (by rw[Xag,Xag,hm]) (Xdf _),setRow_heap w _ _ _ _ _ h⟩
def zz16:List Value:=[.int .u8 0,.int .u8 0,.int .u8 0,.int .u8 0,.int .u8 0,.int .u8 0,.int .u8 0,.int .u8 0,.int .u8 0,.int .u8 0,.int .u8 0,.int .u8 0,.int .u8 0,.int .u8 0,.int .u8 0,.int .u8 0]
theorem Xq1:zz16.toArray=idA (List.replicate 16 0):=rfl
theorem Ye7 (w:World){l:List Nat}(hl:IdOk l):
    zJ 15 #[.agg (idA l)] w (.agg (idA (l.take 16))):=by
 obtain⟨cs,hcs⟩:=xq (idA l)
 obtain⟨ds,hds⟩:=xq (idA (l.take 16))
 obtain⟨w0,hw0⟩:=xq ((w.alloc (.cells cs 26)).alloc (.cells zz16.toArray 22))
 have B0:Bw w w0:=by rw[hw0];exact((zR _ _).alloc (zL _) _).alloc (by simp) _
 have I0:IB w0 w.heap.size 26 l:=by unfold IB;rw[hw0,hcs];exact Xae (heap_alloc_last w _)
 have I1:IB w0 (w.heap.size+1) 22 (List.replicate 16 0):=by
  unfold IB;rw[hw0,←Xq1];have:=heap_alloc_last (w.alloc (.cells cs 26)) (.cells zz16.toArray 22);rw[World.size_alloc] at this;exact this
 have hl16:(l.take 16).length=16:=by rw[List.length_take,hl.len];rfl
 have LD:=Hd (I0.loadTake (by rw[hl.len];omega))
 obtain⟨st,i2⟩:=I1.store (l.take 16) (by rw[hl16];simp) (by rw[List.length_replicate];exact Xf6)
 have BF:=Hd (below_setRow B0 (Nat.le_succ _) (idA (l.take 16)))
 have SZ:Hid ((prog.info? 22).map (·.size)=some ds.size):=Hd (by rw[hds,Xag,hl16];exact Xf6)
 unfold IB at i2
 rw[←hds] at LD st i2 BF⊢
 have ST:=Hd st;have I2:=Hd i2
 unfold zz16 at hw0
 have HW:=Hd hw0
 rw[←hcs]
 have AT:(Instr.arrayAt 22 (.slice (some ⟨w.heap.size,0,none⟩) 16 32)).run prog w0=.ok (.pointer (some ⟨w.heap.size,0,none⟩)) w0:=by simp[Instr.arrayAt,run_underlying (P:=prog) underlying22]
 clear hw0 hcs hds B0 I0 I1 st i2 hl16 hl
 go_enter func15,ntmps15
 go_upto_region 1 with fail
 rw[←HW.o]
 clear HW
 go_wp2_with (first
  |((with_reducible refine Xac 22 rfl _ rfl ?_);refine⟨_,_,rfl,LD.o,?_⟩)
  |((with_reducible refine Xab 22 rfl _ _ rfl ?_);refine⟨_,_,_,rfl,rfl,ST.o,?_⟩))
 exact zP (results_cell_row results15 _ _ (w.heap.size+1) _ _ _ _ rfl I2.o underlying22 rfl SZ.o) rfl ⟨rfl,BF.o⟩
theorem Xvv (w:World){l:List Nat}(hl:IdOk l):
    zJ 16 #[.agg (idA l)] w (.agg (idA (l.take 16))):=by
 obtain⟨cs,hcs⟩:=xq (idA l)
 obtain⟨w0,hw0⟩:=xq (((w.alloc (.cells cs 26)).alloc (.cells zz16.toArray 22)).alloc (.cells zz16.toArray 22))
 have B0:Bw w w0:=by rw[hw0];exact(((zR _ _).alloc (zL _) _).alloc (by simp) _).alloc (by simp;omega) _
 have I0:IB w0 w.heap.size 26 l:=by unfold IB;rw[hw0,hcs];exact Xae (Xae (heap_alloc_last w _))
 have I1:IB w0 (w.heap.size+1) 22 (List.replicate 16 0):=by
  unfold IB;rw[hw0,←Xq1];have:=heap_alloc_last (w.alloc (.cells cs 26)) (.cells zz16.toArray 22);rw[World.size_alloc] at this;exact Xae this
 have I2:IB w0 (w.heap.size+2) 22 (List.replicate 16 0):=by
  unfold IB;rw[hw0,←Xq1];have:=heap_alloc_last ((w.alloc (.cells cs 26)).alloc (.cells zz16.toArray 22)) (.cells zz16.toArray 22);rw[World.size_alloc,World.size_alloc] at this;exact this
 unfold zz16 at hw0
 have HW:=Hd hw0
 have HL:=Hd hl
 rw[←hcs]
 clear hw0 hcs hl
 go_enter func16,ntmps16
 go_upto_region 2 with fail
 rw[show w.heap.size+1+1=w.heap.size+2 from rfl,←HW.o]
 clear HW
 have J0:=Hd I0;have J1:=Hd I1;have J2:Hid (IB w0 (w.heap.size+2) 22 (l.take 0++List.replicate (16-0) 0)):=Hd I2;have JB:=Hd B0
 clear I0 I1 I2 B0
 go_wp2_with fail
 go_loopg [4] 16 (fun k i wr=>∃j:Nat,j≤16∧k=16-j∧i=.int .i64 (j:Int)∧Hid (IB wr w.heap.size 26 l)∧Hid (IB wr (w.heap.size+1) 22 (List.replicate 16 0))∧Hid (IB wr (w.heap.size+2) 22 (l.take j++List.replicate (16-j) 0))∧Hid (Bw w wr))
 case atStart=>exact⟨0,by omega,rfl,rfl,J0,J1,J2,JB⟩
 case round=>
  clear J0 J1 J2 JB
  obtain⟨j,hj,rfl,rfl,i0,i1,i2,bb⟩:=hrel
  by_cases h:j<16
  ·obtain⟨x,hx⟩:=xq (l.getD j 0)
   have cx:wr.cell? ⟨w.heap.size,j,none⟩=some (.int .u8 ((x:Nat):Int)):=by rw[hx];exact i0.o.cell (by rw[HL.o.len];omega)
   have fr:wr.frozen? ⟨w.heap.size+2,j,none⟩=false:=Xdn i2.o j
   have hc:∃u,wr.cell? ⟨w.heap.size+2,j,none⟩=some u:=⟨_,i2.o.cell (by rw[List.length_append,List.length_take,List.length_replicate,HL.o.len];omega)⟩
   obtain⟨u,cu⟩:=hc
   have N0:Hid (IB (wr.setCell ⟨w.heap.size+2,j,none⟩ (.int .u8 ((x:Nat):Int))) w.heap.size 26 l):=Hd (i0.o.setC j _ (by omega))
   have N1:Hid (IB (wr.setCell ⟨w.heap.size+2,j,none⟩ (.int .u8 ((x:Nat):Int))) (w.heap.size+1) 22 (List.replicate 16 0)):=Hd (i1.o.setC j _ (by omega))
   have N2:Hid (IB (wr.setCell ⟨w.heap.size+2,j,none⟩ (.int .u8 ((x:Nat):Int))) (w.heap.size+2) 22 (l.take (j+1)++List.replicate (16-(j+1)) 0)):=Hd (by rw[←Xth l 16 j h (by rw[HL.o.len];omega) x hx];exact i2.o.set j x)
   have NB:Hid (Bw w (wr.setCell ⟨w.heap.size+2,j,none⟩ (.int .u8 ((x:Nat):Int)))):=Hd (bb.o.setCell (p:=⟨w.heap.size+2,j,none⟩) (Nat.le_add_right _ 2) _)
   clear i0 i1 i2 bb hx
   go_wp2_with fail
   go_roundg (16-(j+1))
   case measure=>omega
   case rel=>exact⟨j+1,by omega,rfl,by go_num,N0,N1,N2,NB⟩
  ·obtain rfl:j=16:=by omega
   have e:l.take 16++List.replicate (16-16) 0=l.take 16:=by simp
   have hl16:(l.take 16).length=16:=by rw[List.length_take,HL.o.len];rfl
   have i3:=i2.o
   rw[e] at i3
   have LD:=Hd (i3.load underlying22 (by rw[hl16];exact Xf6))
   obtain⟨st,i4⟩:=i1.o.store (l.take 16) (by rw[hl16];simp) (by rw[List.length_replicate];exact Xf6)
   have BF:=Hd (below_setRow bb.o (Nat.le_succ _) (idA (l.take 16)))
   obtain⟨ds,hds⟩:=xq (idA (l.take 16))
   have SZ:Hid ((prog.info? 22).map (·.size)=some ds.size):=Hd (by rw[hds,Xag,hl16];exact Xf6)
   unfold IB at i4
   rw[←hds] at LD st i4 BF
   have HDS:=Hd hds
   have ST:=Hd st;have I4:=Hd i4
   clear hds st i4 i3 e hl16 i0 i1 i2 bb
   go_wp2_with (first
    |((with_reducible refine Xac 22 rfl _ rfl ?_);refine⟨_,_,rfl,LD.o,?_⟩)
    |((with_reducible refine Xab 22 rfl _ _ rfl ?_);refine⟨_,_,_,rfl,rfl,ST.o,?_⟩))
   exact zP (results_cell_row results16 _ _ (w.heap.size+1) _ _ _ _ rfl I4.o underlying22 rfl SZ.o) rfl ⟨by rw[HDS.o],BF.o⟩
theorem Xq9:(prog.info? 164).map (·.size)=some 8:=by kernel_rfl
theorem Xke:(prog.info? 25).map (·.size)=some 32:=by kernel_rfl
theorem WB.loadT {w:World}{b:Nat}{T e:TypeId}{n:Nat}{ws:List Nat}(h:WB w b T ws)(hu:prog.underlying T=some (.array n e))(hs:(prog.info? T).map (·.size)=some ws.length):(loadVar T ⟨b,0,none⟩).run prog w=.ok (.agg (wA ws)) w:=
 run_loadVar_row w b _ T _ _ _ h hu rfl (by rw[Xb4];exact hs)
theorem WB.storeT {w:World}{b:Nat}{T:TypeId}{ws:List Nat}(h:WB w b T ws)(vs:List Nat)(hl:vs.length=ws.length)(hs:(prog.info? T).map (·.size)=some ws.length):(storeVar T ⟨b,0,none⟩ (.agg (wA vs))).run prog w=.ok () (w.setRow b (wA vs))∧WB (w.setRow b (wA vs)) b T vs:=
 ⟨run_storeVar_row w b _ T _ _ h (by rw[Xb4,hl];exact hs) (by rw[Xb4,Xb4,hl]) (Xo2 _),setRow_heap w _ _ _ _ _ h⟩
theorem WB.fr {w w':World}{b k:Nat}{T:TypeId}{ws:List Nat}(h:WB w k T ws)(f:Fr1 b w w')(hne:k≠b):WB w' k T ws:=(f.other k h.lt hne).trans h
theorem Xnl:shK.length=64:=by decide
def c64V:List (Nat×Value):=(0,.int .u32 1116352408)::(1,.int .u32 1899447441)::(2,.int .u32 3049323471)::(3,.int .u32 3921009573)::(4,.int .u32 961987163)::(5,.int .u32 1508970993)::(6,.int .u32 2453635748)::(7,.int .u32 2870763221)::(8,.int .u32 3624381080)::(9,.int .u32 310598401)::(10,.int .u32 607225278)::(11,.int .u32 1426881987)::(12,.int .u32 1925078388)::(13,.int .u32 2162078206)::(14,.int .u32 2614888103)::(15,.int .u32 3248222580)::(16,.int .u32 3835390401)::(17,.int .u32 4022224774)::(18,.int .u32 264347078)::(19,.int .u32 604807628)::(20,.int .u32 770255983)::(21,.int .u32 1249150122)::(22,.int .u32 1555081692)::(23,.int .u32 1996064986)::(24,.int .u32 2554220882)::(25,.int .u32 2821834349)::(26,.int .u32 2952996808)::(27,.int .u32 3210313671)::(28,.int .u32 3336571891)::(29,.int .u32 3584528711)::(30,.int .u32 113926993)::(31,.int .u32 338241895)::(32,.int .u32 666307205)::(33,.int .u32 773529912)::(34,.int .u32 1294757372)::(35,.int .u32 1396182291)::(36,.int .u32 1695183700)::(37,.int .u32 1986661051)::(38,.int .u32 2177026350)::(39,.int .u32 2456956037)::(40,.int .u32 2730485921)::(41,.int .u32 2820302411)::(42,.int .u32 3259730800)::(43,.int .u32 3345764771)::(44,.int .u32 3516065817)::(45,.int .u32 3600352804)::(46,.int .u32 4094571909)::(47,.int .u32 275423344)::(48,.int .u32 430227734)::(49,.int .u32 506948616)::(50,.int .u32 659060556)::(51,.int .u32 883997877)::(52,.int .u32 958139571)::(53,.int .u32 1322822218)::(54,.int .u32 1537002063)::(55,.int .u32 1747873779)::(56,.int .u32 1955562222)::(57,.int .u32 2024104815)::(58,.int .u32 2227730452)::(59,.int .u32 2361852424)::(60,.int .u32 2428436474)::(61,.int .u32 2756734187)::(62,.int .u32 3204031479)::(63,.int .u32 3329325298)::[]
theorem Xwz (w:World):(Instr.build 165 c64V.toArray).run prog w=.ok (.agg (wA shK)) w:=by kernel_rfl
theorem Xyu (w:World):zJ 109 #[] w (.agg (wA shK)):=by
 obtain⟨w0,hw0⟩:=xq (w.alloc (.cells zz64.toArray 165))
 have B0:Bw w w0:=by rw[hw0];exact(zR _ _).alloc (zL _) _
 have I0:WB w0 w.heap.size 165 (List.replicate 64 0):=by unfold WB;rw[hw0,←Xq0];exact heap_alloc_last w _
 unfold zz64 at hw0
 have HW:=Hd hw0
 obtain⟨s1,s2⟩:=I0.storeT shK (by rw[Xnl];simp) (by rw[List.length_replicate];exact Xf4)
 have BF:=Hd (below_setRow B0 (zL _) (wA shK))
 have CB0:=Hd Xwz
 have SZ:Hid ((prog.info? 165).map (·.size)=some (wA shK).size):=Hd (by rw[Xb4,Xnl];exact Xf4)
 obtain⟨rs,hrs⟩:=xq (wA shK)
 unfold WB at s2
 rw[←hrs] at s1 s2 BF CB0 SZ⊢
 have ST:=Hd s1;have S2:=Hd s2
 clear hw0 B0 I0 s1 s2 hrs
 go_enter func109,ntmps109
 go_upto_region 1 with fail
 rw[←HW.o]
 clear HW
 refine wp_region_list ?_
 simp only[]
 refine Xas rfl (Xcf (vs:=c64V.toArray) rfl (by kernel_rfl) (CB0.o _)) ?_
 go_wp2_with ((with_reducible refine Xab 165 rfl _ _ rfl ?_);refine⟨_,_,_,rfl,rfl,ST.o,?_⟩)
 exact zP (results_cell_row results109 _ _ w.heap.size _ _ _ _ rfl S2.o underlying165 rfl SZ.o) rfl ⟨rfl,BF.o⟩
theorem Xeg {a b n:Nat}(h:n=Xa9 a b):IntKind.u32.wrap ((a:Int)+(b:Int))=(n:Int):=by rw[Xeb,h];unfold Xa9;omega
theorem Ybz {a b n:Nat}(h:n=Xa9 a b):((a:Int)+(b:Int))%4294967296=(n:Int):=by rw[h];unfold Xa9;omega
def Xxh (x y:List Nat)(i:Nat):List Nat:=(List.range i).foldl (fun l q=>l.set q (Xa9 (x.getD q 0) (y.getD q 0))) x
theorem Xlv (x y:List Nat)(i:Nat):Xxh x y (i+1)=(Xxh x y i).set i (Xa9 (x.getD i 0) (y.getD i 0)):=by simp[Xxh,List.range_succ]
theorem Yfm (x y:List Nat)(i:Nat):(Xxh x y i).length=x.length:=by
 induction i with
 |zero=>rfl
 |succ i ih=>rw[Xlv,List.length_set,ih]
theorem Yjb (x y:List Nat)(i q:Nat)(hq:i≤q):(Xxh x y i).getD q 0=x.getD q 0:=by
 induction i with
 |zero=>rfl
 |succ i ih=>
  rw[Xlv]
  by_cases hl:i<(Xxh x y i).length
  ·rw[Xhz hl,qN (by omega)];exact ih (by omega)
  ·rw[List.set_eq_of_length_le (by omega)];exact ih (by omega)
theorem Ylv (x y:W8):Xxh (wL x) (wL y) 8=wL (Xg7 x y):=rfl
theorem Xyk {h:W8}(hh:h.Ok)(ws:List Nat)(n:Nat):(Xvr ws h n).Ok:=by
 induction n with
 |zero=>exact hh
 |succ n ih=>rw[Xkk];exact Yfz ih _ _
theorem Ybn {h:W8}(hh:h.Ok)(n:Nat):∀l,(Xly h n l).Ok:=by
 induction n with
 |zero=>intro l;exact hh
 |succ n ih=>intro l;rw[Xlr];exact Xy2 _ _
theorem Yct (l:List Nat)(hl:∀x∈l,x<256)(j:Nat)(hj:64*j+64≤l.length)(b:List Nat)(hb:b=(l.drop (64*j)).take 64):wL (Xly sh0 (j+1) l)=Xxh (wL (Xly sh0 j l)) (wL (Xvr (Xno b) (Xly sh0 j l) 64)) 8:=by
 have h1:b.length=64:=by rw[hb,List.length_take,List.length_drop];omega
 have h2:∀x∈b,x<256:=fun x hx=>by rw[hb] at hx;exact hl x (List.mem_of_mem_drop (List.mem_of_mem_take hx))
 rw[Ylv,Xlr,←hb,Yhg h1 h2]
theorem Ym2 (v:W8)(i:Nat)(hi:i<32):(dgF v).getD i 0=(wL v).getD (i/4) 0/2^(24-8*(i%4))%256:=by
 have:=Ygh v (i/4) (i%4) (by omega) (by omega)
 rw[show 4*(i/4)+i%4=i by omega] at this
 rw[List.getD_eq_getElem?_getD,this,Option.getD_some]
theorem Ylj (w:World)(a b c d e f g i:Nat):(Instr.build 164 #[(0,.int .u32 (a:Int)),(1,.int .u32 (b:Int)),(2,.int .u32 (c:Int)),(3,.int .u32 (d:Int)),(4,.int .u32 (e:Int)),(5,.int .u32 (f:Int)),(6,.int .u32 (g:Int)),(7,.int .u32 (i:Int))]).run prog w=.ok (.agg (wA [a,b,c,d,e,f,g,i])) w:=by kernel_rfl
def c8V:Array (Nat×Value):=#[(0,.int .u32 1779033703),(1,.int .u32 3144134277),(2,.int .u32 1013904242),(3,.int .u32 2773480762),(4,.int .u32 1359893119),(5,.int .u32 2600822924),(6,.int .u32 528734635),(7,.int .u32 1541459225)]
theorem Ynd (w:World)(v:W8):∃w',Sv 164 ⟨w.heap.size,0,none⟩ (.agg (wA (wL v))) (w.alloc (.cells #[.int .u32 0,.int .u32 0,.int .u32 0,.int .u32 0,.int .u32 0,.int .u32 0,.int .u32 0,.int .u32 0] 164)) w'∧WB w' w.heap.size 164 (wL v)∧Bw w w':=
 ⟨w.alloc (.cells (wA (wL v)) 164),run_storeVar_new w 164 _ _ (by rw[Xb4];exact Xq9) (by rw[Xb4];rfl) (Xo2 _),heap_alloc_last w _,(zR _ _).alloc (zL _) _⟩
theorem Ykg (w:World){ws:List Nat}(h:ws.length=64):∃w',Sv 165 ⟨w.heap.size,0,none⟩ (.agg (wA ws)) (w.alloc (.cells zz64.toArray 165)) w'∧WB w' w.heap.size 165 ws∧Bw w w':=
 ⟨w.alloc (.cells (wA ws) 165),run_storeVar_new w 165 _ _ (by rw[Xb4,h];exact Xf4) (by rw[Xb4,h];rfl) (Xo2 _),heap_alloc_last w _,(zR _ _).alloc (zL _) _⟩
theorem Yj4 {w:World}{b off n m:Nat}{l:List Nat}(h:Rd w (some ⟨b,off,none⟩) l)(hl:n+m≤l.length):Rd w (some ⟨b,off+n,none⟩) ((l.drop n).take m):=by
 have h':=h.drop (n:=n)
 refine⟨fun x hx=>h'.lt x (List.mem_of_mem_take hx),fun h0=>?_⟩
 have h0':0<(l.drop n).length:=by rw[List.length_take] at h0;omega
 obtain⟨b',off',e,hb,hc⟩:=h'.at_ h0'
 cases e
 refine⟨_,_,rfl,hb,fun i hi=>?_⟩
 rw[List.getElem_take]
 exact hc i (by rw[List.length_take] at hi;omega)
theorem Ycz (w:World)(a:Option Addr)(cap:Nat)(l:List Nat)(hr:Rd w a l)(hl:l.length≤10000000):
    zJ 60 #[.slice a l.length cap] w (.agg (idA (Xi4 l))):=by
 obtain⟨wA0,hwA⟩:=xq (w.alloc (.cells #[.int .u8 0,.int .u8 0,.int .u8 0,.int .u8 0,.int .u8 0,.int .u8 0,.int .u8 0,.int .u8 0,.int .u8 0,.int .u8 0,.int .u8 0,.int .u8 0,.int .u8 0,.int .u8 0,.int .u8 0,.int .u8 0,.int .u8 0,.int .u8 0,.int .u8 0,.int .u8 0,.int .u8 0,.int .u8 0,.int .u8 0,.int .u8 0,.int .u8 0,.int .u8 0,.int .u8 0,.int .u8 0,.int .u8 0,.int .u8 0,.int .u8 0,.int .u8 0] 25))
 have BA:Bw w wA0:=by rw[hwA];exact(zR _ _).alloc (zL _) _
 have RA:IB wA0 w.heap.size 25 (List.replicate 32 0):=by unfold IB;rw[hwA];exact heap_alloc_last w _
 have SA:wA0.heap.size=w.heap.size+1:=by rw[hwA];simp
 obtain⟨w1,st1,h1,b1⟩:=Ynd wA0 sh0
 rw[SA] at st1 h1
 have BW1:=bg BA b1
 have HWA:=Hd hwA;have ST1:=Hd st1;have H1:=Hd h1;have B1:=Hd BW1;have R1:=Hd (RA.below b1);have SAH:=Hd SA
 have S1:Hid (w.heap.size+2≤w1.heap.size):=Hd (by have:=h1.lt;omega)
 have CO:=Hd (Xyu w1)
 obtain⟨n,hn⟩:=xq l.length
 have PD:Hid (∀wx,Bw w1 wx→Calls prog 110 #[.slice a n cap] wx fun e w'=>∃v,e=.returned v∧OW wx.heap.size (pdF l) v w'∧Bw wx w'):=Hd (fun wx hb=>by
  rw[hn];exact Yc2 wx a cap l ((hr.onB BW1).onB hb) hl)
 have LT:=Hd hr.lt
 have ML:Hid ((pdF l).length≤10000100):=Hd (by unfold pdF;rw[List.length_append];have:=Xt4 l.length;omega)
 have PL:Hid ((pdF l).length=64*((pdF l).length/64)):=Hd (Yhj l)
 have PLT:Hid (∀x∈pdF l,x<256):=Hd (fun x hx=>by
  unfold pdF at hx
  rcases List.mem_append.1 hx with hx|hx
  ·exact hr.lt x hx
  ·exact Xrm _ x hx)
 have RES:Hid (Xi4 l=dgF (Xly sh0 ((pdF l).length/64) (pdF l))):=Hd (Yg3 l)
 rw[←hn]
 obtain⟨p,hp⟩:=xq (pdF l)
 have NB0:Hid (1≤p.length):=Hd (by rw[hp];unfold pdF;rw[List.length_append,Xpt];omega)
 rw[←hp] at PD ML PL PLT RES
 obtain⟨sl,hsl⟩:=xq (Xi4 l)
 rw[←hsl] at RES⊢
 obtain⟨nb,hnb⟩:=xq (p.length/64)
 rw[←hnb] at PL RES
 have NB1:1≤p.length:=NB0.o
 have cb0:∀w,(Instr.build 164 c8V).run prog w=.ok (.agg (wA (wL sh0))) w:=fun w=>by kernel_rfl
 have CBX:=Hd cb0
 obtain⟨hv0,hhv0⟩:=xq (wA (wL sh0))
 rw[←hhv0] at CBX ST1
 clear hwA BA RA SA st1 h1 b1 BW1 hr hl hn hp hsl hnb cb0 hhv0
 go_enter func60,ntmps60
 go_upto_region 1 with fail
 rw[←HWA.o]
 have CV:=SAH.o
 refine wp_region_list ?_
 simp only[]
 refine Xas rfl (Xcf (vs:=c8V) rfl (by kernel_rfl) (CBX.o _)) ?_
 go_upto_region 2 with((with_reducible refine Xab 164 rfl _ _ rfl ?_);refine⟨_,_,_,rfl,rfl,ST1.o,?_⟩)
 clear HWA CV CBX ST1
 go_wp2_with fail
 refine CO.o.mono ?_
 rintro e w2 ⟨rfl,hb2⟩
 obtain⟨w3,st3,h3,b3⟩:=Ykg w2 Xnl
 unfold zz64 at st3
 have ST3:=Hd st3
 obtain⟨gk,hgk⟩:=xq w2.heap.size
 have b13:=bg hb2 b3
 have H3:=Hd (H1.o.below b13);have R3:=Hd (R1.o.below b13);have B3:=bh B1 b13;have B13:=Hd b13
 have K3:Hid (WB w3 gk 165 shK):=Hd (by rw[hgk];exact h3)
 have GK:Hid (w.heap.size+2≤gk):=Hd (by rw[hgk];have:=S1.o;have:=hb2.size;omega)
 obtain⟨ks,hks⟩:=xq (wA shK)
 rw[←hks] at ST3⊢
 clear hb2 st3 h3 b3 b13 H1 R1 B1 CO hks SAH
 go_upto_region 3 with((with_reducible refine Xab 165 rfl _ _ rfl ?_);refine⟨_,_,_,rfl,rfl,ST3.o,?_⟩)
 rw[←hgk]
 clear ST3 hgk
 have P3:=Hd (PD.o w3 B13.o)
 clear PD B13
 go_wp2_with fail
 refine P3.o.mono ?_
 rintro e w4 ⟨v,rfl,hown,hb4⟩
 obtain⟨m,hm⟩:=xq p.length
 obtain⟨g,cp,rfl,hgc,hcm,hBg,hgw⟩:=hown.slice (by omega)
 unfold maxLen at hcm
 have RD4:Hid (Rd w4 (some ⟨g,0,none⟩) p):=Hd (Yhb (n:=p.length) (cap:=cp) hown PLT.o)
 rw[←hm] at hgc PL ML⊢
 have H4:=Hd (H3.o.below hb4);have R4:=Hd (R3.o.below hb4);have K4:=Hd (K3.o.below hb4);have B4:=bh B3 hb4
 have G4:Hid (w.heap.size+2≤g∧gk<w4.heap.size∧w.heap.size+2≤w4.heap.size):=Hd (by have:=K3.o.lt;have:=hb4.size;have:=GK.o;exact⟨by omega,by omega,by omega⟩)
 have ml:m≤10000100:=ML.o
 have HM:=Hd hm
 have PLE:=Hd PL.o
 clear hown hb4 H3 R3 K3 B3 P3 hBg hgw hm ML PL NB1
 go_wp2_with fail
 go_loopg [6,7,8,9,10,11,12] nb (fun k v6 v7 v8 v9 v10 v11 v12 wr=>∃j s:Nat,j≤nb∧k=nb-j∧v6=.int .i64 (s:Int)∧Hid (s=64*j)∧Hid (WB wr (w.heap.size+1) 164 (wL (Xly sh0 j p)))∧Hid (Fr1 (w.heap.size+1) w4 wr))
 case atStart=>exact⟨0,0,by omega,rfl,rfl,Hd rfl,H4,Hd (Fr1.refl _ _)⟩
 case round=>
  clear H4
  obtain⟨j,s,hj,rfl,rfl,hs,hh,hf⟩:=hrel
  by_cases h:j<nb
  ·have hsm:s+64≤m:=by have:=PLE.o;have:=hs.o;omega
   have hlt:s<m:=by omega
   have hsc:s<cp:=by omega
   have hsc2:s+64≤cp:=by omega
   obtain⟨blk,hblk⟩:=xq ((p.drop s).take 64)
   have bl:blk.length=64:=by rw[hblk,List.length_take,List.length_drop,←HM.o];omega
   obtain⟨v0,hv0⟩:=xq (Xly sh0 j p)
   have V0:Hid v0.Ok:=Hd (by rw[hv0];exact Ybn Xtu _ _)
   obtain⟨ws,hws⟩:=xq (Xno blk)
   have WS:Hid (L64 ws):=Hd (by rw[hws];exact Xtw (fun x hx=>by rw[hblk] at hx;exact PLT.o x (List.mem_of_mem_drop (List.mem_of_mem_take hx))) 64)
   have STEP:Hid (wL (Xly sh0 (j+1) p)=Xxh (wL v0) (wL (Xvr ws v0 64)) 8):=Hd (by
    rw[hv0,hws]
    exact Yct p PLT.o j (by have:=hs.o;have:=HM.o;omega) blk (by rw[hblk,hs.o]))
   have RDB:Rd wr (some ⟨g,s,none⟩) blk:=by
    have r4:=RD4.o.fr1 hf.o (fun ad e _=>by cases e;have:=G4.o.1;show g≠_;omega)
    have:=Yj4 (n:=s) (m:=64) r4 (by rw[←HM.o];omega)
    rw[Nat.zero_add,←hblk] at this
    exact this
   have SCH:Hid (∀n cap,n=64→zJ 111 #[.slice (some ⟨g,s,none⟩) n cap] wr (.agg (wA ws))):=Hd (fun n cap hn=>by subst hn;rw[hws];exact Xvo wr _ cap RDB bl)
   have HH:=Hd (by have:=hh.o;rw[←hv0] at this;exact this)
   have SC2:=Hd (SCH.o 64 (cp-s) rfl)
   clear hblk bl hv0 hws RDB hh SCH
   go_wp2_with fail
   refine SC2.o.mono ?_
   rintro e w5 ⟨rfl,hb5⟩
   clear SC2
   obtain⟨w6,st6,h6,b6⟩:=Ykg w5 WS.o.len
   obtain⟨w7,st7,h7,b7⟩:=Ynd w6 v0
   obtain⟨gw,hgw2⟩:=xq w5.heap.size
   obtain⟨gv,hgv⟩:=xq w6.heap.size
   have HH6:=(HH.o.below hb5).below b6
   have LD8:=Hd (HH6.loadT underlying164 Xq9)
   have HH7:=Hd (HH6.below b7)
   have W7:Hid (WB w7 gw 165 ws):=Hd (by rw[hgw2];exact h6.below b7)
   have V7:Hid (WB w7 gv 164 (wL v0)):=Hd (by rw[hgv];exact h7)
   have FR7:Hid (Fr1 (w.heap.size+1) w4 w7):=Hd (((hf.o.trans (Fr1.of_below hb5)).trans (Fr1.of_below b6)).trans (Fr1.of_below b7))
   have K7:Hid (WB w7 gk 165 shK):=Hd (K4.o.fr FR7.o (by have:=GK.o;omega))
   have G7:Hid (w4.heap.size≤gv∧w4.heap.size≤gw∧gw<gv∧gv<w7.heap.size):=Hd (by
    have:=hf.o.size;have:=hb5.size;have:=h6.lt;have:=b6.size;have:=h7.lt
    exact⟨by omega,by omega,by omega,by omega⟩)
   unfold zz64 at st6
   have ST6:=Hd st6;have ST7:=Hd st7
   obtain⟨wsA,hwsA⟩:=xq (wA ws)
   obtain⟨vsA,hvsA⟩:=xq (wA (wL v0))
   rw[←hwsA] at ST6⊢
   rw[←hvsA] at ST7 LD8
   clear st6 st7 h6 h7 b6 b7 hb5 HH6 hwsA hvsA HH hf
   go_upto_region 8 with((with_reducible refine Xab 165 rfl _ _ rfl ?_);refine⟨_,_,_,rfl,rfl,ST6.o,?_⟩)
   rw[←hgw2]
   clear ST6 hgw2
   go_upto_region 9 with(first
    |((with_reducible refine Xac 164 rfl _ rfl ?_);refine⟨_,_,rfl,LD8.o,?_⟩)
    |((with_reducible refine Xab 164 rfl _ _ rfl ?_);refine⟨_,_,_,rfl,rfl,ST7.o,?_⟩))
   rw[←hgv]
   clear ST7 LD8 hgv
   go_wp2_with fail
   go_loopg [9,10,11] 64 (fun k v9 v10 v11 wq=>∃t:Nat,t≤64∧k=64-t∧v9=.int .i64 (t:Int)∧Hid (WB wq gv 164 (wL (Xvr ws v0 t)))∧Hid (Fr1 gv w7 wq))
   case atStart=>exact⟨0,by omega,rfl,rfl,V7,Hd (Fr1.refl _ _)⟩
   case round=>
    clear V7
    obtain⟨t,ht,rfl,rfl,hv,hfr⟩:=hrel
    by_cases ht64:t<64
    ·obtain⟨v,hvv⟩:=xq (Xvr ws v0 t)
     have VO:v.Ok:=by rw[hvv];exact Xyk V0.o _ _
     have VB1:Hid (WB wr gv 164 (wL v)):=Hd (by rw[hvv];exact hv.o)
     have NX:Hid (Xvr ws v0 (t+1)=rnd v (shK.getD t 0) (ws.getD t 0)):=Hd (by rw[hvv];exact Xkk ws v0 t)
     obtain⟨kk,hkk⟩:=xq (shK.getD t 0)
     obtain⟨ww,hww⟩:=xq (ws.getD t 0)
     have kl:kk<4294967296:=by rw[hkk];exact Xya t
     have wl:ww<4294967296:=by rw[hww];exact WS.o.at t
     have cK:wr.cell? ⟨gk,t,none⟩=some (.int .u32 (kk:Int)):=by rw[hkk];exact(K7.o.fr hfr.o (by have:=G7.o.1;have:=K4.o.lt;omega)).cell (by rw[Xnl];exact ht64)
     have cW:wr.cell? ⟨gw,t,none⟩=some (.int .u32 (ww:Int)):=by rw[hww];exact(W7.o.fr hfr.o (by have:=G7.o.2.2.1;omega)).cell (by rw[WS.o.len];exact ht64)
     obtain⟨xa,hxa⟩:=xq v.a
     have la:xa<4294967296:=by rw[hxa];exact VO.a
     have ca:wr.cell? ⟨gv,0,none⟩=some (.int .u32 (xa:Int)):=by rw[hxa];exact VB1.o.cell (q:=0) (show 0<8 by decide)
     obtain⟨xb,hxb⟩:=xq v.b
     have lb:xb<4294967296:=by rw[hxb];exact VO.b
     have cb:wr.cell? ⟨gv,1,none⟩=some (.int .u32 (xb:Int)):=by rw[hxb];exact VB1.o.cell (q:=1) (show 1<8 by decide)
     obtain⟨xc,hxc⟩:=xq v.c
     have lc:xc<4294967296:=by rw[hxc];exact VO.c
     have cc:wr.cell? ⟨gv,2,none⟩=some (.int .u32 (xc:Int)):=by rw[hxc];exact VB1.o.cell (q:=2) (show 2<8 by decide)
     obtain⟨xd,hxd⟩:=xq v.d
     have ld:xd<4294967296:=by rw[hxd];exact VO.d
     have cd:wr.cell? ⟨gv,3,none⟩=some (.int .u32 (xd:Int)):=by rw[hxd];exact VB1.o.cell (q:=3) (show 3<8 by decide)
     obtain⟨xe,hxe⟩:=xq v.e
     have le:xe<4294967296:=by rw[hxe];exact VO.e
     have ce:wr.cell? ⟨gv,4,none⟩=some (.int .u32 (xe:Int)):=by rw[hxe];exact VB1.o.cell (q:=4) (show 4<8 by decide)
     obtain⟨xf,hxf⟩:=xq v.f
     have lf:xf<4294967296:=by rw[hxf];exact VO.f
     have cf:wr.cell? ⟨gv,5,none⟩=some (.int .u32 (xf:Int)):=by rw[hxf];exact VB1.o.cell (q:=5) (show 5<8 by decide)
     obtain⟨xg,hxg⟩:=xq v.g
     have lg:xg<4294967296:=by rw[hxg];exact VO.g
     have cg:wr.cell? ⟨gv,6,none⟩=some (.int .u32 (xg:Int)):=by rw[hxg];exact VB1.o.cell (q:=6) (show 6<8 by decide)
     obtain⟨xi,hxi⟩:=xq v.i
     have li:xi<4294967296:=by rw[hxi];exact VO.i
     have ci:wr.cell? ⟨gv,7,none⟩=some (.int .u32 (xi:Int)):=by rw[hxi];exact VB1.o.cell (q:=7) (show 7<8 by decide)
     obtain⟨ra,hra⟩:=xq (rot xe 6)
     have rla:ra<4294967296:=by rw[hra];exact Xa7 le
     have Ra:Hid (∀wx,Calls prog 112 #[.int .u32 (xe:Int),.int .i64 6] wx fun e w'=>e=.returned (.int .u32 (ra:Int))∧∃n,w'=wx.drewN n):=Hd (fun wx=>by rw[hra];exact Xdj wx xe le 6 (by decide) (by decide) 6 rfl)
     obtain⟨rb,hrb⟩:=xq (rot xe 11)
     have rlb:rb<4294967296:=by rw[hrb];exact Xa7 le
     have Rb:Hid (∀wx,Calls prog 112 #[.int .u32 (xe:Int),.int .i64 11] wx fun e w'=>e=.returned (.int .u32 (rb:Int))∧∃n,w'=wx.drewN n):=Hd (fun wx=>by rw[hrb];exact Xdj wx xe le 11 (by decide) (by decide) 11 rfl)
     obtain⟨rc,hrc⟩:=xq (rot xe 25)
     have rlc:rc<4294967296:=by rw[hrc];exact Xa7 le
     have Rc:Hid (∀wx,Calls prog 112 #[.int .u32 (xe:Int),.int .i64 25] wx fun e w'=>e=.returned (.int .u32 (rc:Int))∧∃n,w'=wx.drewN n):=Hd (fun wx=>by rw[hrc];exact Xdj wx xe le 25 (by decide) (by decide) 25 rfl)
     obtain⟨rd,hrd⟩:=xq (rot xa 2)
     have rld:rd<4294967296:=by rw[hrd];exact Xa7 la
     have Rd:Hid (∀wx,Calls prog 112 #[.int .u32 (xa:Int),.int .i64 2] wx fun e w'=>e=.returned (.int .u32 (rd:Int))∧∃n,w'=wx.drewN n):=Hd (fun wx=>by rw[hrd];exact Xdj wx xa la 2 (by decide) (by decide) 2 rfl)
     obtain⟨re,hre⟩:=xq (rot xa 13)
     have rle:re<4294967296:=by rw[hre];exact Xa7 la
     have Re:Hid (∀wx,Calls prog 112 #[.int .u32 (xa:Int),.int .i64 13] wx fun e w'=>e=.returned (.int .u32 (re:Int))∧∃n,w'=wx.drewN n):=Hd (fun wx=>by rw[hre];exact Xdj wx xa la 13 (by decide) (by decide) 13 rfl)
     obtain⟨rf,hrf⟩:=xq (rot xa 22)
     have rlf:rf<4294967296:=by rw[hrf];exact Xa7 la
     have Rf:Hid (∀wx,Calls prog 112 #[.int .u32 (xa:Int),.int .i64 22] wx fun e w'=>e=.returned (.int .u32 (rf:Int))∧∃n,w'=wx.drewN n):=Hd (fun wx=>by rw[hrf];exact Xdj wx xa la 22 (by decide) (by decide) 22 rfl)
     obtain⟨s1,hs1⟩:=xq (ra^^^rb)
     have ls1:s1<4294967296:=by rw[hs1];exact Xda rla rlb
     have es1:bits .xor .u32 (ra:Int) (rb:Int)=(s1:Int):=by rw[u32_xor_nat _ _ rla rlb,hs1]
     obtain⟨s2,hs2⟩:=xq (s1^^^rc)
     have ls2:s2<4294967296:=by rw[hs2];exact Xda ls1 rlc
     have es2:bits .xor .u32 (s1:Int) (rc:Int)=(s2:Int):=by rw[u32_xor_nat _ _ ls1 rlc,hs2]
     obtain⟨a1,ha1⟩:=xq (Xa9 xi s2)
     have la1:a1<4294967296:=by rw[ha1];exact Xc3 _ _
     have ea1:IntKind.u32.wrap ((xi:Int)+(s2:Int))=(a1:Int):=Xeg ha1
     obtain⟨n1,hn1⟩:=xq (xe&&&xf)
     have ln1:n1<4294967296:=by rw[hn1];exact Xfh le
     have en1:bits .and .u32 (xe:Int) (xf:Int)=(n1:Int):=by rw[u32_and_nat _ _ le lf,hn1]
     obtain⟨ne,hne⟩:=xq (Xrt xe)
     have lne:ne<4294967296:=by rw[hne];exact not_lt _
     have ene:bits .xor .u32 (if IntKind.u32.signed=true then -1 else IntKind.u32.max) (xe:Int)=(ne:Int):=by rw[Xxt _ le,hne]
     obtain⟨n2,hn2⟩:=xq (ne&&&xg)
     have ln2:n2<4294967296:=by rw[hn2];exact Xfh lne
     have en2:bits .and .u32 (ne:Int) (xg:Int)=(n2:Int):=by rw[u32_and_nat _ _ lne lg,hn2]
     obtain⟨n3,hn3⟩:=xq (n1^^^n2)
     have ln3:n3<4294967296:=by rw[hn3];exact Xda ln1 ln2
     have en3:bits .xor .u32 (n1:Int) (n2:Int)=(n3:Int):=by rw[u32_xor_nat _ _ ln1 ln2,hn3]
     obtain⟨a2,ha2⟩:=xq (Xa9 a1 n3)
     have la2:a2<4294967296:=by rw[ha2];exact Xc3 _ _
     have ea2:IntKind.u32.wrap ((a1:Int)+(n3:Int))=(a2:Int):=Xeg ha2
     obtain⟨a3,ha3⟩:=xq (Xa9 a2 kk)
     have la3:a3<4294967296:=by rw[ha3];exact Xc3 _ _
     have ea3:IntKind.u32.wrap ((a2:Int)+(kk:Int))=(a3:Int):=Xeg ha3
     obtain⟨tt,htt⟩:=xq (Xa9 a3 ww)
     have ltt:tt<4294967296:=by rw[htt];exact Xc3 _ _
     have ett:IntKind.u32.wrap ((a3:Int)+(ww:Int))=(tt:Int):=Xeg htt
     obtain⟨s3,hs3⟩:=xq (rd^^^re)
     have ls3:s3<4294967296:=by rw[hs3];exact Xda rld rle
     have es3:bits .xor .u32 (rd:Int) (re:Int)=(s3:Int):=by rw[u32_xor_nat _ _ rld rle,hs3]
     obtain⟨s4,hs4⟩:=xq (s3^^^rf)
     have ls4:s4<4294967296:=by rw[hs4];exact Xda ls3 rlf
     have es4:bits .xor .u32 (s3:Int) (rf:Int)=(s4:Int):=by rw[u32_xor_nat _ _ ls3 rlf,hs4]
     obtain⟨m1,hm1⟩:=xq (xa&&&xb)
     have lm1:m1<4294967296:=by rw[hm1];exact Xfh la
     have em1:bits .and .u32 (xa:Int) (xb:Int)=(m1:Int):=by rw[u32_and_nat _ _ la lb,hm1]
     obtain⟨m2,hm2⟩:=xq (xa&&&xc)
     have lm2:m2<4294967296:=by rw[hm2];exact Xfh la
     have em2:bits .and .u32 (xa:Int) (xc:Int)=(m2:Int):=by rw[u32_and_nat _ _ la lc,hm2]
     obtain⟨m3,hm3⟩:=xq (m1^^^m2)
     have lm3:m3<4294967296:=by rw[hm3];exact Xda lm1 lm2
     have em3:bits .xor .u32 (m1:Int) (m2:Int)=(m3:Int):=by rw[u32_xor_nat _ _ lm1 lm2,hm3]
     obtain⟨m4,hm4⟩:=xq (xb&&&xc)
     have lm4:m4<4294967296:=by rw[hm4];exact Xfh lb
     have em4:bits .and .u32 (xb:Int) (xc:Int)=(m4:Int):=by rw[u32_and_nat _ _ lb lc,hm4]
     obtain⟨m5,hm5⟩:=xq (m3^^^m4)
     have lm5:m5<4294967296:=by rw[hm5];exact Xda lm3 lm4
     have em5:bits .xor .u32 (m3:Int) (m4:Int)=(m5:Int):=by rw[u32_xor_nat _ _ lm3 lm4,hm5]
     obtain⟨uu,huu⟩:=xq (Xa9 s4 m5)
     have luu:uu<4294967296:=by rw[huu];exact Xc3 _ _
     have euu:IntKind.u32.wrap ((s4:Int)+(m5:Int))=(uu:Int):=Xeg huu
     obtain⟨na,hna⟩:=xq (Xa9 tt uu)
     have lna:na<4294967296:=by rw[hna];exact Xc3 _ _
     have ena:IntKind.u32.wrap ((tt:Int)+(uu:Int))=(na:Int):=Xeg hna
     have fna:((tt:Int)+(uu:Int))%4294967296=(na:Int):=Ybz hna
     obtain⟨nz,hnz⟩:=xq (Xa9 xd tt)
     have lnz:nz<4294967296:=by rw[hnz];exact Xc3 _ _
     have enz:IntKind.u32.wrap ((xd:Int)+(tt:Int))=(nz:Int):=Xeg hnz
     have fnz:((xd:Int)+(tt:Int))%4294967296=(nz:Int):=Ybz hnz
     have RN:Hid (wL (rnd v kk ww)=[na,xa,xb,xc,nz,xe,xf,xg]):=Hd (by
      have e1:Yc5 v kk ww=tt:=by unfold Yc5;rw[←hxi,←hxe,←hxf,←hxg,htt,ha3,ha2,ha1,hs2,hs1,hra,hrb,hrc,hn3,hn1,hn2,hne]
      have e2:Yf0 v=uu:=by unfold Yf0;rw[←hxa,←hxb,←hxc,huu,hs4,hs3,hrd,hre,hrf,hm5,hm3,hm1,hm2,hm4]
      unfold rnd wL;rw[e1,e2,←hna,←hxa,←hxb,←hxc,←hxd,←hnz,←hxe,←hxf,←hxg])
     have FIN:Hid (∀wx,Dr wr wx→∃wy,Sv 164 ⟨gv,0,none⟩ (.agg (wA [na,xa,xb,xc,nz,xe,xf,xg])) wx wy∧WB wy gv 164 (wL (Xvr ws v0 (t+1)))∧Fr1 gv w7 wy):=Hd (fun wx hd=>by
      have vb:=VB1.o.below (Dr.below hd)
      obtain⟨s1,s2⟩:=vb.storeT [na,xa,xb,xc,nz,xe,xf,xg] rfl Xq9
      refine⟨_,s1,?_,(hfr.o.trans (Fr1.of_below (Dr.below hd))).trans (Xhf _ _ _)⟩
      rw[NX.o,←hkk,←hww,RN.o];exact s2)
     have BLD:=Hd (fun w=>Ylj w na xa xb xc nz xe xf xg)
     obtain⟨nw,hnw⟩:=xq (wA [na,xa,xb,xc,nz,xe,xf,xg])
     rw[←hnw] at FIN BLD
     clear hxa hxb hxc hxd hxe hxf hxg hxi hra hrb hrc hrd hre hrf hs1 hs2 hs3 hs4 ha1 ha2 ha3 htt huu hna hnz hn1 hn2 hn3 hne hm1 hm2 hm3 hm4 hm5 hkk hww hvv hnw VB1 VO NX RN hv hfr
     have ht64i:(t:Int)<64:=by omega
     have ht0:(0:Int)≤(t:Int):=by omega
     go_upto_region 12 with fail
     go_quiet ((go_at_call 112;first|with_reducible exact Calls.quiet_of (Ra.o _)|with_reducible exact Calls.quiet_of (Rb.o _)|with_reducible exact Calls.quiet_of (Rc.o _)))
     obtain⟨wq1,hwq1⟩:=xq (wr.drewN nq)
     rw[←hwq1]
     have DR1:Hid (Dr wr wq1):=Hd ⟨nq,hwq1⟩
     replace ca:wq1.cell? ⟨gv,0,none⟩=some (.int .u32 (xa:Int)):=by rw[hwq1];exact ca
     replace cb:wq1.cell? ⟨gv,1,none⟩=some (.int .u32 (xb:Int)):=by rw[hwq1];exact cb
     replace cc:wq1.cell? ⟨gv,2,none⟩=some (.int .u32 (xc:Int)):=by rw[hwq1];exact cc
     replace cd:wq1.cell? ⟨gv,3,none⟩=some (.int .u32 (xd:Int)):=by rw[hwq1];exact cd
     replace ce:wq1.cell? ⟨gv,4,none⟩=some (.int .u32 (xe:Int)):=by rw[hwq1];exact ce
     replace cf:wq1.cell? ⟨gv,5,none⟩=some (.int .u32 (xf:Int)):=by rw[hwq1];exact cf
     replace cg:wq1.cell? ⟨gv,6,none⟩=some (.int .u32 (xg:Int)):=by rw[hwq1];exact cg
     clear hwq1 cK cW ci Ra Rb Rc
     go_upto_region 13 with fail
     go_quiet ((go_at_call 112;first|with_reducible exact Calls.quiet_of (Rd.o _)|with_reducible exact Calls.quiet_of (Re.o _)|with_reducible exact Calls.quiet_of (Rf.o _)))
     obtain⟨wq2,hwq2⟩:=xq (wq1.drewN nq)
     rw[←hwq2]
     have DR2:Hid (Dr wr wq2):=Hd (DR1.o.trans ⟨_,hwq2⟩)
     replace ca:wq2.cell? ⟨gv,0,none⟩=some (.int .u32 (xa:Int)):=by rw[hwq2];exact ca
     replace cb:wq2.cell? ⟨gv,1,none⟩=some (.int .u32 (xb:Int)):=by rw[hwq2];exact cb
     replace cc:wq2.cell? ⟨gv,2,none⟩=some (.int .u32 (xc:Int)):=by rw[hwq2];exact cc
     replace cd:wq2.cell? ⟨gv,3,none⟩=some (.int .u32 (xd:Int)):=by rw[hwq2];exact cd
     replace ce:wq2.cell? ⟨gv,4,none⟩=some (.int .u32 (xe:Int)):=by rw[hwq2];exact ce
     replace cf:wq2.cell? ⟨gv,5,none⟩=some (.int .u32 (xf:Int)):=by rw[hwq2];exact cf
     replace cg:wq2.cell? ⟨gv,6,none⟩=some (.int .u32 (xg:Int)):=by rw[hwq2];exact cg
     obtain⟨wy,st,h1,h2⟩:=FIN.o wq2 DR2.o
     have ST:=Hd st;have H1:=Hd h1;have H2:=Hd h2
     clear hwq2 Rd Re Rf DR1 DR2 st h1 h2 FIN
     go_wp2_with (first
      |(with_reducible refine Xas rfl (Xcf (t:=164) (vs:=#[(0,.int .u32 (na:Int)),(1,.int .u32 (xa:Int)),(2,.int .u32 (xb:Int)),(3,.int .u32 (xc:Int)),(4,.int .u32 (nz:Int)),(5,.int .u32 (xe:Int)),(6,.int .u32 (xf:Int)),(7,.int .u32 (xg:Int))]) rfl (by kernel_rfl) (BLD.o _)) ?_)
      |((with_reducible refine Xab 164 rfl _ _ rfl ?_);refine⟨_,_,_,rfl,rfl,ST.o,?_⟩))
     go_roundg (64-(t+1))
     case measure=>omega
     case rel=>exact⟨t+1,by omega,rfl,by go_num,H1,H2⟩
    ·obtain rfl:t=64:=by omega
     obtain⟨vf,hvf⟩:=xq (Xvr ws v0 64)
     have VF:Hid vf.Ok:=Hd (by rw[hvf];exact Xyk V0.o _ _)
     have STEP2:Hid (wL (Xly sh0 (j+1) p)=Xxh (wL v0) (wL vf) 8):=Hd (by rw[hvf];exact STEP.o)
     have VE:Hid (WB wr gv 164 (wL vf)):=Hd (by rw[hvf];exact hv.o)
     have HE:Hid (WB wr (w.heap.size+1) 164 (wL v0)):=Hd (HH7.o.fr hfr.o (by have:=G7.o.1;have:=G4.o.2.2;omega))
     have FRE:Hid (Fr1 (w.heap.size+1) w4 wr):=Hd (FR7.o.new hfr.o G7.o.1)
     have GVB:Hid (gv≠w.heap.size+1):=Hd (by have:=G7.o.1;have:=G4.o.2.2;omega)
     clear hvf hv hfr STEP HH7 FR7 K7 W7 WS ht ht64
     go_wp2_with fail
     go_loopg [12] 8 (fun k v12 wz=>∃i:Nat,i≤8∧k=8-i∧v12=.int .i64 (i:Int)∧Hid (WB wz (w.heap.size+1) 164 (Xxh (wL v0) (wL vf) i))∧Hid (Fr1 (w.heap.size+1) wr wz))
     case atStart=>exact⟨0,by omega,rfl,rfl,HE,Hd (Fr1.refl _ _)⟩
     case round=>
      clear HE
      obtain⟨i,hi,rfl,rfl,hh,hfz⟩:=hrel
      by_cases hi8:i<8
      ·obtain⟨x,hx⟩:=xq ((wL v0).getD i 0)
       obtain⟨y,hy⟩:=xq ((wL vf).getD i 0)
       have cx:wr.cell? ⟨w.heap.size+1,i,none⟩=some (.int .u32 (x:Int)):=by
        rw[hx,←Yjb (wL v0) (wL vf) i i (zL _)];exact hh.o.cell (by rw[Yfm];exact hi8)
       have cy:wr.cell? ⟨gv,i,none⟩=some (.int .u32 (y:Int)):=by rw[hy];exact(VE.o.fr hfz.o GVB.o).cell hi8
       obtain⟨n2,hn2⟩:=xq (Xa9 x y)
       have en:IntKind.u32.wrap ((x:Int)+(y:Int))=(n2:Int):=Xeg hn2
       have fr:wr.frozen? ⟨w.heap.size+1,i,none⟩=false:=Xdn hh.o i
       have N1:Hid (WB (wr.drew.setCell ⟨w.heap.size+1,i,none⟩ (.int .u32 ((n2:Nat):Int))) (w.heap.size+1) 164 (Xxh (wL v0) (wL vf) (i+1))):=Hd (by
        rw[Xlv,←hx,←hy,←hn2]
        exact(hh.o.below (Dr.below ⟨1,rfl⟩)).set i n2)
       have N2:=Hd ((hfz.o.trans (Fr1.of_below (Dr.below (w':=wr.drew) ⟨1,rfl⟩))).trans (Fr1.setC (j:=i) (.int .u32 ((n2:Nat):Int))))
       have hi8i:(i:Int)<8:=by omega
       have hi0:(0:Int)≤(i:Int):=by omega
       clear hx hy hn2 hh hfz
       go_upto_region 18 with fail
       refine wp_region_still_tail 8 (by kernel_rfl) (by kernel_rfl) ?_
       simp only[List.take_succ_cons,List.take_zero,List.drop_succ_cons,List.drop_zero]
       repeat still_step
       refine wpStill_nil ?_
       go_wp2_with fail
       go_roundg (8-(i+1))
       case measure=>omega
       case rel=>exact⟨i+1,by omega,rfl,by go_num,N1,N2⟩
      ·obtain rfl:i=8:=by omega
       have OUT:Hid (WB wr (w.heap.size+1) 164 (wL (Xly sh0 (j+1) p))):=Hd (by rw[STEP2.o];exact hh.o)
       have FRO:=Hd (FRE.o.trans hfz.o)
       have S64:Hid (s+64=64*(j+1)):=Hd (by have:=hs.o;omega)
       clear hh hfz hi hi8
       go_wp2_with fail
       go_roundg (nb-(j+1))
       case measure=>omega
       case rel=>exact⟨j+1,s+64,by omega,rfl,by go_num,S64,OUT,FRO⟩
  ·obtain rfl:j=nb:=by omega
   have hsm:s=m:=by have:=PLE.o;have:=hs.o;omega
   have hnl:¬s<m:=by omega
   obtain⟨vN,hvN⟩:=xq (Xly sh0 j p)
   have VN:Hid vN.Ok:=Hd (by rw[hvN];exact Ybn Xtu _ _)
   have RES2:Hid (sl=dgF vN):=Hd (by rw[hvN];exact RES.o)
   obtain⟨wO,hwO⟩:=xq (wr.alloc (.cells #[.int .u8 0,.int .u8 0,.int .u8 0,.int .u8 0,.int .u8 0,.int .u8 0,.int .u8 0,.int .u8 0,.int .u8 0,.int .u8 0,.int .u8 0,.int .u8 0,.int .u8 0,.int .u8 0,.int .u8 0,.int .u8 0,.int .u8 0,.int .u8 0,.int .u8 0,.int .u8 0,.int .u8 0,.int .u8 0,.int .u8 0,.int .u8 0,.int .u8 0,.int .u8 0,.int .u8 0,.int .u8 0,.int .u8 0,.int .u8 0,.int .u8 0,.int .u8 0] 25))
   have bO:Bw wr wO:=by rw[hwO];exact(zR _ _).alloc (zL _) _
   have HO:Hid (WB wO (w.heap.size+1) 164 (wL vN)):=Hd (by rw[hvN];exact hh.o.below bO)
   have FO:Hid (Fr1 (w.heap.size+1) w4 wO):=Hd (hf.o.trans (Fr1.of_below bO))
   obtain⟨go,hgo⟩:=xq wr.heap.size
   have OO:Hid (IB wO go 25 ((dgF vN).take 0++List.replicate (32-0) 0)):=Hd (by unfold IB;rw[hgo,hwO];exact heap_alloc_last wr _)
   have GO:Hid (w.heap.size+2≤go):=Hd (by rw[hgo];have:=hf.o.size;have:=G4.o.2.2;omega)
   have HWO:=Hd hwO;have HGO:=Hd hgo
   clear hvN hwO hgo bO hh hf RES h hsm
   go_upto_region 20 with fail
   rw[←HWO.o,←HGO.o]
   clear HWO HGO
   go_wp2_with fail
   go_loopg [14] 32 (fun k v14 wz=>∃i:Nat,i≤32∧k=32-i∧v14=.int .i64 (i:Int)∧Hid (IB wz go 25 ((dgF vN).take i++List.replicate (32-i) 0))∧Hid (Fr1 go wO wz))
   case atStart=>exact⟨0,by omega,rfl,rfl,OO,Hd (Fr1.refl _ _)⟩
   case round=>
    clear OO
    obtain⟨i,hi,rfl,rfl,ho,hfz⟩:=hrel
    by_cases h32:i<32
    ·obtain⟨q,hq⟩:=xq (i/4)
     obtain⟨r,hr⟩:=xq (24-8*(i%4))
     obtain⟨x,hx⟩:=xq ((wL vN).getD q 0)
     obtain⟨y,hy⟩:=xq ((dgF vN).getD i 0)
     have YI:(x:Int)/2^r%256=(y:Int):=by
      rw[hy,Ym2 vN i h32,←hq,←hr,←hx,Int.natCast_emod,Int.natCast_ediv,Int.natCast_pow];rfl
     have q8:q<8:=by omega
     have cx:wr.cell? ⟨w.heap.size+1,q,none⟩=some (.int .u32 (x:Int)):=by rw[hx];exact(HO.o.fr hfz.o (by have:=GO.o;omega)).cell q8
     have jq:(i:Int)/4=(q:Int):=by omega
     have er:(24:Int)-8*((i:Int)%4)=(r:Int):=by omega
     have r32:r<32:=by omega
     have fr:wr.frozen? ⟨go,i,none⟩=false:=Xdn ho.o i
     obtain⟨u,cu⟩:∃u,wr.cell? ⟨go,i,none⟩=some u:=⟨_,ho.o.cell (by rw[List.length_append,List.length_take,List.length_replicate,Xbj];omega)⟩
     have N1:Hid (IB (wr.setCell ⟨go,i,none⟩ (.int .u8 ((y:Nat):Int))) go 25 ((dgF vN).take (i+1)++List.replicate (32-(i+1)) 0)):=Hd (by
      rw[←Xth (dgF vN) 32 i h32 (by rw[Xbj];exact zL _) y hy];exact ho.o.set i y)
     have N2:=Hd (hfz.o.trans (Fr1.setC (b:=go) (j:=i) (w:=wr) (.int .u8 ((y:Nat):Int))))
     have hi32:(i:Int)<32:=by omega
     have hi0:(0:Int)≤(i:Int):=by omega
     have q8i:(q:Int)<8:=by omega
     clear hq hr hx hy ho hfz q8
     go_wp2_with fail
     go_roundg (32-(i+1))
     case measure=>omega
     case rel=>exact⟨i+1,by omega,rfl,by go_num,N1,N2⟩
    ·obtain rfl:i=32:=by omega
     have e1:(dgF vN).take 32++List.replicate (32-32) 0=dgF vN:=by rw[List.take_of_length_le (by rw[Xbj];exact zL _)];simp
     have i3:=ho.o
     rw[e1] at i3
     have LD:=Hd (i3.load underlying25 (by rw[Xbj];exact Xke))
     have R1:IB wO w.heap.size 25 (List.replicate 32 0):=(FO.o.other w.heap.size (zY R4.o) (by omega)).trans R4.o
     have R2:IB wr w.heap.size 25 (List.replicate 32 0):=(hfz.o.other w.heap.size (zY R1) (by have:=GO.o;omega)).trans R1
     obtain⟨st,i4⟩:=R2.store (dgF vN) (by rw[Xbj];simp) (by rw[List.length_replicate];exact Xke)
     have bE:Bw w wr:=(B4.o.trans (FO.o.below (by have:=G4.o.2.2;omega) (Nat.le_succ _))).trans (hfz.o.below (by have:=FO.o.size;have:=G4.o.2.2;omega) (by have:=GO.o;omega))
     have BF:=Hd (below_setRow bE (zL _) (idA (dgF vN)))
     obtain⟨ds,hds⟩:=xq (idA (dgF vN))
     have SZ:Hid ((prog.info? 25).map (·.size)=some ds.size):=Hd (by rw[hds,Xag,Xbj];exact Xke)
     unfold IB at i4
     rw[←hds] at LD st i4 BF
     have HDS:=Hd hds
     have ST:=Hd st;have I4:=Hd i4
     clear hds st i4 i3 e1 bE R1 R2 ho hfz
     go_wp2_with (first
      |((with_reducible refine Xac 25 rfl _ rfl ?_);refine⟨_,_,rfl,LD.o,?_⟩)
      |((with_reducible refine Xab 25 rfl _ _ rfl ?_);refine⟨_,_,_,rfl,rfl,ST.o,?_⟩))
     exact zP (results_cell_row results60 _ _ w.heap.size _ _ _ _ rfl I4.o underlying25 rfl SZ.o) rfl ⟨by rw[RES2.o,HDS.o],BF.o⟩
theorem Yha (w:World)(c:Cn)(gv rv:Value)(hin:CnIn w c gv rv)(h0:Xc4 c.p=0)(hF:(Xa8 c.p).length≤10000000):
    zJ 14 #[.agg (c.cells gv rv)] w (.agg (idA (idV c.p))):=by
 obtain⟨zs,hzs⟩:=xq (idA zero32)
 have Z0:Hid (zs=#[.int .u8 0,.int .u8 0,.int .u8 0,.int .u8 0,.int .u8 0,.int .u8 0,.int .u8 0,.int .u8 0,.int .u8 0,.int .u8 0,.int .u8 0,.int .u8 0,.int .u8 0,.int .u8 0,.int .u8 0,.int .u8 0,.int .u8 0,.int .u8 0,.int .u8 0,.int .u8 0,.int .u8 0,.int .u8 0,.int .u8 0,.int .u8 0,.int .u8 0,.int .u8 0,.int .u8 0,.int .u8 0,.int .u8 0,.int .u8 0,.int .u8 0,.int .u8 0]):=Hd (by rw[hzs];rfl)
 obtain⟨w0,hw0⟩:=xq ((w.alloc (.cells (c.cells gv rv) 28)).alloc (.cells zs 26))
 have B0:Hid (Bw w w0):=Hd (by rw[hw0];exact((zR _ _).alloc (zL _) _).alloc (by simp) _)
 have C0:CB w0 w.heap.size c gv rv 28:=by unfold CB;rw[hw0];exact Xae (heap_alloc_last w _)
 have R0:Hid (IB w0 (w.heap.size+1) 26 zero32):=Hd (by
  unfold IB;rw[hw0,←hzs];have:=heap_alloc_last (w.alloc (.cells (c.cells gv rv) 28)) (.cells zs 26);rw[World.size_alloc] at this;exact this)
 have LD:=Hd (C0.allR hin.ok)
 have FM:=Hd (Xpk w0 c gv rv (hin.on B0.o) h0 hF)
 have FLT:=Xdg hin.ok h0
 obtain⟨tx,htx⟩:=xq (Xaq (Xa8 c.p))
 have tz:tx.size≤10000000:=by rw[htx,Xan];exact hF
 have IDV:Hid (idV c.p=Xi4 (bs tx)):=Hd (by unfold idV idF;rw[qP h0,htx,Xci _ FLT])
 rw[←htx] at FM
 obtain⟨cs,hcs⟩:=xq (c.cells gv rv)
 rw[←hcs] at hw0 LD FM⊢
 have HW:=Hd hw0
 have SL:(Xi4 (bs tx)).length=32:=Xbj _
 clear hw0 hcs hin hF C0 htx FLT h0
 go_enter func14,ntmps14
 go_upto_region 1 with fail
 have W':=HW.o
 rw[Z0.o] at W'
 rw[←W']
 clear W' HW
 refine wp_region_list ?_
 simp only[]
 refine Xac 28 rfl _ rfl ⟨_,_,rfl,LD.o,?_⟩
 go_wp2_with fail
 refine FM.o.mono ?_
 rintro e w1 ⟨rfl,hb1⟩
 have B1:=bh B0 hb1
 have R1:Hid (IB w1 (w.heap.size+1) 26 zero32):=Hd (R0.o.below hb1)
 clear hb1 FM LD R0 B0
 obtain⟨cap,w2,cv,hc1,hc2,rd,hb2⟩:=Xm5 w1 tx tz
 have CV:=Hd cv
 have B2:=bg B1.o hb2
 have SH:=Ycz w2 (some ⟨w1.heap.size,0,none⟩) cap (bs tx) rd (by rw[Xaa];exact tz)
 rw[Xaa] at SH
 have SHH:=Hd SH
 have R2:=R1.o.below hb2
 have FIN:Hid (∀w5,Bw w2 w5→Sv 26 ⟨w.heap.size+1,0,none⟩ (.agg (idA (Xi4 (bs tx)))) w5 (w5.setRow (w.heap.size+1) (idA (Xi4 (bs tx))))∧IB (w5.setRow (w.heap.size+1) (idA (Xi4 (bs tx)))) (w.heap.size+1) 26 (Xi4 (bs tx))∧Bw w (w5.setRow (w.heap.size+1) (idA (Xi4 (bs tx))))):=Hd (fun w5 hb=>by
  obtain⟨s1,s2⟩:=(R2.below hb).store (Xi4 (bs tx)) (by rw[SL];simp[zero32]) (by rw[show zero32.length=32 by simp[zero32]];exact Xa3)
  exact⟨s1,s2,below_setRow (bg B2 hb) (Nat.le_succ _) _⟩)
 have SZ2:Hid ((prog.info? 26).map (·.size)=some (idA (Xi4 (bs tx))).size):=Hd (by rw[Xag,SL];exact Xa3)
 obtain⟨rs,hrs⟩:=xq (idA (Xi4 (bs tx)))
 have HRS:Hid (idA (idV c.p)=rs):=Hd (by rw[hrs,IDV.o])
 have HRS2:=Hd hrs
 rw[←hrs] at SHH FIN SZ2
 clear hrs cv hc1 hc2 rd hb2 B2 SH R2 SL
 go_wp2_with ((with_reducible refine Xe5 9 82 rfl _ rfl ?_);refine⟨_,_,_,rfl,CV.o,?_⟩)
 refine SHH.o.mono ?_
 rintro e w5 ⟨rfl,hb5⟩
 obtain⟨f0,f1,f2⟩:=FIN.o w5 hb5
 have F0:=Hd f0;have F1:=Hd f1;have F2:=Hd f2
 clear f0 f1 f2 hb5 FIN SHH CV
 go_wp2_with ((with_reducible refine Xab 26 rfl _ _ rfl ?_);refine⟨_,_,_,rfl,rfl,F0.o,?_⟩)
 have f1:=F1.o
 unfold IB at f1
 rw[←HRS2.o] at f1
 exact zP (results_cell_row results14 _ _ (w.heap.size+1) _ _ _ _ rfl f1 underlying26 rfl SZ2.o) rfl ⟨by rw[HRS.o],F2.o⟩
theorem Ybf (w:World)(a b:Cn)(ga ra gb rb:Value)(ha:CnIn w a ga ra)(hb:CnIn w b gb rb)(hp:a.p=b.p):
    zJ 19 #[.agg (a.cells ga ra),.agg (b.cells gb rb)] w (.bool true):=by
 obtain⟨w0,hw0⟩:=xq ((w.alloc (.cells (a.cells ga ra) 39)).alloc (.cells (b.cells gb rb) 39))
 have B0:Hid (Bw w w0):=Hd (by rw[hw0];exact((zR _ _).alloc (zL _) _).alloc (by simp) _)
 have CA:Hid (∀wx,Dr w0 wx→CB wx w.heap.size a ga ra 39):=Hd (fun wx hd=>by
  have:CB w0 w.heap.size a ga ra 39:=by unfold CB;rw[hw0];exact Xae (heap_alloc_last w _)
  exact this.on (Dr.below hd))
 have CC:Hid (∀wx,Dr w0 wx→CB wx (w.heap.size+1) b gb rb 39):=Hd (fun wx hd=>by
  have:CB w0 (w.heap.size+1) b gb rb 39:=by
   unfold CB;rw[hw0];have:=heap_alloc_last (w.alloc (.cells (a.cells ga ra) 39)) (.cells (b.cells gb rb) 39);rw[World.size_alloc] at this;exact this
  exact this.on (Dr.below hd))
 have SE:Hid (∀wx,Dr w0 wx→Rz 61 #[ga,gb] wx (.bool (decide (a.groups=b.groups)))):=Hd (fun wx hd=>by
  have hB:Bw w wx:=B0.o.trans ((Dr.below hd).mono B0.o.size)
  exact Yg5 wx ga gb _ _ (ha.srow.below hB) (hb.srow.below hB) ha.gl hb.gl)
 have IE:Hid (∀wx,Dr w0 wx→Rz 62 #[ra,rb] wx (.bool (decide (a.refs=b.refs)))):=Hd (fun wx hd=>by
  have hB:Bw w wx:=B0.o.trans ((Dr.below hd).mono B0.o.size)
  exact Yef wx ra rb _ _ (ha.irow.below hB) (hb.irow.below hB) ha.rl hb.rl ha.ok.refs hb.ok.refs)
 have OA:=Hd ha.ok;have OB:=Hd hb.ok
 obtain⟨aa,haa⟩:=xq (idA a.author)
 obtain⟨ab,hab⟩:=xq (idA b.author)
 obtain⟨sa,hsa⟩:=xq (idA a.sup)
 obtain⟨sb,hsb⟩:=xq (idA b.sup)
 obtain⟨pa,hpa⟩:=xq (pkC a.height a.root)
 obtain⟨pb,hpb⟩:=xq (pkC b.height b.root)
 have LAA:Hid (∀wx,Dr w0 wx→Ld 35 ⟨w.heap.size,1,none⟩ wx (.agg aa)):=Hd (fun wx hd=>by rw[haa];exact CB.author (CA.o wx hd) OA.o)
 have LAB:Hid (∀wx,Dr w0 wx→Ld 35 ⟨w.heap.size+1,1,none⟩ wx (.agg ab)):=Hd (fun wx hd=>by rw[hab];exact CB.author (CC.o wx hd) OB.o)
 have LSA:Hid (∀wx,Dr w0 wx→Ld 26 ⟨w.heap.size,21,none⟩ wx (.agg sa)):=Hd (fun wx hd=>by rw[hsa];exact CB.sup (CA.o wx hd) OA.o)
 have LSB:Hid (∀wx,Dr w0 wx→Ld 26 ⟨w.heap.size+1,21,none⟩ wx (.agg sb)):=Hd (fun wx hd=>by rw[hsb];exact CB.sup (CC.o wx hd) OB.o)
 have LPA:Hid (∀wx,Dr w0 wx→Ld 37 ⟨w.heap.size,56,none⟩ wx (.agg pa)):=Hd (fun wx hd=>by rw[hpa];exact CB.pk (CA.o wx hd) OA.o)
 have LPB:Hid (∀wx,Dr w0 wx→Ld 37 ⟨w.heap.size+1,56,none⟩ wx (.agg pb)):=Hd (fun wx hd=>by rw[hpb];exact CB.pk (CC.o wx hd) OB.o)
 have EA:Hid (∀w,(Op.equal 35 (.agg aa) (.agg ab)).run prog w=.ok (decide (a.author=b.author)) w):=Hd (fun w=>by rw[haa,hab];exact Yat w OA.o.author OB.o.author)
 have ES:Hid (∀w,(Op.equal 26 (.agg sa) (.agg sb)).run prog w=.ok (decide (a.sup=b.sup)) w):=Hd (fun w=>by rw[hsa,hsb];exact Xqd w OA.o.sup OB.o.sup)
 have EP:Hid (∀w,(Op.equal 37 (.agg pa) (.agg pb)).run prog w=.ok (decide (a.height=b.height)&&decide (a.root=b.root)) w):=Hd (fun w=>by rw[hpa,hpb];exact Ym0 w OA.o.height OB.o.height OA.o.root OB.o.root)
 obtain⟨cs,hcs⟩:=xq (a.cells ga ra)
 obtain⟨ds,hds⟩:=xq (b.cells gb rb)
 rw[←hcs,←hds] at hw0⊢
 have HW:=Hd hw0
 have D0:Hid (Dr w0 w0):=Hd (Dr.refl w0)
 have PQ:Hid (a.p=b.p↔a.name=b.name∧a.author=b.author∧a.date=b.date∧a.groups=b.groups∧a.subject=b.subject∧a.refs=b.refs∧a.sup=b.sup∧a.ctl=b.ctl∧a.dist=b.dist∧a.number=b.number∧(a.height=b.height∧a.root=b.root)∧a.leaf=b.leaf∧a.body=b.body):=Hd (by
  constructor
  ·intro h
   have h':=h
   unfold Cn.p at h'
   injection h' with h1 h2 h3 h4 h5 h6 h7 h8 h9 h10 h11 h12 h13 h14
   exact⟨Xdt h1,h2,h3,Xze h4,Xdt h5,h6,h7,Xdt h8,Xdt h9,h10,⟨h11,h12⟩,h13,Xdt h14⟩
  ·rintro⟨h1,h2,h3,h4,h5,h6,h7,h8,h9,h10,⟨h11,h12⟩,h13,h14⟩
   unfold Cn.p
   rw[h1,h2,h3,h4,h5,h6,h7,h8,h9,h10,h11,h12,h13,h14])
 obtain⟨h0,h1,h2,h3,h4,h5,h6,h7,h8,h9,h10,h11,h12⟩:=PQ.o.1 hp
 clear haa hab hsa hsb hpa hpb hcs hds hw0 ha hb PQ hp
 go_enter func19,ntmps19
 go_upto_region 1 with fail
 rw[←HW.o]
 clear HW
 simp only[List.append_eq,List.cons_append,List.nil_append]
 have e0:=toList_eq h0
 have e2:=Xr2 h2
 have e4:=toList_eq h4
 have e7:=toList_eq h7
 have e8:=toList_eq h8
 have e9:=Xr2 h9
 have e11:=Xr2 h11
 have e12:=toList_eq h12
 have ca0:=(CA.o _ D0.o).at (Ya9 a ga ra)
 have cb0:=(CC.o _ D0.o).at (Ya9 b gb rb)
 have ca17:=(CA.o _ D0.o).at (Xln OA.o ga ra)
 have cb17:=(CC.o _ D0.o).at (Xln OB.o gb rb)
 have ca18:=(CA.o _ D0.o).at (Xh8 OA.o ga ra)
 have cb18:=(CC.o _ D0.o).at (Xh8 OB.o gb rb)
 go_wp2_with (first
     |((with_reducible refine Xb0 35 _ rfl (by kernel_rfl) ?_);first|(refine⟨_,_,rfl,LAA.o _ D0.o,?_⟩)|(refine⟨_,_,rfl,LAB.o _ D0.o,?_⟩))
     |((with_reducible refine Xe4 35 _ _ rfl (by kernel_rfl) Xp6 ?_);refine⟨_,_,_,rfl,rfl,EA.o _,?_⟩;rw[zT h1])
     |((with_reducible refine Xb0 26 _ rfl (by kernel_rfl) ?_);first|(refine⟨_,_,rfl,LSA.o _ D2.o,?_⟩)|(refine⟨_,_,rfl,LSB.o _ D2.o,?_⟩))
     |((with_reducible refine Xe4 26 _ _ rfl (by kernel_rfl) Xeo ?_);refine⟨_,_,_,rfl,rfl,ES.o _,?_⟩;rw[zT h6])
     |((with_reducible refine Xb0 37 _ rfl (by kernel_rfl) ?_);first|(refine⟨_,_,rfl,LPA.o _ D2.o,?_⟩)|(refine⟨_,_,rfl,LPB.o _ D2.o,?_⟩))
     |((with_reducible refine Xe4 37 _ _ rfl (by kernel_rfl) Yei ?_);refine⟨_,_,_,rfl,rfl,EP.o _,?_⟩;rw[zT h10.1,zT h10.2])
     |(go_at_call 61;refine(SE.o _ D0.o).mono ?_;rintro e w1 ⟨rfl,hd⟩;have D1:=Hd (Xmb D0.o hd);clear hd;rw[zT h3];have ca19:=(CA.o _ D1.o).at (Xlm OA.o ga ra);have cb19:=(CC.o _ D1.o).at (Xlm OB.o gb rb);have ca20:=(CA.o _ D1.o).at (Xh7 OA.o ga ra);have cb20:=(CC.o _ D1.o).at (Xh7 OB.o gb rb))
     |(go_at_call 62;refine(IE.o _ D1.o).mono ?_;rintro e w2 ⟨rfl,hd⟩;have D2:=Hd (Xmb D1.o hd);clear hd;rw[zT h5];have ca53:=(CA.o _ D2.o).at (Xjn OA.o ga ra);have cb53:=(CC.o _ D2.o).at (Xjn OB.o gb rb);have ca54:=(CA.o _ D2.o).at (Xll OA.o ga ra);have cb54:=(CC.o _ D2.o).at (Xll OB.o gb rb);have ca55:=(CA.o _ D2.o).at (Xjm OA.o ga ra);have cb55:=(CC.o _ D2.o).at (Xjm OB.o gb rb);have ca73:=(CA.o _ D2.o).at (Xh6 OA.o ga ra);have cb73:=(CC.o _ D2.o).at (Xh6 OB.o gb rb);have ca74:=(CA.o _ D2.o).at (Xjl OA.o ga ra);have cb74:=(CC.o _ D2.o).at (Xjl OB.o gb rb)))
 go_ret
 refine⟨rfl,?_⟩
 exact B0.o.trans ((Dr.below D2.o).mono B0.o.size)
theorem Yc0 (w:World)(a b:Cn)(ga ra gb rb:Value)(ha:CnIn w a ga ra)(hb:CnIn w b gb rb)(hp:a.p=b.p):
    zJ 17 #[.agg (a.cells ga ra),.agg (b.cells gb rb)] w (.bool true):=by
 obtain⟨w0,hw0⟩:=xq ((w.alloc (.cells (a.cells ga ra) 28)).alloc (.cells (b.cells gb rb) 28))
 have B0:Hid (Bw w w0):=Hd (by rw[hw0];exact((zR _ _).alloc (zL _) _).alloc (by simp) _)
 have CA:Hid (∀wx,Dr w0 wx→CB wx w.heap.size a ga ra 28):=Hd (fun wx hd=>by
  have:CB w0 w.heap.size a ga ra 28:=by unfold CB;rw[hw0];exact Xae (heap_alloc_last w _)
  exact this.on (Dr.below hd))
 have CC:Hid (∀wx,Dr w0 wx→CB wx (w.heap.size+1) b gb rb 28):=Hd (fun wx hd=>by
  have:CB w0 (w.heap.size+1) b gb rb 28:=by
   unfold CB;rw[hw0];have:=heap_alloc_last (w.alloc (.cells (a.cells ga ra) 28)) (.cells (b.cells gb rb) 28);rw[World.size_alloc] at this;exact this
  exact this.on (Dr.below hd))
 have OA:=Hd ha.ok;have OB:=Hd hb.ok
 have SA:=ha.srow.below B0.o
 have SB:=hb.srow.below B0.o
 have IA:=ha.irow.below B0.o
 have IB':=hb.irow.below B0.o
 have gla:=ha.gl;have glb:=hb.gl;have rla:=ha.rl;have rlb:=hb.rl
 obtain⟨aa,haa⟩:=xq (idA a.author)
 obtain⟨ab,hab⟩:=xq (idA b.author)
 obtain⟨sa,hsa⟩:=xq (idA a.sup)
 obtain⟨sb,hsb⟩:=xq (idA b.sup)
 obtain⟨pa,hpa⟩:=xq (idA a.root)
 obtain⟨pb,hpb⟩:=xq (idA b.root)
 have D0:Hid (Dr w0 w0):=Hd (Dr.refl w0)
 have LAA:Hid (Ld 22 ⟨w.heap.size,1,none⟩ w0 (.agg aa)):=Hd (by rw[haa];exact CB.author16 (CA.o w0 D0.o) OA.o)
 have LAB:Hid (Ld 22 ⟨w.heap.size+1,1,none⟩ w0 (.agg ab)):=Hd (by rw[hab];exact CB.author16 (CC.o w0 D0.o) OB.o)
 have LSA:Hid (Ld 26 ⟨w.heap.size,21,none⟩ w0 (.agg sa)):=Hd (by rw[hsa];exact CB.sup (CA.o w0 D0.o) OA.o)
 have LSB:Hid (Ld 26 ⟨w.heap.size+1,21,none⟩ w0 (.agg sb)):=Hd (by rw[hsb];exact CB.sup (CC.o w0 D0.o) OB.o)
 have LPA:Hid (Ld 22 ⟨w.heap.size,57,none⟩ w0 (.agg pa)):=Hd (by rw[hpa];exact CB.root16 (CA.o w0 D0.o) OA.o)
 have LPB:Hid (Ld 22 ⟨w.heap.size+1,57,none⟩ w0 (.agg pb)):=Hd (by rw[hpb];exact CB.root16 (CC.o w0 D0.o) OB.o)
 have EA:Hid (∀w,(Op.equal 22 (.agg aa) (.agg ab)).run prog w=.ok (decide (a.author=b.author)) w):=Hd (fun w=>by rw[haa,hab];exact Ygf w OA.o.author OB.o.author)
 have ES:Hid (∀w,(Op.equal 26 (.agg sa) (.agg sb)).run prog w=.ok (decide (a.sup=b.sup)) w):=Hd (fun w=>by rw[hsa,hsb];exact Xqd w OA.o.sup OB.o.sup)
 have EP:Hid (∀w,(Op.equal 22 (.agg pa) (.agg pb)).run prog w=.ok (decide (a.root=b.root)) w):=Hd (fun w=>by rw[hpa,hpb];exact Ygf w OA.o.root OB.o.root)
 obtain⟨cs,hcs⟩:=xq (a.cells ga ra)
 obtain⟨ds,hds⟩:=xq (b.cells gb rb)
 rw[←hcs,←hds] at hw0⊢
 have HW:=Hd hw0
 have PQ:Hid (a.p=b.p↔a.name=b.name∧a.author=b.author∧a.date=b.date∧a.subject=b.subject∧a.sup=b.sup∧a.ctl=b.ctl∧a.dist=b.dist∧a.number=b.number∧a.height=b.height∧a.root=b.root∧a.leaf=b.leaf∧a.body=b.body∧a.groups=b.groups∧a.refs=b.refs):=Hd (by
  constructor
  ·intro h
   have h':=h
   unfold Cn.p at h'
   injection h' with h1 h2 h3 h4 h5 h6 h7 h8 h9 h10 h11 h12 h13 h14
   exact⟨Xdt h1,h2,h3,Xdt h5,h7,Xdt h8,Xdt h9,h10,h11,h12,h13,Xdt h14,Xze h4,h6⟩
  ·rintro⟨h1,h2,h3,h5,h7,h8,h9,h10,h11,h12,h13,h14,h4,h6⟩
   unfold Cn.p
   rw[h1,h2,h3,h4,h5,h6,h7,h8,h9,h10,h11,h12,h13,h14])
 obtain⟨h0,h1,h2,h3,h4,h5,h6,h7,h8,h9,h10,h11,hgr,hre⟩:=PQ.o.1 hp
 clear haa hab hsa hsb hpa hpb hcs hds hw0 ha hb PQ hp
 obtain⟨xa,xc,rfl,hxc,rxa⟩:=SA
 obtain⟨xb,xd,rfl,hxd,rxb⟩:=SB
 obtain⟨ya,yc,rfl,hyc,rya⟩:=IA
 obtain⟨yb,yd,rfl,hyd,ryb⟩:=IB'
 obtain⟨n1,hn1⟩:=xq a.groups.length
 obtain⟨n2,hn2⟩:=xq b.groups.length
 obtain⟨m1,hm1⟩:=xq a.refs.length
 obtain⟨m2,hm2⟩:=xq b.refs.length
 rw[←hn1] at CA gla
 rw[←hn2] at CC glb
 rw[←hm1] at CA rla
 rw[←hm2] at CC rlb
 have HN1:=Hd hn1;have HN2:=Hd hn2;have HM1:=Hd hm1;have HM2:=Hd hm2
 have RXA:=Hd rxa;have RXB:=Hd rxb;have RYA:=Hd rya;have RYB:=Hd ryb
 have h12:n1=n2:=by rw[hn1,hn2,hgr]
 have h13:m1=m2:=by rw[hm1,hm2,hre]
 have HGR:=Hd hgr;have HRE:=Hd hre
 clear hn1 hn2 hm1 hm2 rxa rxb rya ryb hxc hxd hyc hyd hgr hre
 go_enter func17,ntmps17
 go_upto_region 1 with fail
 rw[←HW.o]
 clear HW
 simp only[List.append_eq,List.cons_append,List.nil_append]
 have e0:=toList_eq h0
 have e2:=Xgc h2
 have e3:=toList_eq h3
 have e5:=toList_eq h5
 have e6:=toList_eq h6
 have e7:=Xgc h7
 have e8:=Xgc h8
 have e10:=Xgc h10
 have e11:=toList_eq h11
 have e12:(((n1:Nat):Int) !=((n2:Nat):Int))=false:=Xgc (by omega)
 have e13:(((m1:Nat):Int) !=((m2:Nat):Int))=false:=Xgc (by omega)
 have ca0:=(CA.o _ D0.o).at (Ya9 a _ _)
 have cb0:=(CC.o _ D0.o).at (Ya9 b _ _)
 have ca17:=(CA.o _ D0.o).at (Xln OA.o _ _)
 have cb17:=(CC.o _ D0.o).at (Xln OB.o _ _)
 have ca19:=(CA.o _ D0.o).at (Xlm OA.o _ _)
 have cb19:=(CC.o _ D0.o).at (Xlm OB.o _ _)
 have ca53:=(CA.o _ D0.o).at (Xjn OA.o _ _)
 have cb53:=(CC.o _ D0.o).at (Xjn OB.o _ _)
 have ca54:=(CA.o _ D0.o).at (Xll OA.o _ _)
 have cb54:=(CC.o _ D0.o).at (Xll OB.o _ _)
 have ca55:=(CA.o _ D0.o).at (Xjm OA.o _ _)
 have cb55:=(CC.o _ D0.o).at (Xjm OB.o _ _)
 have ca56:=(CA.o _ D0.o).at (Xst OA.o _ _)
 have cb56:=(CC.o _ D0.o).at (Xst OB.o _ _)
 have ca73:=(CA.o _ D0.o).at (Xh6 OA.o _ _)
 have cb73:=(CC.o _ D0.o).at (Xh6 OB.o _ _)
 have ca74:=(CA.o _ D0.o).at (Xjl OA.o _ _)
 have cb74:=(CC.o _ D0.o).at (Xjl OB.o _ _)
 have ca18:=(CA.o _ D0.o).at (Xh8 OA.o _ _)
 have cb18:=(CC.o _ D0.o).at (Xh8 OB.o _ _)
 have ca20:=(CA.o _ D0.o).at (Xh7 OA.o _ _)
 have cb20:=(CC.o _ D0.o).at (Xh7 OB.o _ _)
 go_upto_region 3 with(first
     |((with_reducible refine Xb0 22 _ rfl (by kernel_rfl) ?_);first|(refine⟨_,_,rfl,LAA.o,?_⟩)|(refine⟨_,_,rfl,LAB.o,?_⟩)|(refine⟨_,_,rfl,LPA.o,?_⟩)|(refine⟨_,_,rfl,LPB.o,?_⟩))
     |((with_reducible refine Xgy 22 _ _ rfl (by kernel_rfl) Yab ?_);first|(refine⟨_,_,_,rfl,rfl,EA.o _,?_⟩;rw[zT h1])|(refine⟨_,_,_,rfl,rfl,EP.o _,?_⟩;rw[zT h9]))
     |((with_reducible refine Xb0 26 _ rfl (by kernel_rfl) ?_);first|(refine⟨_,_,rfl,LSA.o,?_⟩)|(refine⟨_,_,rfl,LSB.o,?_⟩))
     |((with_reducible refine Xgy 26 _ _ rfl (by kernel_rfl) Xeo ?_);refine⟨_,_,_,rfl,rfl,ES.o _,?_⟩;rw[zT h4]))
 clear e0 e2 e3 e5 e6 e7 e8 e10 e11 e12 e13 ca0 cb0 ca17 cb17 ca19 cb19 ca53 cb53 ca54 cb54 ca55 cb55 ca56 cb56 ca73 cb73 ca74 cb74 ca18 cb18 ca20 cb20
 clear LAA LAB LSA LSB LPA LPB EA ES EP
 clear h0 h1 h2 h3 h4 h5 h6 h7 h8 h9 h10 h11
 have H12:=Hd h12;have H13:=Hd h13
 clear h12 h13
 go_wp2_with fail
 go_loopg [5] n1 (fun k i wr=>∃j:Nat,j≤n1∧k=n1-j∧i=.int .i64 (j:Int)∧Hid (∀q (h:q<a.groups.length) (h':q<b.groups.length),q<j→a.groups[q]=b.groups[q])∧Hid (Dr w0 wr))
 case atStart=>exact⟨0,by omega,rfl,rfl,Hd (fun q _ _ hq=>by omega),D0⟩
 case round=>
  obtain⟨j,hj,rfl,rfl,hg,hdr⟩:=hrel
  have ca18:=(CA.o _ hdr.o).at (Xh8 OA.o _ _)
  have cb18:=(CC.o _ hdr.o).at (Xh8 OB.o _ _)
  by_cases hlt:j<n1
  ·have hl1:j<a.groups.length:=by rw[←HN1.o];exact hlt
   have hl2:j<b.groups.length:=by rw[←HN2.o,←H12.o];exact hlt
   obtain⟨b1,f1,rfl,_,q1⟩:=RXA.o (fun e=>by rw[e] at hl1;simp at hl1)
   obtain⟨b2,f2,rfl,_,q2⟩:=RXB.o (fun e=>by rw[e] at hl2;simp at hl2)
   have hlt2:j<n2:=by have:=H12.o;omega
   obtain⟨x1,hx1⟩:=xq (a.groups[j])
   obtain⟨x2,hx2⟩:=xq (b.groups[j])
   have k1:wr.cell? ⟨b1,f1+j,none⟩=some (.string x1):=by obtain⟨p,hp⟩:=hdr.o;rw[hp,hx1];exact q1 j hl1
   have k2:wr.cell? ⟨b2,f2+j,none⟩=some (.string x2):=by obtain⟨p,hp⟩:=hdr.o;rw[hp,hx2];exact q2 j hl2
   have HX1:=Hd hx1;have HX2:=Hd hx2
   clear hx1 hx2 q1 q2
   by_cases hx:x1=x2
   ·have G2:Hid (∀q (h:q<a.groups.length) (h':q<b.groups.length),q<j+1→a.groups[q]=b.groups[q]):=Hd (fun q h h' hq=>by
       by_cases e:q=j
       ·subst e;rw[←HX1.o,←HX2.o];exact hx
       ·exact hg.o q h h' (by omega))
    have e:=toList_eq hx
    clear HX1 HX2 hx hg hl1 hl2
    go_upto_region 6 with fail
    go_quiet (fail)
    go_wp2_with fail
    go_roundg (n1-(j+1))
    case measure=>omega
    case rel=>exact⟨j+1,by omega,rfl,by go_num,G2,Hd (Xmb hdr.o ⟨nq,rfl⟩)⟩
   ·exact absurd (by rw[HX1.o,HX2.o];simp only[HGR.o]) hx
  ·obtain rfl:j=n1:=by omega
   clear hg
   go_wp2_with fail
   have D1:=hdr
   clear hdr ca18 cb18
   go_loopg [6] m1 (fun k i wq=>∃j:Nat,j≤m1∧k=m1-j∧i=.int .i64 (j:Int)∧Hid (∀q (h:q<a.refs.length) (h':q<b.refs.length),q<j→a.refs[q]=b.refs[q])∧Hid (Dr w0 wq))
   case atStart=>exact⟨0,by omega,rfl,rfl,Hd (fun q _ _ hq=>by omega),D1⟩
   case round=>
    clear D1
    obtain⟨j2,hj2,rfl,rfl,hg,hdr⟩:=hrel
    have ca20:=(CA.o _ hdr.o).at (Xh7 OA.o _ _)
    have cb20:=(CC.o _ hdr.o).at (Xh7 OB.o _ _)
    by_cases hlt2:j2<m1
    ·have hl1:j2<a.refs.length:=by rw[←HM1.o];exact hlt2
     have hl2:j2<b.refs.length:=by rw[←HM2.o,←H13.o];exact hlt2
     obtain⟨b1,f1,rfl,_,q1⟩:=RYA.o (fun e=>by rw[e] at hl1;simp at hl1)
     obtain⟨b2,f2,rfl,_,q2⟩:=RYB.o (fun e=>by rw[e] at hl2;simp at hl2)
     have hlt3:j2<m2:=by have:=H13.o;omega
     have ok1:=OA.o.refs _ (zG hl1)
     have ok2:=OB.o.refs _ (zG hl2)
     have CAQ:Hid (∀q,(wr.drewN q).cell? ⟨w.heap.size,20,none⟩=wr.cell? ⟨w.heap.size,20,none⟩):=Hd (fun q=>rfl)
     have LD1:Hid (∀q,Ld 26 ⟨b1,f1+j2*32,none⟩ (wr.drewN q) (.agg (idA a.refs[j2]))):=Hd (fun q=>by
      obtain⟨p,hp⟩:=hdr.o
      rw[hp]
      exact Xah _ b1 (f1+j2*32) 26 _ _ underlying26 rfl (by rw[Xag,ok1.len];exact Xa3) (fun k u hu=>q1 j2 hl1 k u hu))
     have LD2:Hid (∀q,Ld 26 ⟨b2,f2+j2*32,none⟩ (wr.drewN q) (.agg (idA b.refs[j2]))):=Hd (fun q=>by
      obtain⟨p,hp⟩:=hdr.o
      rw[hp]
      exact Xah _ b2 (f2+j2*32) 26 _ _ underlying26 rfl (by rw[Xag,ok2.len];exact Xa3) (fun k u hu=>q2 j2 hl2 k u hu))
     have EQ:Hid (∀w,(Op.equal 26 (.agg (idA a.refs[j2])) (.agg (idA b.refs[j2]))).run prog w=.ok (decide (a.refs[j2]=b.refs[j2])) w):=Hd (fun w=>Xqd w ok1 ok2)
     obtain⟨x1,hx1⟩:=xq (idA a.refs[j2])
     obtain⟨x2,hx2⟩:=xq (idA b.refs[j2])
     obtain⟨r,hr⟩:=xq (decide (a.refs[j2]=b.refs[j2]))
     rw[←hx1] at LD1 EQ
     rw[←hx2] at LD2 EQ
     rw[←hr] at EQ
     have HR:=Hd hr
     clear hx1 hx2 hr ok1 ok2 q1 q2
     go_upto_region 11 with fail
     refine wp_region_quiet_lit (by kernel_rfl) (by kernel_rfl) ?_
     quiet_step (fail)
     quiet_step (fail)
     quiet_step (fail)
     quiet_step (fail)
     refine Xc0 26 rfl _ rfl ⟨_,.agg x1,rfl,?_,?_⟩
     ·rintro w2 ⟨q,rfl⟩
      exact LD1.o q
     quiet_step (fail)
     quiet_step (fail)
     quiet_step (fail)
     quiet_step (fail)
     refine Xc0 26 rfl _ rfl ⟨_,.agg x2,rfl,?_,?_⟩
     ·rintro w2 ⟨q,rfl⟩
      exact LD2.o q
     refine Xj5 26 rfl _ _ rfl Xeo ⟨_,_,_,rfl,rfl,EQ.o,?_⟩
     refine wpQuiet_nil ?_
     rintro _ ⟨nq,rfl⟩
     clear LD1 LD2 EQ
     cases r
     ·exact absurd (by simp only[HRE.o]) (of_decide_eq_false HR.o.symm)
     ·have G2:Hid (∀q (h:q<a.refs.length) (h':q<b.refs.length),q<j2+1→a.refs[q]=b.refs[q]):=Hd (fun q h h' hq=>by
         by_cases e:q=j2
         ·subst e;exact of_decide_eq_true HR.o.symm
         ·exact hg.o q h h' (by omega))
      clear HR hl1 hl2 hg
      go_wp2_with fail
      go_roundg (m1-(j2+1))
      case measure=>omega
      case rel=>exact⟨j2+1,by omega,rfl,by go_num,G2,Hd (Xmb hdr.o ⟨nq,rfl⟩)⟩
    ·obtain rfl:j2=m1:=by omega
     clear hg
     go_wp2_with fail
     go_ret
     exact⟨rfl,B0.o.trans ((Dr.below hdr.o).mono B0.o.size)⟩
end Go.Proofs.YtjolcnopipbkhaaGreatDoor
