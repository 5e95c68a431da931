/- CanonicalParse. -/
import Derived.Test.YtohmdledkhgdaaaGreatDoorPa38
namespace Go.Proofs.YtohmdledkhgdaaaGreatDoor
open Go.RowKit
set_option linter.unusedVariables false
set_option maxRecDepth 100000
theorem Ycl (w:World):(Instr.build 28 #[]).run Tryz.prog w=.ok (.agg (cn0.cells (.slice none 0 0) (.slice none 0 0))) w:=by kernel_rfl
set_option maxHeartbeats 100000000 in
theorem Yhp (w:World) (s:ByteArray) (c:Cn) (gv rv:Value) (hs:s.size≤maxLen) (ha:CnArg w c gv rv) (hE:Env w):
    Calls Tryz.prog 5 #[.string s,.agg (c.cells gv rv)] w fun e w'=>e=.returned (.bool true)∧Below w.heap.size w w':=by
 obtain⟨w0,hw0⟩:∃w0,w0=w.alloc (.cells (c.cells gv rv) 28):=⟨_,rfl⟩
 have B0:Below w.heap.size w w0:=by rw[hw0];exact(Below.refl _ _).alloc (Nat.le_refl _) _
 have C0:CB w0 w.heap.size c gv rv 28:=by rw[hw0];exact CB.new w c gv rv _
 have U:∀wx,Below w0.heap.size w0 wx→Below w.heap.size w wx:=fun wx h=>B0.trans (h.mono B0.size)
 have ok:=ha.ok
 obtain⟨ca,hca⟩:∃x,x=c.cells gv rv:=⟨_,rfl⟩
 obtain⟨k,hk⟩:∃k,k=Xc3 c.p:=⟨_,rfl⟩
 obtain⟨F,hF⟩:∃F,F=Xaq (Xbd c.p):=⟨_,rfl⟩
 have LA:Hid (∀wx,Below w0.heap.size w0 wx→(loadVar 28 ⟨w.heap.size,0,none⟩).run Tryz.prog wx=.ok (.agg ca) wx):=Hd (fun wx h=>by rw[hca];exact CB.allR (C0.on h) ok)
 have KN:Hid (∀wx,Below w0.heap.size w0 wx→Calls Tryz.prog 7 #[] wx fun e w'=>e=.returned (.bool true)∧Below wx.heap.size wx w'):=Hd (fun wx h=>Xxo wx (hE.on (U wx h)))
 have FA:Hid (∀wx,Below w0.heap.size w0 wx→Calls Tryz.prog 8 #[.agg ca] wx (Ykb c wx)):=Hd (fun wx h=>by rw[hca];exact Xxf wx c gv rv (ha.on (U wx h)))
 have RC:Hid (FitsP c→∀wx,Below w0.heap.size w0 wx→Calls Tryz.prog 18 #[.agg ca] wx fun e w'=>e=.returned (.int .i64 (k:Int))∧Below wx.heap.size wx w'):=Hd (fun f wx h=>by rw[hca,hk];exact Xh8 wx c gv rv (f.inn (ha.on (U wx h))))
 have RF:Hid (FitsP c→k=0→∀wx,Below w0.heap.size w0 wx→Calls Tryz.prog 14 #[.agg ca] wx fun e w'=>e=.returned (.string F)∧Below wx.heap.size wx w'):=Hd (fun f h0 wx h=>by
  rw[hk] at h0
  rw[hca,hF];exact Xwo wx c gv rv (f.inn (ha.on (U wx h))) h0 (Xx5 ok f h0))
 have PA:Hid (s.size≤6000→∀wx,Below w0.heap.size w0 wx→Calls Tryz.prog 22 #[.string s] wx (Xex s wx)):=Hd (fun h6 wx h=>Xpc s wx (by omega) (hE.on (U wx h)))
 have ENV:Hid (∀wx,Below w0.heap.size w0 wx→Env wx):=Hd (fun wx h=>hE.on (U wx h))
 have NE:Hid ((∀cn:Cn,cn.Ok→Xc3 cn.p=0→Xbd cn.p≠bs s)→k=0→(F.toList==s.toList)=false):=Hd (fun h h0=>by
  rw[hk] at h0
  rw[beq_eq_false_iff_ne,ByteArray.toList_eq,ByteArray.toList_eq]
  intro e
  have e2:F=s:=ByteArray.ext (Array.toList_inj.1 e)
  refine h c ok h0 ?_
  rw[←e2,hF,Xc1 _ (Xfw ok h0)])
 have UB:Hid (∀wx,Below w0.heap.size w0 wx→Below w.heap.size w wx):=Hd U
 rw[←hca] at hw0⊢
 have HW:=Hd hw0
 have D0:Hid (Below w0.heap.size w0 w0):=Hd (Below.refl _ _)
 clear hw0 B0 C0 U hca hk hF ok ha hE
 unfold maxLen at hs
 go_enter Tryz.func5,Tryz.ntmps5
 go_upto_region 1 with fail
 rw[←HW.out]
 clear HW
 go_wp2_with fail
 refine(KN.out w0 D0.out).mono ?_
 rintro e w1 ⟨rfl,hb⟩
 have D1:=Hd (D0.out.trans (hb.mono D0.out.size))
 clear hb
 go_wp2_with ((with_reducible refine Xah 28 _ rfl (by kernel_rfl) ?_);refine⟨_,_,rfl,LA.out w1 D1.out,?_⟩)
 refine(FA.out w1 D1.out).mono ?_
 rintro e w2 ⟨⟨b1,rfl,hf1⟩,hb⟩
 have D2:=Hd (D1.out.trans (hb.mono D1.out.size))
 have HF1:=Hd hf1
 clear hb hf1
 cases b1 with
 |false=>
  go_wp2_with fail
  refine(KN.out w2 D2.out).mono ?_
  rintro e w3 ⟨rfl,hb⟩
  have FIN:=Hd (UB.out _ (D2.out.trans (hb.mono D2.out.size)))
  clear hb
  go_wp2_with fail
  go_ret
  exact⟨rfl,FIN.out⟩
 |true=>
 have f:=HF1.out.1 (by simp)
 replace RC:=Hd (RC.out f);replace RF:=Hd (RF.out f)
 clear f HF1 FA D0 D1
 by_cases h6:6000<s.size
 ·go_wp2_with fail
  refine(KN.out w2 D2.out).mono ?_
  rintro e w3 ⟨rfl,hb⟩
  have FIN:=Hd (UB.out _ (D2.out.trans (hb.mono D2.out.size)))
  clear hb
  go_wp2_with fail
  go_ret
  exact⟨rfl,FIN.out⟩
 have PA2:=Hd (PA.out (by omega) w2 D2.out)
 clear KN PA
 go_wp2_with fail
 refine PA2.out.mono ?_
 rintro e w3 ⟨d,g1,r1,z,rfl,hin,hcase,hb3⟩
 obtain⟨ds,hds⟩:∃x,x=d.cells g1 r1:=⟨_,rfl⟩
 obtain⟨w4,hw4⟩:∃w4,w4=w3.alloc (.cells ds 37):=⟨_,rfl⟩
 have DSZ:Hid (ds.size=75):=Hd (by rw[hds];exact Xb1 hin.ok _ _)
 have ONE:ds.all (·.oneCell')=true:=by
  rw[hds]
  obtain⟨_,_,e1,_⟩:=hin.srow
  obtain⟨_,_,e2,_⟩:=hin.irow
  exact Xc0 _ _ _ (by rw[e1];rfl) (by rw[e2];rfl)
 have STN:Hid ((storeVar 37 ⟨w3.heap.size,0,none⟩ (.agg ds)).run Tryz.prog (w3.alloc (.cells (Tryz.zeroCells37) 37))=.ok () w4):=Hd (by
  rw[hw4]
  exact run_storeVar_new w3 37 _ ds (by rw[DSZ.out];exact Xb3) (by rw[DSZ.out];kernel_rfl) ONE)
 have hb4:Below w3.heap.size w3 w4:=by rw[hw4];exact(Below.refl _ _).alloc (Nat.le_refl _) _
 have D3:=D2.out.trans (hb3.mono D2.out.size)
 have D4:=Hd (D3.trans (hb4.mono D3.size))
 have Q4:w4.heap[w3.heap.size]?=some (.cells ds 37 (0,0)):=by rw[hw4];exact heap_alloc_last w3 _
 obtain⟨g,hg⟩:∃g,g=w3.heap.size:=⟨_,rfl⟩
 have LD:Hid (∀wx,Below w4.heap.size w4 wx→(loadVar 37 ⟨g,0,none⟩).run Tryz.prog wx=.ok (.agg ds) wx):=Hd (fun wx h=>run_loadVar_row wx g _ 37 _ _ _ (by rw[hg];exact(h.block _ (lt_of_block Q4)).trans Q4) Tryz.underlying37 rfl (by rw[DSZ.out];exact Xb3))
 have HIN:=Hd (hin.on hb4)
 have BK:Hid (∀wx,Calls Tryz.prog 16 #[.agg ds] wx fun e w'=>e=.returned (.agg ds)∧Below wx.heap.size wx w'):=Hd (fun wx=>by
  rw[hds]
  obtain⟨_,_,e1,_⟩:=hin.srow
  obtain⟨_,_,e2,_⟩:=hin.irow
  rw[e1,e2]
  exact Ycr wx d hin.ok _ _ _ _ _ _)
 have HDS:=Hd hds
 have HCASE:=Hd hcase
 rw[←hds]
 clear PA2 hin hcase hds hb3 hb4 D3 Q4 ONE hw4 D2 DSZ
 go_upto_region 4 with((with_reducible refine Xab 37 rfl _ _ rfl ?_);refine⟨_,_,_,rfl,rfl,STN.out,?_⟩)
 rw[←hg]
 clear STN hg
 rcases HCASE.out with⟨rfl,h0,hS⟩|⟨rfl,rfl,rfl,rfl,hNOT⟩
 ·have FMX:Hid (Calls Tryz.prog 19 #[.agg ds] w4 fun e w'=>e=.returned (.tuple #[.string s,.int .i64 0])∧Below w4.heap.size w4 w'):=Hd (by
     have:=Xiy w4 d g1 r1 HIN.out (fun _=>by
      have e:=congrArg ByteArray.size hS
      rw[Xan] at e;omega) (ENV.out w4 D4.out)
     unfold Ycz at this
     rw[h0,if_pos rfl,hS,←HDS.out] at this
     exact this)
  have RC2:Hid (∀wx,Below w4.heap.size w4 wx→Calls Tryz.prog 18 #[.agg ds] wx fun e w'=>e=.returned (.int .i64 0)∧Below wx.heap.size wx w'):=Hd (fun wx h=>by
   have:=Xh8 wx d g1 r1 (HIN.out.on h)
   rw[h0,←HDS.out] at this
   exact this)
  have LD4:=Hd (LD.out w4 (Below.refl _ _))
  have qs:(s.toList==s.toList)=true:=beq_self_eq_true _
  clear HCASE h0 hS RC RF NE LA
  go_wp2_with ((with_reducible refine Xac 37 rfl _ rfl ?_);refine⟨_,_,rfl,LD4.out,?_⟩)
  refine FMX.out.mono ?_
  rintro e w5 ⟨rfl,hb⟩
  have E5:Hid (Below w4.heap.size w4 w5):=Hd hb
  clear hb FMX LD4
  have LD5:=Hd (LD.out w5 E5.out)
  go_wp2_with ((with_reducible refine Xah 37 _ rfl (by kernel_rfl) ?_);refine⟨_,_,rfl,LD5.out,?_⟩)
  refine(BK.out w5).mono ?_
  rintro e w6 ⟨rfl,hb⟩
  have E6:=Hd (E5.out.trans (hb.mono E5.out.size))
  clear hb LD5 BK E5
  go_wp2_with fail
  refine(RC2.out w6 E6.out).mono ?_
  rintro e w7 ⟨rfl,hb⟩
  have FIN:=Hd (UB.out _ (D4.out.trans ((E6.out.trans (hb.mono E6.out.size)).mono D4.out.size)))
  clear hb RC2
  go_wp2_with fail
  go_ret
  exact⟨rfl,FIN.out⟩
 ·have SM:Hid (∀wx,Below w4.heap.size w4 wx→Calls Tryz.prog 13 #[.agg ds,.agg ds] wx fun e w'=>e=.returned (.bool true)∧Below wx.heap.size wx w'):=Hd (fun wx h=>by
     have:=Xwf wx cn0 cn0 _ _ _ _ (HIN.out.on h) (HIN.out.on h)
     rw[decide_eq_true rfl,←HDS.out] at this
     exact this)
  have BZ:Hid (∀(o:Oper) (a:Act) (w:World),o.op=.build 28 #[]→(execOp a.eval o).run Tryz.prog w=.ok (.value (.agg ds)) w):=Hd (fun o a w ho=>by
   rw[HDS.out];exact Xcr (ps:=#[]) ho (by simpa using Ycl w))
  have LD4:=Hd (LD.out w4 (Below.refl _ _))
  have HN:=Hd hNOT
  clear HCASE hNOT ENV HIN
  go_wp2_with ((with_reducible refine Xah 37 _ rfl (by kernel_rfl) ?_);refine⟨_,_,rfl,LD4.out,?_⟩)
  refine(BK.out w4).mono ?_
  rintro e w5 ⟨rfl,hb⟩
  have E5:Hid (Below w4.heap.size w4 w5):=Hd hb
  clear hb LD4 BK
  go_wp2_with (with_reducible refine Xgh (by kernel_rfl) (BZ.out _ _ _ rfl) ?_)
  refine(SM.out w5 E5.out).mono ?_
  rintro e w6 ⟨rfl,hb⟩
  have D6:=Hd (D4.out.trans ((E5.out.trans (hb.mono E5.out.size)).mono D4.out.size))
  clear hb SM BZ E5 LD D4 HDS
  have LA6:=Hd (LA.out w6 D6.out)
  go_wp2_with ((with_reducible refine Xac 28 rfl _ rfl ?_);refine⟨_,_,rfl,LA6.out,?_⟩)
  refine(RC.out w6 D6.out).mono ?_
  rintro e w7 ⟨rfl,hb⟩
  have D7:=Hd (D6.out.trans (hb.mono D6.out.size))
  clear hb RC LA6 D6
  by_cases hk0:k=0
  ·have q1:((k:Int) !=0)=false:=Xat (by omega)
   have q2:=NE.out HN.out hk0
   have RF2:=Hd (RF.out hk0)
   have LA7:=Hd (LA.out w7 D7.out)
   clear RF NE HN hk0
   go_wp2_with ((with_reducible refine Xah 28 _ rfl (by kernel_rfl) ?_);refine⟨_,_,rfl,LA7.out,?_⟩)
   refine(RF2.out w7 D7.out).mono ?_
   rintro e w8 ⟨rfl,hb⟩
   have FIN:=Hd (UB.out _ (D7.out.trans (hb.mono D7.out.size)))
   clear hb RF2
   go_wp2_with fail
   go_ret
   exact⟨rfl,FIN.out⟩
  ·have q1:((k:Int) !=0)=true:=Xam (by omega)
   have FIN:=Hd (UB.out _ D7.out)
   clear RF NE HN hk0
   go_wp2_with fail
   go_ret
   exact⟨rfl,FIN.out⟩
end Go.Proofs.YtohmdledkhgdaaaGreatDoor
