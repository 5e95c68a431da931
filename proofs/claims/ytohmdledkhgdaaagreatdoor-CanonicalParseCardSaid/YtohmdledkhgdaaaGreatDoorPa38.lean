/- bulletinref18.control. -/
import Derived.Test.YtohmdledkhgdaaaGreatDoorPa37
namespace Go.Proofs.YtohmdledkhgdaaaGreatDoor
open Go.RowKit
set_option linter.unusedVariables false
set_option maxRecDepth 100000
theorem Xoq:Tryz.prog.eqGuardType Tryz.prog.depth 26=false:=by kernel_rfl
theorem str_ctl {s:ByteArray}:(bs s=[])↔s.size=0:=by rw[←List.length_eq_zero_iff,Xaa]
set_option maxHeartbeats 4000000 in
theorem Xt3 (w:World) (c:Cn) (gv rv:Value) (hok:c.Ok) (hz:c.ctl.size≤1000000):
    Calls Tryz.prog 48 #[.agg (c.cells gv rv)] w fun e w'=>e=.returned (.int .i64 ((Xvk c.p:Nat):Int))∧Below w.heap.size w w':=by
 obtain⟨zs,hzs⟩:∃zs,zs=idA zero32:=⟨_,rfl⟩
 have BZ:Hid (∀w,(Instr.build 26 #[]).run Tryz.prog w=.ok (.agg zs) w):=Hd (fun w=>by rw[hzs];kernel_rfl)
 obtain⟨T,hT⟩:∃T,T=Xvk c.p:=⟨_,rfl⟩
 rw[←hT]
 have TD:Hid (T=if c.ctl.size=0 then 0 else if sqz (bs c.ctl)=false then 3 else fe (Xd4 (bs c.ctl)) (if c.sup=zero32 then 0 else 11)):=Hd (by
  rw[hT];unfold Xvk
  show(if bs c.ctl=[] then 0 else fe (eIf (!sqz (bs c.ctl)) 3) (fe (Xd4 (bs c.ctl)) (eIf (!decide (c.sup=zero32)) 11)))=_
  by_cases h0:c.ctl.size=0
  ·rw[if_pos h0,if_pos (str_ctl.2 h0)]
  ·rw[if_neg h0,if_neg (fun h=>h0 (str_ctl.1 h))]
   cases sqz (bs c.ctl)
   ·rfl
   ·by_cases hs:c.sup=zero32
    ·rw[if_pos hs,decide_eq_true hs];rfl
    ·rw[if_neg hs,decide_eq_false hs];rfl)
 obtain⟨w0,hw0⟩:∃w0,w0=w.alloc (.cells (c.cells gv rv) 28):=⟨_,rfl⟩
 have B0:Hid (Below w.heap.size w w0):=Hd (by rw[hw0];exact(Below.refl _ _).alloc (Nat.le_refl _) _)
 have C0:CB w0 w.heap.size c gv rv 28:=by rw[hw0];exact CB.new w c gv rv _
 have cc:w0.cell? ⟨w.heap.size,53,none⟩=some (.string c.ctl):=C0.at (Xc8 hok gv rv)
 have SUP:Hid (∀wx,Below w0.heap.size w0 wx→(loadVar 26 ⟨w.heap.size,21,none⟩).run Tryz.prog wx=.ok (.agg (idA c.sup)) wx):=Hd (fun wx h=>(C0.on h).sup hok)
 have CC:Hid (∀wx,Below w0.heap.size w0 wx→wx.cell? ⟨w.heap.size,53,none⟩=some (.string c.ctl)):=Hd (fun wx h=>(C0.on h).at (Xc8 hok gv rv))
 have EQ:Hid (∀w,(Op.equal 26 (.agg (idA c.sup)) (.agg zs)).run Tryz.prog w=.ok (decide (c.sup=zero32)) w):=Hd (fun w=>by
  rw[hzs];exact Xoy Tryz.underlying26 (by kernel_rfl) (by kernel_rfl) w hok.sup.len hok.sup.lt zero_ok.len zero_ok.lt)
 obtain⟨cs,hcs⟩:∃cs,cs=c.cells gv rv:=⟨_,rfl⟩
 obtain⟨t,ht⟩:∃t,t=c.ctl:=⟨_,rfl⟩
 obtain⟨su,hsu⟩:∃su,su=idA c.sup:=⟨_,rfl⟩
 obtain⟨q,hq⟩:∃q,q=decide (c.sup=zero32):=⟨_,rfl⟩
 have TD2:Hid (T=if t.size=0 then 0 else if sqz (bs t)=false then 3 else fe (Xd4 (bs t)) (if q=true then 0 else 11)):=Hd (by
  rw[TD.out,ht,hq];simp)
 rw[←hcs] at hw0⊢
 rw[←ht] at cc CC hz
 rw[←hsu] at SUP EQ
 rw[←hq] at EQ
 have HW:=Hd hw0
 have SQ:=Hd (fun w=>Xr6 t w (by unfold maxLen;omega))
 have PP:=Hd (fun w=>Xn1 t w (by omega))
 clear hw0 hcs ht hsu hq hT TD C0 hzs hok
 go_enter Tryz.func48,Tryz.ntmps48
 go_upto_region 1 with fail
 rw[←HW.out]
 clear HW
 by_cases h0:t.size=0
 ·have F:Hid (T=0):=Hd (by rw[TD2.out,if_pos h0])
  have qe:t.toList.isEmpty=true:=by
   rw[show t=⟨#[]⟩ from ByteArray.ext (Array.eq_empty_of_size_eq_zero h0),ByteArray.toList_eq];rfl
  clear h0
  go_wp2_with fail
  go_ret
  exact⟨by rw[F.out];rfl,B0.out⟩
 have qe:t.toList.isEmpty=false:=Xdr h0
 have TD3:Hid (T=if sqz (bs t)=false then 3 else fe (Xd4 (bs t)) (if q=true then 0 else 11)):=Hd (by rw[TD2.out,if_neg h0])
 clear h0 TD2
 obtain⟨z,hz2⟩:∃z,z=sqz (bs t):=⟨_,rfl⟩
 rw[←hz2] at SQ TD3
 clear hz2
 go_wp2_with fail
 refine(SQ.out w0).mono ?_
 rintro e w1 ⟨rfl,hd1⟩
 have b1:Below w0.heap.size w0 w1:=Dr.below hd1
 have B1:=Hd b1
 have cc1:=CC.out w1 b1
 clear hd1 b1 SQ cc
 cases z
 ·have F:Hid (T=3):=Hd (by rw[TD3.out];rfl)
  go_wp2_with fail
  go_ret
  exact⟨by rw[F.out];rfl,B0.out.trans (B1.out.mono B0.out.size)⟩
 have TD4:Hid (T=fe (Xd4 (bs t)) (if q=true then 0 else 11)):=Hd (by rw[TD3.out];rfl)
 clear TD3
 go_wp2_with fail
 refine(PP.out w1).mono ?_
 rintro e w2 ⟨ds,a,rfl,hcl,hb2⟩
 obtain⟨er,her⟩:∃er,er=Xd4 (bs t):=⟨_,rfl⟩
 rw[←her] at TD4⊢
 have DCL:=Hd hcl
 have B2:=Hd (B1.out.trans (hb2.mono B1.out.size))
 have STN:Hid (∀zz:Array Value,zz.size=56→(storeVar 140 ⟨w2.heap.size,0,none⟩ (.agg ds)).run Tryz.prog (w2.alloc (.cells zz 140))=.ok () (w2.alloc (.cells ds 140))):=Hd (fun zz hz=>run_storeVar_new w2 140 zz ds (by rw[DCL.out.1];exact Xbo) (by rw[hz,DCL.out.1]) DCL.out.2)
 have B3:=Hd (B2.out.alloc B2.out.size (.cells ds 140))
 clear her hcl hb2 PP cc1 CC
 by_cases e0:er=0
 ·have q5:((er:Int) !=0)=false:=Xat (by omega)
  have TD5:Hid (T=if q=true then 0 else 11):=Hd (by rw[TD4.out,e0];rfl)
  have LD:=Hd (SUP.out _ B3.out)
  clear e0 TD4
  cases q
  ·have F:Hid (T=11):=Hd (by rw[TD5.out];rfl)
   go_wp2_with (first
    |((with_reducible refine Xab 140 rfl _ _ rfl ?_);refine⟨_,_,_,rfl,rfl,STN.out _ rfl,?_⟩)
    |((with_reducible refine Xac 26 rfl _ rfl ?_);refine⟨_,_,rfl,LD.out,?_⟩)
    |((with_reducible refine Xae 26 rfl rfl ?_);refine⟨_,BZ.out _,?_⟩)
    |((with_reducible refine Xld 26 rfl _ _ rfl Xoq ?_);refine⟨_,_,_,rfl,rfl,EQ.out _,?_⟩))
   go_ret
   exact⟨by rw[F.out];rfl,B0.out.trans (B3.out.mono B0.out.size)⟩
  ·have F:Hid (T=0):=Hd (by rw[TD5.out];rfl)
   go_wp2_with (first
    |((with_reducible refine Xab 140 rfl _ _ rfl ?_);refine⟨_,_,_,rfl,rfl,STN.out _ rfl,?_⟩)
    |((with_reducible refine Xac 26 rfl _ rfl ?_);refine⟨_,_,rfl,LD.out,?_⟩)
    |((with_reducible refine Xae 26 rfl rfl ?_);refine⟨_,BZ.out _,?_⟩)
    |((with_reducible refine Xld 26 rfl _ _ rfl Xoq ?_);refine⟨_,_,_,rfl,rfl,EQ.out _,?_⟩))
   go_ret
   exact⟨by rw[F.out];rfl,B0.out.trans (B3.out.mono B0.out.size)⟩
 ·have q5:((er:Int) !=0)=true:=Xam (by omega)
  have F:Hid (T=er):=Hd (by rw[TD4.out];unfold fe;rw[if_pos e0])
  clear e0 TD4
  go_wp2_with ((with_reducible refine Xab 140 rfl _ _ rfl ?_);refine⟨_,_,_,rfl,rfl,STN.out _ rfl,?_⟩)
  go_ret
  exact⟨by rw[F.out];rfl,B0.out.trans (B3.out.mono B0.out.size)⟩
theorem Xyi {o:Oper} {a:Act} {w:World} {x:Operand} {h:Int} (ho:o.op=.binOp .shl 3 (.const (.int .i64 1)) x 3) (hx:a.eval x=.int .i64 h) (h1:1≤h) (h8:h≤8):
    (execOp a.eval o).run Tryz.prog w=.ok (.value (.int .i64 (2^h.toNat))) w:=by
 unfold execOp
 rw[ho]
 simp only[hx]
 rcases(by omega:h=1∨h=2∨h=3∨h=4∨h=5∨h=6∨h=7∨h=8) with rfl|rfl|rfl|rfl|rfl|rfl|rfl|rfl<;>rfl
theorem Xuh {h:Int} (h1:1≤h) (h8:h≤8):Xbh h=2^h.toNat:=by
 unfold Xbh Xau
 rw[decide_eq_true h1,decide_eq_true h8];rfl
set_option maxHeartbeats 16000000 in
theorem Xh8 (w:World) (c:Cn) (gv rv:Value) (hin:CnIn w c gv rv):
    Calls Tryz.prog 18 #[.agg (c.cells gv rv)] w fun e w'=>e=.returned (.int .i64 ((Xc3 c.p:Nat):Int))∧Below w.heap.size w w':=by
 have IN:=Hd hin
 have OK:=Hd hin.ok
 obtain⟨T,hT⟩:∃T,T=Xc3 c.p:=⟨_,rfl⟩
 rw[←hT]
 obtain⟨w0,hw0⟩:∃w0,w0=w.alloc (.cells (c.cells gv rv) 28):=⟨_,rfl⟩
 have B0:Hid (Below w.heap.size w w0):=Hd (by rw[hw0];exact(Below.refl _ _).alloc (Nat.le_refl _) _)
 have C0:CB w0 w.heap.size c gv rv 28:=by rw[hw0];exact CB.new w c gv rv _
 have CBW:Hid (∀wx,Below w0.heap.size w0 wx→CB wx w.heap.size c gv rv 28):=Hd (fun wx h=>C0.on h)
 have INW:Hid (∀wx,Below w0.heap.size w0 wx→CnIn wx c gv rv):=Hd (fun wx h=>hin.on (B0.out.trans (h.mono B0.out.size)))
 obtain⟨v1,hv1⟩:∃v,v=Xfa (bs c.name) 60:=⟨_,rfl⟩
 obtain⟨d2,hd2⟩:∃v,v=(decide (c.date<0)||decide (105190559<c.date)):=⟨_,rfl⟩
 obtain⟨v3,hv3⟩:∃v,v=Xbp (c.groups.map bs):=⟨_,rfl⟩
 obtain⟨v4,hv4⟩:∃v,v=Xfa (bs c.subject) 200:=⟨_,rfl⟩
 obtain⟨v5,hv5⟩:∃v,v=Xer c.refs:=⟨_,rfl⟩
 obtain⟨v6,hv6⟩:∃v,v=Xvk c.p:=⟨_,rfl⟩
 obtain⟨v7,hv7⟩:∃v,v=Xkk (bs c.dist):=⟨_,rfl⟩
 obtain⟨v12,hv12⟩:∃v,v=Xfk (bs c.body):=⟨_,rfl⟩
 obtain⟨nu,hnu⟩:∃v,v=c.number:=⟨_,rfl⟩
 obtain⟨ht,hht⟩:∃v,v=c.height:=⟨_,rfl⟩
 obtain⟨lf,hlf⟩:∃v,v=c.leaf:=⟨_,rfl⟩
 have TD1:Hid (T=fe v1 (fe (eIf d2 13) (fe v3 (fe v4 (fe v5 (fe v6 (fe v7 (fe (eIf (decide (nu<0)||decide (1000<nu)) 2) (fe (eIf (!Xau ht) 2) (fe (eIf (decide (lf<0)||decide (Xbh ht≤lf)) 2) (fe (eIf (decide (57344<c.body.size)) 5) v12))))))))))):=Hd (by
  rw[hT,hv1,hd2,hv3,hv4,hv5,hv6,hv7,hv12,hnu,hht,hlf,←Xaa c.body];rfl)
 have K1:=Hd (fun w=>Xjk c.name 60 w (by have:=hin.name;omega) (by omega))
 have K2:=Hd (fun w=>Xts w c.date)
 have K3:=Hd (fun wx (h:CnIn wx c gv rv)=>Xpz wx gv c.groups h.srow h.gl h.gz)
 have K4:=Hd (fun w=>Xjk c.subject 200 w (by have:=hin.subject;omega) (by omega))
 have K5:=Hd (fun wx (h:CnIn wx c gv rv)=>Xn5 wx rv c.refs h.irow h.rl h.ok.refs)
 have K5b:=Hd (fun wx v (h:IRow wx v c.refs)=>Xn9 wx v c.refs h hin.rl hin.ok.refs)
 have K6:=Hd (fun w=>Xt3 w c gv rv hin.ok hin.ctl)
 have K7:=Hd (fun w=>Xwt c.dist w (by have:=hin.dist;unfold maxLen;omega))
 have K12:=Hd (fun w=>Xwv c.body w (by have:=hin.body;omega))
 have F0:Hid (∀wx,Below w0.heap.size w0 wx→wx.cell? ⟨w.heap.size,0,none⟩=some (.string c.name)):=Hd (fun wx h=>(CBW.out wx h).at (Xe6 c gv rv))
 have F17:Hid (∀wx,Below w0.heap.size w0 wx→wx.cell? ⟨w.heap.size,17,none⟩=some (.int .i64 c.date)):=Hd (fun wx h=>by have e:=(CBW.out wx h).at (Xcn OK.out gv rv);first|exact e|(rw[←hnu] at e;exact e)|(rw[←hht] at e;exact e)|(rw[←hlf] at e;exact e))
 have F18:Hid (∀wx,Below w0.heap.size w0 wx→wx.cell? ⟨w.heap.size,18,none⟩=some (gv)):=Hd (fun wx h=>by have e:=(CBW.out wx h).at (Xgv OK.out gv rv);first|exact e|(rw[←hnu] at e;exact e)|(rw[←hht] at e;exact e)|(rw[←hlf] at e;exact e))
 have F19:Hid (∀wx,Below w0.heap.size w0 wx→wx.cell? ⟨w.heap.size,19,none⟩=some (.string c.subject)):=Hd (fun wx h=>by have e:=(CBW.out wx h).at (Xct OK.out gv rv);first|exact e|(rw[←hnu] at e;exact e)|(rw[←hht] at e;exact e)|(rw[←hlf] at e;exact e))
 have F20:Hid (∀wx,Below w0.heap.size w0 wx→wx.cell? ⟨w.heap.size,20,none⟩=some (rv)):=Hd (fun wx h=>by have e:=(CBW.out wx h).at (Xhz OK.out gv rv);first|exact e|(rw[←hnu] at e;exact e)|(rw[←hht] at e;exact e)|(rw[←hlf] at e;exact e))
 have F54:Hid (∀wx,Below w0.heap.size w0 wx→wx.cell? ⟨w.heap.size,54,none⟩=some (.string c.dist)):=Hd (fun wx h=>by have e:=(CBW.out wx h).at (Xdn OK.out gv rv);first|exact e|(rw[←hnu] at e;exact e)|(rw[←hht] at e;exact e)|(rw[←hlf] at e;exact e))
 have F55:Hid (∀wx,Below w0.heap.size w0 wx→wx.cell? ⟨w.heap.size,55,none⟩=some (.int .i64 nu)):=Hd (fun wx h=>by have e:=(CBW.out wx h).at (Xdy OK.out gv rv);first|exact e|(rw[←hnu] at e;exact e)|(rw[←hht] at e;exact e)|(rw[←hlf] at e;exact e))
 have F56:Hid (∀wx,Below w0.heap.size w0 wx→wx.cell? ⟨w.heap.size,56,none⟩=some (.int .i64 ht)):=Hd (fun wx h=>by have e:=(CBW.out wx h).at (Xe3 OK.out gv rv);first|exact e|(rw[←hnu] at e;exact e)|(rw[←hht] at e;exact e)|(rw[←hlf] at e;exact e))
 have F73:Hid (∀wx,Below w0.heap.size w0 wx→wx.cell? ⟨w.heap.size,73,none⟩=some (.int .i64 lf)):=Hd (fun wx h=>by have e:=(CBW.out wx h).at (Xev OK.out gv rv);first|exact e|(rw[←hnu] at e;exact e)|(rw[←hht] at e;exact e)|(rw[←hlf] at e;exact e))
 have F74:Hid (∀wx,Below w0.heap.size w0 wx→wx.cell? ⟨w.heap.size,74,none⟩=some (.string c.body)):=Hd (fun wx h=>by have e:=(CBW.out wx h).at (Xgu OK.out gv rv);first|exact e|(rw[←hnu] at e;exact e)|(rw[←hht] at e;exact e)|(rw[←hlf] at e;exact e))
 have FA:Hid (∀wx,Below w0.heap.size w0 wx→(loadVar 28 ⟨w.heap.size,0,none⟩).run Tryz.prog wx=.ok (.agg (c.cells gv rv)) wx):=Hd (fun wx h=>(CBW.out wx h).allR OK.out)
 rw[←hv1] at K1;rw[←hd2] at K2;rw[←hv3] at K3;rw[←hv4] at K4;rw[←hv5] at K5b;rw[←hv6] at K6;rw[←hv7] at K7
 have BPD:Hid (∀w e w',Xzl (bs c.body) w e w'→∃n:Int,e=.returned (.tuple #[.int .i64 n,.int .i64 (v12:Int)])∧Below w.heap.size w w'):=Hd (fun w e w' h=>by rw[hv12];exact h)
 obtain⟨cs,hcs⟩:∃cs,cs=c.cells gv rv:=⟨_,rfl⟩
 rw[←hcs] at hw0 FA K6⊢
 obtain⟨nm,hnm⟩:∃x,x=c.name:=⟨_,rfl⟩
 obtain⟨dt,hdt⟩:∃x,x=c.date:=⟨_,rfl⟩
 obtain⟨sj,hsj⟩:∃x,x=c.subject:=⟨_,rfl⟩
 obtain⟨di,hdi⟩:∃x,x=c.dist:=⟨_,rfl⟩
 obtain⟨bo,hbo⟩:∃x,x=c.body:=⟨_,rfl⟩
 have BSZ:bo.size≤1000000:=by rw[hbo];exact hin.body
 rw[←hnm] at K1 F0;rw[←hdt] at K2 F17;rw[←hsj] at K4 F19;rw[←hdi] at K7 F54;rw[←hbo] at K12 F74 TD1 BPD
 have HW:=Hd hw0
 clear hw0 hcs hnm hdt hsj hdi hbo hnu hht hlf hv1 hd2 hv3 hv4 hv5 hv6 hv7 hv12 hT C0 hin CBW IN
 have f0:=F0.out w0 (Below.refl _ _)
 clear F0
 go_enter Tryz.func18,Tryz.ntmps18
 go_upto_region 1 with fail
 rw[←HW.out]
 clear HW
 have b0:Hid (Below w0.heap.size w0 w0):=Hd (Below.refl _ _)
 go_wp2_with fail
 refine(K1.out w0).mono ?_
 rintro e w1 ⟨rfl,hb⟩
 have b1:=Hd (b0.out.trans (hb.mono b0.out.size))
 clear hb K1 f0 b0
 by_cases e0:v1≠0
 ·have q0:((v1:Int) !=0)=true:=Xam (by omega)
  have F:Hid (T=v1):=Hd (by rw[TD1.out];unfold fe;rw[if_pos e0])
  clear TD1 e0
  go_wp2_with fail
  go_ret
  exact⟨by rw[F.out];rfl,B0.out.trans (b1.out.mono B0.out.size)⟩
 have q0:((v1:Int) !=0)=false:=Xat (by omega)
 have TD2:Hid (T=fe (eIf d2 13) (fe v3 (fe v4 (fe v5 (fe v6 (fe v7 (fe (eIf (decide (nu<0)||decide (1000<nu)) 2) (fe (eIf (!Xau ht) 2) (fe (eIf (decide (lf<0)||decide (Xbh ht≤lf)) 2) (fe (eIf (decide (57344<bo.size)) 5) v12)))))))))):=Hd (by rw[TD1.out,show v1=0 by omega];rfl)
 clear TD1 e0
 have f0:=F17.out w1 b1.out
 clear F17
 go_wp2_with fail
 refine(K2.out w1).mono ?_
 rintro e w2 ⟨rfl,rfl⟩
 clear K2 f0
 cases d2
 case true=>
  have F:Hid (T=13):=Hd (by rw[TD2.out];rfl)
  clear TD2 q0
  simp only[Bool.not_true]
  go_wp2_with fail
  go_ret
  exact⟨by rw[F.out];rfl,B0.out.trans (b1.out.mono B0.out.size)⟩
 simp only[Bool.not_false]
 have TD3:Hid (T=fe v3 (fe v4 (fe v5 (fe v6 (fe v7 (fe (eIf (decide (nu<0)||decide (1000<nu)) 2) (fe (eIf (!Xau ht) 2) (fe (eIf (decide (lf<0)||decide (Xbh ht≤lf)) 2) (fe (eIf (decide (57344<bo.size)) 5) v12))))))))):=Hd (by rw[TD2.out];rfl)
 clear TD2 q0
 have f0:=F18.out w1 b1.out
 clear F18
 go_wp2_with fail
 refine(K3.out w1 (INW.out w1 b1.out)).mono ?_
 rintro e w3 ⟨rfl,hb⟩
 have b3:=Hd (b1.out.trans (hb.mono b1.out.size))
 clear hb K3 f0 b1
 by_cases e0:v3≠0
 ·have q0:((v3:Int) !=0)=true:=Xam (by omega)
  have F:Hid (T=v3):=Hd (by rw[TD3.out];unfold fe;rw[if_pos e0])
  clear TD3 e0
  go_wp2_with fail
  go_ret
  exact⟨by rw[F.out];rfl,B0.out.trans (b3.out.mono B0.out.size)⟩
 have q0:((v3:Int) !=0)=false:=Xat (by omega)
 have TD4:Hid (T=fe v4 (fe v5 (fe v6 (fe v7 (fe (eIf (decide (nu<0)||decide (1000<nu)) 2) (fe (eIf (!Xau ht) 2) (fe (eIf (decide (lf<0)||decide (Xbh ht≤lf)) 2) (fe (eIf (decide (57344<bo.size)) 5) v12)))))))):=Hd (by rw[TD3.out,show v3=0 by omega];rfl)
 clear TD3 e0
 have f0:=F19.out w3 b3.out
 clear F19
 go_wp2_with fail
 refine(K4.out w3).mono ?_
 rintro e w4 ⟨rfl,hb⟩
 have b4:=Hd (b3.out.trans (hb.mono b3.out.size))
 clear hb K4 f0 q0 b3
 by_cases e0:v4≠0
 ·have q0:((v4:Int) !=0)=true:=Xam (by omega)
  have F:Hid (T=v4):=Hd (by rw[TD4.out];unfold fe;rw[if_pos e0])
  clear TD4 e0
  go_wp2_with fail
  go_ret
  exact⟨by rw[F.out];rfl,B0.out.trans (b4.out.mono B0.out.size)⟩
 have q0:((v4:Int) !=0)=false:=Xat (by omega)
 have TD5:Hid (T=fe v5 (fe v6 (fe v7 (fe (eIf (decide (nu<0)||decide (1000<nu)) 2) (fe (eIf (!Xau ht) 2) (fe (eIf (decide (lf<0)||decide (Xbh ht≤lf)) 2) (fe (eIf (decide (57344<bo.size)) 5) v12))))))):=Hd (by rw[TD4.out,show v4=0 by omega];rfl)
 clear TD4 e0
 have f0:=F20.out w4 b4.out
 clear F20
 go_wp2_with fail
 refine(K5.out w4 (INW.out w4 b4.out)).mono ?_
 rintro e w5 ⟨v',rfl,hir,hb⟩
 have b5:=Hd (b4.out.trans (hb.mono b4.out.size))
 have IR5:=Hd hir
 clear hb hir K5 f0 b4 q0 INW
 go_wp2_with fail
 refine(K5b.out w5 v' IR5.out).mono ?_
 rintro e w6 ⟨rfl,hb⟩
 have b6:=Hd (b5.out.trans (hb.mono b5.out.size))
 clear hb K5b IR5 b5
 by_cases e0:v5≠0
 ·have q0:((v5:Int) !=0)=true:=Xam (by omega)
  have F:Hid (T=v5):=Hd (by rw[TD5.out];unfold fe;rw[if_pos e0])
  clear TD5 e0
  go_wp2_with fail
  go_ret
  exact⟨by rw[F.out];rfl,B0.out.trans (b6.out.mono B0.out.size)⟩
 have q0:((v5:Int) !=0)=false:=Xat (by omega)
 have TD6:Hid (T=fe v6 (fe v7 (fe (eIf (decide (nu<0)||decide (1000<nu)) 2) (fe (eIf (!Xau ht) 2) (fe (eIf (decide (lf<0)||decide (Xbh ht≤lf)) 2) (fe (eIf (decide (57344<bo.size)) 5) v12)))))):=Hd (by rw[TD5.out,show v5=0 by omega];rfl)
 clear TD5 e0
 have LD:=Hd (FA.out w6 b6.out)
 clear FA
 go_wp2_with ((with_reducible refine Xac 28 rfl _ rfl ?_);refine⟨_,_,rfl,LD.out,?_⟩)
 refine(K6.out w6).mono ?_
 rintro e w7 ⟨rfl,hb⟩
 have b7:=Hd (b6.out.trans (hb.mono b6.out.size))
 clear hb K6 LD q0 b6
 by_cases e0:v6≠0
 ·have q0:((v6:Int) !=0)=true:=Xam (by omega)
  have F:Hid (T=v6):=Hd (by rw[TD6.out];unfold fe;rw[if_pos e0])
  clear TD6 e0
  go_wp2_with fail
  go_ret
  exact⟨by rw[F.out];rfl,B0.out.trans (b7.out.mono B0.out.size)⟩
 have q0:((v6:Int) !=0)=false:=Xat (by omega)
 have TD7:Hid (T=fe v7 (fe (eIf (decide (nu<0)||decide (1000<nu)) 2) (fe (eIf (!Xau ht) 2) (fe (eIf (decide (lf<0)||decide (Xbh ht≤lf)) 2) (fe (eIf (decide (57344<bo.size)) 5) v12))))):=Hd (by rw[TD6.out,show v6=0 by omega];rfl)
 clear TD6 e0
 have f0:=F54.out w7 b7.out
 clear F54
 go_wp2_with fail
 refine(K7.out w7).mono ?_
 rintro e w8 ⟨rfl,hb⟩
 have b8:=Hd (b7.out.trans ((Dr.below hb:Below w7.heap.size w7 w8).mono b7.out.size))
 clear hb K7 f0 q0 b7
 by_cases e0:v7≠0
 ·have q0:((v7:Int) !=0)=true:=Xam (by omega)
  have F:Hid (T=v7):=Hd (by rw[TD7.out];unfold fe;rw[if_pos e0])
  clear TD7 e0
  go_wp2_with fail
  go_ret
  exact⟨by rw[F.out];rfl,B0.out.trans (b8.out.mono B0.out.size)⟩
 have q0:((v7:Int) !=0)=false:=Xat (by omega)
 have TD8:Hid (T=fe (eIf (decide (nu<0)||decide (1000<nu)) 2) (fe (eIf (!Xau ht) 2) (fe (eIf (decide (lf<0)||decide (Xbh ht≤lf)) 2) (fe (eIf (decide (57344<bo.size)) 5) v12)))):=Hd (by rw[TD7.out,show v7=0 by omega];rfl)
 clear TD7 e0
 have g55:=F55.out w8 b8.out
 have g56:=F56.out w8 b8.out
 have g73:=F73.out w8 b8.out
 have f0:=F74.out w8 b8.out
 clear F55 F56 F73
 by_cases h1:nu<0
 ·have p1:decide (nu<0)=true:=decide_eq_true h1
  have F:Hid (T=2):=Hd (by rw[TD8.out,p1];rfl)
  clear TD8
  go_upto_region 21 with fail
  have HS:(fun wx:World=>wx.cell? ⟨w.heap.size,55,none⟩=some (.int .i64 nu)∧wx.cell? ⟨w.heap.size,56,none⟩=some (.int .i64 ht)∧wx.cell? ⟨w.heap.size,73,none⟩=some (.int .i64 lf)) w8.drew:=⟨g55,g56,g73⟩
  refine wp_region_held (S:=fun wx:World=>wx.cell? ⟨w.heap.size,55,none⟩=some (.int .i64 nu)∧wx.cell? ⟨w.heap.size,56,none⟩=some (.int .i64 ht)∧wx.cell? ⟨w.heap.size,73,none⟩=some (.int .i64 lf)) (by kernel_rfl) ?_
  change wpAnyH _ _ _ _ _ _ _ _ w8.drew
  obtain⟨wd,hwd⟩:∃wd,wd=w8.drew:=⟨_,rfl⟩
  have b9:Hid (Below w0.heap.size w0 wd):=Hd (by rw[hwd];exact b8.out.drew)
  have f0:wd.cell? ⟨w.heap.size,74,none⟩=some (.string bo):=F74.out wd b9.out
  rw[←hwd] at HS⊢
  clear hwd g55 g56 g73
  refine Xad 0 (.pointer (some ⟨w.heap.size,55,none⟩)) rfl (fun _ _=>by go_simp) HS ?_
  refine Xad 1 (.int .i64 nu) rfl (fun w' hw'=>by obtain⟨c1,c2,c3⟩:=hw';go_simp) HS ?_
  refine Xad 2 (.bool true) rfl (fun _ _=>by go_simp) HS ?_
  refine Xad 3 (.bool true) rfl (fun _ _=>by go_simp) HS ?_
  refine Xar 4 rfl HS ?_
  refine Xar 5 rfl HS ?_
  refine Xar 6 rfl HS ?_
  refine Xad 7 (.bool true) rfl (fun _ _=>by go_simp) HS ?_
  refine Xad 8 (.bool true) rfl (fun _ _=>by go_simp) HS ?_
  refine Xar 9 rfl HS ?_
  refine Xar 10 rfl HS ?_
  refine Xar 11 rfl HS ?_
  refine Xad 12 (.bool true) rfl (fun _ _=>by go_simp) HS ?_
  refine Xad 13 (.bool true) rfl (fun _ _=>by go_simp) HS ?_
  refine Xar 14 rfl HS ?_
  refine Xar 15 rfl HS ?_
  refine Xar 16 rfl HS ?_
  refine Xad 17 (.bool true) rfl (fun _ _=>by go_simp) HS ?_
  refine Xad 18 (.bool true) rfl (fun _ _=>by go_simp) HS ?_
  refine Xar 19 rfl HS ?_
  refine Xar 20 rfl HS ?_
  refine Xar 21 rfl HS ?_
  refine Xad 22 (.bool true) rfl (fun _ _=>by go_simp) HS ?_
  refine Xad 23 (.bool true) rfl (fun _ _=>by go_simp) HS ?_
  refine Xar 24 rfl HS ?_
  refine Xar 25 rfl HS ?_
  refine Xar 26 rfl HS ?_
  refine Xar 27 rfl HS ?_
  refine Xar 28 rfl HS ?_
  refine Xar 29 rfl HS ?_
  refine Xad 30 (.bool true) rfl (fun _ _=>by go_simp) HS ?_
  refine wpAnyH_done (by kernel_rfl) ?_ _
  clear HS
  go_simp
  refine‹∀(a:Act) (w_1:World),_→_› _ _ ?_
  go_wp2_with fail
  go_ret
  exact⟨by rw[F.out];rfl,B0.out.trans (b9.out.mono B0.out.size)⟩
 have p1:decide (nu<0)=false:=decide_eq_false h1
 by_cases h2:1000<nu
 ·have p2:decide (1000<nu)=true:=decide_eq_true h2
  have F:Hid (T=2):=Hd (by rw[TD8.out,p1,p2];rfl)
  clear TD8
  go_upto_region 21 with fail
  have HS:(fun wx:World=>wx.cell? ⟨w.heap.size,55,none⟩=some (.int .i64 nu)∧wx.cell? ⟨w.heap.size,56,none⟩=some (.int .i64 ht)∧wx.cell? ⟨w.heap.size,73,none⟩=some (.int .i64 lf)) w8.drew:=⟨g55,g56,g73⟩
  refine wp_region_held (S:=fun wx:World=>wx.cell? ⟨w.heap.size,55,none⟩=some (.int .i64 nu)∧wx.cell? ⟨w.heap.size,56,none⟩=some (.int .i64 ht)∧wx.cell? ⟨w.heap.size,73,none⟩=some (.int .i64 lf)) (by kernel_rfl) ?_
  change wpAnyH _ _ _ _ _ _ _ _ w8.drew
  obtain⟨wd,hwd⟩:∃wd,wd=w8.drew:=⟨_,rfl⟩
  have b9:Hid (Below w0.heap.size w0 wd):=Hd (by rw[hwd];exact b8.out.drew)
  have f0:wd.cell? ⟨w.heap.size,74,none⟩=some (.string bo):=F74.out wd b9.out
  rw[←hwd] at HS⊢
  clear hwd g55 g56 g73
  refine Xad 0 (.pointer (some ⟨w.heap.size,55,none⟩)) rfl (fun _ _=>by go_simp) HS ?_
  refine Xad 1 (.int .i64 nu) rfl (fun w' hw'=>by obtain⟨c1,c2,c3⟩:=hw';go_simp) HS ?_
  refine Xad 2 (.bool false) rfl (fun _ _=>by go_simp) HS ?_
  refine Xad 3 (.bool false) rfl (fun _ _=>by go_simp) HS ?_
  refine Xad 4 (.pointer (some ⟨w.heap.size,55,none⟩)) rfl (fun _ _=>by go_simp) HS ?_
  refine Xad 5 (.int .i64 nu) rfl (fun w' hw'=>by obtain⟨c1,c2,c3⟩:=hw';go_simp) HS ?_
  refine Xad 6 (.bool true) rfl (fun _ _=>by go_simp) HS ?_
  refine Xad 7 (.bool true) rfl (fun _ _=>by go_simp) HS ?_
  refine Xad 8 (.bool true) rfl (fun _ _=>by go_simp) HS ?_
  refine Xar 9 rfl HS ?_
  refine Xar 10 rfl HS ?_
  refine Xar 11 rfl HS ?_
  refine Xad 12 (.bool true) rfl (fun _ _=>by go_simp) HS ?_
  refine Xad 13 (.bool true) rfl (fun _ _=>by go_simp) HS ?_
  refine Xar 14 rfl HS ?_
  refine Xar 15 rfl HS ?_
  refine Xar 16 rfl HS ?_
  refine Xad 17 (.bool true) rfl (fun _ _=>by go_simp) HS ?_
  refine Xad 18 (.bool true) rfl (fun _ _=>by go_simp) HS ?_
  refine Xar 19 rfl HS ?_
  refine Xar 20 rfl HS ?_
  refine Xar 21 rfl HS ?_
  refine Xad 22 (.bool true) rfl (fun _ _=>by go_simp) HS ?_
  refine Xad 23 (.bool true) rfl (fun _ _=>by go_simp) HS ?_
  refine Xar 24 rfl HS ?_
  refine Xar 25 rfl HS ?_
  refine Xar 26 rfl HS ?_
  refine Xar 27 rfl HS ?_
  refine Xar 28 rfl HS ?_
  refine Xar 29 rfl HS ?_
  refine Xad 30 (.bool true) rfl (fun _ _=>by go_simp) HS ?_
  refine wpAnyH_done (by kernel_rfl) ?_ _
  clear HS
  go_simp
  refine‹∀(a:Act) (w_1:World),_→_› _ _ ?_
  go_wp2_with fail
  go_ret
  exact⟨by rw[F.out];rfl,B0.out.trans (b9.out.mono B0.out.size)⟩
 have p2:decide (1000<nu)=false:=decide_eq_false h2
 by_cases h3:ht<1
 ·have p3:decide (ht<1)=true:=decide_eq_true h3
  have F:Hid (T=2):=Hd (by rw[TD8.out,p1,p2,show Xau ht=false by unfold Xau;rw[decide_eq_false (show¬(1≤ht) by omega)];rfl];rfl)
  clear TD8
  go_upto_region 21 with fail
  have HS:(fun wx:World=>wx.cell? ⟨w.heap.size,55,none⟩=some (.int .i64 nu)∧wx.cell? ⟨w.heap.size,56,none⟩=some (.int .i64 ht)∧wx.cell? ⟨w.heap.size,73,none⟩=some (.int .i64 lf)) w8.drew:=⟨g55,g56,g73⟩
  refine wp_region_held (S:=fun wx:World=>wx.cell? ⟨w.heap.size,55,none⟩=some (.int .i64 nu)∧wx.cell? ⟨w.heap.size,56,none⟩=some (.int .i64 ht)∧wx.cell? ⟨w.heap.size,73,none⟩=some (.int .i64 lf)) (by kernel_rfl) ?_
  change wpAnyH _ _ _ _ _ _ _ _ w8.drew
  obtain⟨wd,hwd⟩:∃wd,wd=w8.drew:=⟨_,rfl⟩
  have b9:Hid (Below w0.heap.size w0 wd):=Hd (by rw[hwd];exact b8.out.drew)
  have f0:wd.cell? ⟨w.heap.size,74,none⟩=some (.string bo):=F74.out wd b9.out
  rw[←hwd] at HS⊢
  clear hwd g55 g56 g73
  refine Xad 0 (.pointer (some ⟨w.heap.size,55,none⟩)) rfl (fun _ _=>by go_simp) HS ?_
  refine Xad 1 (.int .i64 nu) rfl (fun w' hw'=>by obtain⟨c1,c2,c3⟩:=hw';go_simp) HS ?_
  refine Xad 2 (.bool false) rfl (fun _ _=>by go_simp) HS ?_
  refine Xad 3 (.bool false) rfl (fun _ _=>by go_simp) HS ?_
  refine Xad 4 (.pointer (some ⟨w.heap.size,55,none⟩)) rfl (fun _ _=>by go_simp) HS ?_
  refine Xad 5 (.int .i64 nu) rfl (fun w' hw'=>by obtain⟨c1,c2,c3⟩:=hw';go_simp) HS ?_
  refine Xad 6 (.bool false) rfl (fun _ _=>by go_simp) HS ?_
  refine Xad 7 (.bool false) rfl (fun _ _=>by go_simp) HS ?_
  refine Xad 8 (.bool false) rfl (fun _ _=>by go_simp) HS ?_
  refine Xad 9 (.pointer (some ⟨w.heap.size,56,none⟩)) rfl (fun _ _=>by go_simp) HS ?_
  refine Xad 10 (.int .i64 ht) rfl (fun w' hw'=>by obtain⟨c1,c2,c3⟩:=hw';go_simp) HS ?_
  refine Xad 11 (.bool true) rfl (fun _ _=>by go_simp) HS ?_
  refine Xad 12 (.bool true) rfl (fun _ _=>by go_simp) HS ?_
  refine Xad 13 (.bool true) rfl (fun _ _=>by go_simp) HS ?_
  refine Xar 14 rfl HS ?_
  refine Xar 15 rfl HS ?_
  refine Xar 16 rfl HS ?_
  refine Xad 17 (.bool true) rfl (fun _ _=>by go_simp) HS ?_
  refine Xad 18 (.bool true) rfl (fun _ _=>by go_simp) HS ?_
  refine Xar 19 rfl HS ?_
  refine Xar 20 rfl HS ?_
  refine Xar 21 rfl HS ?_
  refine Xad 22 (.bool true) rfl (fun _ _=>by go_simp) HS ?_
  refine Xad 23 (.bool true) rfl (fun _ _=>by go_simp) HS ?_
  refine Xar 24 rfl HS ?_
  refine Xar 25 rfl HS ?_
  refine Xar 26 rfl HS ?_
  refine Xar 27 rfl HS ?_
  refine Xar 28 rfl HS ?_
  refine Xar 29 rfl HS ?_
  refine Xad 30 (.bool true) rfl (fun _ _=>by go_simp) HS ?_
  refine wpAnyH_done (by kernel_rfl) ?_ _
  clear HS
  go_simp
  refine‹∀(a:Act) (w_1:World),_→_› _ _ ?_
  go_wp2_with fail
  go_ret
  exact⟨by rw[F.out];rfl,B0.out.trans (b9.out.mono B0.out.size)⟩
 have p3:decide (ht<1)=false:=decide_eq_false h3
 by_cases h4:8<ht
 ·have p4:decide (8<ht)=true:=decide_eq_true h4
  have F:Hid (T=2):=Hd (by rw[TD8.out,p1,p2,show Xau ht=false by unfold Xau;rw[decide_eq_true (show 1≤ht by omega),decide_eq_false (show¬(ht≤8) by omega)];rfl];rfl)
  clear TD8
  go_upto_region 21 with fail
  have HS:(fun wx:World=>wx.cell? ⟨w.heap.size,55,none⟩=some (.int .i64 nu)∧wx.cell? ⟨w.heap.size,56,none⟩=some (.int .i64 ht)∧wx.cell? ⟨w.heap.size,73,none⟩=some (.int .i64 lf)) w8.drew:=⟨g55,g56,g73⟩
  refine wp_region_held (S:=fun wx:World=>wx.cell? ⟨w.heap.size,55,none⟩=some (.int .i64 nu)∧wx.cell? ⟨w.heap.size,56,none⟩=some (.int .i64 ht)∧wx.cell? ⟨w.heap.size,73,none⟩=some (.int .i64 lf)) (by kernel_rfl) ?_
  change wpAnyH _ _ _ _ _ _ _ _ w8.drew
  obtain⟨wd,hwd⟩:∃wd,wd=w8.drew:=⟨_,rfl⟩
  have b9:Hid (Below w0.heap.size w0 wd):=Hd (by rw[hwd];exact b8.out.drew)
  have f0:wd.cell? ⟨w.heap.size,74,none⟩=some (.string bo):=F74.out wd b9.out
  rw[←hwd] at HS⊢
  clear hwd g55 g56 g73
  refine Xad 0 (.pointer (some ⟨w.heap.size,55,none⟩)) rfl (fun _ _=>by go_simp) HS ?_
  refine Xad 1 (.int .i64 nu) rfl (fun w' hw'=>by obtain⟨c1,c2,c3⟩:=hw';go_simp) HS ?_
  refine Xad 2 (.bool false) rfl (fun _ _=>by go_simp) HS ?_
  refine Xad 3 (.bool false) rfl (fun _ _=>by go_simp) HS ?_
  refine Xad 4 (.pointer (some ⟨w.heap.size,55,none⟩)) rfl (fun _ _=>by go_simp) HS ?_
  refine Xad 5 (.int .i64 nu) rfl (fun w' hw'=>by obtain⟨c1,c2,c3⟩:=hw';go_simp) HS ?_
  refine Xad 6 (.bool false) rfl (fun _ _=>by go_simp) HS ?_
  refine Xad 7 (.bool false) rfl (fun _ _=>by go_simp) HS ?_
  refine Xad 8 (.bool false) rfl (fun _ _=>by go_simp) HS ?_
  refine Xad 9 (.pointer (some ⟨w.heap.size,56,none⟩)) rfl (fun _ _=>by go_simp) HS ?_
  refine Xad 10 (.int .i64 ht) rfl (fun w' hw'=>by obtain⟨c1,c2,c3⟩:=hw';go_simp) HS ?_
  refine Xad 11 (.bool false) rfl (fun _ _=>by go_simp) HS ?_
  refine Xad 12 (.bool false) rfl (fun _ _=>by go_simp) HS ?_
  refine Xad 13 (.bool false) rfl (fun _ _=>by go_simp) HS ?_
  refine Xad 14 (.pointer (some ⟨w.heap.size,56,none⟩)) rfl (fun _ _=>by go_simp) HS ?_
  refine Xad 15 (.int .i64 ht) rfl (fun w' hw'=>by obtain⟨c1,c2,c3⟩:=hw';go_simp) HS ?_
  refine Xad 16 (.bool true) rfl (fun _ _=>by go_simp) HS ?_
  refine Xad 17 (.bool true) rfl (fun _ _=>by go_simp) HS ?_
  refine Xad 18 (.bool true) rfl (fun _ _=>by go_simp) HS ?_
  refine Xar 19 rfl HS ?_
  refine Xar 20 rfl HS ?_
  refine Xar 21 rfl HS ?_
  refine Xad 22 (.bool true) rfl (fun _ _=>by go_simp) HS ?_
  refine Xad 23 (.bool true) rfl (fun _ _=>by go_simp) HS ?_
  refine Xar 24 rfl HS ?_
  refine Xar 25 rfl HS ?_
  refine Xar 26 rfl HS ?_
  refine Xar 27 rfl HS ?_
  refine Xar 28 rfl HS ?_
  refine Xar 29 rfl HS ?_
  refine Xad 30 (.bool true) rfl (fun _ _=>by go_simp) HS ?_
  refine wpAnyH_done (by kernel_rfl) ?_ _
  clear HS
  go_simp
  refine‹∀(a:Act) (w_1:World),_→_› _ _ ?_
  go_wp2_with fail
  go_ret
  exact⟨by rw[F.out];rfl,B0.out.trans (b9.out.mono B0.out.size)⟩
 have p4:decide (8<ht)=false:=decide_eq_false h4
 have TD9:Hid (T=fe (eIf (decide (lf<0)||decide ((2:Int)^ht.toNat≤lf)) 2) (fe (eIf (decide (57344<bo.size)) 5) v12)):=Hd (by
  rw[TD8.out,p1,p2,show Xau ht=true by unfold Xau;rw[decide_eq_true (show 1≤ht by omega),decide_eq_true (show ht≤8 by omega)];rfl,Xuh (show 1≤ht by omega) (show ht≤8 by omega)];rfl)
 clear TD8
 have TD8:=TD9
 clear TD9
 by_cases h5:lf<0
 ·have p5:decide (lf<0)=true:=decide_eq_true h5
  have F:Hid (T=2):=Hd (by rw[TD8.out,p5];rfl)
  clear TD8
  go_upto_region 21 with fail
  have HS:(fun wx:World=>wx.cell? ⟨w.heap.size,55,none⟩=some (.int .i64 nu)∧wx.cell? ⟨w.heap.size,56,none⟩=some (.int .i64 ht)∧wx.cell? ⟨w.heap.size,73,none⟩=some (.int .i64 lf)) w8.drew:=⟨g55,g56,g73⟩
  refine wp_region_held (S:=fun wx:World=>wx.cell? ⟨w.heap.size,55,none⟩=some (.int .i64 nu)∧wx.cell? ⟨w.heap.size,56,none⟩=some (.int .i64 ht)∧wx.cell? ⟨w.heap.size,73,none⟩=some (.int .i64 lf)) (by kernel_rfl) ?_
  change wpAnyH _ _ _ _ _ _ _ _ w8.drew
  obtain⟨wd,hwd⟩:∃wd,wd=w8.drew:=⟨_,rfl⟩
  have b9:Hid (Below w0.heap.size w0 wd):=Hd (by rw[hwd];exact b8.out.drew)
  have f0:wd.cell? ⟨w.heap.size,74,none⟩=some (.string bo):=F74.out wd b9.out
  rw[←hwd] at HS⊢
  clear hwd g55 g56 g73
  refine Xad 0 (.pointer (some ⟨w.heap.size,55,none⟩)) rfl (fun _ _=>by go_simp) HS ?_
  refine Xad 1 (.int .i64 nu) rfl (fun w' hw'=>by obtain⟨c1,c2,c3⟩:=hw';go_simp) HS ?_
  refine Xad 2 (.bool false) rfl (fun _ _=>by go_simp) HS ?_
  refine Xad 3 (.bool false) rfl (fun _ _=>by go_simp) HS ?_
  refine Xad 4 (.pointer (some ⟨w.heap.size,55,none⟩)) rfl (fun _ _=>by go_simp) HS ?_
  refine Xad 5 (.int .i64 nu) rfl (fun w' hw'=>by obtain⟨c1,c2,c3⟩:=hw';go_simp) HS ?_
  refine Xad 6 (.bool false) rfl (fun _ _=>by go_simp) HS ?_
  refine Xad 7 (.bool false) rfl (fun _ _=>by go_simp) HS ?_
  refine Xad 8 (.bool false) rfl (fun _ _=>by go_simp) HS ?_
  refine Xad 9 (.pointer (some ⟨w.heap.size,56,none⟩)) rfl (fun _ _=>by go_simp) HS ?_
  refine Xad 10 (.int .i64 ht) rfl (fun w' hw'=>by obtain⟨c1,c2,c3⟩:=hw';go_simp) HS ?_
  refine Xad 11 (.bool false) rfl (fun _ _=>by go_simp) HS ?_
  refine Xad 12 (.bool false) rfl (fun _ _=>by go_simp) HS ?_
  refine Xad 13 (.bool false) rfl (fun _ _=>by go_simp) HS ?_
  refine Xad 14 (.pointer (some ⟨w.heap.size,56,none⟩)) rfl (fun _ _=>by go_simp) HS ?_
  refine Xad 15 (.int .i64 ht) rfl (fun w' hw'=>by obtain⟨c1,c2,c3⟩:=hw';go_simp) HS ?_
  refine Xad 16 (.bool false) rfl (fun _ _=>by go_simp) HS ?_
  refine Xad 17 (.bool false) rfl (fun _ _=>by go_simp) HS ?_
  refine Xad 18 (.bool false) rfl (fun _ _=>by go_simp) HS ?_
  refine Xad 19 (.pointer (some ⟨w.heap.size,73,none⟩)) rfl (fun _ _=>by go_simp) HS ?_
  refine Xad 20 (.int .i64 lf) rfl (fun w' hw'=>by obtain⟨c1,c2,c3⟩:=hw';go_simp) HS ?_
  refine Xad 21 (.bool true) rfl (fun _ _=>by go_simp) HS ?_
  refine Xad 22 (.bool true) rfl (fun _ _=>by go_simp) HS ?_
  refine Xad 23 (.bool true) rfl (fun _ _=>by go_simp) HS ?_
  refine Xar 24 rfl HS ?_
  refine Xar 25 rfl HS ?_
  refine Xar 26 rfl HS ?_
  refine Xar 27 rfl HS ?_
  refine Xar 28 rfl HS ?_
  refine Xar 29 rfl HS ?_
  refine Xad 30 (.bool true) rfl (fun _ _=>by go_simp) HS ?_
  refine wpAnyH_done (by kernel_rfl) ?_ _
  clear HS
  go_simp
  refine‹∀(a:Act) (w_1:World),_→_› _ _ ?_
  go_wp2_with fail
  go_ret
  exact⟨by rw[F.out];rfl,B0.out.trans (b9.out.mono B0.out.size)⟩
 have p5:decide (lf<0)=false:=decide_eq_false h5
 obtain⟨N,hN⟩:∃N:Int,N=2^ht.toNat:=⟨_,rfl⟩
 have SH:Hid (∀(o:Oper) (a:Act) (w:World) (x:Operand),o.op=.binOp .shl 3 (.const (.int .i64 1)) x 3→a.eval x=.int .i64 ht→(execOp a.eval o).run Tryz.prog w=.ok (.value (.int .i64 N)) w):=Hd (fun o a w x ho hx=>by rw[hN];exact Xyi ho hx (by omega) (by omega))
 rw[←hN] at TD8
 clear hN
 by_cases h6:N≤lf
 ·have p6:decide (N≤lf)=true:=decide_eq_true h6
  have F:Hid (T=2):=Hd (by rw[TD8.out,p5,p6];rfl)
  clear TD8
  go_upto_region 21 with fail
  have HS:(fun wx:World=>wx.cell? ⟨w.heap.size,55,none⟩=some (.int .i64 nu)∧wx.cell? ⟨w.heap.size,56,none⟩=some (.int .i64 ht)∧wx.cell? ⟨w.heap.size,73,none⟩=some (.int .i64 lf)) w8.drew:=⟨g55,g56,g73⟩
  refine wp_region_held (S:=fun wx:World=>wx.cell? ⟨w.heap.size,55,none⟩=some (.int .i64 nu)∧wx.cell? ⟨w.heap.size,56,none⟩=some (.int .i64 ht)∧wx.cell? ⟨w.heap.size,73,none⟩=some (.int .i64 lf)) (by kernel_rfl) ?_
  change wpAnyH _ _ _ _ _ _ _ _ w8.drew
  obtain⟨wd,hwd⟩:∃wd,wd=w8.drew:=⟨_,rfl⟩
  have b9:Hid (Below w0.heap.size w0 wd):=Hd (by rw[hwd];exact b8.out.drew)
  have f0:wd.cell? ⟨w.heap.size,74,none⟩=some (.string bo):=F74.out wd b9.out
  rw[←hwd] at HS⊢
  clear hwd g55 g56 g73
  refine Xad 0 (.pointer (some ⟨w.heap.size,55,none⟩)) rfl (fun _ _=>by go_simp) HS ?_
  refine Xad 1 (.int .i64 nu) rfl (fun w' hw'=>by obtain⟨c1,c2,c3⟩:=hw';go_simp) HS ?_
  refine Xad 2 (.bool false) rfl (fun _ _=>by go_simp) HS ?_
  refine Xad 3 (.bool false) rfl (fun _ _=>by go_simp) HS ?_
  refine Xad 4 (.pointer (some ⟨w.heap.size,55,none⟩)) rfl (fun _ _=>by go_simp) HS ?_
  refine Xad 5 (.int .i64 nu) rfl (fun w' hw'=>by obtain⟨c1,c2,c3⟩:=hw';go_simp) HS ?_
  refine Xad 6 (.bool false) rfl (fun _ _=>by go_simp) HS ?_
  refine Xad 7 (.bool false) rfl (fun _ _=>by go_simp) HS ?_
  refine Xad 8 (.bool false) rfl (fun _ _=>by go_simp) HS ?_
  refine Xad 9 (.pointer (some ⟨w.heap.size,56,none⟩)) rfl (fun _ _=>by go_simp) HS ?_
  refine Xad 10 (.int .i64 ht) rfl (fun w' hw'=>by obtain⟨c1,c2,c3⟩:=hw';go_simp) HS ?_
  refine Xad 11 (.bool false) rfl (fun _ _=>by go_simp) HS ?_
  refine Xad 12 (.bool false) rfl (fun _ _=>by go_simp) HS ?_
  refine Xad 13 (.bool false) rfl (fun _ _=>by go_simp) HS ?_
  refine Xad 14 (.pointer (some ⟨w.heap.size,56,none⟩)) rfl (fun _ _=>by go_simp) HS ?_
  refine Xad 15 (.int .i64 ht) rfl (fun w' hw'=>by obtain⟨c1,c2,c3⟩:=hw';go_simp) HS ?_
  refine Xad 16 (.bool false) rfl (fun _ _=>by go_simp) HS ?_
  refine Xad 17 (.bool false) rfl (fun _ _=>by go_simp) HS ?_
  refine Xad 18 (.bool false) rfl (fun _ _=>by go_simp) HS ?_
  refine Xad 19 (.pointer (some ⟨w.heap.size,73,none⟩)) rfl (fun _ _=>by go_simp) HS ?_
  refine Xad 20 (.int .i64 lf) rfl (fun w' hw'=>by obtain⟨c1,c2,c3⟩:=hw';go_simp) HS ?_
  refine Xad 21 (.bool false) rfl (fun _ _=>by go_simp) HS ?_
  refine Xad 22 (.bool false) rfl (fun _ _=>by go_simp) HS ?_
  refine Xad 23 (.bool false) rfl (fun _ _=>by go_simp) HS ?_
  refine Xad 24 (.pointer (some ⟨w.heap.size,73,none⟩)) rfl (fun _ _=>by go_simp) HS ?_
  refine Xad 25 (.int .i64 lf) rfl (fun w' hw'=>by obtain⟨c1,c2,c3⟩:=hw';go_simp) HS ?_
  refine Xad 26 (.pointer (some ⟨w.heap.size,56,none⟩)) rfl (fun _ _=>by go_simp) HS ?_
  refine Xad 27 (.int .i64 ht) rfl (fun w' hw'=>by obtain⟨c1,c2,c3⟩:=hw';go_simp) HS ?_
  refine Xad 28 (.int .i64 N) rfl (fun _ _=>SH.out _ _ _ _ rfl (by kernel_rfl)) HS ?_
  refine Xad 29 (.bool true) rfl (fun _ _=>by go_simp) HS ?_
  refine Xad 30 (.bool true) rfl (fun _ _=>by go_simp) HS ?_
  refine wpAnyH_done (by kernel_rfl) ?_ _
  clear HS
  go_simp
  refine‹∀(a:Act) (w_1:World),_→_› _ _ ?_
  go_wp2_with fail
  go_ret
  exact⟨by rw[F.out];rfl,B0.out.trans (b9.out.mono B0.out.size)⟩
 ·have p6:decide (N≤lf)=false:=decide_eq_false h6
  have TD10:Hid (T=fe (eIf (decide (57344<bo.size)) 5) v12):=Hd (by rw[TD8.out,p5,p6];rfl)
  clear TD8
  go_upto_region 21 with fail
  have HS:(fun wx:World=>wx.cell? ⟨w.heap.size,55,none⟩=some (.int .i64 nu)∧wx.cell? ⟨w.heap.size,56,none⟩=some (.int .i64 ht)∧wx.cell? ⟨w.heap.size,73,none⟩=some (.int .i64 lf)) w8.drew:=⟨g55,g56,g73⟩
  refine wp_region_held (S:=fun wx:World=>wx.cell? ⟨w.heap.size,55,none⟩=some (.int .i64 nu)∧wx.cell? ⟨w.heap.size,56,none⟩=some (.int .i64 ht)∧wx.cell? ⟨w.heap.size,73,none⟩=some (.int .i64 lf)) (by kernel_rfl) ?_
  change wpAnyH _ _ _ _ _ _ _ _ w8.drew
  obtain⟨wd,hwd⟩:∃wd,wd=w8.drew:=⟨_,rfl⟩
  have b9:Hid (Below w0.heap.size w0 wd):=Hd (by rw[hwd];exact b8.out.drew)
  have f0:wd.cell? ⟨w.heap.size,74,none⟩=some (.string bo):=F74.out wd b9.out
  rw[←hwd] at HS⊢
  clear hwd g55 g56 g73
  refine Xad 0 (.pointer (some ⟨w.heap.size,55,none⟩)) rfl (fun _ _=>by go_simp) HS ?_
  refine Xad 1 (.int .i64 nu) rfl (fun w' hw'=>by obtain⟨c1,c2,c3⟩:=hw';go_simp) HS ?_
  refine Xad 2 (.bool false) rfl (fun _ _=>by go_simp) HS ?_
  refine Xad 3 (.bool false) rfl (fun _ _=>by go_simp) HS ?_
  refine Xad 4 (.pointer (some ⟨w.heap.size,55,none⟩)) rfl (fun _ _=>by go_simp) HS ?_
  refine Xad 5 (.int .i64 nu) rfl (fun w' hw'=>by obtain⟨c1,c2,c3⟩:=hw';go_simp) HS ?_
  refine Xad 6 (.bool false) rfl (fun _ _=>by go_simp) HS ?_
  refine Xad 7 (.bool false) rfl (fun _ _=>by go_simp) HS ?_
  refine Xad 8 (.bool false) rfl (fun _ _=>by go_simp) HS ?_
  refine Xad 9 (.pointer (some ⟨w.heap.size,56,none⟩)) rfl (fun _ _=>by go_simp) HS ?_
  refine Xad 10 (.int .i64 ht) rfl (fun w' hw'=>by obtain⟨c1,c2,c3⟩:=hw';go_simp) HS ?_
  refine Xad 11 (.bool false) rfl (fun _ _=>by go_simp) HS ?_
  refine Xad 12 (.bool false) rfl (fun _ _=>by go_simp) HS ?_
  refine Xad 13 (.bool false) rfl (fun _ _=>by go_simp) HS ?_
  refine Xad 14 (.pointer (some ⟨w.heap.size,56,none⟩)) rfl (fun _ _=>by go_simp) HS ?_
  refine Xad 15 (.int .i64 ht) rfl (fun w' hw'=>by obtain⟨c1,c2,c3⟩:=hw';go_simp) HS ?_
  refine Xad 16 (.bool false) rfl (fun _ _=>by go_simp) HS ?_
  refine Xad 17 (.bool false) rfl (fun _ _=>by go_simp) HS ?_
  refine Xad 18 (.bool false) rfl (fun _ _=>by go_simp) HS ?_
  refine Xad 19 (.pointer (some ⟨w.heap.size,73,none⟩)) rfl (fun _ _=>by go_simp) HS ?_
  refine Xad 20 (.int .i64 lf) rfl (fun w' hw'=>by obtain⟨c1,c2,c3⟩:=hw';go_simp) HS ?_
  refine Xad 21 (.bool false) rfl (fun _ _=>by go_simp) HS ?_
  refine Xad 22 (.bool false) rfl (fun _ _=>by go_simp) HS ?_
  refine Xad 23 (.bool false) rfl (fun _ _=>by go_simp) HS ?_
  refine Xad 24 (.pointer (some ⟨w.heap.size,73,none⟩)) rfl (fun _ _=>by go_simp) HS ?_
  refine Xad 25 (.int .i64 lf) rfl (fun w' hw'=>by obtain⟨c1,c2,c3⟩:=hw';go_simp) HS ?_
  refine Xad 26 (.pointer (some ⟨w.heap.size,56,none⟩)) rfl (fun _ _=>by go_simp) HS ?_
  refine Xad 27 (.int .i64 ht) rfl (fun w' hw'=>by obtain⟨c1,c2,c3⟩:=hw';go_simp) HS ?_
  refine Xad 28 (.int .i64 N) rfl (fun _ _=>SH.out _ _ _ _ rfl (by kernel_rfl)) HS ?_
  refine Xad 29 (.bool false) rfl (fun _ _=>by go_simp) HS ?_
  refine Xad 30 (.bool false) rfl (fun _ _=>by go_simp) HS ?_
  refine wpAnyH_done (by kernel_rfl) ?_ _
  clear HS
  go_simp
  refine‹∀(a:Act) (w_1:World),_→_› _ _ ?_
  by_cases h7:57344<bo.size
  ·have F:Hid (T=5):=Hd (by rw[TD10.out,decide_eq_true h7];rfl)
   clear TD10
   go_wp2_with fail
   go_ret
   exact⟨by rw[F.out];rfl,B0.out.trans (b9.out.mono B0.out.size)⟩
  ·have F:Hid (T=v12):=Hd (by rw[TD10.out,decide_eq_false h7];rfl)
   clear TD10
   go_wp2_with fail
   refine(K12.out wd).mono ?_
   intro e w10 hp
   obtain⟨n,rfl,hb⟩:=BPD.out _ _ _ hp
   have b10:=Hd (b9.out.trans (hb.mono b9.out.size))
   clear hp hb K12 BPD
   go_wp2_with fail
   go_ret
   exact⟨by rw[F.out];rfl,B0.out.trans (b10.out.mono B0.out.size)⟩
end Go.Proofs.YtohmdledkhgdaaaGreatDoor
